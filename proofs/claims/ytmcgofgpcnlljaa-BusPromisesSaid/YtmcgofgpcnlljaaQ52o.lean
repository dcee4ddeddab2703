/-
The order of the schedule: by period, the longer first, by label. Conditions: each lemma's own.
-/
import Derived.Test.YtmcgofgpcnlljaaQ8
import Derived.Test.YtmcgofgpcnlljaaQ1g52
namespace Go.Proofs.Ytmcgofgpcnlljaa
set_option linter.unusedVariables false
set_option linter.unusedSimpArgs false
open Go.RowKit
def ltM (a b : Msg) : Prop := a.period < b.period ∨ (a.period = b.period ∧ (a.length > b.length ∨ (a.length = b.length ∧ a.label < b.label)))
def ltI (l : List Msg) (i j : Int) : Prop := ltM (l.getD i.toNat default) (l.getD j.toNat default)
def inL (l : List Msg) (i : Int) : Prop := 0 ≤ i ∧ i < ((l.length : Nat) : Int)
theorem o41_is (x y : Int) : o41 x y = if x < y then -1 else if x > y then 1 else 0 := by
  have nan : ∀ z : Int, o54 z = false := fun z => by unfold o54; exact neq_f rfl
  unfold o41
  rw [letJ_def, letJ_def, nan, nan]
  simp only [cond_false]
  by_cases h : x < y
  · rw [dt h, if_pos h]; rfl
  · rw [df h, if_neg h]
    by_cases h2 : x > y
    · rw [dt h2, if_pos h2]; rfl
    · rw [df h2, if_neg h2]; rfl
theorem o42_is (x y : Int) : o42 x y = if x < y then -1 else if x > y then 1 else 0 := by
  have : o42 x y = o41 x y := by unfold o42 o41; rw [show o55 = o54 from rfl]
  rw [this, o41_is]
theorem o40_is (x y z : Int) : o40 [x, y, z] = some (if x ≠ 0 then x else if y ≠ 0 then y else z) := by
  unfold o40
  have hf : fuelN = ((((fuelN - 4) + 1) + 1) + 1) + 1 := by simp [fuelN]
  have s0 : o40_L0 [x, y, z] 0 = cond (x != 0) (some (Ctl.done (Ctl.done x))) (some (Ctl.go 1)) := by
    unfold o40_L0
    obtain ⟨M, hM, hb⟩ : ∃ M : Int, M = 9223372036854775807 ∧ M > 100 := ⟨_, rfl, by decide⟩
    rw [← hM, grd_at' (by omega)]; rfl
  have s1 : o40_L0 [x, y, z] 1 = cond (y != 0) (some (Ctl.done (Ctl.done y))) (some (Ctl.go 2)) := by
    unfold o40_L0
    obtain ⟨M, hM, hb⟩ : ∃ M : Int, M = 9223372036854775807 ∧ M > 100 := ⟨_, rfl, by decide⟩
    rw [← hM, grd_at' (by omega)]; rfl
  have s2 : o40_L0 [x, y, z] 2 = cond (z != 0) (some (Ctl.done (Ctl.done z))) (some (Ctl.go 3)) := by
    unfold o40_L0
    obtain ⟨M, hM, hb⟩ : ∃ M : Int, M = 9223372036854775807 ∧ M > 100 := ⟨_, rfl, by decide⟩
    rw [← hM, grd_at' (by omega)]; rfl
  have s3 : o40_L0 [x, y, z] 3 = some (Ctl.done (Ctl.go ())) := by
    unfold o40_L0
    obtain ⟨M, hM, hb⟩ : ∃ M : Int, M = 9223372036854775807 ∧ M > 100 := ⟨_, rfl, by decide⟩
    rw [← hM]; rfl
  rw [hf]
  by_cases hx : x = 0
  · rw [neq_f hx] at s0
    rw [loopO_go s0, if_neg (fun h => h hx)]
    by_cases hy : y = 0
    · rw [neq_f hy] at s1
      rw [loopO_go s1, if_neg (fun h => h hy)]
      by_cases hz : z = 0
      · rw [neq_f hz] at s2
        rw [loopO_go s2, loopO_done s3, hz]; rfl
      · rw [neq_t hz] at s2
        rw [loopO_done s2]; rfl
    · rw [neq_t hy] at s1
      rw [loopO_done s1, if_pos hy]; rfl
  · rw [neq_t hx] at s0
    rw [loopO_done s0, if_pos hx]; rfl
theorem ordM (l : List Msg) (hd : ∀ i j, i < l.length → j < l.length → (l.getD i default).label = (l.getD j default).label → i = j) : OrdC (cmpM l) (inL l) (ltI l) := by
  constructor
  · intro x y hx hy
    unfold cmpM o39
    have hx' : 0 ≤ x ∧ x < ((l.length : Nat) : Int) := hx
    have hy' : 0 ≤ y ∧ y < ((l.length : Nat) : Int) := hy
    rw [grd_at' hx', grd_at' hy', letJ_def, letJ_def, letJ_def, o40_is, o41_is, o41_is, o42_is, bindO_some rfl]
    refine ⟨_, rfl, ?_⟩
    unfold ltI ltM
    repeat' split
    all_goals omega
  · intro x hx h
    unfold ltI ltM at h
    omega
  · intro x y z hx hy hz h1 h2
    unfold ltI ltM at *
    omega
  · intro x y hx hy hne
    have : (l.getD x.toNat default).label ≠ (l.getD y.toNat default).label := fun e => hne (by have := hd x.toNat y.toNat (by have := hx.1; have := hx.2; omega) (by have := hy.1; have := hy.2; omega) e; have := hx.1; have := hy.1; omega)
    unfold ltI ltM
    omega
end Go.Proofs.Ytmcgofgpcnlljaa
