/-
BusSchedules: the program's schedule is the reference's. Conditions: each lemma's own.
-/
import Derived.Test.YtmcgofgpcnlljaaP525e
import Derived.Test.YtmcgofgpcnlljaaP52px5
namespace Go.Proofs.Ytmcgofgpcnlljaa
set_option linter.unusedVariables false
set_option linter.unusedSimpArgs false
open Go.RowKit
theorem sched_same (l : List Msg) (cap : Int) (ok : okL l) : ∃ r, o19 l cap = some r ∧ o20 l cap = some r ∧ r.1.length ≤ 32 := by
  unfold o19 o20
  obtain ⟨v, h1, h2, h3⟩ := chk_same l ok
  rw [h1, h2, bindO_some rfl, bindO_some rfl]
  by_cases hv : v = 0
  rotate_left
  · rw [neq_t hv]; exact ⟨_, rfl, rfl, by simp⟩
  subst hv
  obtain ⟨h32, hper⟩ := h3 rfl
  have hc : chkC l = 0 := by rw [o37_eq l h32 ok] at h1; simpa using h1
  have hd := chk_dist l hc
  rw [neq_f (rfl : (0 : Int) = 0)]
  simp only [cond_false]
  by_cases hcap : cap < 1
  · rw [dt hcap]; exact ⟨_, rfl, rfl, by simp⟩
  rw [df hcap]
  simp only [cond_false]
  obtain ⟨x, y, q1, q2, q3, q4, q5, q6, q7⟩ := order_ok l (by omega) hd
  rw [grd_at (by omega), q1, bindO_some rfl, q2, bindO_some rfl, grd_at (by omega), grd_at (by omega)]
  obtain ⟨r, r1, r2, r3, r4⟩ := main_same l cap y (by omega) hd hper q3 q4 q5 q6 q7 (List.replicate l.length default) List.length_replicate
  rw [r1, r2]
  cases r with
  | go t => exact ⟨_, rfl, rfl, by have := r3 t rfl; simp only; omega⟩
  | done v => exact ⟨_, rfl, rfl, by have := r4 v rfl; omega⟩
theorem o5_loop (y : (List Slot) × Int) (hy : y.1.length ≤ 1000000000) : loopO fuelN (o5_L0 y y) 0 = some (Ctl.go ()) := by
  obtain ⟨r, h, rfl⟩ := loopO_ok (f := o5_L0 y y) (fun s => s ≤ y.1.length) (fun s => y.1.length - s) (fun r => r = Ctl.go ()) (by
    intro s hs
    unfold o5_L0
    obtain ⟨M, hM⟩ : ∃ M : Int, M = 9223372036854775807 := ⟨_, rfl⟩
    rw [← hM]
    by_cases hlt : s < y.1.length
    · rw [dt (by omega : ((s : Nat) : Int) < ((y.1.length : Nat) : Int))]
      simp only [cond_true]
      rw [grd_at hlt, neq_f rfl]
      simp only [cond_false]
      rw [grd_at hlt, neq_f rfl, bindO_some rfl]
      simp only [cond_false]
      exact .inl ⟨s + 1, grd_at (by omega), by omega, by omega⟩
    · exact .inr ⟨_, cond_neg (df (by omega)), rfl⟩) fuelN 0 (Nat.zero_le _) (by simp only [fuelN]; omega)
  exact h
theorem busSchedules_plain (l : List Msg) (cap : Int) (ok : okL l) : o5 l cap = some true := by
  unfold o5
  obtain ⟨p, hp, hp2⟩ : ∃ p : Nat, (minI (((l).length : Nat) : Int) 34).toNat = p ∧ p ≤ 34 := ⟨_, rfl, by unfold minI; split <;> omega⟩
  rw [hp]
  have okp : okL (l.take p) := fun j hj => by
    rw [List.length_take] at hj
    rw [List.getD_eq_getElem?_getD, List.getElem?_take, if_pos (by omega), ← List.getD_eq_getElem?_getD]
    exact ok j (by omega)
  obtain ⟨r, h1, h2, h3⟩ := sched_same (l.take p) cap okp
  rw [o12_true, bindO_some rfl]
  simp only [Bool.not_true, cond_false]
  rw [h1, bindO_some rfl, o21_eq _ (by rw [List.length_take]; omega), bindO_some rfl, h2, bindO_some rfl, neq_f rfl, neq_f rfl]
  simp only [Bool.or_false, cond_false]
  rw [o5_loop r (by omega), joinO_go rfl]
theorem okL_of {l : List Msg} (h : ∀ x, x ∈ l → okMsg x) : okL l := fun j hj => by
  rw [List.getD_eq_getElem?_getD, List.getElem?_eq_getElem hj]
  have := h l[j] (List.getElem_mem hj)
  exact this.1
end Go.Proofs.Ytmcgofgpcnlljaa
