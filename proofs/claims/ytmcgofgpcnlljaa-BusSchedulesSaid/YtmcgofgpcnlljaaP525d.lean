/-
BusSchedules: the first place that fits, and the loads behind it. Conditions: each lemma's own.
-/
import Derived.Test.YtmcgofgpcnlljaaP525c
namespace Go.Proofs.Ytmcgofgpcnlljaa
set_option linter.unusedVariables false
set_option linter.unusedSimpArgs false
open Go.RowKit
theorem first_same (l : List Msg) (cap : Int) (y12 : List Int) (s24 : (List Slot) × Nat × (List Int)) (s15 : (List Int) × (List Slot) × (List Bool) × Nat) (t : Int) (h1 : s24.2.2 = s15.1) (h2 : y12.getD s24.2.1 0 = t) (hl : s15.1.length = 32) : o19_L2 l cap y12 s24 = o20_L2 l cap s15 t := by
  funext s
  unfold o19_L2 o20_L2
  rw [h2, h1, o43_eq _ _ _ _ hl]
theorem first_ok (l : List Msg) (cap : Int) (s15 : (List Int) × (List Slot) × (List Bool) × Nat) (t : Int) (hl : s15.1.length = 32) (hp : 1 ≤ (l.getD t.toNat default).period ∧ (l.getD t.toNat default).period ≤ 32) :
    ∃ u : Nat, loopO fuelN (o20_L2 l cap s15 t) 0 = some u ∧ ((u : Nat) : Int) ≤ (l.getD t.toNat default).period := by
  refine loopO_ok (f := o20_L2 l cap s15 t) (fun s => ((s : Nat) : Int) ≤ (l.getD t.toNat default).period) (fun s => 100 - s) (fun u => ((u : Nat) : Int) ≤ (l.getD t.toNat default).period) ?_ fuelN 0 (by omega) (by simp only [fuelN]; omega)
  intro s hs
  unfold o20_L2
  obtain ⟨M, hM⟩ : ∃ M : Int, M = 9223372036854775807 := ⟨_, rfl⟩
  rw [← hM]
  by_cases hlt : ((s : Nat) : Int) < (l.getD t.toNat default).period
  · obtain ⟨b, hb⟩ := o46_told s15.1 (l.getD t.toNat default) ((s : Nat) : Int) cap hl hp (by omega)
    rw [dt hlt]
    simp only [cond_true]
    rw [hb, bindO_some rfl, bindO_some rfl, grd_at' (by omega)]
    cases b with
    | true => exact .inr ⟨_, rfl, hs⟩
    | false => exact .inl ⟨_, rfl, by omega, by omega⟩
  · rw [df hlt]
    exact .inr ⟨_, rfl, hs⟩
theorem add_ok (l : List Msg) (y12 : List Int) (s24 : (List Slot) × Nat × (List Int)) (t : Int) (h2 : y12.getD s24.2.1 0 = t) (load : List Int) (o : Int) (hl : load.length = 32) (ho : 0 ≤ o ∧ o ≤ 64) (hp : 1 ≤ (l.getD t.toNat default).period ∧ (l.getD t.toNat default).period ≤ 32) :
    ∃ x, loopO fuelN (o19_L1 l y12 s24) (o, load) = some x ∧ loopO fuelN (o20_L1 l t) (load, o) = some x ∧ x.length = 32 := by
  have same : loopO fuelN (o19_L1 l y12 s24) (o, load) = loopO fuelN (o20_L1 l t) (load, o) := loop_map (fun s u => s.1 = u.2 ∧ s.2 = u.1 ∧ u.1.length = 32 ∧ 0 ≤ u.2 ∧ u.2 ≤ 64) (by
    rintro ⟨p, x⟩ ⟨x', p'⟩ ⟨e1, e2, h3, h4, h5⟩
    simp only at e1 e2 h3 h4 h5
    subst e1
    subst e2
    unfold o19_L1 o20_L1
    simp only
    rw [h2, h3]
    by_cases hlt : p < 32
    · rw [dt hlt]
      simp only [cond_true]
      rw [grd_at' (by omega), grd_at' (by omega), grd_at' (by omega), grd_at' (by omega), grd_at' (by omega)]
      refine .inr ⟨_, _, rfl, rfl, ?_⟩
      exact ⟨rfl, rfl, by simp only [List.length_set]; exact h3, by simp only; omega, by simp only; omega⟩
    · rw [df hlt]
      exact .inl ⟨_, rfl, rfl⟩) fuelN (o, load) (load, o) ⟨rfl, rfl, hl, ho⟩
  obtain ⟨x, h, hx⟩ := loopO_ok (f := o20_L1 l t) (fun s => s.1.length = 32 ∧ 0 ≤ s.2 ∧ s.2 ≤ 64) (fun s => (100 - s.2).toNat) (fun x => x.length = 32) (by
    rintro ⟨x, p⟩ ⟨h3, h4, h5⟩
    simp only at h3 h4 h5
    unfold o20_L1
    simp only
    by_cases hlt : p < 32
    · rw [dt hlt]
      simp only [cond_true]
      rw [grd_at' (by omega), grd_at' (by omega), grd_at' (by omega)]
      exact .inl ⟨_, rfl, ⟨by simp only [List.length_set]; exact h3, by simp only; omega, by simp only; omega⟩, by simp only; omega⟩
    · rw [df hlt]
      exact .inr ⟨x, rfl, h3⟩) fuelN (load, o) ⟨hl, ho⟩ (by simp only [fuelN]; omega)
  exact ⟨x, same.trans h, h, hx⟩
end Go.Proofs.Ytmcgofgpcnlljaa
