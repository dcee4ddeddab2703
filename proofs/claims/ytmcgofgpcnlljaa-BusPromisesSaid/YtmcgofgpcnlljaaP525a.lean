/-
BusSchedules: the program's row of indices, sorted. Conditions: each lemma's own.
-/
import Derived.Test.YtmcgofgpcnlljaaQ52o
import Derived.Test.YtmcgofgpcnlljaaK11x0
namespace Go.Proofs.Ytmcgofgpcnlljaa
set_option linter.unusedVariables false
set_option linter.unusedSimpArgs false
open Go.RowKit
theorem iota_ok (l : List Msg) (hl : l.length ≤ 49) : ∃ r, loopO fuelN (o19_L3 l) (List.replicate l.length 0, 0) = some r ∧ r.length = l.length ∧ ∀ k, k < l.length → r.getD k 0 = ((k : Nat) : Int) := by
  refine loopO_ok (f := o19_L3 l) (fun s => s.2 ≤ l.length ∧ s.1.length = l.length ∧ ∀ k, k < s.2 → s.1.getD k 0 = ((k : Nat) : Int)) (fun s => l.length - s.2) (fun r => r.length = l.length ∧ ∀ k, k < l.length → r.getD k 0 = ((k : Nat) : Int)) ?_ fuelN (List.replicate l.length 0, 0) ⟨Nat.zero_le _, List.length_replicate, fun k hk => by omega⟩ (by simp only [fuelN]; omega)
  rintro ⟨x, k⟩ ⟨hk, hx, hv⟩
  simp only at hk hx hv
  unfold o19_L3
  obtain ⟨M, hM⟩ : ∃ M : Int, M = 9223372036854775807 := ⟨_, rfl⟩
  rw [← hM]
  simp only [List.length_replicate]
  by_cases hlt : k < l.length
  · rw [dt (by omega : ((k : Nat) : Int) < ((l.length : Nat) : Int))]
    simp only [cond_true]
    rw [grd_at' (by omega), grd_at' (by omega)]
    refine .inl ⟨_, rfl, ⟨by simp only; omega, by simp only [List.length_set]; exact hx, fun j hj => ?_⟩, by simp only; omega⟩
    simp only
    rw [getD_set]
    by_cases hjk : k = j
    · rw [if_pos ⟨hjk, by omega⟩, hjk]
    · rw [if_neg (fun h => hjk h.1)]
      exact hv j (by simp only at hj; omega)
  · rw [df (by omega)]
    exact .inr ⟨x, rfl, hx, fun j hj => hv j (by omega)⟩
/-- the row of indices in the order of the schedule -/
theorem order_ok (l : List Msg) (hl : l.length ≤ 49) (hd : ∀ i j, i < l.length → j < l.length → (l.getD i default).label = (l.getD j default).label → i = j) :
    ∃ x r, loopO fuelN (o19_L3 l) (List.replicate l.length 0, 0) = some x ∧ o38f39 x l = some r ∧ r.length = l.length ∧ (∀ k, k < l.length → inL l (r.getD k 0)) ∧ Inj r ∧ (∀ i, i < l.length → ∃ k, k < l.length ∧ r.getD k 0 = ((i : Nat) : Int)) ∧ Srt (ltI l) r 0 l.length := by
  obtain ⟨x, h1, h2, h3⟩ := iota_ok l hl
  have g : Gd (inL l) x := ⟨fun p q hp hq e => by rw [h3 p (by omega), h3 q (by omega)] at e; omega, fun k hk => by rw [h3 k (by omega)]; unfold inL; omega, by omega⟩
  obtain ⟨r, r1, r2, r3⟩ := gSort_ok (ordM l hd) g
  have gr := g.go r2 (Nat.le_refl _)
  refine ⟨x, r, h1, by rw [sort_g, r1], r2.1.trans h2, fun k hk => gr.2.1 k (by have := r2.1; omega), gr.1, fun i hi => ?_, by rw [← h2]; exact r3⟩
  obtain ⟨j, j1, j2, j3⟩ := r2.2.2.2.1 i (Nat.zero_le _) (by omega)
  exact ⟨j, by omega, by rw [← j3]; exact h3 i hi⟩
end Go.Proofs.Ytmcgofgpcnlljaa
