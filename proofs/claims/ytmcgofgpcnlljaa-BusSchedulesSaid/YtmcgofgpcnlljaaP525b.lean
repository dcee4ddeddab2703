/-
BusSchedules: the reference's choice of the next message. Conditions: each lemma's own.
-/
import Derived.Test.YtmcgofgpcnlljaaP525a
namespace Go.Proofs.Ytmcgofgpcnlljaa
set_option linter.unusedVariables false
set_option linter.unusedSimpArgs false
open Go.RowKit
theorem o45_lt (a b : Msg) : o45 a b = true ↔ ltM a b := by
  unfold o45 ltM
  by_cases h1 : a.period = b.period
  · rw [neq_f h1]
    simp only [cond_false]
    by_cases h2 : a.length = b.length
    · rw [neq_f h2]
      simp only [cond_false, decide_eq_true_eq]
      omega
    · rw [neq_t h2]
      simp only [cond_true, decide_eq_true_eq]
      omega
  · rw [neq_t h1]
    simp only [cond_true, decide_eq_true_eq]
    omega
theorem next_ok (l : List Msg) (hl : l.length ≤ 49) (hd : ∀ i j, i < l.length → j < l.length → (l.getD i default).label = (l.getD j default).label → i = j) (s : (List Int) × (List Slot) × (List Bool) × Nat) (ht : s.2.2.1.length = l.length) (y : Nat) (hy : y < l.length) (hyt : s.2.2.1.getD y false = false)
    (hmin : ∀ j, j < l.length → s.2.2.1.getD j false = false → j ≠ y → ltM (l.getD y default) (l.getD j default)) : loopO fuelN (o20_L3 l s) (-1, 0) = some ((y : Nat) : Int) := by
  obtain ⟨r, h, rfl⟩ := loopO_ok (f := o20_L3 l s) (fun x => x.2 ≤ l.length ∧ ((x.1 = -1 ∧ ∀ j, j < x.2 → s.2.2.1.getD j false = true) ∨ ∃ t : Nat, x.1 = ((t : Nat) : Int) ∧ t < x.2 ∧ s.2.2.1.getD t false = false ∧ ∀ j, j < x.2 → s.2.2.1.getD j false = false → j ≠ t → ltM (l.getD t default) (l.getD j default))) (fun x => l.length - x.2) (fun r => r = ((y : Nat) : Int)) (by
    rintro ⟨t, i⟩ ⟨hi, hinv⟩
    simp only at hi hinv
    unfold o20_L3
    obtain ⟨M, hM⟩ : ∃ M : Int, M = 9223372036854775807 := ⟨_, rfl⟩
    rw [← hM]
    simp only
    by_cases hlt : i < l.length
    · rw [dt (by omega : ((i : Nat) : Int) < ((l.length : Nat) : Int))]
      simp only [cond_true]
      rw [grd_at' (by omega)]
      cases hti : (s.2.2.1.getD i false) with
      | true =>
        simp only [Bool.not_true, cond_false]
        rw [bindO_some rfl, letJ_def, grd_at' (by omega)]
        simp only [cond_false]
        refine .inl ⟨_, rfl, ⟨by simp only; omega, ?_⟩, by simp only; omega⟩
        simp only
        rcases hinv with ⟨rfl, h⟩ | ⟨u, rfl, h1, h2, h3⟩
        · refine .inl ⟨rfl, fun j hj => ?_⟩
          by_cases hji : j = i
          · subst hji; exact hti
          · exact h j (by omega)
        · refine .inr ⟨u, rfl, by omega, h2, fun j hj hjt hju => ?_⟩
          by_cases hji : j = i
          · subst hji; rw [hti] at hjt; cases hjt
          · exact h3 j (by omega) hjt hju
      | false =>
        simp only [Bool.not_false, cond_true]
        rcases hinv with ⟨rfl, h⟩ | ⟨u, rfl, h1, h2, h3⟩
        · rw [dt (by omega : (-1 : Int) < 0)]
          simp only [cond_true]
          rw [bindO_some rfl, bindO_some rfl, letJ_def, grd_at' (by omega)]
          simp only [cond_true]
          refine .inl ⟨_, rfl, ⟨by simp only; omega, .inr ⟨i, rfl, by simp only; omega, hti, fun j hj hjt hji => ?_⟩⟩, by simp only; omega⟩
          have := h j (by simp only at hj; omega)
          rw [hjt] at this; cases this
        · have e : (((u : Nat) : Int)).toNat = u := by omega
          rw [df (by omega : ¬ ((u : Nat) : Int) < 0), e]
          simp only [cond_false]
          rw [grd_at' (by omega), letJ_def, bindO_some rfl, bindO_some rfl, letJ_def, grd_at' (by omega)]
          cases hb : o45 (l.getD i default) (l.getD u default) with
          | true =>
            have hlt2 := (o45_lt _ _).1 hb
            simp only [cond_true]
            refine .inl ⟨_, rfl, ⟨by simp only; omega, .inr ⟨i, rfl, by simp only; omega, hti, fun j hj hjt hji => ?_⟩⟩, by simp only; omega⟩
            simp only at hj
            by_cases hju : j = u
            · subst hju; exact hlt2
            · have := h3 j (by omega) hjt hju
              unfold ltM at *
              omega
          | false =>
            have hnl : ¬ ltM (l.getD i default) (l.getD u default) := fun h => by rw [(o45_lt _ _).2 h] at hb; cases hb
            simp only [cond_false]
            refine .inl ⟨_, rfl, ⟨by simp only; omega, .inr ⟨u, rfl, by simp only; omega, h2, fun j hj hjt hju => ?_⟩⟩, by simp only; omega⟩
            simp only at hj
            by_cases hji : j = i
            · subst hji
              have hne : (l.getD j default).label ≠ (l.getD u default).label := fun e => hju (hd j u hlt (by omega) e)
              unfold ltM at *
              omega
            · exact h3 j (by omega) hjt hju
    · rw [df (by omega)]
      refine .inr ⟨t, rfl, ?_⟩
      rcases hinv with ⟨rfl, h⟩ | ⟨u, rfl, h1, h2, h3⟩
      · have := h y (by omega); rw [hyt] at this; cases this
      · by_cases huy : u = y
        · rw [huy]
        · have a1 := hmin u (by omega) h2 huy
          have a2 := h3 y (by omega) hyt (fun e => huy e.symm)
          unfold ltM at a1 a2
          omega) fuelN (-1, 0) ⟨Nat.zero_le _, .inl ⟨rfl, fun j hj => by simp only at hj; omega⟩⟩ (by simp only [fuelN]; omega)
  exact h
end Go.Proofs.Ytmcgofgpcnlljaa
