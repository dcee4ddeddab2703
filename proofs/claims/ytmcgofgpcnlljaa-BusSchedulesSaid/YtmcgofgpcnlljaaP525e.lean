/-
BusSchedules: the placing loops answer each other. Conditions: each lemma's own.
-/
import Derived.Test.YtmcgofgpcnlljaaP525d
namespace Go.Proofs.Ytmcgofgpcnlljaa
set_option linter.unusedVariables false
set_option linter.unusedSimpArgs false
open Go.RowKit
theorem getD_setB (l : List Bool) (i k : Nat) (v : Bool) : (l.set i v).getD k false = if i = k ∧ k < l.length then v else l.getD k false := by
  rw [List.getD_eq_getElem?_getD, List.getElem?_set]
  by_cases h : i = k
  · subst h
    by_cases h2 : i < l.length
    · rw [if_pos rfl, if_pos h2, if_pos ⟨rfl, h2⟩]; rfl
    · rw [if_pos rfl, if_neg h2, if_neg (fun h => h2 h.2), List.getD_eq_getElem?_getD, List.getElem?_eq_none (by omega)]
  · rw [if_neg h, if_neg (fun h' => h h'.1), ← List.getD_eq_getElem?_getD]
theorem loop_map2 {σ τ ρ : Type} {f : σ → Option (Ctl σ ρ)} {g : τ → Option (Ctl τ ρ)} (R : σ → τ → Prop) (μ : σ → Nat) (Q : ρ → Prop) (h : ∀ s t, R s t → (∃ v, f s = some (.done v) ∧ g t = some (.done v) ∧ Q v) ∨ ∃ s' t', f s = some (.go s') ∧ g t = some (.go t') ∧ R s' t' ∧ μ s' < μ s) : ∀ (N : Nat) (s : σ) (t : τ), R s t → μ s < N → ∃ r, loopO N f s = some r ∧ loopO N g t = some r ∧ Q r
  | 0, _, _, _, hN => by omega
  | N + 1, s, t, hR, hN => by
    rcases h s t hR with ⟨v, h1, h2, h5⟩ | ⟨s', t', h1, h2, h3, h4⟩
    · exact ⟨v, loopO_done h1, loopO_done h2, h5⟩
    · rw [loopO_go h1, loopO_go h2]
      exact loop_map2 R μ Q h N s' t' h3 (by omega)
theorem main_same (l : List Msg) (cap : Int) (y12 : List Int) (hl : l.length ≤ 49) (hd : ∀ i j, i < l.length → j < l.length → (l.getD i default).label = (l.getD j default).label → i = j) (hp : ∀ j, j < l.length → 1 ≤ (l.getD j default).period ∧ (l.getD j default).period ≤ 32)
    (hlen : y12.length = l.length) (hin : ∀ k, k < l.length → inL l (y12.getD k 0)) (hinj : Inj y12) (hon : ∀ i, i < l.length → ∃ k, k < l.length ∧ y12.getD k 0 = ((i : Nat) : Int)) (hs : Srt (ltI l) y12 0 l.length) (slots : List Slot) (hsl : slots.length = l.length) :
    ∃ r, loopO fuelN (o19_L0 l cap y12) (slots, 0, List.replicate 32 0) = some r ∧ loopO fuelN (o20_L0 l cap) (List.replicate 32 0, slots, List.replicate l.length false, 0) = some r ∧ (∀ t, r = Ctl.go t → t.length = l.length) ∧ ∀ v, r = Ctl.done v → v.1.length = 0 := by
  refine loop_map2 (fun (s : (List Slot) × Nat × (List Int)) (u : (List Int) × (List Slot) × (List Bool) × Nat) => s.1 = u.2.1 ∧ s.2.1 = u.2.2.2 ∧ s.2.2 = u.1 ∧ u.1.length = 32 ∧ s.1.length = l.length ∧ u.2.2.1.length = l.length ∧ s.2.1 ≤ l.length ∧ ∀ j, j < l.length → (u.2.2.1.getD j false = true ↔ ∃ q, q < s.2.1 ∧ y12.getD q 0 = ((j : Nat) : Int))) (fun (s : (List Slot) × Nat × (List Int)) => l.length - s.2.1) (fun (r : Ctl (List Slot) ((List Slot) × Int)) => (∀ t, r = Ctl.go t → t.length = l.length) ∧ ∀ v, r = Ctl.done v → v.1.length = 0) ?_ fuelN _ _ ⟨rfl, rfl, rfl, List.length_replicate, hsl, List.length_replicate, Nat.zero_le _, fun j hj => ?_⟩ (by simp only [fuelN]; omega)
  rotate_left
  · simp only
    rw [List.getD_eq_getElem?_getD, List.getElem?_replicate, if_pos hj]
    constructor
    · intro h; cases h
    · rintro ⟨q, hq, -⟩; omega
  rintro ⟨sl, k, x⟩ ⟨x', sl', tk, k'⟩ ⟨e1, e2, e3, h4, h5, h6, h7, h8⟩
  simp only at e1 e2 e3 h4 h5 h6 h7 h8
  subst e1
  subst e2
  subst e3
  unfold o19_L0 o20_L0
  obtain ⟨M, hM⟩ : ∃ M : Int, M = 9223372036854775807 := ⟨_, rfl⟩
  rw [← hM]
  simp only
  rw [hlen]
  by_cases hlt : k < l.length
  · rw [dt (by omega : ((k : Nat) : Int) < ((l.length : Nat) : Int))]
    simp only [cond_true]
    have hk := hin k hlt
    obtain ⟨y, hy⟩ : ∃ y : Nat, y12.getD k 0 = ((y : Nat) : Int) := ⟨(y12.getD k 0).toNat, by have := hk.1; omega⟩
    have hyl : y < l.length := by have := hk.2; omega
    have hnt : tk.getD y false = false := by
      cases h : tk.getD y false with
      | false => rfl
      | true =>
        obtain ⟨q, q1, q2⟩ := (h8 y hyl).1 h
        have := hinj q k (by omega) (by omega) (by rw [q2, hy])
        omega
    have hmin : ∀ j, j < l.length → tk.getD j false = false → j ≠ y → ltM (l.getD y default) (l.getD j default) := fun j hj hjt hjy => by
      obtain ⟨q, q1, q2⟩ := hon j hj
      have hq : k < q := by
        by_cases hqk : q < k
        · have := (h8 j hj).2 ⟨q, hqk, q2⟩
          rw [hjt] at this; cases this
        · by_cases e : q = k
          · subst e; rw [hy] at q2; omega
          · omega
      have := hs k q (Nat.zero_le _) hq q1
      rw [hy, q2] at this
      exact this
    have hnext := next_ok l hl hd (x, sl, tk, k) h6 y hyl hnt hmin
    have ey : (((y : Nat) : Int)).toNat = y := by omega
    have hper : 1 ≤ (l.getD (((y : Nat) : Int)).toNat default).period ∧ (l.getD (((y : Nat) : Int)).toNat default).period ≤ 32 := by rw [ey]; exact hp y hyl
    rw [hnext, bindO_some rfl, first_same l cap y12 (sl, k, x) (x, sl, tk, k) ((y : Nat) : Int) rfl hy h4, hy]
    obtain ⟨u, u1, u2⟩ := first_ok l cap (x, sl, tk, k) ((y : Nat) : Int) h4 hper
    rw [u1, bindO_some rfl, bindO_some rfl, grd_at' (by omega), grd_at' (by omega), grd_at' (by omega)]
    cases (((u : Nat) : Int) == (l.getD (((y : Nat) : Int)).toNat default).period) with
    | true => exact .inl ⟨_, rfl, rfl, ⟨fun t h => (by cases h), fun v h => (by cases h; rfl)⟩⟩
    | false =>
      simp only [cond_false]
      obtain ⟨z, z1, z2, z3⟩ := add_ok l y12 (sl, k, x) ((y : Nat) : Int) hy x ((u : Nat) : Int) h4 (by omega) hper
      rw [z1, z2, bindO_some rfl, bindO_some rfl, grd_at' (by omega), grd_at' (by omega), joinO_go rfl, joinO_go rfl, grd_at' (by omega), grd_at' (by omega)]
      refine .inr ⟨_, _, rfl, rfl, ?_, by simp only; omega⟩
      refine ⟨rfl, rfl, rfl, z3, by simp only [List.length_set]; exact h5, by simp only [List.length_set]; exact h6, by simp only; omega, fun j hj => ?_⟩
      simp only
      rw [ey, getD_setB]
      by_cases hjy : y = j
      · rw [if_pos ⟨hjy, by omega⟩]
        exact ⟨fun _ => ⟨k, by omega, by rw [hy, hjy]⟩, fun _ => rfl⟩
      · rw [if_neg (fun h => hjy h.1), h8 j hj]
        constructor
        · rintro ⟨q, q1, q2⟩; exact ⟨q, by omega, q2⟩
        · rintro ⟨q, q1, q2⟩
          by_cases hqk : q = k
          · subst hqk; rw [hy] at q2; omega
          · exact ⟨q, by omega, q2⟩
  · rw [df (by omega)]
    exact .inl ⟨_, rfl, rfl, ⟨fun t h => (by cases h; exact h5), fun v h => (by cases h)⟩⟩
end Go.Proofs.Ytmcgofgpcnlljaa
