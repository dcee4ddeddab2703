/-
BusSchedules: whether a message fits, and its first place. Conditions: each lemma's own.
-/
import Derived.Test.YtmcgofgpcnlljaaP525b
namespace Go.Proofs.Ytmcgofgpcnlljaa
set_option linter.unusedVariables false
set_option linter.unusedSimpArgs false
open Go.RowKit
theorem o43_L0_eq (load : List Int) (m : Msg) (cap : Int) (hl : load.length = 32) : o43_L0 load m cap = o46_L0 load m cap := by
  funext s
  unfold o43_L0 o46_L0
  rw [hl, show ((32 : Nat) : Int) = 32 from rfl]
theorem o43_eq (load : List Int) (m : Msg) (o cap : Int) (hl : load.length = 32) : o43 load m o cap = o46 load m o cap := by
  unfold o43 o46
  rw [o43_L0_eq load m cap hl]
theorem o46_told (load : List Int) (m : Msg) (o cap : Int) (hl : load.length = 32) (hp : 1 ≤ m.period ∧ m.period ≤ 32) (ho : 0 ≤ o ∧ o ≤ 64) : ∃ b, o46 load m o cap = some b := by
  unfold o46
  obtain ⟨r, h, -⟩ := loopO_ok (f := o46_L0 load m cap) (fun s => 0 ≤ s ∧ s ≤ 64) (fun s => (100 - s).toNat) (fun _ => True) (by
    intro s hs
    unfold o46_L0
    by_cases hlt : s < 32
    · rw [dt hlt]
      simp only [cond_true]
      rw [grd_at' (by omega), grd_at' (by omega)]
      cases (decide (IntKind.i64.wrap (load.getD s.toNat 0 + m.length) > cap)) with
      | true => exact .inr ⟨_, rfl, trivial⟩
      | false => exact .inl ⟨_, rfl, by omega, by omega⟩
    · rw [df hlt]
      exact .inr ⟨_, rfl, trivial⟩) fuelN o ho (by simp only [fuelN]; omega)
  rw [h]
  cases r with
  | go u => exact ⟨_, rfl⟩
  | done v => exact ⟨_, rfl⟩
/-- two loops that go the same way through states that answer each other -/
theorem loop_map {σ τ ρ : Type} {f : σ → Option (Ctl σ ρ)} {g : τ → Option (Ctl τ ρ)} (R : σ → τ → Prop) (h : ∀ s t, R s t → (∃ v, f s = some (.done v) ∧ g t = some (.done v)) ∨ ∃ s' t', f s = some (.go s') ∧ g t = some (.go t') ∧ R s' t') : ∀ (N : Nat) (s : σ) (t : τ), R s t → loopO N f s = loopO N g t
  | 0, _, _, _ => rfl
  | N + 1, s, t, hR => by
    rcases h s t hR with ⟨v, h1, h2⟩ | ⟨s', t', h1, h2, h3⟩
    · rw [loopO_done h1, loopO_done h2]
    · rw [loopO_go h1, loopO_go h2]
      exact loop_map R h N s' t' h3
end Go.Proofs.Ytmcgofgpcnlljaa
