/-
Patterns broken; heap sort. Conditions: each lemma's own.
-/
import Derived.Test.YtfhchendnfpbkaaQ4
namespace Go.Proofs.Ytfhchendnfpbkaa
set_option linter.unusedVariables false
set_option linter.unusedSimpArgs false
open Go.RowKit
theorem land_le (x m : Int) (h : 0 ≤ m ∧ m ≤ 1000) : 0 ≤ landK .u64 x m ∧ landK .u64 x m ≤ m := by
  unfold landK
  rw [BitVec.toNat_and]
  have hm : (BitVec.ofInt IntKind.u64.bits m).toNat = m.toNat := by
    rw [BitVec.toNat_ofInt]
    show (m % ((2 ^ 64 : Nat) : Int)).toNat = m.toNat
    omega
  rw [hm]
  have := Nat.and_le_right (n := (BitVec.ofInt IntKind.u64.bits x).toNat) (m := m.toNat)
  generalize (BitVec.ofInt IntKind.u64.bits x).toNat &&& m.toNat = z at *
  rw [wr_u64 (by omega)]
  omega
theorem pow_small : ∀ k : _root_.Fin 50, 8 ≤ k.val → (match gPow ((k.val : Nat) : Int) with | some v => decide (1 ≤ v ∧ v ≤ 2 * ((k.val : Nat) : Int)) | none => false) = true := by decide +kernel
theorem gPow_ok (n : Int) (h : 8 ≤ n ∧ n ≤ 49) : ∃ v, gPow n = some v ∧ 1 ≤ v ∧ v ≤ 2 * n := by
  have := pow_small ⟨n.toNat, by omega⟩ (by show 8 ≤ n.toNat; omega)
  have e : ((n.toNat : Nat) : Int) = n := by omega
  simp only [e] at this
  cases hv : gPow n with
  | none => rw [hv] at this; cases this
  | some v => rw [hv] at this; exact ⟨v, rfl, of_decide_eq_true this⟩
theorem gBreak_ok (cmp : Cmp) {P : Int → Prop} {l : List Int} (g : Gd P l) (a b : Nat) (hab : a + 8 ≤ b) (hb : b ≤ l.length) :
    ∃ r, gBreak l a b cmp = some r ∧ Rr a b l r := by
  have hn := g.2.2
  unfold gBreak
  have e0 : IntKind.i64.wrap (((b : Nat) : Int) - ((a : Nat) : Int)) = ((b : Nat) : Int) - ((a : Nat) : Int) := wN (by omega)
  rw [e0, dt (by omega)]
  simp only [cond_true]
  obtain ⟨y, hy, hy1, hy2⟩ := gPow_ok (((b : Nat) : Int) - ((a : Nat) : Int)) (by omega)
  rw [hy, bindO_some rfl]
  obtain ⟨q, hq⟩ : ∃ q, (((b : Nat) : Int) - ((a : Nat) : Int)) / 4 = q := ⟨_, rfl⟩
  rw [hq, wN (z := q * 2) (by omega), wN (z := ((a : Nat) : Int) + q * 2) (by omega), wN (by omega)]
  obtain ⟨r, h1, h2⟩ := loopO_ok (f := gBreak_L0 a b y) (fun s => (((a : Nat) : Int) + q * 2 - 1 ≤ s.2.1 ∧ s.2.1 ≤ ((a : Nat) : Int) + q * 2 + 2) ∧ Rr a b l s.1) (fun s => (1000 - s.2.1).toNat) (fun r => Rr a b l r) (by
    rintro ⟨m, z, x⟩ ⟨⟨hz1, hz2⟩, hr⟩
    simp only at hz1 hz2 hr
    have hml := hr.1
    unfold gBreak_L0
    simp only
    rw [e0, hq, wN (z := q * 2) (by omega), wN (z := ((a : Nat) : Int) + q * 2) (by omega), wN (z := ((a : Nat) : Int) + q * 2 + 1) (by omega)]
    by_cases hle : z ≤ ((a : Nat) : Int) + q * 2 + 1
    · rw [dt hle, letJ_def]
      simp only [cond_true]
      have hu : IntKind.u64.wrap (y - 1) = y - 1 := wr_u64 (by omega)
      rw [hu]
      obtain ⟨w1, w2⟩ := land_le (gRnd x).2 (y - 1) (by omega)
      generalize hw : landK .u64 (gRnd x).2 (y - 1) = w at *
      rw [wN (z := w) (by omega)]
      obtain ⟨u, hu1, hu2, hu3⟩ : ∃ u, (cond (decide (w ≥ ((b : Nat) : Int) - ((a : Nat) : Int))) (grd (decide (-9223372036854775808 ≤ w - (((b : Nat) : Int) - ((a : Nat) : Int)) ∧ w - (((b : Nat) : Int) - ((a : Nat) : Int)) ≤ 9223372036854775807)) (some (w - (((b : Nat) : Int) - ((a : Nat) : Int))))) (some w)) = some u ∧ 0 ≤ u ∧ u < ((b : Nat) : Int) - ((a : Nat) : Int) := by
        by_cases hge : w ≥ ((b : Nat) : Int) - ((a : Nat) : Int)
        · rw [dt hge, grd_at' (by omega)]
          exact ⟨_, rfl, by omega, by omega⟩
        · rw [df hge]
          exact ⟨_, rfl, by omega, by omega⟩
      rw [hu1, bindO_some rfl, wN (z := ((a : Nat) : Int) + u) (by omega)]
      simp only [List.length_set]
      rw [grd_at' (by omega), grd_at' (by omega), grd_at' (by omega), grd_at' (by omega), wN (by omega)]
      exact .inl ⟨_, rfl, ⟨by simp only; omega, hr.trans (Rr.sw (i := z.toNat) (j := (((a : Nat) : Int) + u).toNat) (by omega) (by omega) (by omega))⟩, by simp only; omega⟩
    · rw [df hle]
      exact .inr ⟨m, rfl, hr⟩) fuelN (l, ((a : Nat) : Int) + q * 2 - 1, IntKind.u64.wrap (((b : Nat) : Int) - ((a : Nat) : Int))) ⟨by simp only; omega, Rr.refl _ _ _⟩ (by simp only [fuelN]; omega)
  rw [h1]
  exact ⟨r, rfl, h2⟩
end Go.Proofs.Ytfhchendnfpbkaa
