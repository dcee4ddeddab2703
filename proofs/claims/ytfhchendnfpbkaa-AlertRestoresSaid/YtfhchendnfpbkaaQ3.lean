/-
Reversal, the choice of a pivot, the look whether a row is sorted, partition. Conditions: each lemma's own.
-/
import Derived.Test.YtfhchendnfpbkaaQ2
namespace Go.Proofs.Ytfhchendnfpbkaa
set_option linter.unusedVariables false
set_option linter.unusedSimpArgs false
open Go.RowKit
theorem gRev_ok (cmp : Cmp) {P : Int → Prop} {l : List Int} (g : Gd P l) (a b : Nat) (hab : a ≤ b) (hb : b ≤ l.length) :
    ∃ r, gRev l a b cmp = some r ∧ Rr a b l r := by
  have hn := g.2.2
  unfold gRev
  rw [wN (by omega)]
  obtain ⟨r, h1, h2⟩ := loopO_ok (f := gRev_L0) (fun s => (((a : Nat) : Int) ≤ s.2.1 ∧ s.2.1 ≤ 100 ∧ -100 ≤ s.2.2 ∧ s.2.2 < ((b : Nat) : Int)) ∧ Rr a b l s.1) (fun s => (s.2.2 + 200 - s.2.1).toNat) (fun r => Rr a b l r) (by
    rintro ⟨m, i, j⟩ ⟨⟨hi1, hi2, hj1, hj2⟩, hr⟩
    simp only at hi1 hi2 hj1 hj2 hr
    have hml := hr.1
    unfold gRev_L0
    simp only
    by_cases hlt : i < j
    · rw [dt hlt]
      simp only [cond_true, List.length_set]
      rw [grd_at' (by omega), grd_at' (by omega), grd_at' (by omega), grd_at' (by omega), wN (by omega), wN (by omega)]
      exact .inl ⟨_, rfl, ⟨by simp only; omega, hr.trans (Rr.sw (i := i.toNat) (j := j.toNat) (by omega) (by omega) (by omega))⟩, by simp only; omega⟩
    · rw [df hlt]
      exact .inr ⟨m, rfl, hr⟩) fuelN (l, ((a : Nat) : Int), ((b : Nat) : Int) - 1) ⟨by simp only; omega, Rr.refl _ _ _⟩ (by simp only [fuelN]; omega)
  rw [h1]
  exact ⟨r, rfl, h2⟩
theorem gMed2_ok {cmp : Cmp} {P : Int → Prop} {lt : Int → Int → Prop} (o : OrdC cmp P lt) {l : List Int} (g : Gd P l) (a b : Int) (s : Int) (ha : 0 ≤ a ∧ a < ((l.length : Nat) : Int)) (hb : 0 ≤ b ∧ b < ((l.length : Nat) : Int)) :
    ∃ s' x y, gMed2 l a b s cmp = some (s', x, y) ∧ ((x = a ∧ y = b) ∨ (x = b ∧ y = a)) := by
  unfold gMed2
  obtain ⟨v, hv, -⟩ := gCall_told o g (i := b.toNat) (j := a.toNat) (by omega) (by omega)
  rw [grd_at' hb, grd_at' ha, hv, bindO_some rfl]
  cases (decide (v < 0)) with
  | true => exact ⟨_, _, _, rfl, .inr ⟨rfl, rfl⟩⟩
  | false => exact ⟨_, _, _, rfl, .inl ⟨rfl, rfl⟩⟩
theorem gMed3_ok {cmp : Cmp} {P : Int → Prop} {lt : Int → Int → Prop} (o : OrdC cmp P lt) {l : List Int} (g : Gd P l) (a b c : Int) (s : Int) (ha : 0 ≤ a ∧ a < ((l.length : Nat) : Int)) (hb : 0 ≤ b ∧ b < ((l.length : Nat) : Int)) (hc : 0 ≤ c ∧ c < ((l.length : Nat) : Int)) :
    ∃ s' x, gMed3 l a b c s cmp = some (s', x) ∧ (x = a ∨ x = b ∨ x = c) := by
  unfold gMed3
  obtain ⟨s1, x1, y1, h1, e1⟩ := gMed2_ok o g a b s ha hb
  rw [h1, bindO_some rfl]
  simp only
  obtain ⟨s2, x2, y2, h2, e2⟩ := gMed2_ok o g y1 c s1 (by omega) hc
  rw [h2, bindO_some rfl]
  simp only
  obtain ⟨s3, x3, y3, h3, e3⟩ := gMed2_ok o g x1 x2 s2 (by omega) (by omega)
  rw [h3, bindO_some rfl]
  exact ⟨_, _, rfl, by simp only; omega⟩
theorem gPivot_ok {cmp : Cmp} {P : Int → Prop} {lt : Int → Int → Prop} (o : OrdC cmp P lt) {l : List Int} (g : Gd P l) (a b : Nat) (hab : a + 8 ≤ b) (hb : b ≤ l.length) :
    ∃ (p : Nat) (h : Int), gPivot l a b cmp = some (((p : Nat) : Int), h) ∧ a ≤ p ∧ p < b := by
  have hn := g.2.2
  have hd : Int.tdiv (((b : Nat) : Int) - ((a : Nat) : Int)) 4 = (((b : Nat) : Int) - ((a : Nat) : Int)) / 4 := Int.tdiv_eq_ediv_of_nonneg (by omega)
  unfold gPivot
  rw [wN (by omega : -9223372036854775808 ≤ ((b : Nat) : Int) - ((a : Nat) : Int) ∧ ((b : Nat) : Int) - ((a : Nat) : Int) ≤ 9223372036854775807), dt (by omega), df (by omega), hd]
  generalize hq : (((b : Nat) : Int) - ((a : Nat) : Int)) / 4 = q
  simp only [cond_true, cond_false]
  rw [wN (z := q) (by omega), wN (z := q * 1) (by omega), wN (z := q * 2) (by omega), wN (z := q * 3) (by omega), wN (by omega), wN (by omega), wN (by omega), bindO_some rfl]
  simp only
  obtain ⟨s', x, h, e⟩ := gMed3_ok o g (((a : Nat) : Int) + q * 1) (((a : Nat) : Int) + q * 2) (((a : Nat) : Int) + q * 3) 0 (by omega) (by omega) (by omega)
  rw [h, bindO_some rfl, bindO_some rfl]
  obtain ⟨p, rfl⟩ : ∃ p : Nat, x = ((p : Nat) : Int) := ⟨x.toNat, by omega⟩
  simp only
  cases (s' == 0) with
  | true => exact ⟨p, _, rfl, by omega, by omega⟩
  | false =>
    cases (s' == 12) with
    | true => exact ⟨p, _, rfl, by omega, by omega⟩
    | false => exact ⟨p, _, rfl, by omega, by omega⟩
theorem gPins_ok {cmp : Cmp} {P : Int → Prop} {lt : Int → Int → Prop} (o : OrdC cmp P lt) {l : List Int} (g : Gd P l) (a b : Nat) (hab : a < b) (hb : b ≤ l.length) :
    ∃ f, gPins l a b cmp = some (l, f) ∧ (f = true → Srt lt l a b) := by
  have hn := g.2.2
  unfold gPins
  rw [wN (by omega)]
  obtain ⟨t, h1, h2⟩ := loopO_ok (f := gPins_L3 b cmp (l, ((a : Nat) : Int) + 1, 0)) (fun s => ∃ i : Nat, s = (i : Int) ∧ (a + 1 ≤ i ∧ i ≤ b) ∧ Srt lt l a i) (fun s => b - s.toNat) (fun t => ∃ i : Nat, t = (i : Int) ∧ (a + 1 ≤ i ∧ i ≤ b) ∧ Srt lt l a i) (by
    rintro z ⟨i, rfl, ⟨hi1, hi2⟩, hs⟩
    unfold gPins_L3
    simp only
    by_cases hlt : i < b
    · obtain ⟨k, rfl⟩ : ∃ k, i = k + 1 := ⟨i - 1, by omega⟩
      have e1 : (((k + 1 : Nat) : Int)).toNat = k + 1 := by omega
      have e2 : (((k + 1 : Nat) : Int) - 1).toNat = k := by omega
      rw [dt (by omega : ((k + 1 : Nat) : Int) < ((b : Nat) : Int)), wN (by omega : -9223372036854775808 ≤ ((k + 1 : Nat) : Int) - 1 ∧ ((k + 1 : Nat) : Int) - 1 ≤ 9223372036854775807), e1, e2]
      simp only [cond_true]
      obtain ⟨v, hv, hvl⟩ := gCall_told o g (i := k + 1) (j := k) (by omega) (by omega)
      rw [grd_at' (by omega), grd_at' (by omega), hv, bindO_some rfl, bindO_some rfl]
      by_cases hl : v < 0
      · rw [dt hl]
        exact .inr ⟨_, rfl, k + 1, rfl, ⟨hi1, hi2⟩, hs⟩
      · rw [df hl, wN (by omega)]
        have h2 := not_lt o g (i := k + 1) (j := k) (by omega) (by omega) (by omega) (fun h => hl (hvl.2 h))
        refine .inl ⟨_, rfl, ⟨k + 1 + 1, by omega, by omega, fun p q p1 p2 p3 => ?_⟩, by omega⟩
        by_cases q1 : q = k + 1
        · subst q1
          by_cases p4 : p = k
          · subst p4; exact h2
          · exact o.tr _ _ _ (g.2.1 p (by omega)) (g.2.1 k (by omega)) (g.2.1 (k + 1) (by omega)) (hs p k p1 (by omega) (by omega)) h2
        · exact hs p q p1 p2 (by omega)
    · rw [df (by omega)]
      exact .inr ⟨_, rfl, i, rfl, ⟨hi1, hi2⟩, hs⟩) fuelN (((a : Nat) : Int) + 1) ⟨a + 1, by omega, by omega, fun p q p1 p2 p3 => by omega⟩ (by simp only [fuelN]; omega)
  obtain ⟨i, rfl, ⟨hi1, hi2⟩, hs⟩ := h2
  have hf : fuelN = (fuelN - 1) + 1 := by simp [fuelN]
  have step : gPins_L0 a b cmp (l, ((a : Nat) : Int) + 1, 0) = some (Ctl.done (Ctl.done (l, ((i : Nat) : Int) == ((b : Nat) : Int)))) := by
    unfold gPins_L0
    simp only
    rw [h1, bindO_some rfl, wN (by omega : -9223372036854775808 ≤ ((b : Nat) : Int) - ((a : Nat) : Int) ∧ ((b : Nat) : Int) - ((a : Nat) : Int) ≤ 9223372036854775807), dt (by omega : (((0 : Nat) : Int)) < 5), dt (by omega : ((b : Nat) : Int) - ((a : Nat) : Int) < 50)]
    simp only [cond_true]
    cases (((i : Nat) : Int) == ((b : Nat) : Int)) with
    | true => rfl
    | false => rfl
  rw [hf, loopO_done step]
  refine ⟨_, rfl, fun h => ?_⟩
  have : ((i : Nat) : Int) = ((b : Nat) : Int) := by simpa using h
  obtain rfl : i = b := by omega
  exact hs
end Go.Proofs.Ytfhchendnfpbkaa
