/-
Heap sort sorts. Conditions: each lemma's own.
-/
import Derived.Test.YtfhchendnfpbkaaQ5
namespace Go.Proofs.Ytfhchendnfpbkaa
set_option linter.unusedVariables false
set_option linter.unusedSimpArgs false
open Go.RowKit
def Hp (lt : Int → Int → Prop) (l : List Int) (f lo hi : Nat) : Prop := ∀ k c, lo ≤ k → (c = 2 * k + 1 ∨ c = 2 * k + 2) → c < hi → lt (l.getD (f + c) 0) (l.getD (f + k) 0)
def Hx (lt : Int → Int → Prop) (l : List Int) (f lo hi r : Nat) : Prop := (∀ k c, lo ≤ k → k ≠ r → (c = 2 * k + 1 ∨ c = 2 * k + 2) → c < hi → lt (l.getD (f + c) 0) (l.getD (f + k) 0)) ∧ ∀ k c, lo ≤ k → (r = 2 * k + 1 ∨ r = 2 * k + 2) → (c = 2 * r + 1 ∨ c = 2 * r + 2) → c < hi → lt (l.getD (f + c) 0) (l.getD (f + k) 0)
theorem gSift_ok {cmp : Cmp} {P : Int → Prop} {lt : Int → Int → Prop} (o : OrdC cmp P lt) {l : List Int} (g : Gd P l) (f lo hi : Nat) (hb : f + hi ≤ l.length) (hlo : lo ≤ 49) (hx : Hp lt l f (lo + 1) hi) :
    ∃ r, gSift l lo hi f cmp = some r ∧ Rr f (f + hi) l r ∧ Hp lt r f lo hi := by
  have hn := g.2.2
  unfold gSift
  obtain ⟨q, h1, m, h2, h3, h4⟩ := loopO_ok (f := gSift_L0 hi f cmp) (fun s => ∃ r : Nat, s.2 = ((r : Nat) : Int) ∧ (lo ≤ r ∧ r ≤ 49) ∧ Rr f (f + hi) l s.1 ∧ Hx lt s.1 f lo hi r) (fun s => 100 - s.2.toNat) (fun q => ∃ m, (q = Ctl.go m ∨ q = Ctl.done m) ∧ Rr f (f + hi) l m ∧ Hp lt m f lo hi) (by
    rintro ⟨m, z⟩ ⟨r, hz, ⟨hr1, hr2⟩, hr, hh1, hh2⟩
    simp only at hz hr hh1 hh2
    subst hz
    have gm := g.go hr hb
    have hml := hr.1
    unfold gSift_L0
    simp only
    have e1 : IntKind.i64.wrap (2 * ((r : Nat) : Int)) = 2 * ((r : Nat) : Int) := wN (by omega)
    have e2 : IntKind.i64.wrap (2 * ((r : Nat) : Int) + 1) = ((2 * r + 1 : Nat) : Int) := by rw [wN (by omega)]; omega
    have e3 : IntKind.i64.wrap (((2 * r + 1 : Nat) : Int) + 1) = ((2 * r + 2 : Nat) : Int) := by rw [wN (by omega)]; omega
    have e4 : IntKind.i64.wrap (((f : Nat) : Int) + ((2 * r + 1 : Nat) : Int)) = ((f + (2 * r + 1) : Nat) : Int) := by rw [wN (by omega)]; omega
    rw [e1, e2, e3]
    by_cases hge : hi ≤ 2 * r + 1
    · rw [dt (by omega : ((2 * r + 1 : Nat) : Int) ≥ ((hi : Nat) : Int))]
      refine .inr ⟨_, rfl, m, .inl rfl, hr, fun k c k1 k2 k3 => ?_⟩
      by_cases hk : k = r
      · omega
      · exact hh1 k c k1 hk k2 k3
    rw [df (by omega : ¬ ((2 * r + 1 : Nat) : Int) ≥ ((hi : Nat) : Int))]
    simp only [cond_false]
    -- the greater child
    obtain ⟨t, c, ht, hc, hci, hcc, hoth⟩ : ∃ (t : Bool) (c : Nat), (cond (decide (((2 * r + 2 : Nat) : Int) < ((hi : Nat) : Int))) (grd (decide (0 ≤ (IntKind.i64.wrap (((f : Nat) : Int) + ((2 * r + 1 : Nat) : Int))) ∧ (IntKind.i64.wrap (((f : Nat) : Int) + ((2 * r + 1 : Nat) : Int))) < (((m).length : Nat) : Int))) (grd (decide (0 ≤ (IntKind.i64.wrap ((IntKind.i64.wrap (((f : Nat) : Int) + ((2 * r + 1 : Nat) : Int))) + 1)) ∧ (IntKind.i64.wrap ((IntKind.i64.wrap (((f : Nat) : Int) + ((2 * r + 1 : Nat) : Int))) + 1)) < (((m).length : Nat) : Int))) (bindO (τ := Int) (gCall ((List.getD m ((IntKind.i64.wrap (((f : Nat) : Int) + ((2 * r + 1 : Nat) : Int)))).toNat 0) : Int) ((List.getD m ((IntKind.i64.wrap ((IntKind.i64.wrap (((f : Nat) : Int) + ((2 * r + 1 : Nat) : Int))) + 1))).toNat 0) : Int) cmp) fun y49 => (some (decide (y49 < 0)))))) (some (false))) = some t ∧ (cond t ((2 * r + 2 : Nat) : Int) ((2 * r + 1 : Nat) : Int)) = ((c : Nat) : Int) ∧ c < hi ∧ (c = 2 * r + 1 ∨ c = 2 * r + 2) ∧ ∀ d, (d = 2 * r + 1 ∨ d = 2 * r + 2) → d < hi → d ≠ c → lt (m.getD (f + d) 0) (m.getD (f + c) 0) := by
      by_cases h2 : 2 * r + 2 < hi
      · have e5 : IntKind.i64.wrap (((f + (2 * r + 1) : Nat) : Int) + 1) = ((f + (2 * r + 2) : Nat) : Int) := by rw [wN (by omega)]; omega
        have t1 : (((f + (2 * r + 1) : Nat) : Int)).toNat = f + (2 * r + 1) := by omega
        have t2 : (((f + (2 * r + 2) : Nat) : Int)).toNat = f + (2 * r + 2) := by omega
        obtain ⟨v, hv, hvl⟩ := gCall_told o gm (i := f + (2 * r + 1)) (j := f + (2 * r + 2)) (by omega) (by omega)
        rw [dt (by omega), e4, e5, t1, t2]
        simp only [cond_true]
        rw [grd_at' (by omega), grd_at' (by omega), hv, bindO_some rfl]
        by_cases hl : v < 0
        · refine ⟨true, 2 * r + 2, by rw [dt hl], rfl, h2, .inr rfl, fun d d1 d2 d3 => ?_⟩
          obtain rfl : d = 2 * r + 1 := by omega
          exact hvl.1 hl
        · refine ⟨false, 2 * r + 1, by rw [df hl], rfl, by omega, .inl rfl, fun d d1 d2 d3 => ?_⟩
          obtain rfl : d = 2 * r + 2 := by omega
          exact not_lt o gm (by omega) (by omega) (by omega) (fun h => hl (hvl.2 h))
      · rw [df (by omega)]
        exact ⟨false, 2 * r + 1, rfl, rfl, by omega, .inl rfl, fun d d1 d2 d3 => by omega⟩
    rw [ht, bindO_some rfl, letJ_def, hc]
    have e6 : IntKind.i64.wrap (((f : Nat) : Int) + ((r : Nat) : Int)) = ((f + r : Nat) : Int) := by rw [wN (by omega)]; omega
    have e7 : IntKind.i64.wrap (((f : Nat) : Int) + ((c : Nat) : Int)) = ((f + c : Nat) : Int) := by rw [wN (by omega)]; omega
    have t1 : (((f + r : Nat) : Int)).toNat = f + r := by omega
    have t2 : (((f + c : Nat) : Int)).toNat = f + c := by omega
    rw [e6, e7, t1, t2]
    obtain ⟨v, hv, hvl⟩ := gCall_told o gm (i := f + r) (j := f + c) (by omega) (by omega)
    rw [grd_at' (by omega), grd_at' (by omega), hv, bindO_some rfl]
    by_cases hl : v < 0
    · rw [dt hl]
      simp only [Bool.not_true, cond_false, List.length_set]
      rw [grd_at' (by omega), grd_at' (by omega), grd_at' (by omega), grd_at' (by omega)]
      have gg := sw_get (l := m) (i := f + r) (j := f + c) (by omega) (by omega)
      have hlt := hvl.1 hl
      refine .inl ⟨_, rfl, ⟨c, rfl, by omega, hr.trans (Rr.sw (i := f + r) (j := f + c) (by omega) (by omega) (by omega)), fun k d k1 k2 k3 k4 => ?_, fun k d k1 k2 k3 k4 => ?_⟩, by simp only; omega⟩
      · show lt ((sw m (f + r) (f + c)).getD (f + d) 0) ((sw m (f + r) (f + c)).getD (f + k) 0)
        rw [gg, gg, if_neg (by omega : ¬ f + c = f + k)]
        by_cases hk : r = k
        · subst hk
          rw [if_pos rfl]
          by_cases hd : c = d
          · rw [if_pos (by omega)]; exact hlt
          · rw [if_neg (by omega), if_neg (by omega)]
            exact hoth d k3 k4 (by omega)
        · rw [if_neg (by omega : ¬ f + r = f + k), if_neg (by omega : ¬ f + c = f + d)]
          by_cases hd : r = d
          · subst hd
            rw [if_pos rfl]
            exact hh2 k c k1 k3 hcc hci
          · rw [if_neg (by omega)]
            exact hh1 k d k1 (by omega) k3 k4
      · show lt ((sw m (f + r) (f + c)).getD (f + d) 0) ((sw m (f + r) (f + c)).getD (f + k) 0)
        obtain rfl : k = r := by omega
        rw [gg, gg, if_neg (by omega : ¬ f + c = f + d), if_neg (by omega : ¬ f + k = f + d), if_neg (by omega : ¬ f + c = f + k), if_pos rfl]
        exact hh1 c d (by omega) (by omega) k3 k4
    · rw [df hl]
      have hgt := not_lt o gm (i := f + r) (j := f + c) (by omega) (by omega) (by omega) (fun h => hl (hvl.2 h))
      refine .inr ⟨_, rfl, m, .inr rfl, hr, fun k d k1 k2 k3 => ?_⟩
      by_cases hk : k = r
      · subst hk
        by_cases hd : d = c
        · subst hd; exact hgt
        · exact o.tr _ _ _ (gm.2.1 _ (by omega)) (gm.2.1 _ (by omega)) (gm.2.1 _ (by omega)) (hoth d k2 k3 hd) hgt
      · exact hh1 k d k1 hk k2 k3) fuelN (l, ((lo : Nat) : Int)) ⟨lo, rfl, by omega, Rr.refl _ _ _, fun k c k1 k2 k3 k4 => hx k c (by omega) k3 k4, fun k c k1 k2 k3 k4 => by omega⟩ (by simp only [fuelN]; omega)
  rw [h1]
  rcases h2 with rfl | rfl
  · exact ⟨m, rfl, h3, h4⟩
  · exact ⟨m, rfl, h3, h4⟩
theorem hp_max {cmp : Cmp} {P : Int → Prop} {lt : Int → Int → Prop} (o : OrdC cmp P lt) {l : List Int} (g : Gd P l) (f hi : Nat) (hb : f + hi ≤ l.length) (h : Hp lt l f 0 hi) : ∀ n p, p ≤ n → 0 < p → p < hi → lt (l.getD (f + p) 0) (l.getD f 0)
  | 0, p, h1, h2, h3 => by omega
  | n + 1, p, h1, h2, h3 => by
    have hs := h ((p - 1) / 2) p (Nat.zero_le _) (by omega) h3
    by_cases hk : (p - 1) / 2 = 0
    · rw [hk] at hs; exact hs
    · exact o.tr _ _ _ (g.2.1 _ (by omega)) (g.2.1 _ (by omega)) (g.2.1 _ (by omega)) hs (hp_max o g f hi hb h n ((p - 1) / 2) (by omega) (by omega) (by omega))
theorem gHeap_ok {cmp : Cmp} {P : Int → Prop} {lt : Int → Int → Prop} (o : OrdC cmp P lt) {l : List Int} (g : Gd P l) (a b : Nat) (hab : a < b) (hb : b ≤ l.length) :
    ∃ r, gHeap l a b cmp = some r ∧ Rr a b l r ∧ Srt lt r a b := by
  have hn := g.2.2
  obtain ⟨n, hnb⟩ : ∃ n, b = a + n := ⟨b - a, by omega⟩
  subst hnb
  have e0 : IntKind.i64.wrap (((a + n : Nat) : Int) - ((a : Nat) : Int)) = ((n : Nat) : Int) := by rw [wN (by omega)]; omega
  have e1 : IntKind.i64.wrap (((n : Nat) : Int) - 1) = ((n - 1 : Nat) : Int) := by rw [wN (by omega)]; omega
  have e2 : IntKind.i64.wrap (Int.tdiv ((n - 1 : Nat) : Int) 2) = (((n - 1) / 2 : Nat) : Int) := by
    rw [Int.tdiv_eq_ediv_of_nonneg (by omega), wN (by omega)]; omega
  unfold gHeap
  rw [e0, e1, e2]
  obtain ⟨m, h1, h2, h3⟩ := loopO_ok (f := gHeap_L1 a (a + n : Nat) cmp) (fun s => ∃ i : Nat, s.2 = ((i : Nat) : Int) - 1 ∧ i ≤ n ∧ Rr a (a + n) l s.1 ∧ Hp lt s.1 a i n) (fun s => (s.2 + 1).toNat) (fun m => Rr a (a + n) l m ∧ Hp lt m a 0 n) (by
    rintro ⟨m, z⟩ ⟨i, hz, hi, hr, hh⟩
    simp only at hz hr hh
    subst hz
    have gm := g.go hr hb
    have hml := hr.1
    unfold gHeap_L1
    simp only
    rw [e0]
    by_cases hi0 : i = 0
    · subst hi0
      rw [df (by omega)]
      exact .inr ⟨m, rfl, hr, hh⟩
    · have e3 : ((i : Nat) : Int) - 1 = ((i - 1 : Nat) : Int) := by omega
      rw [dt (by omega), e3]
      simp only [cond_true]
      obtain ⟨r, r1, r2, r3⟩ := gSift_ok o gm a (i - 1) n (by omega) (by omega) (fun k c k1 k2 k3 => hh k c (by omega) k2 k3)
      rw [r1, bindO_some rfl, grd_at' (by omega)]
      exact .inl ⟨_, rfl, ⟨i - 1, rfl, by omega, hr.trans r2, r3⟩, by simp only; omega⟩) fuelN (l, (((n - 1) / 2 : Nat) : Int)) ⟨(n - 1) / 2 + 1, by simp only; omega, by omega, Rr.refl _ _ _, fun k c k1 k2 k3 => by omega⟩ (by simp only [fuelN]; omega)
  rw [h1, bindO_some rfl]
  have gm := g.go h2 hb
  have hml := h2.1
  obtain ⟨r, w1, w2, w3⟩ := loopO_ok (f := gHeap_L0 a cmp) (fun s => ∃ i : Nat, s.2 = ((i : Nat) : Int) - 1 ∧ i ≤ n ∧ Rr a (a + n) l s.1 ∧ Hp lt s.1 a 0 i ∧ Srt lt s.1 (a + i) (a + n) ∧ ∀ p q, p < i → i ≤ q → q < n → lt (s.1.getD (a + p) 0) (s.1.getD (a + q) 0)) (fun s => (s.2 + 1).toNat) (fun r => Rr a (a + n) l r ∧ Srt lt r a (a + n)) (by
    rintro ⟨m, z⟩ ⟨i, hz, hi, hr, hh, hs, hc⟩
    simp only at hz hr hh hs hc
    subst hz
    have gm := g.go hr hb
    have hml := hr.1
    unfold gHeap_L0
    simp only
    by_cases hi0 : i = 0
    · subst hi0
      rw [df (by omega)]
      exact .inr ⟨m, rfl, hr, hs⟩
    · obtain ⟨j, rfl⟩ : ∃ j, i = j + 1 := ⟨i - 1, by omega⟩
      have e3 : ((j + 1 : Nat) : Int) - 1 = ((j : Nat) : Int) := by omega
      have e4 : ((a : Nat) : Int) + ((j : Nat) : Int) = ((a + j : Nat) : Int) := by omega
      have t1 : (((a + j : Nat) : Int)).toNat = a + j := by omega
      have t2 : (((a : Nat) : Int)).toNat = a := by omega
      rw [e3, dt (by omega), e4, t1, t2]
      simp only [cond_true, List.length_set]
      rw [grd_at' (by omega), grd_at' (by omega), grd_at' (by omega), grd_at' (by omega), grd_at' (by omega), grd_at' (by omega)]
      have hsw : (m.set a (m.getD (a + j) 0)).set (a + j) (m.getD a 0) = sw m a (a + j) := rfl
      rw [hsw]
      have gg := sw_get (l := m) (i := a) (j := a + j) (by omega) (by omega)
      have r0 : Rr a (a + (j + 1)) m (sw m a (a + j)) := Rr.sw (by omega) (by omega) (by omega)
      have g0 := gm.go r0 (by omega)
      have hmax := hp_max o gm a (j + 1) (by omega) hh
      obtain ⟨r, r1, r2, r3⟩ := gSift_ok o g0 a 0 j (by rw [sw_len]; omega) (by omega) (fun k c k1 k2 k3 => by
        rw [gg, gg, if_neg (by omega), if_neg (by omega), if_neg (by omega), if_neg (by omega)]
        exact hh k c (by omega) k2 (by omega))
      have e5 : (((0 : Nat) : Int)) = 0 := rfl
      rw [e5] at r1
      rw [r1, bindO_some rfl, grd_at' (by omega)]
      have hlow : ∀ p, p < j → lt ((sw m a (a + j)).getD (a + p) 0) (m.getD a 0) := fun p hp => by
        rw [gg, if_neg (by omega)]
        by_cases p0 : p = 0
        · subst p0
          rw [if_pos (by omega)]
          exact hmax (j + 1) j (by omega) (by omega) (by omega)
        · rw [if_neg (by omega)]
          exact hmax (j + 1) p (by omega) (by omega) (by omega)
      have hup : ∀ q, j + 1 ≤ q → q < n → r.getD (a + q) 0 = m.getD (a + q) 0 := fun q q1 q2 => by
        rw [r2.2.1 (a + q) (by omega), gg, if_neg (by omega), if_neg (by omega)]
      have hj : r.getD (a + j) 0 = m.getD a 0 := by
        rw [r2.2.1 (a + j) (by omega), gg, if_pos rfl]
      have h0q : ∀ q, j + 1 ≤ q → q < n → lt (m.getD a 0) (m.getD (a + q) 0) := fun q q1 q2 => hc 0 q (by omega) q1 q2
      refine .inl ⟨_, rfl, ⟨j, rfl, by omega, hr.trans ((r0.wide (Nat.le_refl _) (by omega)).trans (r2.wide (Nat.le_refl _) (by omega))), r3, fun p q p1 p2 p3 => ?_, fun p q p1 p2 p3 => ?_⟩, by simp only; omega⟩
      · simp only
        obtain ⟨q', rfl⟩ : ∃ q', q = a + q' := ⟨q - a, by omega⟩
        rw [hup q' (by omega) (by omega)]
        by_cases pj : p = a + j
        · subst pj; rw [hj]; exact h0q q' (by omega) (by omega)
        · obtain ⟨p', rfl⟩ : ∃ p', p = a + p' := ⟨p - a, by omega⟩
          rw [hup p' (by omega) (by omega)]
          exact hs (a + p') (a + q') (by omega) (by omega) (by omega)
      · simp only
        obtain ⟨k, k1, k2, k3⟩ := r2.2.2.1 (a + p) (by omega) (by omega)
        obtain ⟨k', rfl⟩ : ∃ k', k = a + k' := ⟨k - a, by omega⟩
        rw [k3]
        by_cases qj : q = j
        · subst qj; rw [hj]; exact hlow k' (by omega)
        · rw [hup q (by omega) p3]
          exact o.tr _ _ _ (g0.2.1 _ (by rw [sw_len]; omega)) (gm.2.1 _ (by omega)) (gm.2.1 _ (by omega)) (hlow k' (by omega)) (h0q q (by omega) p3)) fuelN (m, ((n - 1 : Nat) : Int)) ⟨n, by simp only; omega, Nat.le_refl _, h2, h3, fun p q p1 p2 p3 => by omega, fun p q p1 p2 p3 => by omega⟩ (by simp only [fuelN]; omega)
  rw [w1]
  exact ⟨r, rfl, w2, w3⟩
end Go.Proofs.Ytfhchendnfpbkaa
