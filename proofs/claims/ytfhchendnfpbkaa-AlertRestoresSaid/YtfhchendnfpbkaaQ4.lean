/-
Partition. Conditions: each lemma's own.
-/
import Derived.Test.YtfhchendnfpbkaaQ3
namespace Go.Proofs.Ytfhchendnfpbkaa
set_option linter.unusedVariables false
set_option linter.unusedSimpArgs false
open Go.RowKit
theorem scanUp {cmp : Cmp} {P : Int → Prop} {lt : Int → Int → Prop} (o : OrdC cmp P lt) {l : List Int} (g : Gd P l) (x : Int) (a i j : Nat) (hi : i ≤ j + 1) (hj : j < l.length) (ha : a < l.length) :
    ∃ t : Nat, loopO fuelN (gPtn_L2 a cmp (l, x, ((j : Nat) : Int))) ((i : Nat) : Int) = some ((t : Nat) : Int) ∧ (i ≤ t ∧ t ≤ j + 1) ∧ (∀ k, i ≤ k → k < t → lt (l.getD k 0) (l.getD a 0)) ∧ (t ≤ j → ¬ lt (l.getD t 0) (l.getD a 0)) := by
  have hn := g.2.2
  obtain ⟨r, h1, t, rfl, h2⟩ := loopO_ok (f := gPtn_L2 a cmp (l, x, ((j : Nat) : Int))) (fun s => ∃ t : Nat, s = (t : Int) ∧ (i ≤ t ∧ t ≤ j + 1) ∧ (∀ k, i ≤ k → k < t → lt (l.getD k 0) (l.getD a 0))) (fun s => j + 1 - s.toNat) (fun r => ∃ t : Nat, r = (t : Int) ∧ (i ≤ t ∧ t ≤ j + 1) ∧ (∀ k, i ≤ k → k < t → lt (l.getD k 0) (l.getD a 0)) ∧ (t ≤ j → ¬ lt (l.getD t 0) (l.getD a 0))) (by
    rintro z ⟨t, rfl, ⟨ht1, ht2⟩, hs⟩
    unfold gPtn_L2
    simp only
    by_cases hlt : t ≤ j
    · rw [dt (by omega : ((t : Nat) : Int) ≤ ((j : Nat) : Int))]
      simp only [cond_true]
      have e1 : (((t : Nat) : Int)).toNat = t := by omega
      have e2 : (((a : Nat) : Int)).toNat = a := by omega
      rw [e1, e2]
      obtain ⟨v, hv, hvl⟩ := gCall_told o g (i := t) (j := a) (by omega) ha
      rw [grd_at' (by omega), grd_at' (by omega), hv, bindO_some rfl, bindO_some rfl]
      by_cases hl : v < 0
      · rw [dt hl, wN (by omega)]
        refine .inl ⟨_, rfl, ⟨t + 1, by omega, by omega, fun k k1 k2 => ?_⟩, by omega⟩
        by_cases kt : k = t
        · subst kt; exact hvl.1 hl
        · exact hs k k1 (by omega)
      · rw [df hl]
        exact .inr ⟨_, rfl, t, rfl, ⟨ht1, ht2⟩, hs, fun _ h => hl (hvl.2 h)⟩
    · rw [df (by omega)]
      exact .inr ⟨_, rfl, t, rfl, ⟨ht1, ht2⟩, hs, fun h => absurd h hlt⟩) fuelN ((i : Nat) : Int) ⟨i, rfl, by omega, fun k k1 k2 => by omega⟩ (by simp only [fuelN]; omega)
  exact ⟨t, h1, h2⟩
theorem scanDown {cmp : Cmp} {P : Int → Prop} {lt : Int → Int → Prop} (o : OrdC cmp P lt) {l : List Int} (g : Gd P l) (x : Int × Int) (a i j : Nat) (hi : i ≤ j + 1) (hia : a < i) (hj : j < l.length) (ha : a < l.length) :
    ∃ t : Nat, loopO fuelN (gPtn_L1 a cmp (l, x) ((i : Nat) : Int)) ((j : Nat) : Int) = some ((t : Nat) : Int) ∧ (i ≤ t + 1 ∧ t ≤ j) ∧ (∀ k, t < k → k ≤ j → ¬ lt (l.getD k 0) (l.getD a 0)) ∧ (i ≤ t → lt (l.getD t 0) (l.getD a 0)) := by
  have hn := g.2.2
  obtain ⟨r, h1, t, rfl, h2⟩ := loopO_ok (f := gPtn_L1 a cmp (l, x) ((i : Nat) : Int)) (fun s => ∃ t : Nat, s = (t : Int) ∧ (i ≤ t + 1 ∧ t ≤ j) ∧ (∀ k, t < k → k ≤ j → ¬ lt (l.getD k 0) (l.getD a 0))) (fun s => s.toNat) (fun r => ∃ t : Nat, r = (t : Int) ∧ (i ≤ t + 1 ∧ t ≤ j) ∧ (∀ k, t < k → k ≤ j → ¬ lt (l.getD k 0) (l.getD a 0)) ∧ (i ≤ t → lt (l.getD t 0) (l.getD a 0))) (by
    rintro z ⟨t, rfl, ⟨ht1, ht2⟩, hs⟩
    unfold gPtn_L1
    simp only
    by_cases hlt : i ≤ t
    · rw [dt (by omega : ((i : Nat) : Int) ≤ ((t : Nat) : Int))]
      simp only [cond_true]
      have e1 : (((t : Nat) : Int)).toNat = t := by omega
      have e2 : (((a : Nat) : Int)).toNat = a := by omega
      rw [e1, e2]
      obtain ⟨v, hv, hvl⟩ := gCall_told o g (i := t) (j := a) (by omega) ha
      rw [grd_at' (by omega), grd_at' (by omega), hv, bindO_some rfl, bindO_some rfl]
      by_cases hl : v < 0
      · rw [dt hl]
        exact .inr ⟨_, rfl, t, rfl, ⟨ht1, ht2⟩, hs, fun _ => hvl.1 hl⟩
      · rw [df hl, wN (by omega)]
        refine .inl ⟨_, rfl, ⟨t - 1, by omega, by omega, fun k k1 k2 => ?_⟩, by omega⟩
        by_cases kt : k = t
        · subst kt; exact fun h => hl (hvl.2 h)
        · exact hs k (by omega) k2
    · rw [df (by omega)]
      exact .inr ⟨_, rfl, t, rfl, ⟨ht1, ht2⟩, hs, fun h => absurd h hlt⟩) fuelN ((j : Nat) : Int) ⟨j, rfl, by omega, fun k k1 k2 => by omega⟩ (by simp only [fuelN]; omega)
  exact ⟨t, h1, h2⟩
def Ptd (lt : Int → Int → Prop) (l : List Int) (a mid b : Nat) : Prop := (∀ k, a ≤ k → k < mid → lt (l.getD k 0) (l.getD mid 0)) ∧ ∀ k, mid < k → k < b → lt (l.getD mid 0) (l.getD k 0)
theorem ptn_end {cmp : Cmp} {P : Int → Prop} {lt : Int → Int → Prop} (o : OrdC cmp P lt) {l : List Int} (g : Gd P l) (a j b : Nat) (haj : a ≤ j) (hjb : j < b) (hb : b ≤ l.length)
    (h1 : ∀ k, a < k → k ≤ j → lt (l.getD k 0) (l.getD a 0)) (h2 : ∀ k, j < k → k < b → lt (l.getD a 0) (l.getD k 0)) : Ptd lt (sw l j a) a j b := by
  have gg := sw_get (l := l) (i := j) (j := a) (by omega) (by omega)
  have hj : (sw l j a).getD j 0 = l.getD a 0 := by
    rw [gg]
    by_cases e : a = j
    · rw [if_pos e, e]
    · rw [if_neg e, if_pos rfl]
  refine ⟨fun k k1 k2 => ?_, fun k k1 k2 => ?_⟩
  · rw [hj, gg]
    by_cases e : a = k
    · rw [if_pos e]; exact h1 j (by omega) (Nat.le_refl _)
    · rw [if_neg e, if_neg (by omega)]; exact h1 k (by omega) (by omega)
  · rw [hj, gg, if_neg (by omega), if_neg (by omega)]
    exact h2 k k1 k2
theorem gPtn_main {cmp : Cmp} {P : Int → Prop} {lt : Int → Int → Prop} (o : OrdC cmp P lt) {l : List Int} (g : Gd P l) (a b : Nat) (hab : a < b) (hb : b ≤ l.length) (i j : Nat) (hi : a < i) (hij : i ≤ j + 1) (hj : j < b)
    (h1 : ∀ k, a < k → k < i → lt (l.getD k 0) (l.getD a 0)) (h2 : ∀ k, j < k → k < b → lt (l.getD a 0) (l.getD k 0)) :
    ∃ (m : List Int) (t : Nat), loopO fuelN (gPtn_L0 a cmp) (l, ((i : Nat) : Int), ((j : Nat) : Int)) = some (m, ((t : Nat) : Int)) ∧ Rr a b l m ∧ m.getD a 0 = l.getD a 0 ∧ (a ≤ t ∧ t < b) ∧ (∀ k, a < k → k ≤ t → lt (m.getD k 0) (m.getD a 0)) ∧ ∀ k, t < k → k < b → lt (m.getD a 0) (m.getD k 0) := by
  have hn := g.2.2
  obtain ⟨r, h3, m, t, rfl, h4⟩ := loopO_ok (f := gPtn_L0 a cmp) (fun s => ∃ i j : Nat, s.2 = (((i : Nat) : Int), ((j : Nat) : Int)) ∧ (a < i ∧ i ≤ j + 1 ∧ j < b) ∧ Rr a b l s.1 ∧ s.1.getD a 0 = l.getD a 0 ∧ (∀ k, a < k → k < i → lt (s.1.getD k 0) (s.1.getD a 0)) ∧ ∀ k, j < k → k < b → lt (s.1.getD a 0) (s.1.getD k 0)) (fun s => (s.2.2 + 2 - s.2.1).toNat) (fun r => ∃ (m : List Int) (t : Nat), r = (m, ((t : Nat) : Int)) ∧ Rr a b l m ∧ m.getD a 0 = l.getD a 0 ∧ (a ≤ t ∧ t < b) ∧ (∀ k, a < k → k ≤ t → lt (m.getD k 0) (m.getD a 0)) ∧ ∀ k, t < k → k < b → lt (m.getD a 0) (m.getD k 0)) (by
    rintro ⟨m, z⟩ ⟨i, j, hz, ⟨hi, hij, hj⟩, hr, hma, h1, h2⟩
    simp only at hz hr hma h1 h2
    subst hz
    have gm := g.go hr hb
    have hml := hr.1
    unfold gPtn_L0
    simp only
    obtain ⟨t, q1, ⟨q2, q3⟩, q4, q5⟩ := scanUp o gm ((i : Nat) : Int) a i j hij (by omega) (by omega)
    rw [q1, bindO_some rfl]
    obtain ⟨u, w1, ⟨w2, w3⟩, w4, w5⟩ := scanDown o gm (((i : Nat) : Int), ((j : Nat) : Int)) a t j q3 (by omega) (by omega) (by omega)
    rw [w1, bindO_some rfl]
    have hlo : ∀ k, a < k → k < t → lt (m.getD k 0) (m.getD a 0) := fun k k1 k2 => by
      by_cases hk : k < i
      · exact h1 k k1 hk
      · exact q4 k (by omega) k2
    have hhi : ∀ k, u < k → k < b → lt (m.getD a 0) (m.getD k 0) := fun k k1 k2 => by
      by_cases hk : j < k
      · exact h2 k hk k2
      · exact not_lt o gm (by omega) (by omega) (by omega) (w4 k k1 (by omega))
    by_cases hgt : t > u
    · rw [dt (by omega : ((t : Nat) : Int) > ((u : Nat) : Int))]
      refine .inr ⟨_, rfl, m, u, rfl, hr, hma, by omega, fun k k1 k2 => hlo k k1 (by omega), hhi⟩
    · rw [df (by omega : ¬ ((t : Nat) : Int) > ((u : Nat) : Int))]
      simp only [cond_false, List.length_set]
      have e1 : (((t : Nat) : Int)).toNat = t := by omega
      have e2 : (((u : Nat) : Int)).toNat = u := by omega
      rw [e1, e2, grd_at' (by omega), grd_at' (by omega), grd_at' (by omega), grd_at' (by omega), wN (by omega), wN (by omega)]
      have htu : t ≠ u := fun e => by
        subst e
        exact q5 (by omega) (w5 (by omega))
      have gg := sw_get (l := m) (i := t) (j := u) (by omega) (by omega)
      have ga : (sw m t u).getD a 0 = m.getD a 0 := by rw [gg, if_neg (by omega), if_neg (by omega)]
      refine .inl ⟨_, rfl, ⟨t + 1, u - 1, ?_, by omega, hr.trans (Rr.sw (i := t) (j := u) (by omega) (by omega) (by omega)), ga.trans hma, fun k k1 k2 => ?_, fun k k1 k2 => ?_⟩, by simp only; omega⟩
      · simp only [Prod.mk.injEq]; omega
      · show lt ((sw m t u).getD k 0) ((sw m t u).getD a 0)
        rw [ga, gg]
        by_cases ek : u = k
        · omega
        · rw [if_neg ek]
          by_cases et : t = k
          · rw [if_pos et]; exact w5 (by omega)
          · rw [if_neg et]; exact hlo k k1 (by omega)
      · show lt ((sw m t u).getD a 0) ((sw m t u).getD k 0)
        rw [ga, gg]
        by_cases ek : u = k
        · rw [if_pos ek]; exact not_lt o gm (by omega) (by omega) (by omega) (q5 (by omega))
        · rw [if_neg ek]
          by_cases et : t = k
          · omega
          · rw [if_neg et]; exact hhi k (by omega) k2) fuelN (l, ((i : Nat) : Int), ((j : Nat) : Int)) ⟨i, j, rfl, ⟨hi, hij, hj⟩, Rr.refl _ _ _, rfl, h1, h2⟩ (by simp only [fuelN]; omega)
  exact ⟨m, t, h3, h4⟩
theorem L4_is (l : List Int) (a b p : Int) (cmp : Cmp) : gPtn_L4 l a b p cmp = gPtn_L2 a cmp ((l.set a.toNat (l.getD p.toNat 0)).set p.toNat (l.getD a.toNat 0), 0, IntKind.i64.wrap (b - 1)) := Eq.trans rfl rfl
theorem L3_is (l : List Int) (a p : Int) (cmp : Cmp) : gPtn_L3 l a p cmp = gPtn_L1 a cmp ((l.set a.toNat (l.getD p.toNat 0)).set p.toNat (l.getD a.toNat 0), 0, 0) := Eq.trans rfl rfl
theorem gPtn_ok {cmp : Cmp} {P : Int → Prop} {lt : Int → Int → Prop} (o : OrdC cmp P lt) {l : List Int} (g : Gd P l) (a b p : Nat) (hab : a < b) (hb : b ≤ l.length) (hp : a ≤ p ∧ p < b) :
    ∃ (m : List Int) (t : Nat) (f : Bool), gPtn l a b p cmp = some (m, ((t : Nat) : Int), f) ∧ Rr a b l m ∧ (a ≤ t ∧ t < b) ∧ Ptd lt m a t b := by
  have hn := g.2.2
  unfold gPtn
  rw [L4_is, L3_is]
  have ea : (((a : Nat) : Int)).toNat = a := by omega
  have ep : (((p : Nat) : Int)).toNat = p := by omega
  rw [ea, ep]
  have hsw : (l.set a (l.getD p 0)).set p (l.getD a 0) = sw l a p := rfl
  rw [hsw]
  have r0 : Rr a b l (sw l a p) := Rr.sw (by omega) (by omega) hb
  have g0 := g.go r0 hb
  have l0 := r0.1
  generalize hM : sw l a p = M at *
  simp only [List.length_set]
  rw [grd_at' (by omega), grd_at' (by omega), grd_at' (by omega), grd_at' (by omega)]
  have eb : IntKind.i64.wrap (((b : Nat) : Int) - 1) = ((b - 1 : Nat) : Int) := by rw [wN (by omega)]; omega
  have ea1 : IntKind.i64.wrap (((a : Nat) : Int) + 1) = ((a + 1 : Nat) : Int) := by rw [wN (by omega)]; omega
  rw [eb, ea1]
  obtain ⟨t, q1, ⟨q2, q3⟩, q4, q5⟩ := scanUp o g0 0 a (a + 1) (b - 1) (by omega) (by omega) (by omega)
  rw [q1, bindO_some rfl]
  obtain ⟨u, w1, ⟨w2, w3⟩, w4, w5⟩ := scanDown o g0 (0, 0) a t (b - 1) q3 (by omega) (by omega) (by omega)
  rw [w1, bindO_some rfl]
  have hhi : ∀ k, u < k → k < b → lt (M.getD a 0) (M.getD k 0) := fun k k1 k2 => not_lt o g0 (by omega) (by omega) (by omega) (w4 k k1 (by omega))
  have et : (((t : Nat) : Int)).toNat = t := by omega
  have eu : (((u : Nat) : Int)).toNat = u := by omega
  rw [et, eu]
  by_cases hgt : t > u
  · rw [dt (by omega : ((t : Nat) : Int) > ((u : Nat) : Int))]
    simp only [cond_true]
    rw [grd_at' (by omega), grd_at' (by omega), grd_at' (by omega), grd_at' (by omega)]
    refine ⟨_, u, true, rfl, r0.trans (Rr.sw (i := u) (j := a) (by omega) (by omega) (by omega)), by omega, ?_⟩
    exact ptn_end o g0 a u b (by omega) (by omega) (by omega) (fun k k1 k2 => q4 k (by omega) (by omega)) hhi
  · rw [df (by omega : ¬ ((t : Nat) : Int) > ((u : Nat) : Int))]
    simp only [cond_false]
    rw [grd_at' (by omega), grd_at' (by omega), grd_at' (by omega), grd_at' (by omega)]
    have htu : t ≠ u := fun e => by
      subst e
      exact q5 (by omega) (w5 (by omega))
    have gg := sw_get (l := M) (i := t) (j := u) (by omega) (by omega)
    have ga : (sw M t u).getD a 0 = M.getD a 0 := by rw [gg, if_neg (by omega), if_neg (by omega)]
    have r1 : Rr a b M (sw M t u) := Rr.sw (by omega) (by omega) (by omega)
    have g1 := g0.go r1 (by omega)
    have l1 := r1.1
    have et1 : IntKind.i64.wrap (((t : Nat) : Int) + 1) = ((t + 1 : Nat) : Int) := by rw [wN (by omega)]; omega
    have eu1 : IntKind.i64.wrap (((u : Nat) : Int) - 1) = ((u - 1 : Nat) : Int) := by rw [wN (by omega)]; omega
    have hsw2 : (M.set t (M.getD u 0)).set u (M.getD t 0) = sw M t u := rfl
    rw [et1, eu1, hsw2]
    obtain ⟨m, v, z1, z2, z3, z4, z5, z6⟩ := gPtn_main o g1 a b hab (by omega) (t + 1) (u - 1) (by omega) (by omega) (by omega) (fun k k1 k2 => by
      rw [ga, gg]
      by_cases ek : u = k
      · omega
      · rw [if_neg ek]
        by_cases et : t = k
        · rw [if_pos et]; exact w5 (by omega)
        · rw [if_neg et]; exact q4 k (by omega) (by omega)) (fun k k1 k2 => by
      rw [ga, gg]
      by_cases ek : u = k
      · rw [if_pos ek]; exact not_lt o g0 (by omega) (by omega) (by omega) (q5 (by omega))
      · rw [if_neg ek]
        by_cases et : t = k
        · omega
        · rw [if_neg et]; exact hhi k (by omega) k2)
    have gm := g1.go z2 (by omega)
    have lm := z2.1
    have ev : (((v : Nat) : Int)).toNat = v := by omega
    rw [z1, bindO_some rfl]
    simp only
    rw [ev, grd_at' (by omega), grd_at' (by omega), grd_at' (by omega), grd_at' (by omega)]
    exact ⟨_, v, false, rfl, (r0.trans (r1.trans z2)).trans (Rr.sw (i := v) (j := a) (by omega) (by omega) (by omega)), z4, ptn_end o gm a v b z4.1 z4.2 (by omega) z5 z6⟩
end Go.Proofs.Ytfhchendnfpbkaa
