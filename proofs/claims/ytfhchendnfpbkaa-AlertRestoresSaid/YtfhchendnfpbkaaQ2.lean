/-
Rows of numbers under swaps; insertion sort sorts. Conditions: each lemma's own.
-/
import Derived.Test.YtfhchendnfpbkaaQ1
namespace Go.Proofs.Ytfhchendnfpbkaa
set_option linter.unusedVariables false
set_option linter.unusedSimpArgs false
open Go.RowKit
theorem grd_at' {p : Prop} [Decidable p] {α : Type} {A : Option α} (h : p) : grd (decide p) A = A := grd_pos (dt h)
def Inj (l : List Int) : Prop := ∀ p q, p < l.length → q < l.length → l.getD p 0 = l.getD q 0 → p = q
def sw (l : List Int) (i j : Nat) : List Int := (l.set i (l.getD j 0)).set j (l.getD i 0)
theorem sw_len (l : List Int) (i j : Nat) : (sw l i j).length = l.length := by unfold sw; simp
theorem getD_set (l : List Int) (i k : Nat) (v : Int) : (l.set i v).getD k 0 = if i = k ∧ k < l.length then v else l.getD k 0 := by
  rw [List.getD_eq_getElem?_getD, List.getElem?_set]
  by_cases h : i = k
  · subst h
    by_cases h2 : i < l.length
    · rw [if_pos rfl, if_pos h2, if_pos ⟨rfl, h2⟩]; rfl
    · rw [if_pos rfl, if_neg h2, if_neg (fun h => h2 h.2), List.getD_eq_getElem?_getD, List.getElem?_eq_none (by omega)]
  · rw [if_neg h, if_neg (fun h' => h h'.1), ← List.getD_eq_getElem?_getD]
theorem sw_get {l : List Int} {i j : Nat} (hi : i < l.length) (hj : j < l.length) (k : Nat) : (sw l i j).getD k 0 = if j = k then l.getD i 0 else if i = k then l.getD j 0 else l.getD k 0 := by
  unfold sw
  rw [getD_set, getD_set, List.length_set]
  by_cases h : j = k
  · subst h; rw [if_pos ⟨rfl, hj⟩, if_pos rfl]
  · rw [if_neg (fun h' => h h'.1), if_neg h]
    by_cases h2 : i = k
    · subst h2; rw [if_pos ⟨rfl, hi⟩, if_pos rfl]
    · rw [if_neg (fun h' => h2 h'.1), if_neg h2]
def Rr (a b : Nat) (l l' : List Int) : Prop := l'.length = l.length ∧ (∀ k, ¬ (a ≤ k ∧ k < b) → l'.getD k 0 = l.getD k 0) ∧ (∀ k, a ≤ k → k < b → ∃ j, a ≤ j ∧ j < b ∧ l'.getD k 0 = l.getD j 0) ∧ (∀ k, a ≤ k → k < b → ∃ j, a ≤ j ∧ j < b ∧ l.getD k 0 = l'.getD j 0) ∧ (Inj l → Inj l')
theorem Rr.refl (a b : Nat) (l : List Int) : Rr a b l l := ⟨rfl, fun _ _ => rfl, fun k h1 h2 => ⟨k, h1, h2, rfl⟩, fun k h1 h2 => ⟨k, h1, h2, rfl⟩, id⟩
theorem Rr.trans {a b : Nat} {l m r : List Int} (h : Rr a b l m) (g : Rr a b m r) : Rr a b l r := by
  obtain ⟨h1, h2, h3, h4, h5⟩ := h
  obtain ⟨g1, g2, g3, g4, g5⟩ := g
  refine ⟨g1.trans h1, fun k hk => (g2 k hk).trans (h2 k hk), fun k hk hk2 => ?_, fun k hk hk2 => ?_, fun h => g5 (h5 h)⟩
  · obtain ⟨j, a1, a2, a3⟩ := g3 k hk hk2
    obtain ⟨i, b1, b2, b3⟩ := h3 j a1 a2
    exact ⟨i, b1, b2, a3.trans b3⟩
  · obtain ⟨j, a1, a2, a3⟩ := h4 k hk hk2
    obtain ⟨i, b1, b2, b3⟩ := g4 j a1 a2
    exact ⟨i, b1, b2, a3.trans b3⟩
theorem Rr.wide {a b a' b' : Nat} {l m : List Int} (h : Rr a b l m) (ha : a' ≤ a) (hb : b ≤ b') : Rr a' b' l m := by
  obtain ⟨h1, h2, h3, h4, h5⟩ := h
  refine ⟨h1, fun k hk => h2 k (by omega), fun k hk hk2 => ?_, fun k hk hk2 => ?_, h5⟩
  · by_cases hin : a ≤ k ∧ k < b
    · obtain ⟨j, a1, a2, a3⟩ := h3 k hin.1 hin.2
      exact ⟨j, by omega, by omega, a3⟩
    · exact ⟨k, hk, hk2, h2 k hin⟩
  · by_cases hin : a ≤ k ∧ k < b
    · obtain ⟨j, a1, a2, a3⟩ := h4 k hin.1 hin.2
      exact ⟨j, by omega, by omega, a3⟩
    · exact ⟨k, hk, hk2, (h2 k hin).symm⟩
theorem Rr.sw {a b : Nat} {l : List Int} {i j : Nat} (hi : a ≤ i ∧ i < b) (hj : a ≤ j ∧ j < b) (hb : b ≤ l.length) : Rr a b l (sw l i j) := by
  have g := sw_get (l := l) (i := i) (j := j) (by omega) (by omega)
  refine ⟨sw_len l i j, fun k hk => ?_, fun k hk hk2 => ?_, fun k hk hk2 => ?_, fun hI p q hp hq e => ?_⟩
  · rw [g, if_neg (by omega), if_neg (by omega)]
  · rw [g]
    by_cases h : j = k
    · rw [if_pos h]; exact ⟨i, hi.1, hi.2, rfl⟩
    · rw [if_neg h]
      by_cases h2 : i = k
      · rw [if_pos h2]; exact ⟨j, hj.1, hj.2, rfl⟩
      · rw [if_neg h2]; exact ⟨k, hk, hk2, rfl⟩
  · by_cases h : i = k
    · subst h; exact ⟨j, hj.1, hj.2, by rw [g, if_pos rfl]⟩
    · by_cases h2 : j = k
      · subst h2; exact ⟨i, hi.1, hi.2, by rw [g, if_neg (fun e => h e.symm), if_pos rfl]⟩
      · exact ⟨k, hk, hk2, by rw [g, if_neg h2, if_neg h]⟩
  · rw [sw_len] at hp hq
    rw [g, g] at e
    by_cases p1 : j = p
    · by_cases q1 : j = q
      · omega
      · rw [if_pos p1, if_neg q1] at e
        by_cases q2 : i = q
        · rw [if_pos q2] at e; have := hI _ _ (by omega) (by omega) e; omega
        · rw [if_neg q2] at e; have := hI _ _ (by omega) (by omega) e; omega
    · rw [if_neg p1] at e
      by_cases p2 : i = p
      · rw [if_pos p2] at e
        by_cases q1 : j = q
        · rw [if_pos q1] at e; have := hI _ _ (by omega) (by omega) e; omega
        · rw [if_neg q1] at e
          by_cases q2 : i = q
          · omega
          · rw [if_neg q2] at e; have := hI _ _ (by omega) (by omega) e; omega
      · rw [if_neg p2] at e
        by_cases q1 : j = q
        · rw [if_pos q1] at e; have := hI _ _ (by omega) (by omega) e; omega
        · rw [if_neg q1] at e
          by_cases q2 : i = q
          · rw [if_pos q2] at e; have := hI _ _ (by omega) (by omega) e; omega
          · rw [if_neg q2] at e; exact hI _ _ hp hq e
structure OrdC (cmp : Cmp) (P : Int → Prop) (lt : Int → Int → Prop) : Prop where
  told : ∀ x y, P x → P y → ∃ v, cmp x y = some v ∧ (v < 0 ↔ lt x y)
  irr : ∀ x, P x → ¬ lt x x
  tr : ∀ x y z, P x → P y → P z → lt x y → lt y z → lt x z
  tot : ∀ x y, P x → P y → x ≠ y → lt x y ∨ lt y x
def Gd (P : Int → Prop) (l : List Int) : Prop := Inj l ∧ (∀ k, k < l.length → P (l.getD k 0)) ∧ l.length ≤ 49
theorem Gd.go {P : Int → Prop} {a b : Nat} {l m : List Int} (h : Gd P l) (r : Rr a b l m) (hb : b ≤ l.length) : Gd P m := by
  obtain ⟨h1, h2, h3⟩ := h
  obtain ⟨r1, r2, r3, r4, r5⟩ := r
  refine ⟨r5 h1, fun k hk => ?_, by omega⟩
  by_cases hin : a ≤ k ∧ k < b
  · obtain ⟨j, a1, a2, a3⟩ := r3 k hin.1 hin.2
    rw [a3]; exact h2 j (by omega)
  · rw [r2 k hin]; exact h2 k (by omega)
def Srt (lt : Int → Int → Prop) (l : List Int) (a b : Nat) : Prop := ∀ p q, a ≤ p → p < q → q < b → lt (l.getD p 0) (l.getD q 0)
theorem gCall_told {cmp : Cmp} {P : Int → Prop} {lt : Int → Int → Prop} (o : OrdC cmp P lt) {l : List Int} (g : Gd P l) {i j : Nat} (hi : i < l.length) (hj : j < l.length) :
    ∃ v, gCall (l.getD i 0) (l.getD j 0) cmp = some v ∧ ((v < 0) ↔ lt (l.getD i 0) (l.getD j 0)) := o.told _ _ (g.2.1 i hi) (g.2.1 j hj)
theorem not_lt {cmp : Cmp} {P : Int → Prop} {lt : Int → Int → Prop} (o : OrdC cmp P lt) {l : List Int} (g : Gd P l) {i j : Nat} (hi : i < l.length) (hj : j < l.length) (hij : i ≠ j) (h : ¬ lt (l.getD i 0) (l.getD j 0)) : lt (l.getD j 0) (l.getD i 0) := by
  rcases o.tot _ _ (g.2.1 i hi) (g.2.1 j hj) (fun e => hij (g.1 i j hi hj e)) with h' | h'
  · exact absurd h' h
  · exact h'
theorem wN {z : Int} (h : -9223372036854775808 ≤ z ∧ z ≤ 9223372036854775807) : IntKind.i64.wrap z = z := wr64 h
theorem gIns_inner {cmp : Cmp} {P : Int → Prop} {lt : Int → Int → Prop} (o : OrdC cmp P lt) {l : List Int} (g : Gd P l) (a i : Nat) (hai : a ≤ i) (hi : i < l.length) (hs : Srt lt l a i) :
    ∃ r, loopO fuelN (gIns_L1 a cmp) (l, (i : Int)) = some r ∧ Rr a (i + 1) l r ∧ Srt lt r a (i + 1) := by
  have hn := g.2.2
  refine loopO_ok (f := gIns_L1 a cmp) (fun s => ∃ j : Nat, s.2 = (j : Int) ∧ (a ≤ j ∧ j ≤ i) ∧ Rr a (i + 1) l s.1 ∧ ∀ p q, a ≤ p → p < q → q ≤ i → q ≠ j → lt (s.1.getD p 0) (s.1.getD q 0)) (fun s => s.2.toNat) (fun r => Rr a (i + 1) l r ∧ Srt lt r a (i + 1)) ?_ fuelN _ ⟨i, rfl, ⟨hai, Nat.le_refl _⟩, Rr.refl _ _ _, fun p q h1 h2 h3 h4 => hs p q h1 h2 (by omega)⟩ (by simp only [fuelN]; omega)
  rintro ⟨m, z⟩ ⟨j, hz, ⟨hj1, hj2⟩, hr, hinv⟩
  simp only at hz hr hinv
  subst hz
  have gm := g.go hr (by omega)
  have hml := hr.1
  unfold gIns_L1
  simp only
  by_cases hja : j = a
  · subst hja
    rw [df (by omega : ¬ ((j : Nat) : Int) > ((j : Nat) : Int))]
    exact .inr ⟨m, rfl, hr, fun p q h1 h2 h3 => hinv p q h1 h2 (by omega) (by omega)⟩
  rw [dt (by omega : ((j : Nat) : Int) > ((a : Nat) : Int)), wN (by omega : -9223372036854775808 ≤ ((j : Nat) : Int) - 1 ∧ ((j : Nat) : Int) - 1 ≤ 9223372036854775807)]
  simp only [cond_true]
  obtain ⟨k, rfl⟩ : ∃ k, j = k + 1 := ⟨j - 1, by omega⟩
  have e1 : (((k + 1 : Nat) : Int)).toNat = k + 1 := by omega
  have e2 : (((k + 1 : Nat) : Int) - 1).toNat = k := by omega
  rw [e1, e2]
  obtain ⟨v, hv, hvl⟩ := gCall_told o gm (i := k + 1) (j := k) (by omega) (by omega)
  rw [grd_at' (by omega), grd_at' (by omega), hv, bindO_some rfl, bindO_some rfl]
  by_cases hlt : v < 0
  · rw [dt hlt]
    simp only [cond_true, List.length_set]
    rw [grd_at' (by omega), grd_at' (by omega), grd_at' (by omega), grd_at' (by omega)]
    have g2 := sw_get (l := m) (i := k + 1) (j := k) (by omega) (by omega)
    refine .inl ⟨(sw m (k + 1) k, ((k : Nat) : Int)), ?_, ⟨k, rfl, by omega, hr.trans (Rr.sw (by omega) (by omega) (by omega)), fun p q h1 h2 h3 h4 => ?_⟩, by simp only; omega⟩
    · have : ((k + 1 : Nat) : Int) - 1 = ((k : Nat) : Int) := by omega
      rw [this]; rfl
    · simp only
      rw [g2, g2]
      have hl := hvl.1 hlt
      rw [if_neg (fun e => h4 e.symm) (c := k = q)]
      by_cases q1 : k + 1 = q
      · rw [if_pos q1]
        by_cases p1 : k = p
        · rw [if_pos p1]; exact hl
        · rw [if_neg p1, if_neg (by omega)]
          exact hinv p k h1 (by omega) (by omega) (by omega)
      · rw [if_neg q1]
        by_cases p1 : k = p
        · rw [if_pos p1]
          exact hinv (k + 1) q (by omega) (by omega) h3 (fun e => q1 e.symm)
        · rw [if_neg p1]
          by_cases p2 : k + 1 = p
          · rw [if_pos p2]; exact hinv k q (by omega) (by omega) h3 (fun e => q1 e.symm)
          · rw [if_neg p2]; exact hinv p q h1 h2 h3 (fun e => q1 e.symm)
  · rw [df hlt]
    simp only [cond_false]
    have hn2 := not_lt o gm (i := k + 1) (j := k) (by omega) (by omega) (by omega) (fun h => hlt (hvl.2 h))
    refine .inr ⟨m, rfl, hr, fun p q h1 h2 h3 => ?_⟩
    by_cases q1 : q = k + 1
    · subst q1
      by_cases p1 : p = k
      · subst p1; exact hn2
      · exact o.tr _ _ _ (gm.2.1 p (by omega)) (gm.2.1 k (by omega)) (gm.2.1 (k + 1) (by omega)) (hinv p k h1 (by omega) (by omega) (by omega)) hn2
    · exact hinv p q h1 h2 (by omega) q1
theorem gIns_ok {cmp : Cmp} {P : Int → Prop} {lt : Int → Int → Prop} (o : OrdC cmp P lt) {l : List Int} (g : Gd P l) (a b : Nat) (hab : a ≤ b) (hb : b ≤ l.length) :
    ∃ r, gIns l a b cmp = some r ∧ Rr a b l r ∧ Srt lt r a b := by
  have hn := g.2.2
  unfold gIns
  rw [wN (by omega)]
  obtain ⟨r, h1, h2, h3⟩ := loopO_ok (f := gIns_L0 a b cmp) (fun s => ∃ i : Nat, s.2 = (i : Int) ∧ (a + 1 ≤ i ∧ i ≤ b + 1) ∧ Rr a b l s.1 ∧ Srt lt s.1 a i ∧ (i = b + 1 → a = b)) (fun s => b + 1 - s.2.toNat) (fun r => Rr a b l r ∧ Srt lt r a b) (by
    rintro ⟨m, z⟩ ⟨i, hz, ⟨hi1, hi2⟩, hr, hs, hx⟩
    simp only at hz hr hs
    subst hz
    have gm := g.go hr hb
    have hml := hr.1
    unfold gIns_L0
    simp only
    by_cases hlt : i < b
    · rw [dt (by omega : ((i : Nat) : Int) < ((b : Nat) : Int)), wN (by omega)]
      simp only [cond_true]
      obtain ⟨r, h1, h2, h3⟩ := gIns_inner o gm a i (by omega) (by omega) hs
      rw [h1, bindO_some rfl, bindO_some rfl]
      exact .inl ⟨_, rfl, ⟨i + 1, by simp only; omega, by omega, hr.trans (h2.wide (Nat.le_refl _) (by omega)), h3, by omega⟩, by simp only; omega⟩
    · rw [df (by omega)]
      exact .inr ⟨m, rfl, hr, fun p q p1 p2 p3 => hs p q p1 p2 (by omega)⟩) fuelN (l, ((a : Nat) : Int) + 1) ⟨a + 1, by simp only; omega, by omega, Rr.refl _ _ _, fun p q h1 h2 h3 => by omega, by omega⟩ (by simp only [fuelN]; omega)
  rw [h1]
  exact ⟨r, rfl, h2, h3⟩
end Go.Proofs.Ytfhchendnfpbkaa
