/-
slices.SortFunc sorts rows of at most 49 different numbers. Conditions: each lemma's own.
-/
import Derived.Test.YtfhchendnfpbkaaQ6
namespace Go.Proofs.Ytfhchendnfpbkaa
set_option linter.unusedVariables false
set_option linter.unusedSimpArgs false
open Go.RowKit
def Bd (lt : Int → Int → Prop) (l : List Int) (a b : Nat) : Prop := a = 0 ∨ ∀ k, a ≤ k → k < b → lt (l.getD (a - 1) 0) (l.getD k 0)
def Out (lt : Int → Int → Prop) (l : List Int) (a0 b0 a b : Nat) : Prop := ∀ p q, a0 ≤ p → p < q → q < b0 → ¬ (a ≤ p ∧ q < b) → lt (l.getD p 0) (l.getD q 0)
theorem Bd.go {lt : Int → Int → Prop} {l m : List Int} {a b : Nat} (h : Bd lt l a b) (r : Rr a b l m) : Bd lt m a b := by
  rcases h with h | h
  · exact .inl h
  · by_cases h0 : a = 0
    · exact .inl h0
    · refine .inr fun k k1 k2 => ?_
      obtain ⟨j, j1, j2, j3⟩ := r.2.2.1 k k1 k2
      rw [j3, r.2.1 (a - 1) (by omega)]
      exact h j j1 j2
theorem Out.go {lt : Int → Int → Prop} {l m : List Int} {a0 b0 a b : Nat} (h : Out lt l a0 b0 a b) (r : Rr a b l m) (ha : a0 ≤ a) (hb : b ≤ b0) : Out lt m a0 b0 a b := by
  intro p q p1 p2 p3 p4
  by_cases hp : a ≤ p ∧ p < b
  · obtain ⟨j, j1, j2, j3⟩ := r.2.2.1 p hp.1 hp.2
    rw [j3, r.2.1 q (by omega)]
    exact h j q (by omega) (by omega) p3 (by omega)
  · rw [r.2.1 p hp]
    by_cases hq : a ≤ q ∧ q < b
    · obtain ⟨j, j1, j2, j3⟩ := r.2.2.1 q hq.1 hq.2
      rw [j3]
      exact h p j p1 (by omega) (by omega) (by omega)
    · rw [r.2.1 q hq]
      exact h p q p1 p2 p3 p4
theorem Out.all {lt : Int → Int → Prop} {l : List Int} {a0 b0 a b : Nat} (h : Out lt l a0 b0 a b) (s : Srt lt l a b) : Srt lt l a0 b0 := by
  intro p q p1 p2 p3
  by_cases hi : a ≤ p ∧ q < b
  · exact s p q hi.1 p2 hi.2
  · exact h p q p1 p2 p3 hi
theorem Ptd.goL {lt : Int → Int → Prop} {l m : List Int} {a t b : Nat} (h : Ptd lt l a t b) (r : Rr a t l m) : Ptd lt m a t b := by
  refine ⟨fun k k1 k2 => ?_, fun k k1 k2 => ?_⟩
  · obtain ⟨j, j1, j2, j3⟩ := r.2.2.1 k k1 k2
    rw [j3, r.2.1 t (by omega)]
    exact h.1 j j1 j2
  · rw [r.2.1 t (by omega), r.2.1 k (by omega)]
    exact h.2 k k1 k2
theorem Ptd.goR {lt : Int → Int → Prop} {l m : List Int} {a t b : Nat} (h : Ptd lt l a t b) (r : Rr (t + 1) b l m) : Ptd lt m a t b := by
  refine ⟨fun k k1 k2 => ?_, fun k k1 k2 => ?_⟩
  · rw [r.2.1 t (by omega), r.2.1 k (by omega)]
    exact h.1 k k1 k2
  · obtain ⟨j, j1, j2, j3⟩ := r.2.2.1 k k1 k2
    rw [j3, r.2.1 t (by omega)]
    exact h.2 j (by omega) j2
theorem out_R {cmp : Cmp} {P : Int → Prop} {lt : Int → Int → Prop} (o : OrdC cmp P lt) {l : List Int} (g : Gd P l) {a0 b0 a t b : Nat} (h : Out lt l a0 b0 a b) (p : Ptd lt l a t b) (s : Srt lt l a t) (ht : a ≤ t ∧ t < b) (hb : b ≤ l.length) : Out lt l a0 b0 (t + 1) b := by
  intro x y x1 x2 x3 x4
  by_cases hin : a ≤ x ∧ y < b
  · by_cases hy : y < t
    · exact s x y hin.1 x2 hy
    · by_cases hyt : y = t
      · subst hyt; exact p.1 x hin.1 x2
      · by_cases hxt : x = t
        · subst hxt; exact p.2 y x2 hin.2
        · exact o.tr _ _ _ (g.2.1 _ (by omega)) (g.2.1 _ (by omega)) (g.2.1 _ (by omega)) (p.1 x hin.1 (by omega)) (p.2 y (by omega) hin.2)
  · exact h x y x1 x2 x3 hin
theorem out_L {cmp : Cmp} {P : Int → Prop} {lt : Int → Int → Prop} (o : OrdC cmp P lt) {l : List Int} (g : Gd P l) {a0 b0 a t b : Nat} (h : Out lt l a0 b0 a b) (p : Ptd lt l a t b) (s : Srt lt l (t + 1) b) (ht : a ≤ t ∧ t < b) (hb : b ≤ l.length) : Out lt l a0 b0 a t := by
  intro x y x1 x2 x3 x4
  by_cases hin : a ≤ x ∧ y < b
  · by_cases hx : t < x
    · exact s x y (by omega) x2 hin.2
    · by_cases hyt : y = t
      · subst hyt; exact p.1 x hin.1 x2
      · by_cases hxt : x = t
        · subst hxt; exact p.2 y x2 hin.2
        · exact o.tr _ _ _ (g.2.1 _ (by omega)) (g.2.1 _ (by omega)) (g.2.1 _ (by omega)) (p.1 x hin.1 (by omega)) (p.2 y (by omega) hin.2)
  · exact h x y x1 x2 x3 hin
theorem gPdq_ok {cmp : Cmp} {P : Int → Prop} {lt : Int → Int → Prop} (o : OrdC cmp P lt) : ∀ (s n : Nat), s < n → ∀ (l : List Int) (a0 b0 : Nat) (lim : Int), Gd P l → a0 ≤ b0 → b0 ≤ l.length → b0 - a0 ≤ s → Bd lt l a0 b0 →
    ∃ r, gPdq n l a0 b0 lim cmp = some r ∧ Rr a0 b0 l r ∧ Srt lt r a0 b0 := by
  intro s
  induction s with
  | zero =>
    intro n hn l a0 b0 lim g hab hb hs hbd
    have h49 := g.2.2
    obtain ⟨n', rfl⟩ : ∃ n', n = n' + 1 := ⟨n - 1, by omega⟩
    show ∃ r, gPdq_B (gPdq n') l a0 b0 lim cmp = some r ∧ Rr a0 b0 l r ∧ Srt lt r a0 b0
    obtain ⟨r, h1, h2, h3⟩ := gIns_ok o g a0 b0 hab hb
    have step : gPdq_L0 (gPdq n') cmp (l, ((a0 : Nat) : Int), ((b0 : Nat) : Int), lim, true, true) = some (Ctl.done r) := by
      unfold gPdq_L0
      simp only
      rw [wN (z := ((b0 : Nat) : Int) - ((a0 : Nat) : Int)) (by omega), dt (by omega), h1, bindO_some rfl]
      rfl
    unfold gPdq_B
    have hf : fuelN = (fuelN - 1) + 1 := by simp [fuelN]
    rw [hf, loopO_done step]
    exact ⟨r, rfl, h2, h3⟩
  | succ s ih =>
    intro n hn l a0 b0 lim g hab hb hs hbd
    have h49 := g.2.2
    obtain ⟨n', rfl⟩ : ∃ n', n = n' + 1 := ⟨n - 1, by omega⟩
    show ∃ r, gPdq_B (gPdq n') l a0 b0 lim cmp = some r ∧ Rr a0 b0 l r ∧ Srt lt r a0 b0
    unfold gPdq_B
    obtain ⟨r, h1, h2⟩ := loopO_ok (f := gPdq_L0 (gPdq n') cmp) (fun x => ∃ a b : Nat, x.2.1 = ((a : Nat) : Int) ∧ x.2.2.1 = ((b : Nat) : Int) ∧ (a0 ≤ a ∧ a ≤ b ∧ b ≤ b0) ∧ Rr a0 b0 l x.1 ∧ Bd lt x.1 a b ∧ Out lt x.1 a0 b0 a b) (fun x => (x.2.2.1 - x.2.1).toNat) (fun r => Rr a0 b0 l r ∧ Srt lt r a0 b0) (by
      rintro ⟨m, za, zb, lim, wb, wp⟩ ⟨a, b, hza, hzb, ⟨ha1, ha2, ha3⟩, hr, hbd, hout⟩
      simp only at hza hzb hr hbd hout
      subst hza
      subst hzb
      have gm := g.go hr hb
      have hml := hr.1
      have e0 : IntKind.i64.wrap (((b : Nat) : Int) - ((a : Nat) : Int)) = ((b : Nat) : Int) - ((a : Nat) : Int) := wN (by omega)
      unfold gPdq_L0
      simp only
      rw [e0]
      by_cases h12 : b ≤ a + 12
      · rw [dt (by omega : ((b : Nat) : Int) - ((a : Nat) : Int) ≤ 12)]
        obtain ⟨r, r1, r2, r3⟩ := gIns_ok o gm a b ha2 (by omega)
        simp only [cond_true]
        rw [r1, bindO_some rfl]
        exact .inr ⟨r, rfl, hr.trans (r2.wide ha1 ha3), (hout.go r2 ha1 ha3).all r3⟩
      rw [df (by omega : ¬ ((b : Nat) : Int) - ((a : Nat) : Int) ≤ 12)]
      simp only [cond_false]
      cases hl0 : (lim == 0) with
      | true =>
        simp only [cond_true]
        obtain ⟨r, r1, r2, r3⟩ := gHeap_ok o gm a b (by omega) (by omega)
        rw [r1, bindO_some rfl]
        exact .inr ⟨r, rfl, hr.trans (r2.wide ha1 ha3), (hout.go r2 ha1 ha3).all r3⟩
      | false =>
      simp only [cond_false]
      -- patterns broken
      obtain ⟨m1, lim1, q1, q2⟩ : ∃ (m1 : List Int) (lim1 : Int), (cond (!wb) (bindO (τ := (List Int)) (gBreak (m : List Int) (((a : Nat) : Int) : Int) (((b : Nat) : Int) : Int) cmp) fun y72 => (some (((y72 : List Int), (IntKind.i64.wrap (lim - 1)))))) (some (((m : List Int), lim)))) = some (m1, lim1) ∧ Rr a b m m1 := by
        cases wb with
        | true => exact ⟨m, lim, rfl, Rr.refl _ _ _⟩
        | false =>
          obtain ⟨r, r1, r2⟩ := gBreak_ok cmp gm a b (by omega) (by omega)
          exact ⟨r, _, by rw [r1]; rfl, r2⟩
      rw [q1, bindO_some rfl]
      simp only
      have g1 := gm.go q2 (by omega)
      have l1 := q2.1
      obtain ⟨p, hint, p1, p2, p3⟩ := gPivot_ok o g1 a b (by omega) (by omega)
      rw [p1, bindO_some rfl]
      simp only
      obtain ⟨m2, p', h', w1, w2, w3, w4⟩ : ∃ (m2 : List Int) (p' : Nat) (h' : Int), (cond ((hint == 2)) (bindO (τ := (List Int)) (gRev (m1 : List Int) (((a : Nat) : Int) : Int) (((b : Nat) : Int) : Int) cmp) fun y68 => (some (((y68 : List Int), (IntKind.i64.wrap ((IntKind.i64.wrap (((b : Nat) : Int) - 1)) - (IntKind.i64.wrap (((p : Nat) : Int) - ((a : Nat) : Int))))), (1 : Int))))) (some (((m1 : List Int), ((p : Nat) : Int), hint)))) = some (m2, ((p' : Nat) : Int), h') ∧ Rr a b m1 m2 ∧ a ≤ p' ∧ p' < b := by
        cases (hint == 2) with
        | false => exact ⟨m1, p, hint, rfl, Rr.refl _ _ _, p2, p3⟩
        | true =>
          obtain ⟨r, r1, r2⟩ := gRev_ok cmp g1 a b ha2 (by omega)
          refine ⟨r, b - 1 - (p - a), 1, ?_, r2, by omega, by omega⟩
          simp only [cond_true]
          rw [r1, bindO_some rfl, wN (z := ((b : Nat) : Int) - 1) (by omega), wN (z := ((p : Nat) : Int) - ((a : Nat) : Int)) (by omega), wN (by omega)]
          have : ((b : Nat) : Int) - 1 - (((p : Nat) : Int) - ((a : Nat) : Int)) = ((b - 1 - (p - a) : Nat) : Int) := by omega
          rw [this]
      rw [w1, bindO_some rfl]
      simp only
      have r02 : Rr a b m m2 := q2.trans w2
      have g2 := g1.go w2 (by omega)
      have l2 := w2.1
      have bd2 := hbd.go r02
      have out2 := hout.go r02 ha1 ha3
      obtain ⟨fl, f1, f2⟩ := gPins_ok o g2 a b (by omega) (by omega)
      obtain ⟨c, hc, hcc⟩ : ∃ c : Ctl (List Int) (Ctl ((List Int) × Int × Int × Int × Bool × Bool) (Ctl ((List Int) × Int × Int × Int × Bool × Bool) (List Int))), (cond (((wb && wp) && (h' == 1))) (bindO (τ := (List Int) × Bool) (gPins (m2 : List Int) (((a : Nat) : Int) : Int) (((b : Nat) : Int) : Int) cmp) fun y63 => (cond (y63.2) (some (Ctl.done (Ctl.done (Ctl.done ((y63.1 : List Int)))))) (some (Ctl.go (y63.1 : List Int))))) (some (Ctl.go (m2 : List Int)))) = some c ∧ ((c = Ctl.done (Ctl.done (Ctl.done m2)) ∧ Srt lt m2 a b) ∨ c = Ctl.go m2) := by
        cases ((wb && wp) && (h' == 1)) with
        | false => exact ⟨_, rfl, .inr rfl⟩
        | true =>
          simp only [cond_true]
          rw [f1, bindO_some rfl]
          cases fl with
          | true => exact ⟨_, rfl, .inl ⟨rfl, f2 rfl⟩⟩
          | false => exact ⟨_, rfl, .inr rfl⟩
      rw [hc]
      rcases hcc with ⟨rfl, hsrt⟩ | rfl
      · exact .inr ⟨m2, rfl, hr.trans (r02.wide ha1 ha3), out2.all hsrt⟩
      rw [joinO_go (t := m2) rfl]
      have heq : (cond (decide (((a : Nat) : Int) > 0)) (grd (decide (-9223372036854775808 ≤ ((a : Nat) : Int) - 1 ∧ ((a : Nat) : Int) - 1 ≤ 9223372036854775807)) (grd (decide (0 ≤ (((a : Nat) : Int) - 1) ∧ (((a : Nat) : Int) - 1) < (((m2).length : Nat) : Int))) (grd (decide (0 ≤ ((p' : Nat) : Int) ∧ ((p' : Nat) : Int) < (((m2).length : Nat) : Int))) (bindO (τ := Int) (gCall ((List.getD m2 ((((a : Nat) : Int) - 1)).toNat 0) : Int) ((List.getD m2 (((p' : Nat) : Int)).toNat 0) : Int) cmp) fun y59 => (some (!decide (y59 < 0))))))) (some (false))) = some false := by
        by_cases ha0 : a = 0
        · subst ha0
          rw [df (by omega)]
          rfl
        · have t1 : ((((a : Nat) : Int) - 1)).toNat = a - 1 := by omega
          have t2 : (((p' : Nat) : Int)).toNat = p' := by omega
          rw [dt (by omega), t1, t2]
          simp only [cond_true]
          obtain ⟨v, hv, hvl⟩ := gCall_told o g2 (i := a - 1) (j := p') (by omega) (by omega)
          rw [grd_at' (by omega), grd_at' (by omega), grd_at' (by omega), hv, bindO_some rfl]
          have : lt (m2.getD (a - 1) 0) (m2.getD p' 0) := by
            rcases bd2 with h | h
            · exact absurd h ha0
            · exact h p' w3 w4
          rw [dt (hvl.2 this)]
          rfl
      rw [heq, bindO_some rfl]
      simp only [cond_false]
      obtain ⟨m3, t, fl3, z1, z2, z3, z4⟩ := gPtn_ok o g2 a b p' (by omega) (by omega) ⟨w3, w4⟩
      rw [z1, bindO_some rfl]
      simp only
      have g3 := g2.go z2 (by omega)
      have l3 := z2.1
      have bd3 := bd2.go z2
      have out3 := out2.go z2 ha1 ha3
      have r03 : Rr a b m m3 := r02.trans z2
      rw [wN (z := ((t : Nat) : Int) - ((a : Nat) : Int)) (by omega), wN (z := ((b : Nat) : Int) - ((t : Nat) : Int)) (by omega)]
      have et : IntKind.i64.wrap (((t : Nat) : Int) + 1) = ((t + 1 : Nat) : Int) := by rw [wN (by omega)]; omega
      rw [et]
      by_cases hside : ((t : Nat) : Int) - ((a : Nat) : Int) < ((b : Nat) : Int) - ((t : Nat) : Int)
      · rw [dt hside]
        simp only [cond_true]
        obtain ⟨r, r1, r2, r3⟩ := ih n' (by omega) m3 a t lim1 g3 (by omega) (by omega) (by omega) (by
          rcases bd3 with h | h
          · exact .inl h
          · exact .inr fun k k1 k2 => h k k1 (by omega))
        rw [r1, bindO_some rfl, bindO_some rfl]
        have g4 := g3.go r2 (by omega)
        have l4 := r2.1
        have p4 := z4.goL r2
        have out4 := out3.go (r2.wide (Nat.le_refl _) (by omega : t ≤ b)) ha1 ha3
        refine .inl ⟨_, rfl, ⟨t + 1, b, rfl, rfl, by omega, hr.trans ((r03.trans (r2.wide (Nat.le_refl _) (by omega : t ≤ b))).wide ha1 ha3), ?_, ?_⟩, by simp only; omega⟩
        · exact .inr fun k k1 k2 => p4.2 k (by omega) k2
        · exact out_R o g4 out4 p4 r3 z3 (by omega)
      · rw [df hside]
        simp only [cond_false]
        obtain ⟨r, r1, r2, r3⟩ := ih n' (by omega) m3 (t + 1) b lim1 g3 (by omega) (by omega) (by omega) (.inr fun k k1 k2 => z4.2 k (by omega) k2)
        rw [r1, bindO_some rfl, bindO_some rfl]
        have g4 := g3.go r2 (by omega)
        have l4 := r2.1
        have p4 := z4.goR r2
        have rw4 : Rr a b m3 r := r2.wide (by omega) (Nat.le_refl _)
        have out4 := out3.go rw4 ha1 ha3
        have bd4 := bd3.go rw4
        refine .inl ⟨_, rfl, ⟨a, t, rfl, rfl, by omega, hr.trans ((r03.trans rw4).wide ha1 ha3), ?_, ?_⟩, by simp only; omega⟩
        · rcases bd4 with h | h
          · exact .inl h
          · exact .inr fun k k1 k2 => h k k1 (by omega)
        · exact out_L o g4 out4 p4 r3 z3 (by omega)) fuelN (l, ((a0 : Nat) : Int), ((b0 : Nat) : Int), lim, true, true) ⟨a0, b0, rfl, rfl, ⟨Nat.le_refl _, hab, Nat.le_refl _⟩, Rr.refl _ _ _, hbd, fun p q p1 p2 p3 p4 => by omega⟩ (by simp only [fuelN]; omega)
    rw [h1]
    exact ⟨r, rfl, h2⟩
end Go.Proofs.Ytfhchendnfpbkaa
