/-
The reference's board answers the program's. Conditions: each lemma's own.
-/
import Derived.Test.YtfhchendnfpbkaaP55bx8
import Derived.Test.YtfhchendnfpbkaaP55px8
namespace Go.Proofs.Ytfhchendnfpbkaa
set_option linter.unusedVariables false
set_option linter.unusedSimpArgs false
open Go.RowKit
def BRel (b : Board) (w : RBoard) : Prop := w.defs = b.defs ∧ w.steps = b.steps ∧ w.phase = b.phase ∧ w.onset.length = b.defs.length ∧ w.acked.length = b.defs.length ∧ WB b ∧ ∀ j, j < b.defs.length → w.onset.getD j 0 = (b.conds.getD j default).onset ∧ w.acked.getD j false = (b.conds.getD j default).acked ∧ 0 ≤ (b.conds.getD j default).onset
theorem pos_ne {x : Int} (h : 0 ≤ x) : decide (x > 0) = (x != 0) := by
  by_cases h0 : x = 0
  · rw [neq_f h0, df (by omega)]
  · rw [neq_t h0, dt (by omega)]
theorem o57_is {b : Board} {w : RBoard} (R : BRel b w) {i : Nat} (hi : i < b.defs.length) : o57 w ((i : Nat) : Int) = some (shn b i) := by
  obtain ⟨e1, e2, e3, e4, e5, wb, e6⟩ := R
  obtain ⟨q1, q2, q3⟩ := e6 i hi
  unfold o57 shn
  have e : (((i : Nat) : Int)).toNat = i := by omega
  rw [grd_at' (by omega), e, q1, q2, pos_ne q3, e1, e3]
  have hp := wb.2.2.1
  cases ((b.conds.getD i default).onset != 0) with
  | false => rfl
  | true =>
    simp only [cond_true, Bool.true_and]
    rw [grd_at' (by omega), bindO_some rfl]
    cases (b.conds.getD i default).acked with
    | true => rfl
    | false =>
      simp only [Bool.not_false, cond_true]
      rw [grd_at' (by omega), grd_at' hp, bindO_some rfl]
theorem o64_is {b : Board} {w : RBoard} (R : BRel b w) {i j : Nat} (hi : i < b.defs.length) (hj : j < b.defs.length) : ∃ v, o64 w ((i : Nat) : Int) ((j : Nat) : Int) = some v ∧ (v = true ↔ ltB b ((i : Nat) : Int) ((j : Nat) : Int)) := by
  obtain ⟨e1, e2, e3, e4, e5, wb, e6⟩ := R
  obtain ⟨q1, q2, q3⟩ := e6 i hi
  obtain ⟨p1, p2, p3⟩ := e6 j hj
  unfold o64 ltB
  have ei : (((i : Nat) : Int)).toNat = i := by omega
  have ej : (((j : Nat) : Int)).toNat = j := by omega
  rw [e1, ei, ej, q1, p1, grd_at' (by omega), grd_at' (by omega)]
  by_cases hl : (b.defs.getD i default).level = (b.defs.getD j default).level
  · rw [neq_f hl, cond_false, grd_at' (by omega), grd_at' (by omega)]
    by_cases ho : (b.conds.getD i default).onset = (b.conds.getD j default).onset
    · rw [neq_f ho, cond_false]
      exact ⟨_, rfl, by rw [decide_eq_true_eq]; omega⟩
    · rw [neq_t ho, cond_true, grd_at' (by omega), grd_at' (by omega)]
      exact ⟨_, rfl, by rw [decide_eq_true_eq]; omega⟩
  · rw [neq_t hl, cond_true, grd_at' (by omega), grd_at' (by omega)]
    exact ⟨_, rfl, by rw [decide_eq_true_eq]; omega⟩
theorem srt_sub {P : Int → Prop} {lt : Int → Int → Prop} (irr : ∀ x, P x → ¬ lt x x) (tr : ∀ x y z, P x → P y → P z → lt x y → lt y z → lt x z) {l m : List Int} (hp : ∀ k, k < l.length → P (l.getD k 0)) (hq : ∀ k, k < m.length → P (m.getD k 0))
    (hlm : ∀ k, k < l.length → ∃ j, j < m.length ∧ l.getD k 0 = m.getD j 0) (hml : ∀ k, k < m.length → ∃ j, j < l.length ∧ m.getD k 0 = l.getD j 0) (sl : Srt lt l 0 l.length) (sm : Srt lt m 0 m.length) : ∀ k, k < l.length → k < m.length ∧ l.getD k 0 = m.getD k 0 := by
  intro k
  induction k using Nat.strongRecOn with
  | _ k ih =>
    intro hk
    obtain ⟨j, hj, ej⟩ := hlm k hk
    by_cases h1 : j < k
    · obtain ⟨-, e⟩ := ih j h1 (by omega)
      exact absurd (by have h := sl j k (Nat.zero_le _) h1 hk; rw [e, ← ej] at h; exact h) (irr _ (hp k hk))
    have hkm : k < m.length := by omega
    refine ⟨hkm, ?_⟩
    by_cases h2 : j = k
    · rw [ej, h2]
    have a1 := sm k j (Nat.zero_le _) (by omega) hj
    rw [← ej] at a1
    obtain ⟨i, hi, ei⟩ := hml k hkm
    by_cases h3 : i < k
    · obtain ⟨h4, e⟩ := ih i h3 hi
      exact absurd (by have h := sm i k (Nat.zero_le _) h3 hkm; rw [← e, ← ei] at h; exact h) (irr _ (hq k hkm))
    by_cases h4 : i = k
    · rw [ei, h4]
    have a2 := sl k i (Nat.zero_le _) (by omega) hi
    rw [← ei] at a2
    exact absurd (tr _ _ _ (hq k hkm) (hp k hk) (hq k hkm) a1 a2) (irr _ (hq k hkm))
theorem extI {l m : List Int} (hl : l.length = m.length) (h : ∀ k, k < l.length → l.getD k 0 = m.getD k 0) : l = m := by
  refine List.ext_getElem hl fun k h1 h2 => ?_
  have := h k h1
  rw [List.getD_eq_getElem?_getD, List.getD_eq_getElem?_getD, List.getElem?_eq_getElem h1, List.getElem?_eq_getElem h2] at this
  exact this
theorem srt_same {P : Int → Prop} {lt : Int → Int → Prop} (irr : ∀ x, P x → ¬ lt x x) (tr : ∀ x y z, P x → P y → P z → lt x y → lt y z → lt x z) {l m : List Int} (hp : ∀ k, k < l.length → P (l.getD k 0)) (hq : ∀ k, k < m.length → P (m.getD k 0))
    (hlm : ∀ k, k < l.length → ∃ j, j < m.length ∧ l.getD k 0 = m.getD j 0) (hml : ∀ k, k < m.length → ∃ j, j < l.length ∧ m.getD k 0 = l.getD j 0) (sl : Srt lt l 0 l.length) (sm : Srt lt m 0 m.length) : l = m := by
  have h1 := srt_sub irr tr hp hq hlm hml sl sm
  have h2 := srt_sub irr tr hq hp hml hlm sm sl
  have hl : l.length = m.length := by
    rcases Nat.lt_trichotomy l.length m.length with h | h | h
    · have := (h2 _ h).1; omega
    · exact h
    · have := (h1 _ h).1; omega
  exact extI hl fun k hk => (h1 k hk).2
theorem ins_len (x : List Int) (t : Nat) (v : Int) (h : t ≤ x.length) : ((x.take t ++ [v]) ++ x.drop t).length = x.length + 1 := by
  simp only [List.length_append, List.length_take, List.length_drop, List.length_cons, List.length_nil]; omega
theorem ins_get (x : List Int) (t : Nat) (v : Int) (h : t ≤ x.length) (q : Nat) : ((x.take t ++ [v]) ++ x.drop t).getD q 0 = if q < t then x.getD q 0 else if q = t then v else x.getD (q - 1) 0 := by
  have hl : (x.take t ++ [v]).length = t + 1 := by simp only [List.length_append, List.length_take, List.length_cons, List.length_nil]; omega
  have ht : (x.take t).length = t := by rw [List.length_take]; omega
  rw [List.getD_eq_getElem?_getD]
  by_cases h1 : q < t
  · rw [if_pos h1, List.getElem?_append_left (by omega), List.getElem?_append_left (by omega), List.getElem?_take, if_pos h1, ← List.getD_eq_getElem?_getD]
  · rw [if_neg h1]
    by_cases h2 : q = t
    · subst h2
      rw [if_pos rfl, List.getElem?_append_left (by omega), List.getElem?_append_right (by omega), ht, Nat.sub_self]; rfl
    · rw [if_neg h2, List.getElem?_append_right (by omega), hl, List.getElem?_drop, show t + (q - (t + 1)) = q - 1 from by omega, ← List.getD_eq_getElem?_getD]
theorem place_ok {b : Board} {w : RBoard} (R : BRel b w) {x : List Int} {k : Nat} (hk : k < b.defs.length) (hx : x.length ≤ k) (hm : ∀ q, q < x.length → ∃ i : Nat, i < k ∧ shn b i = true ∧ x.getD q 0 = ((i : Nat) : Int)) :
    ∃ t : Nat, loopO fuelN (o50_L1 w (x, k)) 0 = some t ∧ t ≤ x.length ∧ (∀ q, q < t → ltB b (x.getD q 0) ((k : Nat) : Int)) ∧ (t < x.length → ¬ ltB b (x.getD t 0) ((k : Nat) : Int)) := by
  have wb := R.2.2.2.2.2.1.2.1
  refine loopO_ok (f := o50_L1 w (x, k)) (fun s => s ≤ x.length ∧ ∀ q, q < s → ltB b (x.getD q 0) ((k : Nat) : Int)) (fun s => x.length - s) _ ?_ fuelN 0 ⟨Nat.zero_le _, fun q hq => by omega⟩ (by simp only [fuelN]; omega)
  rintro s ⟨h1, h2⟩
  unfold o50_L1
  obtain ⟨M, hM, hMb⟩ : ∃ M : Int, M = 9223372036854775807 ∧ M > 1000 := ⟨_, rfl, by decide⟩
  rw [← hM]
  simp only
  by_cases hlt : s < x.length
  · obtain ⟨i, i1, i2, i3⟩ := hm s hlt
    obtain ⟨v, v1, v2⟩ := o64_is R (i := i) (j := k) (by omega) hk
    rw [dt (by omega), cond_true, i3, v1, bindO_some rfl, bindO_some rfl]
    rw [← i3] at v2
    cases v with
    | true =>
      rw [cond_true, grd_at' (by omega)]
      refine .inl ⟨_, rfl, ⟨by omega, fun q hq => ?_⟩, by omega⟩
      by_cases hqs : q = s
      · subst hqs; exact v2.1 rfl
      · exact h2 q (by omega)
    | false => exact .inr ⟨_, rfl, h1, h2, fun _ h => by have := v2.2 h; cases this⟩
  · rw [df (by omega), cond_false, bindO_some rfl, cond_false]
    exact .inr ⟨_, rfl, h1, h2, fun h => absurd h hlt⟩
theorem o50_is {b : Board} {w : RBoard} (R : BRel b w) : o50 w = o19 b := by
  have hR := R
  obtain ⟨e1, e2, e3, e4, e5, wb, e6⟩ := R
  have hn := wb.2.1
  have o := ordB wb
  obtain ⟨r, r1, r2, r3, r4, r5, r6⟩ := o19_is wb
  rw [r1]
  unfold o50
  obtain ⟨x, hx, x1, x2, x3⟩ := loopO_ok (f := o50_L0 w) (fun s => s.2 ≤ b.defs.length ∧ s.1.length ≤ s.2 ∧ (∀ q, q < s.1.length → ∃ i : Nat, i < s.2 ∧ shn b i = true ∧ s.1.getD q 0 = ((i : Nat) : Int)) ∧ (∀ i, i < s.2 → shn b i = true → ∃ q, q < s.1.length ∧ s.1.getD q 0 = ((i : Nat) : Int)) ∧ Srt (ltB b) s.1 0 s.1.length) (fun s => b.defs.length - s.2)
    (fun x => (∀ q, q < x.length → ∃ i : Nat, i < b.defs.length ∧ shn b i = true ∧ x.getD q 0 = ((i : Nat) : Int)) ∧ (∀ i, i < b.defs.length → shn b i = true → ∃ q, q < x.length ∧ x.getD q 0 = ((i : Nat) : Int)) ∧ Srt (ltB b) x 0 x.length) (by
    rintro ⟨x, k⟩ ⟨h1, h2, h3, h4, h5⟩
    simp only at h1 h2 h3 h4 h5
    unfold o50_L0
    obtain ⟨M, hM, hMb⟩ : ∃ M : Int, M = 9223372036854775807 ∧ M > 1000 := ⟨_, rfl, by decide⟩
    rw [← hM, e1]
    simp only
    by_cases hlt : k < b.defs.length
    · rw [dt (by omega), cond_true, o57_is hR hlt, bindO_some rfl]
      cases hs : shn b k with
      | false =>
        simp only [Bool.not_false, cond_true]
        rw [bindO_some rfl, grd_at' (by omega)]
        refine .inl ⟨_, rfl, ⟨by simp only; omega, by simp only; omega, fun q hq => ?_, fun i hi hi2 => ?_, h5⟩, by simp only; omega⟩
        · obtain ⟨i, i1, i2, i3⟩ := h3 q hq
          exact ⟨i, by simp only; omega, i2, i3⟩
        · simp only at hi ⊢
          by_cases hik : i = k
          · subst hik; rw [hs] at hi2; cases hi2
          · exact h4 i (by omega) hi2
      | true =>
        simp only [Bool.not_true, cond_false]
        obtain ⟨t, t1, t2, t3, t4⟩ := place_ok hR hlt h2 h3
        have htl : (x.take t).length = t := by rw [List.length_take]; omega
        have hdl : (x.drop t).length = x.length - t := by rw [List.length_drop]
        rw [t1, bindO_some rfl, grd_at' (by omega), grd_at' (by omega), grd_at' (by simp only [List.length_cons, List.length_nil]; omega), grd_at' (by omega), grd_at' (by rw [List.length_append]; simp only [List.length_cons, List.length_nil]; omega), bindO_some rfl, grd_at' (by omega)]
        have hil := ins_len x t ((k : Nat) : Int) t2
        have hig := ins_get x t ((k : Nat) : Int) t2
        obtain ⟨z, hz⟩ : ∃ z, (x.take t ++ [((k : Nat) : Int)]) ++ x.drop t = z := ⟨_, rfl⟩
        rw [hz] at hil hig ⊢
        refine .inl ⟨_, rfl, ⟨by simp only; omega, by simp only; omega, fun q hq => ?_, fun i hi hi2 => ?_, fun p q _ hpq hq => ?_⟩, by simp only; omega⟩
        · simp only at hq ⊢
          rw [hig q]
          by_cases c1 : q < t
          · rw [if_pos c1]
            obtain ⟨i, i1, i2, i3⟩ := h3 q (by omega)
            exact ⟨i, by omega, i2, i3⟩
          · rw [if_neg c1]
            by_cases c2 : q = t
            · rw [if_pos c2]; exact ⟨k, by omega, hs, rfl⟩
            · rw [if_neg c2]
              obtain ⟨i, i1, i2, i3⟩ := h3 (q - 1) (by omega)
              exact ⟨i, by omega, i2, i3⟩
        · simp only at hi ⊢
          by_cases hik : i = k
          · subst hik; exact ⟨t, by omega, by rw [hig t, if_neg (by omega), if_pos rfl]⟩
          · obtain ⟨q, q1, q2⟩ := h4 i (by omega) hi2
            by_cases c1 : q < t
            · exact ⟨q, by omega, by rw [hig q, if_pos c1, q2]⟩
            · exact ⟨q + 1, by omega, by rw [hig (q + 1), if_neg (by omega), if_neg (by omega), Nat.add_sub_cancel, q2]⟩
        · simp only at hq ⊢
          have inb : ∀ q, q < x.length → inB b (x.getD q 0) := fun q hq => by
            obtain ⟨i, i1, i2, i3⟩ := h3 q hq
            rw [i3]; unfold inB; omega
          have ink : inB b ((k : Nat) : Int) := by unfold inB; omega
          rw [hig p, hig q]
          by_cases c1 : q < t
          · rw [if_pos (by omega : p < t), if_pos c1]; exact h5 p q (Nat.zero_le _) hpq (by omega)
          · rw [if_neg c1]
            by_cases c2 : q = t
            · rw [if_pos c2, if_pos (by omega)]; exact t3 p (by omega)
            · rw [if_neg c2]
              by_cases c3 : p < t
              · rw [if_pos c3]; exact h5 p (q - 1) (Nat.zero_le _) (by omega) (by omega)
              · rw [if_neg c3]
                by_cases c4 : p = t
                · rw [if_pos c4]
                  have htx : t < x.length := by omega
                  have hne : x.getD t 0 ≠ ((k : Nat) : Int) := by
                    obtain ⟨i, i1, i2, i3⟩ := h3 t htx
                    omega
                  have hkt : ltB b ((k : Nat) : Int) (x.getD t 0) := by
                    rcases o.tot _ _ (inb t htx) ink hne with h | h
                    · exact absurd h (t4 htx)
                    · exact h
                  by_cases c5 : q - 1 = t
                  · rw [c5]; exact hkt
                  · exact o.tr _ _ _ ink (inb t htx) (inb (q - 1) (by omega)) hkt (h5 t (q - 1) (Nat.zero_le _) (by omega) (by omega))
                · rw [if_neg c4]; exact h5 (p - 1) (q - 1) (Nat.zero_le _) (by omega) (by omega)
    · obtain rfl : k = b.defs.length := by omega
      rw [df (by omega), cond_false]
      exact .inr ⟨_, rfl, h3, h4, h5⟩) fuelN ([], 0) ⟨Nat.zero_le _, Nat.zero_le _, fun q hq => (by cases hq), fun i hi => (by simp only at hi; omega), fun p q _ _ hq => (by cases hq)⟩ (by simp only [fuelN]; omega)
  rw [hx, bindO_some rfl]
  congr 1
  have inx : ∀ q, q < x.length → inB b (x.getD q 0) := fun q hq => by
    obtain ⟨i, i1, i2, i3⟩ := x1 q hq
    rw [i3]; unfold inB; omega
  have inr : ∀ q, q < r.length → inB b (r.getD q 0) := fun q hq => by
    obtain ⟨i, i1, i2, i3⟩ := r4 q hq
    rw [i3]; unfold inB; omega
  refine srt_same o.irr o.tr inx inr (fun k hk => ?_) (fun k hk => ?_) x3 r6
  · obtain ⟨i, i1, i2, i3⟩ := x1 k hk
    obtain ⟨j, j1, j2⟩ := r5 i i1 i2
    exact ⟨j, j1, by rw [i3, j2]⟩
  · obtain ⟨i, i1, i2, i3⟩ := r4 k hk
    obtain ⟨j, j1, j2⟩ := x2 i i1 i2
    exact ⟨j, j1, by rw [i3, j2]⟩
theorem o51_is {b : Board} {w : RBoard} (R : BRel b w) : o51 w = o23 b := by
  obtain ⟨e1, e2, e3, e4, e5, wb, e6⟩ := R
  have hn := wb.2.1
  rw [o23_is wb, wb.1]
  unfold o51
  obtain ⟨x, hx, rfl⟩ := loopO_ok (f := o51_L0 w) (fun s => s.2 ≤ b.defs.length ∧ s.1 = sel (hld b) s.2) (fun s => b.defs.length - s.2) (fun r => r = sel (hld b) b.defs.length) (by
    rintro ⟨x, k⟩ ⟨hk, hx⟩
    simp only at hk hx
    subst hx
    unfold o51_L0
    obtain ⟨M, hM, hMb⟩ : ∃ M : Int, M = 9223372036854775807 ∧ M > 1000 := ⟨_, rfl, by decide⟩
    rw [← hM, e1]
    simp only
    by_cases hlt : k < b.defs.length
    · obtain ⟨q1, q2, q3⟩ := e6 k hlt
      have := sel_len (hld b) k
      rw [dt (by omega), cond_true, grd_at' (by omega), q1, pos_ne q3]
      cases hs : ((b.conds.getD k default).onset != 0) with
      | true =>
        rw [cond_true, grd_at' (by simp only [List.length_cons, List.length_nil]; omega), bindO_some rfl, grd_at' (by omega)]
        exact .inl ⟨_, rfl, ⟨by simp only; omega, by simp only; rw [sel, show hld b k = true from hs]; rfl⟩, by simp only; omega⟩
      | false =>
        rw [cond_false, bindO_some rfl, grd_at' (by omega)]
        exact .inl ⟨_, rfl, ⟨by simp only; omega, by simp only; rw [sel, show hld b k = false from hs]; rfl⟩, by simp only; omega⟩
    · obtain rfl : k = b.defs.length := by omega
      exact .inr ⟨_, cond_neg (df (by omega)), rfl⟩) fuelN ([], 0) ⟨Nat.zero_le _, rfl⟩ (by simp only [fuelN]; omega)
  rw [hx, bindO_some rfl]
theorem o52_is {b : Board} {w : RBoard} (R : BRel b w) : o52 w = o21 b := by
  unfold o52 o21
  rw [o50_is R, R.1]
theorem o54_is {b : Board} {w : RBoard} (R : BRel b w) : o54 w = o20 b := by
  unfold o54 o20
  have : ∀ y, o54_L0 w y = o20_L0 b y := fun y => by funext s; unfold o54_L0 o20_L0; rw [R.1]
  rw [o50_is R]
  simp only [this]
theorem o65_is (x : Int) : o65 x = some (putB x 8) := by
  unfold o65
  obtain ⟨r, h, rfl⟩ := loopO_ok (f := o65_L0 x) (fun s => s.2 ≤ 8 ∧ s.1 = putB x s.2) (fun s => 8 - s.2) (fun r => r = putB x 8) (by
    rintro ⟨p, k⟩ ⟨h1, h2⟩
    simp only at h1 h2
    subst h2
    unfold o65_L0
    obtain ⟨M, hM, hMb⟩ : ∃ M : Int, M = 9223372036854775807 ∧ M > 1000 := ⟨_, rfl, by decide⟩
    rw [← hM]
    simp only
    by_cases hlt : k < 8
    · have := putB_len x k
      rw [dt (by omega), cond_true, w8 (by omega), grd_at' (by omega), byte_u64 x k hlt, grd_at' (by simp only [List.length_cons, List.length_nil]; omega), grd_at' (by omega)]
      exact .inl ⟨_, rfl, ⟨by simp only; omega, by simp only; rw [putB_succ]⟩, by simp only; omega⟩
    · obtain rfl : k = 8 := by omega
      exact .inr ⟨_, cond_neg (df (by omega)), rfl⟩) fuelN ([], 0) ⟨Nat.zero_le _, rfl⟩ (by simp only [fuelN]; omega)
  rw [h, bindO_some rfl]
theorem o55_is {b : Board} {w : RBoard} (R : BRel b w) : o55 w = some (bytesB b) := by
  obtain ⟨e1, e2, e3, e4, e5, wb, e6⟩ := R
  have hn := wb.2.1
  have hp := wb.2.2
  have hcl := wb.1
  unfold o55
  rw [e2, e3, o65_is, bindO_some rfl, grd_at' hp, grd_at' (by rw [putB_len]; simp only [List.length_cons, List.length_nil]; omega)]
  obtain ⟨r, h, rfl⟩ := loopO_ok (f := o55_L0 w) (fun s => s.2 ≤ b.defs.length ∧ s.1 = putB b.steps 8 ++ [u8 b.phase] ++ bytesC b.conds s.2) (fun s => b.defs.length - s.2) (fun r => r = bytesB b) (by
    rintro ⟨x, k⟩ ⟨hk, hx⟩
    simp only at hk hx
    unfold o55_L0
    obtain ⟨M, hM, hMb⟩ : ∃ M : Int, M = 9223372036854775807 ∧ M > 1000 := ⟨_, rfl, by decide⟩
    rw [← hM, e1]
    simp only
    by_cases hlt : k < b.defs.length
    · obtain ⟨q1, q2, q3⟩ := e6 k hlt
      have hxl : x.length = 9 + 9 * k := by
        rw [hx, List.length_append, List.length_append, bytesC_len, putB_len]
        simp only [List.length_cons, List.length_nil]
      rw [dt (by omega), cond_true, grd_at' (by omega), letJ_def, grd_at' (by omega), letJ_def, q1, q2, pos_ne q3, o65_is, grd_at' (by simp only [List.length_cons, List.length_nil]; omega), grd_at' (by omega), bindO_some rfl, grd_at' (by rw [List.length_append, putB_len]; simp only [List.length_cons, List.length_nil]; omega), grd_at' (by omega)]
      refine .inl ⟨_, rfl, ⟨by simp only; omega, ?_⟩, by simp only; omega⟩
      have hfl : (((cond (b.conds.getD k default).acked ((cond ((b.conds.getD k default).onset != 0) 1 0) + 2) (cond ((b.conds.getD k default).onset != 0) 1 0) : Nat) : Nat) : Int) = flagsC (b.conds.getD k default) := by
        unfold flagsC
        cases (b.conds.getD k default).acked <;> cases ((b.conds.getD k default).onset != 0) <;> rfl
      simp only
      rw [hfl, hx, bytesC]
      simp only [List.append_assoc]
    · obtain rfl : k = b.defs.length := by omega
      refine .inr ⟨_, cond_neg (df (by omega)), ?_⟩
      rw [hx]; unfold bytesB; rw [hcl]) fuelN (putB b.steps 8 ++ [u8 b.phase], 0) ⟨Nat.zero_le _, by simp only [bytesC, List.append_nil]⟩ (by simp only [fuelN]; omega)
  rw [h, bindO_some rfl]
theorem o32_same (l : List Int) (hl : l.length ≤ 1000) : o32 l l = some true := by
  unfold o32
  rw [neq_f rfl, cond_false]
  obtain ⟨r, h, rfl⟩ := loopO_ok (f := o32_L0 l l) (fun s => s ≤ l.length) (fun s => l.length - s) (fun r => r = Ctl.go ()) (by
    intro k hk
    unfold o32_L0
    obtain ⟨M, hM, hMb⟩ : ∃ M : Int, M = 9223372036854775807 ∧ M > 2000 := ⟨_, rfl, by decide⟩
    rw [← hM]
    by_cases hlt : k < l.length
    · rw [dt (by omega), cond_true, grd_at' hlt, neq_f rfl, cond_false, grd_at' (by omega)]
      exact .inl ⟨_, rfl, by omega, by omega⟩
    · exact .inr ⟨_, cond_neg (df (by omega)), rfl⟩) fuelN 0 (Nat.zero_le _) (by simp only [fuelN]; omega)
  rw [h, joinO_go rfl]
theorem o53_same (l : List (List UInt8)) (hl : l.length ≤ 1000) : o53 l l = some true := by
  unfold o53
  rw [neq_f rfl, cond_false]
  obtain ⟨r, h, rfl⟩ := loopO_ok (f := o53_L0 l l) (fun s => s ≤ l.length) (fun s => l.length - s) (fun r => r = Ctl.go ()) (by
    intro k hk
    unfold o53_L0
    obtain ⟨M, hM, hMb⟩ : ∃ M : Int, M = 9223372036854775807 ∧ M > 2000 := ⟨_, rfl, by decide⟩
    rw [← hM]
    by_cases hlt : k < l.length
    · rw [dt (by omega), cond_true, grd_at' hlt, beq_self_eq_true]
      simp only [Bool.not_true, cond_false]
      rw [grd_at' (by omega)]
      exact .inl ⟨_, rfl, by omega, by omega⟩
    · exact .inr ⟨_, cond_neg (df (by omega)), rfl⟩) fuelN 0 (Nat.zero_le _) (by simp only [fuelN]; omega)
  rw [h, joinO_go rfl]
theorem o27_true {b : Board} {w : RBoard} (R : BRel b w) : o27 b w = some true := by
  have wb := R.2.2.2.2.2.1
  have hn := wb.2.1
  obtain ⟨r, r1, r2, r3, r4, r5, r6⟩ := o19_is wb
  have h21 := o21_is r1 r4
  have h20 := o20_is r1 (by omega) r4
  have hs := sel_len (hld b) b.conds.length
  have hcl := wb.1
  unfold o27
  rw [o50_is R, o51_is R, o52_is R, o54_is R, o55_is R, r1, o23_is wb, h21, h20, o22_is wb, bindO_some rfl, bindO_some rfl, o32_same r (by omega), bindO_some rfl, cond_true, bindO_some rfl, bindO_some rfl, o32_same _ (by omega), bindO_some rfl, bindO_some rfl, cond_true, bindO_some rfl, bindO_some rfl, beq_self_eq_true, bindO_some rfl, cond_true, bindO_some rfl, bindO_some rfl, o53_same _ (by rw [List.length_map]; omega), bindO_some rfl, bindO_some rfl, cond_true, bindO_some rfl, bindO_some rfl, beq_self_eq_true, bindO_some rfl]
end Go.Proofs.Ytfhchendnfpbkaa
