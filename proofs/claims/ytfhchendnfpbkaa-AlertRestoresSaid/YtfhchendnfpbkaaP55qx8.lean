/-
Any bytes as the state of a board. Conditions: each lemma's own.
-/
import Derived.Test.YtfhchendnfpbkaaP55rx8
namespace Go.Proofs.Ytfhchendnfpbkaa
set_option linter.unusedVariables false
set_option linter.unusedSimpArgs false
open Go.RowKit
theorem o49_is (p : List UInt8) (h : 8 ≤ p.length) : o49 p = some (getI p 8) := by
  rw [← o48_is p h]
  unfold o49 o48
  rw [show o49_L0 p = o48_L0 p from rfl]
theorem badS_eq {s : Int} (h : 0 ≤ s) (y Y : Int) : (((((s != 0) && (s != 1)) && (s != 3)) || ((s == 0) && (y != 0))) || (decide (s > 0) && (decide (y < 1) || decide (y > Y)))) = badS s y Y := by
  unfold badS
  rw [pos_ne h]
  congr 2
  by_cases h0 : s = 0
  · subst h0; rfl
  by_cases h1 : s = 1
  · subst h1; rfl
  by_cases h2 : s = 2
  · subst h2; rfl
  by_cases h3 : s = 3
  · subst h3; rfl
  rw [neq_t h0, neq_t h1, neq_t h3, dt (by omega : s > 3)]; rfl
theorem o26_round (l : List AlertDef) (p : List UInt8) (Y : Int) (k : Nat) (on : List Int) (ak : List Bool) (hk : k < l.length) (hd : l.length ≤ 18) (hp : p.length = 9 + 9 * l.length) (h1 : on.length = l.length) (h2 : ak.length = l.length) :
    o26_L0 l p Y (k, on, ak) = some (cond (badS ((p.getD (9 + 9 * k) 0).toNat : Int) (getI (p.drop (10 + 9 * k)) 8) Y) (Ctl.done (Ctl.done (⟨[], 0, 0, [], []⟩, 4))) (Ctl.go (k + 1, on.set k (getI (p.drop (10 + 9 * k)) 8), ak.set k (((p.getD (9 + 9 * k) 0).toNat : Int) == 3)))) := by
  unfold o26_L0
  obtain ⟨M, hM, hMb⟩ : ∃ M : Int, M = 9223372036854775807 ∧ M > 1000 := ⟨_, rfl, by decide⟩
  rw [← hM]
  simp only
  have e9 : (9 + 9 * ((k : Nat) : Int)).toNat = 9 + 9 * k := by omega
  have e10 : (10 + 9 * ((k : Nat) : Int)).toNat = 10 + 9 * k := by omega
  have hdl2 : (p.drop (10 + 9 * k)).length = p.length - (10 + 9 * k) := List.length_drop
  rw [dt (by omega), cond_true, wN9 (by omega) 9 (by decide), wN9 (by omega) 10 (by decide), e9, e10, grd_at' (by omega), grd_at' (by omega), o49_is _ (by omega), bindO_some rfl, badS_eq (by omega)]
  cases badS ((p.getD (9 + 9 * k) 0).toNat : Int) (getI (p.drop (10 + 9 * k)) 8) Y with
  | true => rfl
  | false =>
    rw [cond_false, cond_false, grd_at' (by omega), grd_at' (by omega), grd_at' (by omega)]
theorem flags_of {y : Int} {s : Int} (h : (s = 0 ∧ y = 0) ∨ ((s = 1 ∨ s = 3) ∧ 1 ≤ y)) : flagsC ⟨y, s == 3⟩ = s := by
  unfold flagsC
  simp only
  rcases h with ⟨rfl, rfl⟩ | ⟨rfl | rfl, h⟩
  · rfl
  · rw [neq_t (by omega : y ≠ 0)]; rfl
  · rw [neq_t (by omega : y ≠ 0)]; rfl
theorem cons_take (p : List UInt8) {a n : Nat} (h : a < p.length) : (p.drop a).take (n + 1) = p.getD a 0 :: (p.drop (a + 1)).take n := by
  rw [List.drop_eq_getElem_cons h, List.take_succ_cons, List.getD_eq_getElem?_getD, List.getElem?_eq_getElem h]; rfl
theorem bytesC_of (p : List UInt8) (cs : List Cnd) (n : Nat) (hp : p.length = 9 + 9 * n) (h : ∀ j, j < n → [u8 (flagsC (cs.getD j default))] ++ putB (cs.getD j default).onset 8 = (p.drop (9 + 9 * j)).take 9) : ∀ k, k ≤ n → bytesC cs k = (p.drop 9).take (9 * k)
  | 0, _ => by rw [Nat.mul_zero, List.take_zero]; rfl
  | k + 1, hk => by
    rw [bytesC, bytesC_of p cs n hp h k (by omega), List.append_assoc, h k (by omega), Nat.mul_succ, List.take_add, List.drop_drop]
theorem restore_ok (l : List AlertDef) (p : List UInt8) (hl : l.length ≤ 18) (hp : p.length ≤ 1000000) :
    ∃ x y, o25 l p = some x ∧ o26 l p = some y ∧ x.2 = y.2 ∧ ((x.2 ≠ 0 ∧ x.1 = none) ∨ (x.2 = 0 ∧ ∃ b, x.1 = some b ∧ BRel b y.1 ∧ bytesB b = p)) := by
  obtain ⟨v, hv, hv0⟩ := o13_told l
  unfold o25 o26
  by_cases h0 : v = 0
  rotate_left
  · rw [o12_no l hv h0, o28_no l hv h0, bindO_some rfl, bindO_some rfl]
    simp only
    rw [neq_t h0, cond_true, cond_true]
    exact ⟨_, _, rfl, rfl, rfl, .inl ⟨h0, rfl⟩⟩
  subst h0
  have hl16 := hv0 rfl
  rw [o12_is l hv hl16, o28_is l hv hl16, bindO_some rfl, bindO_some rfl]
  simp only
  rw [neq_f rfl, cond_false, cond_false]
  by_cases hlen : p.length = 9 + 9 * l.length
  rotate_left
  · rw [neq_t (by omega), cond_true, cond_true]
    exact ⟨_, _, rfl, rfl, rfl, .inl ⟨by decide, rfl⟩⟩
  rw [neq_f (by omega), cond_false, cond_false, o48_is p (by omega), o49_is p (by omega), bindO_some rfl, bindO_some rfl, bindO_some rfl]
  obtain ⟨Y, hY⟩ : ∃ Y, getI p 8 = Y := ⟨_, rfl⟩
  rw [hY]
  cases hbad : ((((decide (Y < 0) || decide (Y > 4611686018427387904)) || decide ((((p.getD 8 0).toNat : Nat) : Int) < 1)) || decide ((((p.getD 8 0).toNat : Nat) : Int) > 8)) || ((Y == 0) && ((((p.getD 8 0).toNat : Nat) : Int) != 1))) with
  | true => exact ⟨_, _, rfl, rfl, rfl, .inl ⟨by simp only; decide, rfl⟩⟩
  | false =>
  rw [cond_false, cond_false]
  simp only [Bool.or_eq_false_iff, Bool.and_eq_false_iff, decide_eq_false_iff_not, beq_eq_false_iff_ne, bne_eq_false_iff_eq] at hbad
  obtain ⟨v, v', L1, L2, hQ⟩ := loop_rel (f := o25_L0 p Y ⟨l, 0, 1, List.replicate l.length default⟩) (g := o26_L0 l p Y)
    (fun (s : Nat × (List Cnd)) (t : Nat × (List Int) × (List Bool)) => s.1 = t.1 ∧ s.1 ≤ l.length ∧ s.2.length = l.length ∧ t.2.1.length = l.length ∧ t.2.2.length = l.length ∧ (∀ j, j < l.length → t.2.1.getD j 0 = (s.2.getD j default).onset ∧ t.2.2.getD j false = (s.2.getD j default).acked ∧ 0 ≤ (s.2.getD j default).onset) ∧ ∀ j, j < s.1 → [u8 (flagsC (s.2.getD j default))] ++ putB (s.2.getD j default).onset 8 = (p.drop (9 + 9 * j)).take 9)
    (fun s => l.length - s.1)
    (fun v v' => (v = Ctl.done (none, 4) ∧ v' = Ctl.done (⟨[], 0, 0, [], []⟩, 4)) ∨ ∃ cs on ak, v = Ctl.go cs ∧ v' = Ctl.go (on, ak) ∧ cs.length = l.length ∧ on.length = l.length ∧ ak.length = l.length ∧ (∀ j, j < l.length → on.getD j 0 = (cs.getD j default).onset ∧ ak.getD j false = (cs.getD j default).acked ∧ 0 ≤ (cs.getD j default).onset) ∧ ∀ j, j < l.length → [u8 (flagsC (cs.getD j default))] ++ putB (cs.getD j default).onset 8 = (p.drop (9 + 9 * j)).take 9) (by
      rintro ⟨k, cs⟩ ⟨k', on, ak⟩ ⟨h1, h2, h3, h4, h5, h6, h7⟩
      simp only at h1 h2 h3 h4 h5 h6 h7
      subst h1
      by_cases hlt : k < l.length
      · rw [o25_round p Y ⟨l, 0, 1, List.replicate l.length default⟩ k cs (by simp only [List.length_replicate]; exact hlt) (by simp only [List.length_replicate]; omega) (by simp only [List.length_replicate]; exact hlen) (by simp only [List.length_replicate]; exact h3), o26_round l p Y k on ak hlt (by omega) hlen h4 h5]
        cases hb : badS ((p.getD (9 + 9 * k) 0).toNat : Int) (getI (p.drop (10 + 9 * k)) 8) Y with
        | true => exact .inl ⟨_, _, rfl, rfl, .inl ⟨rfl, rfl⟩⟩
        | false =>
          have hs := badS_no (beqS _).1 hb
          refine .inr ⟨_, _, rfl, rfl, ⟨rfl, by simp only; omega, by simp only [List.length_set]; exact h3, by simp only [List.length_set]; exact h4, by simp only [List.length_set]; exact h5, fun j hj => ?_, fun j hj => ?_⟩, by simp only; omega⟩
          · simp only
            by_cases hkj : k = j
            · subst hkj
              rw [getD_set, getD_setC, getD_setBw, if_pos (show k = k ∧ k < on.length from ⟨rfl, by omega⟩), if_pos (show k = k ∧ k < cs.length from ⟨rfl, by omega⟩), if_pos (show k = k ∧ k < ak.length from ⟨rfl, by omega⟩)]
              exact ⟨rfl, rfl, by simp only; omega⟩
            · rw [getD_set, getD_setC, getD_setBw, if_neg (fun h => hkj h.1), if_neg (fun h => hkj h.1), if_neg (fun h => hkj h.1)]
              exact h6 j hj
          · simp only at hj ⊢
            by_cases hkj : k = j
            · subst hkj
              have hfl := flags_of (y := getI (p.drop (10 + 9 * k)) 8) (s := ((p.getD (9 + 9 * k) 0).toNat : Int)) (by rcases hs with ⟨a, b⟩ | ⟨a, b, c⟩; exact .inl ⟨a, b⟩; exact .inr ⟨a, b⟩)
              have hpl : 8 ≤ (p.drop (10 + 9 * k)).length := by rw [List.length_drop]; omega
              have hct := cons_take p (a := 9 + 9 * k) (n := 8) (by omega)
              rw [show 9 + 9 * k + 1 = 10 + 9 * k from by omega] at hct
              rw [getD_setC, if_pos (show k = k ∧ k < cs.length from ⟨rfl, by omega⟩), hfl, u8_of_toNat, putB_getI _ hpl, hct, List.singleton_append]
            · rw [getD_setC, if_neg (fun h => hkj h.1)]
              exact h7 j (by omega)
      · obtain rfl : k = l.length := by omega
        refine .inl ⟨Ctl.go cs, Ctl.go (on, ak), ?_, ?_, .inr ⟨cs, on, ak, rfl, rfl, h3, h4, h5, h6, h7⟩⟩
        · unfold o25_L0; exact cond_neg (df (by simp only [List.length_replicate]; omega))
        · unfold o26_L0; exact cond_neg (df (by omega))) fuelN (0, List.replicate l.length default) (0, List.replicate l.length 0, List.replicate l.length false) (by
      obtain ⟨-, -, -, q1, q2, q3, q4⟩ := new_rel l hl16
      exact ⟨rfl, Nat.zero_le _, q3.1, q1, q2, q4, fun j hj => by simp only at hj; omega⟩) (by simp only [fuelN]; omega)
  rw [L1, L2]
  rcases hQ with ⟨rfl, rfl⟩ | ⟨cs, on, ak, rfl, rfl, c1, c2, c3, c4, c5⟩
  · exact ⟨_, _, rfl, rfl, rfl, .inl ⟨by simp only; decide, rfl⟩⟩
  · refine ⟨_, _, rfl, rfl, rfl, .inr ⟨rfl, _, rfl, ⟨rfl, rfl, rfl, c2, c3, ⟨c1, by simp only; omega, by simp only; omega, by simp only; omega⟩, c4⟩, ?_⟩⟩
    unfold bytesB
    simp only
    rw [c1, bytesC_of p cs l.length hlen c5 l.length (Nat.le_refl _), ← hY, putB_getI p (by omega), u8_of_toNat, List.append_assoc]
    have e : [p.getD 8 0] ++ (p.drop 9).take (9 * l.length) = p.drop 8 := by
      have := cons_take p (a := 8) (n := 9 * l.length) (by omega)
      rw [show 8 + 1 = 9 from rfl] at this
      rw [List.singleton_append]
      rw [← this, List.take_of_length_le (by rw [List.length_drop]; omega)]
    rw [e, List.take_append_drop]
end Go.Proofs.Ytfhchendnfpbkaa
