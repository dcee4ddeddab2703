/-
AlertShows in plain words. Conditions: each lemma's own.
-/
import Derived.Test.YtfhchendnfpbkaaR55
import Derived.Test.YtfhchendnfpbkaaK5x0
namespace Go.Proofs.Ytfhchendnfpbkaa
set_option linter.unusedVariables false
set_option linter.unusedSimpArgs false
open Go.RowKit
theorem getD_setB (l : List Bool) (i k : Nat) (v : Bool) : (l.set i v).getD k false = if i = k ∧ k < l.length then v else l.getD k false := by
  rw [List.getD_eq_getElem?_getD, List.getElem?_set]
  by_cases h : i = k
  · subst h
    by_cases h2 : i < l.length
    · rw [if_pos rfl, if_pos h2, if_pos ⟨rfl, h2⟩]; rfl
    · rw [if_pos rfl, if_neg h2, if_neg (fun h => h2 h.2), List.getD_eq_getElem?_getD, List.getElem?_eq_none (by omega)]
  · rw [if_neg h, if_neg (fun h' => h h'.1), ← List.getD_eq_getElem?_getD]
theorem getD_repB (n k : Nat) : (List.replicate n false).getD k false = false := by
  rw [List.getD_eq_getElem?_getD, List.getElem?_replicate]; split <;> rfl
/-- what the law keeps of a board -/
def Kept (k : Nat) (H A : List Bool) (b : Board) : Prop := b.defs = stdL ∧ WB b ∧ b.steps = ((k : Nat) : Int) ∧ H.length = 16 ∧ A.length = 16 ∧ ∀ j, j < 16 → H.getD j false = ((b.conds.getD j default).onset != 0) ∧ A.getD j false = (b.conds.getD j default).acked ∧ (A.getD j false = true → H.getD j false = true)
theorem L3_ok (acts : List Act) (s23 : Nat × (List Bool) × (List Bool) × Board) (H A : List Bool) (hH : H.length = 16) (hA : A.length = 16) :
    ∃ r, loopO fuelN (o5_L3 acts s23) (0, H, A) = some r ∧ r.1.length = 16 ∧ r.2.length = 16 ∧ ∀ j, j < 16 → r.1.getD j false = (cond (H.getD j false) (!(bit0 (acts.getD s23.1 default).conds j)) false) ∧ r.2.getD j false = !(bit0 (acts.getD s23.1 default).conds j) := by
  refine loopO_ok (f := o5_L3 acts s23) (fun s => s.1 ≤ 16 ∧ s.2.1.length = 16 ∧ s.2.2.length = 16 ∧ ∀ j, j < 16 → (s.2.1.getD j false = if j < s.1 then (cond (H.getD j false) (!(bit0 (acts.getD s23.1 default).conds j)) false) else H.getD j false) ∧ (j < s.1 → s.2.2.getD j false = !(bit0 (acts.getD s23.1 default).conds j))) (fun s => 16 - s.1) _ ?_ fuelN (0, H, A) ⟨Nat.zero_le _, hH, hA, fun j hj => ⟨by simp only; rw [if_neg (by omega)], fun h => by simp only at h; omega⟩⟩ (by simp only [fuelN]; omega)
  rintro ⟨k, x, y⟩ ⟨h1, h2, h3, h4⟩
  simp only at h1 h2 h3 h4
  unfold o5_L3
  obtain ⟨M, hM⟩ : ∃ M : Int, M = 9223372036854775807 := ⟨_, rfl⟩
  rw [← hM]
  simp only
  by_cases hlt : k < 16
  · have hk := (h4 k hlt).1
    rw [if_neg (by omega)] at hk
    rw [dt (by omega), cond_true, letJ_def, grd_at' (by omega), getD_setB, if_pos ⟨rfl, by omega⟩, bit1, hk]
    refine .inl ⟨_, rfl, ⟨by simp only; omega, by simp only [List.length_set]; exact h2, by simp only [List.length_set]; exact h3, fun j hj => ?_⟩, by simp only; omega⟩
    simp only
    by_cases hkj : k = j
    · subst hkj
      refine ⟨?_, fun _ => ?_⟩
      · rw [getD_setB, if_pos (show k = k ∧ k < x.length from ⟨rfl, by omega⟩), if_pos (Nat.lt_succ_self k)]; rfl
      · rw [getD_setB, if_pos (show k = k ∧ k < y.length from ⟨rfl, by omega⟩)]; rfl
    · refine ⟨?_, fun h => ?_⟩
      · rw [getD_setB, if_neg (fun h => hkj h.1), (h4 j hj).1]
        by_cases hj2 : j < k
        · rw [if_pos hj2, if_pos (show j < k + 1 by omega)]
        · rw [if_neg hj2, if_neg (show ¬ j < k + 1 by omega)]
      · rw [getD_setB, if_neg (fun h => hkj h.1)]
        exact (h4 j hj).2 (by omega)
  · rw [df (by omega), cond_false]
    refine .inr ⟨_, rfl, h2, h3, fun j hj => ⟨by rw [(h4 j hj).1, if_pos (by omega)], (h4 j hj).2 (by omega)⟩⟩
theorem step_kept {k : Nat} (hk : k ≤ 20) {H A H' A' : List Bool} {b : Board} (kp : Kept k H A b) {conds phase : Int} {cs : List Cnd} (hph : 1 ≤ phase ∧ phase ≤ 8) (hl : cs.length = b.defs.length) (hcs : ∀ j, j < b.defs.length → cs.getD j default = stepC conds (((k + 1 : Nat) : Nat) : Int) j (b.conds.getD j default)) (hH : H'.length = 16) (hA : A'.length = 16)
    (hh : ∀ j, j < 16 → A'.getD j false = (cond (A.getD j false) (!(bit0 conds j)) false) ∧ H'.getD j false = !(bit0 conds j)) : Kept (k + 1) H' A' ⟨b.defs, ((k + 1 : Nat) : Int), phase, cs⟩ := by
  obtain ⟨k1, k2, k3, k4, k5, k6⟩ := kp
  have hn : b.defs.length = 16 := by rw [k1, std_len]
  refine ⟨k1, ⟨hl, k2.2.1, by simp only; omega, by simp only; omega⟩, rfl, hH, hA, fun j hj => ?_⟩
  obtain ⟨q1, q2⟩ := hh j hj
  obtain ⟨p1, p2, p3⟩ := k6 j hj
  simp only
  rw [q1, q2, hcs j (by omega)]
  unfold stepC
  cases hb : bit0 conds j with
  | true =>
    simp only [cond_true, Bool.not_true]
    refine ⟨rfl, ?_, ?_⟩
    · cases A.getD j false <;> rfl
    · cases A.getD j false <;> (intro h; cases h)
  | false =>
    simp only [cond_false, Bool.not_false]
    by_cases h0 : (b.conds.getD j default).onset = 0
    · rw [eq_t h0, cond_true]
      rw [neq_f h0] at p1
      have hA : A.getD j false = false := by
        cases h : A.getD j false with
        | false => rfl
        | true => rw [p3 h] at p1; cases p1
      rw [hA]
      exact ⟨(neq_t (by simp only; omega)).symm, rfl, fun _ => trivial⟩
    · rw [eq_f h0, cond_false]
      refine ⟨(neq_t h0).symm, ?_, fun _ => trivial⟩
      rw [← p2]
      cases A.getD j false <;> rfl
theorem L2_ok {r : List Int} (hl : r.length ≤ 16) (hi : Inj r) (hin : ∀ q, q < r.length → ∃ i : Nat, i < 16 ∧ r.getD q 0 = ((i : Nat) : Int)) :
    ∃ on, loopO fuelN (o5_L2 r) (0, List.replicate 16 false) = some (Ctl.go on) ∧ on.length = 16 ∧ ∀ j, j < 16 → (on.getD j false = true ↔ ∃ q, q < r.length ∧ r.getD q 0 = ((j : Nat) : Int)) := by
  obtain ⟨v, h, on, rfl, h1, h2⟩ := loopO_ok (f := o5_L2 r) (fun s => s.1 ≤ r.length ∧ s.2.length = 16 ∧ ∀ j, j < 16 → (s.2.getD j false = true ↔ ∃ q, q < s.1 ∧ r.getD q 0 = ((j : Nat) : Int))) (fun s => r.length - s.1) (fun v => ∃ on, v = Ctl.go on ∧ on.length = 16 ∧ ∀ j, j < 16 → (on.getD j false = true ↔ ∃ q, q < r.length ∧ r.getD q 0 = ((j : Nat) : Int))) (by
    rintro ⟨k, x⟩ ⟨h1, h2, h3⟩
    simp only at h1 h2 h3
    unfold o5_L2
    obtain ⟨M, hM⟩ : ∃ M : Int, M = 9223372036854775807 := ⟨_, rfl⟩
    rw [← hM]
    simp only
    by_cases hlt : k < r.length
    · obtain ⟨i, i1, i2⟩ := hin k hlt
      have ei : (((i : Nat) : Int)).toNat = i := by omega
      have hno : x.getD i false = false := by
        cases h : x.getD i false with
        | false => rfl
        | true =>
          obtain ⟨q, q1, q2⟩ := (h3 i i1).1 h
          have := hi q k (by omega) hlt (by rw [q2, i2])
          omega
      rw [dt (by omega), cond_true, i2, df (by omega : ¬ ((i : Nat) : Int) < 0), df (by omega : ¬ ((i : Nat) : Int) > 15), ei, hno, letJ_def]
      simp only [Bool.or_false, cond_false]
      rw [grd_at' (by omega), grd_at' (by omega)]
      refine .inl ⟨_, rfl, ⟨by simp only; omega, by simp only [List.length_set]; exact h2, fun j hj => ?_⟩, by simp only; omega⟩
      simp only
      rw [getD_setB]
      by_cases hij : i = j
      · subst hij
        rw [if_pos ⟨rfl, by omega⟩]
        exact ⟨fun _ => ⟨k, by omega, i2⟩, fun _ => rfl⟩
      · rw [if_neg (fun h => hij h.1), h3 j hj]
        constructor
        · rintro ⟨q, q1, q2⟩; exact ⟨q, by omega, q2⟩
        · rintro ⟨q, q1, q2⟩
          by_cases hqk : q = k
          · subst hqk; rw [i2] at q2; omega
          · exact ⟨q, by omega, q2⟩
    · obtain rfl : k = r.length := by omega
      exact .inr ⟨_, cond_neg (df (by omega)), x, rfl, h2, h3⟩) fuelN (0, List.replicate 16 false) ⟨Nat.zero_le _, List.length_replicate, fun j hj => by
        simp only
        rw [getD_repB]
        constructor
        · intro h; cases h
        · rintro ⟨q, q1, -⟩; omega⟩ (by simp only [fuelN]; omega)
  exact ⟨on, h, h1, h2⟩
theorem shn_kept {k : Nat} {H A : List Bool} {b : Board} (kp : Kept k H A b) {j : Nat} (hj : j < 16) : shn b j = cond (cond (H.getD j false) (!(A.getD j false)) false) ((landK .u16 (shrK .u16 (stdL.getD j default).inhibit b.phase) 1) == 0) false := by
  obtain ⟨k1, k2, k3, k4, k5, k6⟩ := kp
  obtain ⟨p1, p2, p3⟩ := k6 j hj
  unfold shn
  rw [k1, p1, p2]
  cases ((b.conds.getD j default).onset != 0) <;> rfl
theorem L1_ok (acts : List Act) (s23 : Nat × (List Bool) × (List Bool) × Board) (t39 : (List Bool) × (List Bool)) (b : Board) (A on : List Bool) {k : Nat} (kp : Kept k t39.2 A b) (hph : (IntKind.u8.wrap ((Int.tmod (acts.getD s23.1 default).phase 8) + 1)) = b.phase)
    (hon : ∀ j, j < 16 → on.getD j false = shn b j) : loopO fuelN (o5_L1 acts stdL s23 t39 (b, A) on) 0 = some (Ctl.go ()) := by
  obtain ⟨v, h, rfl⟩ := loopO_ok (f := o5_L1 acts stdL s23 t39 (b, A) on) (fun s => s ≤ 16) (fun s => 16 - s) (fun v => v = Ctl.go ()) (by
    intro s hs
    unfold o5_L1
    obtain ⟨M, hM⟩ : ∃ M : Int, M = 9223372036854775807 := ⟨_, rfl⟩
    rw [← hM, hph]
    simp only
    by_cases hlt : s < 16
    · have hsh := shn_kept kp hlt
      have hsl := std_len
      rw [dt (by omega), cond_true, letJ_def]
      have hc : (bindO (τ := Bool) (cond (cond (t39.2.getD s false) (!(A.getD s false)) false) (grd (decide (s < stdL.length)) (some ((landK .u16 (shrK .u16 (stdL.getD s default).inhibit b.phase) 1) == 0))) (some false)) fun t71 => (cond ((!((on.getD s false) == t71))) (some (Ctl.done (Ctl.done (Ctl.done (Ctl.done (Ctl.done ((false)))))))) (grd (decide (((s : Nat) : Int) + 1 ≤ M)) (some (Ctl.go (s + 1)))))) = (some (Ctl.go (s + 1)) : Option (Ctl (Nat) (Ctl (Unit) (Ctl (Board × (List Bool) × (List Bool)) (Ctl (Nat × (List Bool) × (List Bool) × Board) (Ctl (Unit) (Bool))))))) := by
        rw [hon s hlt, hsh]
        cases (cond (t39.2.getD s false) (!(A.getD s false)) false) with
        | true =>
          rw [cond_true, cond_true, grd_at' (by omega), bindO_some rfl]
          simp only [beq_self_eq_true, Bool.not_true, cond_false]
          exact grd_at' (by omega)
        | false =>
          rw [cond_false, cond_false, bindO_some rfl]
          simp only [beq_self_eq_true, Bool.not_true, cond_false]
          exact grd_at' (by omega)
      exact .inl ⟨s + 1, hc, by omega, by omega⟩
    · exact .inr ⟨_, cond_neg (df (by omega)), rfl⟩) fuelN 0 (Nat.zero_le _) (by simp only [fuelN]; omega)
  exact h
def okA (a : Act) : Prop := (0 ≤ a.conds ∧ a.conds ≤ 65535) ∧ (0 ≤ a.phase ∧ a.phase ≤ 255)
theorem alertShows_plain (acts : List Act) (ok : ∀ j, j < acts.length → okA (acts.getD j default)) : o5 acts = some true := by
  unfold o5
  have hsl := std_len
  rw [o10_true, bindO_some rfl]
  simp only [Bool.not_true, cond_false]
  rw [o15_eq, bindO_some rfl, o12_std, bindO_some rfl]
  simp only [Option.isNone_some, Bool.or_false]
  rw [neq_f rfl, cond_false, bindO_some rfl]
  obtain ⟨v, h, rfl⟩ := loopO_ok (f := o5_L0 acts stdL) (fun s => s.1 ≤ 20 ∧ Kept s.1 s.2.2.1 s.2.1 s.2.2.2) (fun s => 20 - s.1) (fun v => v = Ctl.go ()) (by
    rintro ⟨k, A, H, b⟩ ⟨h1, kp⟩
    simp only at h1 kp
    unfold o5_L0
    obtain ⟨M, hM⟩ : ∃ M : Int, M = 9223372036854775807 := ⟨_, rfl⟩
    rw [← hM]
    by_cases hc : k < acts.length ∧ k < 20
    · simp only
      obtain ⟨⟨c1, c2⟩, ⟨f1, f2⟩⟩ := ok k hc.1
      have hkp := kp
      obtain ⟨k1, k2, k3, k4, k5, k6⟩ := kp
      have hn : b.defs.length = 16 := by rw [k1, hsl]
      have hph : 1 ≤ (IntKind.u8.wrap ((Int.tmod (acts.getD k default).phase 8) + 1)) ∧ (IntKind.u8.wrap ((Int.tmod (acts.getD k default).phase 8) + 1)) ≤ 8 := by
        rw [Int.tmod_eq_emod_of_nonneg f1, wr_u8 (by omega)]; omega
      obtain ⟨ph, hphe⟩ : ∃ ph, (IntKind.u8.wrap ((Int.tmod (acts.getD k default).phase 8) + 1)) = ph := ⟨_, rfl⟩
      rw [hphe] at hph ⊢
      obtain ⟨cs, s1, s2, s3⟩ := o17_is k2 (acts.getD k default).conds ph (by rw [hn]; exact shr16 ⟨c1, c2⟩) hph
      rw [k3, wr64 (by omega), show ((k : Nat) : Int) + 1 = ((k + 1 : Nat) : Int) from rfl] at s1 s3
      obtain ⟨⟨A', H'⟩, l1, l2, l3, l4⟩ := L3_ok acts (k, A, H, b) A H k5 k4
      simp only at l2 l3 l4
      have kp1 := step_kept (by omega) hkp hph s2 s3 l3 l2 (fun j hj => l4 j hj)
      rw [dt (by omega), dt (by omega), s1]
      simp only [Bool.and_self, cond_true]
      rw [bindO_some rfl]
      simp only
      rw [neq_f rfl, cond_false, l1, bindO_some rfl]
      obtain ⟨b1, hb1⟩ : ∃ b1 : Board, b1 = ⟨b.defs, ((k + 1 : Nat) : Int), ph, cs⟩ := ⟨_, rfl⟩
      rw [← hb1] at kp1 ⊢
      have hpb1 : b1.phase = ph := by rw [hb1]
      have mid : ∃ b2 A2, Kept (k + 1) H' A2 b2 ∧ b2.phase = ph ∧ (cond (((Int.tmod (List.getD acts k default).kind 2) == 1)) (letJ (τ := Bool) (cond ((List.getD H' ((landK .i64 (List.getD acts k default).index 15)).toNat false)) (!(List.getD A' ((landK .i64 (List.getD acts k default).index 15)).toNat false)) (false)) fun t110 => (bindO (τ := Bool) (cond (t110) (grd (decide (0 ≤ (landK .i64 (List.getD acts k default).index 15) ∧ (landK .i64 (List.getD acts k default).index 15) < (((stdL).length : Nat) : Int))) (some ((landK .u16 (shrK .u16 (List.getD stdL ((landK .i64 (List.getD acts k default).index 15)).toNat default).inhibit ph) 1) == 0))) (some (false))) fun t113 => (bindO (τ := Board × Int) (o18 b1 ((landK .i64 (List.getD acts k default).index 15) : Int)) fun y116 => (cond ((!((y116.2 == 0) == t113))) (some (Ctl.done (Ctl.done (Ctl.done (Ctl.done ((false))))))) (some (Ctl.go ((y116.1 : Board), ((List.set A' ((landK .i64 (List.getD acts k default).index 15)).toNat ((List.getD A' ((landK .i64 (List.getD acts k default).index 15)).toNat false) || t113)) : List Bool)))))))) (some (Ctl.go ((b1 : Board), (A' : List Bool)))) : Option (Ctl (Board × (List Bool)) (Ctl (Board × (List Bool) × (List Bool)) (Ctl (Nat × (List Bool) × (List Bool) × Board) (Ctl (Unit) (Bool)))))) = some (Ctl.go (b2, A2)) := by
        cases ((Int.tmod (List.getD acts k default).kind 2) == 1) with
        | false => exact ⟨b1, A', kp1, hpb1, rfl⟩
        | true =>
          rw [cond_true]
          obtain ⟨i1, i2⟩ := land64 (acts.getD k default).index 15 (by decide)
          obtain ⟨n, hn'⟩ : ∃ n : Nat, landK .i64 (acts.getD k default).index 15 = ((n : Nat) : Int) := ⟨(landK .i64 (acts.getD k default).index 15).toNat, by omega⟩
          rw [hn'] at i1 i2 ⊢
          have en : (((n : Nat) : Int)).toNat = n := by omega
          have hn16 : n < 16 := by omega
          have hsh := shn_kept kp1 hn16
          rw [en, letJ_def]
          rw [hpb1] at hsh
          have e113 : (cond (cond (H'.getD n false) (!(A'.getD n false)) false) (grd (decide (0 ≤ ((n : Nat) : Int) ∧ ((n : Nat) : Int) < ((stdL.length : Nat) : Int))) (some ((landK .u16 (shrK .u16 (stdL.getD n default).inhibit ph) 1) == 0))) (some false)) = some (shn b1 n) := by
            rw [hsh]
            cases (cond (H'.getD n false) (!(A'.getD n false)) false) with
            | true => rw [cond_true, cond_true, grd_at' (by omega)]
            | false => rfl
          rw [e113, bindO_some rfl]
          obtain ⟨q1, q2, q3, q4, q5, q6⟩ := kp1
          have hn1 : b1.defs.length = 16 := by rw [q1, hsl]
          have h18 : o18 b1 ((n : Nat) : Int) = some (cond (shn b1 n) ({ b1 with conds := (List.set b1.conds n ({ (List.getD b1.conds n default) with acked := true })) }, 0) (b1, 8)) := by
            unfold o18
            have := q2.1
            rw [df (by omega : ¬ ((n : Nat) : Int) < 0), df (by omega : ¬ ((n : Nat) : Int) ≥ ((b1.defs.length : Nat) : Int)), o40_is q2 (by omega), en]
            simp only [Bool.or_false, cond_false]
            rw [bindO_some rfl]
            cases shn b1 n with
            | true => simp only [Bool.not_true, cond_false, cond_true]; exact grd_at' (by omega)
            | false => rfl
          rw [h18, bindO_some rfl]
          cases hs : shn b1 n with
          | false =>
            simp only [cond_false, Bool.or_false]
            refine ⟨b1, A'.set n (A'.getD n false), ⟨q1, q2, q3, q4, by simp only [List.length_set]; exact q5, fun j hj => ?_⟩, hpb1, rfl⟩
            rw [getD_setB]
            by_cases hnj : n = j
            · subst hnj; rw [if_pos ⟨rfl, by omega⟩]; exact q6 n hj
            · rw [if_neg (fun h => hnj h.1)]; exact q6 j hj
          | true =>
            simp only [cond_true, Bool.or_true]
            refine ⟨{ b1 with conds := (List.set b1.conds n ({ (List.getD b1.conds n default) with acked := true })) }, A'.set n true, ⟨q1, ⟨by simp only [List.length_set]; exact q2.1, q2.2⟩, q3, q4, by simp only [List.length_set]; exact q5, fun j hj => ?_⟩, hpb1, rfl⟩
            simp only
            rw [getD_setB, getD_setC]
            by_cases hnj : n = j
            · subst hnj
              have hcl : n < b1.conds.length := by have := q2.1; omega
              rw [if_pos (show n = n ∧ n < A'.length from ⟨rfl, by omega⟩), if_pos (show n = n ∧ n < b1.conds.length from ⟨rfl, hcl⟩)]
              refine ⟨(q6 n hj).1, rfl, fun _ => ?_⟩
              rw [hsh] at hs
              cases h : H'.getD n false with
              | true => rfl
              | false => rw [h] at hs; cases hs
            · rw [if_neg (fun h => hnj h.1), if_neg (fun h => hnj h.1)]; exact q6 j hj
      obtain ⟨b2, A2, kp2, hp2, hmid⟩ := mid
      rw [hmid, joinO_go rfl]
      simp only
      have kp2' := kp2
      obtain ⟨q1, q2, q3, q4, q5, q6⟩ := kp2
      have hn2 : b2.defs.length = 16 := by rw [q1, hsl]
      obtain ⟨r, r1, r2, r3, r4, r5, r6⟩ := o19_is q2
      rw [r1, bindO_some rfl]
      obtain ⟨on, o1, o2, o3⟩ := L2_ok (by omega) r3 (fun q hq => by obtain ⟨i, i1, i2, i3⟩ := r4 q hq; exact ⟨i, by omega, i3⟩)
      rw [o1, joinO_go rfl]
      have hon : ∀ j, j < 16 → on.getD j false = shn b2 j := fun j hj => by
        cases hs : shn b2 j with
        | true => exact (o3 j hj).2 (r5 j (by omega) hs)
        | false =>
          cases ho : on.getD j false with
          | false => rfl
          | true =>
            obtain ⟨q, a1, a2⟩ := (o3 j hj).1 ho
            obtain ⟨i, i1, i2, i3⟩ := r4 q a1
            have : i = j := by omega
            subst this
            rw [hs] at i2; cases i2
      rw [L1_ok acts (k, A, H, b) (A', H') b2 A2 on kp2' (by simp only; rw [hphe, hp2]) hon, joinO_go rfl, joinO_go rfl, grd_at' (by omega)]
      exact .inl ⟨_, rfl, ⟨by simp only; omega, kp2'⟩, by simp only; omega⟩
    · refine .inr ⟨_, cond_neg ?_, rfl⟩
      simp only
      by_cases h2 : k < acts.length
      · rw [df (by omega : ¬ ((k : Nat) : Int) < 20), Bool.and_false]
      · rw [df (by omega : ¬ ((k : Nat) : Int) < ((acts.length : Nat) : Int)), Bool.false_and]) fuelN (0, List.replicate 16 false, List.replicate 16 false, std0) ⟨Nat.zero_le _, rfl, w_std0, rfl, List.length_replicate, List.length_replicate, fun j hj => by
        simp only
        rw [getD_repB, show std0.conds = List.replicate 16 default from rfl, List.getD_eq_getElem?_getD, List.getElem?_replicate, if_pos hj]
        exact ⟨rfl, rfl, fun h => by cases h⟩⟩ (by simp only [fuelN]; omega)
  rw [h, joinO_go rfl]
theorem okA_of {l : List Act} (h : ∀ x, x ∈ l → okAct x) : ∀ j, j < l.length → okA (l.getD j default) := fun j hj => by
  rw [List.getD_eq_getElem?_getD, List.getElem?_eq_getElem hj]
  have := h l[j] (List.getElem_mem hj)
  exact ⟨this.2.1, this.2.2.1⟩
end Go.Proofs.Ytfhchendnfpbkaa
