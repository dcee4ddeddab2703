/-
AlertOrders in plain words. Conditions: each lemma's own.
-/
import Derived.Test.YtfhchendnfpbkaaP55nx6
namespace Go.Proofs.Ytfhchendnfpbkaa
set_option linter.unusedVariables false
set_option linter.unusedSimpArgs false
open Go.RowKit
theorem std_level : ∀ k : _root_.Fin 16, (stdL.getD k.val default).level ≠ 0 := by decide +kernel
def okA (a : Act) : Prop := (0 ≤ a.conds ∧ a.conds ≤ 65535) ∧ (0 ≤ a.phase ∧ a.phase ≤ 255)
def Kept (k : Nat) (O : List Int) (b : Board) : Prop := b.defs = stdL ∧ WB b ∧ b.steps = ((k : Nat) : Int) ∧ O.length = 16 ∧ ∀ j, j < 16 → O.getD j 0 = (b.conds.getD j default).onset
theorem L2_ok (acts : List Act) (k : Nat) (hk : k ≤ 20) (O : List Int) (b : Board) (hO : O.length = 16) (h : ∀ j, j < 16 → O.getD j 0 = (b.conds.getD j default).onset) :
    ∃ r, loopO fuelN (o6_L2 acts (k, O, b)) (0, O) = some r ∧ r.length = 16 ∧ ∀ j, j < 16 → r.getD j 0 = (stepC (acts.getD k default).conds ((k + 1 : Nat) : Int) j (b.conds.getD j default)).onset := by
  refine loopO_ok (f := o6_L2 acts (k, O, b)) (fun s => s.1 ≤ 16 ∧ s.2.length = 16 ∧ ∀ j, j < 16 → s.2.getD j 0 = if j < s.1 then (stepC (acts.getD k default).conds ((k + 1 : Nat) : Int) j (b.conds.getD j default)).onset else (b.conds.getD j default).onset) (fun s => 16 - s.1) _ ?_ fuelN (0, O) ⟨Nat.zero_le _, hO, fun j hj => by simp only; rw [if_neg (by omega)]; exact h j hj⟩ (by simp only [fuelN]; omega)
  rintro ⟨q, x⟩ ⟨h1, h2, h3⟩
  simp only at h1 h2 h3
  unfold o6_L2
  obtain ⟨M, hM, hMb⟩ : ∃ M : Int, M = 9223372036854775807 ∧ M > 1000 := ⟨_, rfl, by decide⟩
  rw [← hM]
  simp only
  by_cases hlt : q < 16
  · have hq := h3 q hlt
    rw [if_neg (by omega)] at hq
    have key : ∀ y : List Int, y = (if bit0 (acts.getD k default).conds q = true then x.set q 0 else if x.getD q 0 = 0 then x.set q (((k : Nat) : Int) + 1) else x) → y.length = 16 ∧ ∀ j, j < 16 → y.getD j 0 = if j < q + 1 then (stepC (acts.getD k default).conds ((k + 1 : Nat) : Int) j (b.conds.getD j default)).onset else (b.conds.getD j default).onset := by
      rintro y rfl
      constructor
      · split
        · rw [List.length_set]; exact h2
        · split
          · rw [List.length_set]; exact h2
          · exact h2
      · intro j hj
        by_cases hjq : q = j
        · subst hjq
          rw [if_pos (Nat.lt_succ_self q)]
          unfold stepC
          by_cases h : bit0 (acts.getD k default).conds q = true
          · rw [if_pos h, h, cond_true, getD_set, if_pos ⟨rfl, by omega⟩]
          · rw [if_neg h, Bool.eq_false_iff.2 h, cond_false]
            by_cases h4 : x.getD q 0 = 0
            · rw [if_pos h4, ← hq, eq_t h4, cond_true, getD_set, if_pos ⟨rfl, by omega⟩]; rfl
            · rw [if_neg h4, ← hq, eq_f h4, cond_false, hq]
        · have e : ∀ v : Int, (x.set q v).getD j 0 = x.getD j 0 := fun v => by rw [getD_set, if_neg (fun h => hjq h.1)]
          have e2 : x.getD j 0 = if j < q + 1 then (stepC (acts.getD k default).conds ((k + 1 : Nat) : Int) j (b.conds.getD j default)).onset else (b.conds.getD j default).onset := by
            rw [h3 j hj]
            by_cases hj2 : j < q
            · rw [if_pos hj2, if_pos (by omega)]
            · rw [if_neg hj2, if_neg (by omega)]
          split
          · rw [e]; exact e2
          · split
            · rw [e]; exact e2
            · exact e2
    rw [dt (by omega), cond_true]
    cases hb : ((landK .u16 (shrK .u16 (List.getD acts k default).conds ((q : Nat) : Int)) 1) == 0) with
    | true =>
      rw [cond_true, bindO_some rfl, grd_at' (by omega)]
      refine .inl ⟨_, rfl, ⟨by simp only; omega, key _ ?_⟩, by simp only; omega⟩
      rw [if_pos (show bit0 (acts.getD k default).conds q = true from hb)]
    | false =>
      have hb' : ¬ bit0 (acts.getD k default).conds q = true := by rw [show bit0 (acts.getD k default).conds q = false from hb]; decide
      rw [cond_false]
      by_cases h0 : x.getD q 0 = 0
      · rw [eq_t h0, cond_true, grd_at' (by omega), bindO_some rfl, bindO_some rfl, grd_at' (by omega)]
        refine .inl ⟨_, rfl, ⟨by simp only; omega, key _ ?_⟩, by simp only; omega⟩
        rw [if_neg hb', if_pos h0]
      · rw [eq_f h0, cond_false, bindO_some rfl, bindO_some rfl, grd_at' (by omega)]
        refine .inl ⟨_, rfl, ⟨by simp only; omega, key _ ?_⟩, by simp only; omega⟩
        rw [if_neg hb', if_neg h0]
  · rw [df (by omega), cond_false]
    exact .inr ⟨_, rfl, h2, fun j hj => by rw [h3 j hj, if_pos (by omega)]⟩
theorem L1_ok {b : Board} {O : List Int} {k : Nat} (kp : Kept k O b) {r : List Int} (h19 : o19 b = some r) (hl : r.length ≤ 16) (hr : ∀ q, q < r.length → ∃ i : Nat, i < b.defs.length ∧ shn b i = true ∧ r.getD q 0 = ((i : Nat) : Int)) (hs : Srt (ltB b) r 0 r.length) (e : Int) :
    loopO fuelN (o6_L1 stdL (b, e) O r (r.map (nameOf b))) 0 = some (Ctl.go ()) := by
  obtain ⟨k1, k2, k3, k4, k5⟩ := kp
  have hsl := std_len
  have hn : b.defs.length = 16 := by rw [k1, hsl]
  obtain ⟨v, h, rfl⟩ := loopO_ok (f := o6_L1 stdL (b, e) O r (r.map (nameOf b))) (fun s => s ≤ r.length) (fun s => r.length - s) (fun v => v = Ctl.go ()) (by
    intro s hs'
    by_cases hlt : s < r.length
    · refine .inl ⟨s + 1, ?_, by omega, by omega⟩
      unfold o6_L1
      obtain ⟨M, hM, hMb⟩ : ∃ M : Int, M = 9223372036854775807 ∧ M > 1000 := ⟨_, rfl, by decide⟩
      rw [← hM]
      obtain ⟨x, x1, x2, x3⟩ := hr s hlt
      have ex : (((x : Nat) : Int)).toNat = x := by omega
      have hnm : (r.map (nameOf b)).getD s [] = (stdL.getD x default).name := by
        rw [getD_map (nameOf b) r 0 [] hlt, x3]; unfold nameOf; rw [ex, k1]
      rw [dt (by omega), cond_true, x3, df (by omega : ¬ ((x : Nat) : Int) < 0), df (by omega : ¬ ((x : Nat) : Int) > 15), hnm, ex, List.length_map]
      simp only [Bool.or_false, cond_false]
      rw [grd_at' hlt, grd_at' (by omega), beq_self_eq_true, bindO_some rfl]
      simp only [Bool.not_true, cond_false]
      by_cases h0 : s = 0
      · subst h0
        have h21 := o21_is h19 hr
        rw [if_neg (by omega), x3, ex, k1] at h21
        rw [show ((((0 : Nat)) : Int) == 0) = true from rfl, cond_true, cond_true]
        rw [grd_at' (by omega), h21, bindO_some rfl, neq_f rfl, bindO_some rfl, bindO_some rfl, cond_false, joinO_go rfl]
        exact grd_at' (by omega)
      · rw [eq_f (by omega), cond_false, bindO_some rfl, bindO_some rfl, cond_false, cond_false]
        have ew : IntKind.i64.wrap (((s : Nat) : Int) - 1) = ((s - 1 : Nat) : Int) := by rw [wr64 (by omega)]; omega
        obtain ⟨y, y1, y2, y3⟩ := hr (s - 1) (by omega)
        have ey : (((y : Nat) : Int)).toNat = y := by omega
        have es : (((s - 1 : Nat) : Int)).toNat = s - 1 := by omega
        have hlt2 := hs (s - 1) s (Nat.zero_le _) (by omega) hlt
        rw [y3, x3] at hlt2
        unfold ltB at hlt2
        rw [ex, ey, k1] at hlt2
        have ox := k5 x (by omega)
        have oy := k5 y (by omega)
        rw [ew, es, y3, ey, grd_at' (by omega), grd_at' (by omega), grd_at' (by omega), df (by omega), cond_false, grd_at' (by omega), grd_at' (by omega)]
        rw [← ox, ← oy] at hlt2
        by_cases hle : (stdL.getD y default).level = (stdL.getD x default).level
        · rw [eq_t hle, cond_true, grd_at' (by omega), grd_at' (by omega), df (by omega), cond_false, grd_at' (by omega), grd_at' (by omega), bindO_some rfl]
          have hb : ((O.getD y 0 == O.getD x 0) && decide (((y : Nat) : Int) ≥ ((x : Nat) : Int))) = false := by
            by_cases h4 : O.getD y 0 = O.getD x 0
            · rw [df (by omega), Bool.and_false]
            · rw [eq_f h4, Bool.false_and]
          rw [hb, bindO_some rfl, bindO_some rfl, cond_false, joinO_go rfl]
          exact grd_at' (by omega)
        · rw [eq_f hle, cond_false, bindO_some rfl, bindO_some rfl, cond_false, joinO_go rfl]
          exact grd_at' (by omega)
    · refine .inr ⟨_, ?_, rfl⟩
      unfold o6_L1
      exact cond_neg (df (by omega))) fuelN 0 (Nat.zero_le _) (by simp only [fuelN]; omega)
  exact h
theorem alertOrders_plain (acts : List Act) (ok : ∀ j, j < acts.length → okA (acts.getD j default)) : o6 acts = some true := by
  unfold o6
  have hsl := std_len
  rw [o10_true, bindO_some rfl]
  simp only [Bool.not_true, cond_false]
  rw [o15_eq, bindO_some rfl, o12_std, bindO_some rfl]
  simp only [Option.isNone_some, Bool.or_false]
  rw [neq_f rfl, cond_false, bindO_some rfl]
  obtain ⟨v, h, rfl⟩ := loopO_ok (f := o6_L0 acts stdL) (fun s => s.1 ≤ 20 ∧ Kept s.1 s.2.1 s.2.2) (fun s => 20 - s.1) (fun v => v = Ctl.go ()) (by
    rintro ⟨k, O, b⟩ ⟨h1, kp⟩
    simp only at h1 kp
    unfold o6_L0
    obtain ⟨M, hM, hMb⟩ : ∃ M : Int, M = 9223372036854775807 ∧ M > 1000 := ⟨_, rfl, by decide⟩
    rw [← hM]
    by_cases hc : k < acts.length ∧ k < 20
    · simp only
      obtain ⟨⟨c1, c2⟩, -⟩ := ok k hc.1
      obtain ⟨k1, k2, k3, k4, k5⟩ := kp
      have hn : b.defs.length = 16 := by rw [k1, hsl]
      obtain ⟨cs, s1, s2, s3⟩ := o17_is k2 (acts.getD k default).conds 4 (by rw [hn]; exact shr16 ⟨c1, c2⟩) (by decide)
      rw [k3, wr64 (by omega), show ((k : Nat) : Int) + 1 = ((k + 1 : Nat) : Int) from rfl] at s1 s3
      obtain ⟨O', l1, l2, l3⟩ := L2_ok acts k (by omega) O b k4 k5
      obtain ⟨b1, hb1⟩ : ∃ b1 : Board, b1 = ⟨b.defs, ((k + 1 : Nat) : Int), 4, cs⟩ := ⟨_, rfl⟩
      rw [← hb1] at s1
      have kp1 : Kept (k + 1) O' b1 := by
        subst hb1
        exact ⟨k1, ⟨s2, k2.2.1, by simp only; omega, by simp only; omega⟩, rfl, l2, fun j hj => by simp only; rw [l3 j hj, s3 j (by omega)]⟩
      have kp1' := kp1
      obtain ⟨q1, q2, q3, q4, q5⟩ := kp1
      have hn1 : b1.defs.length = 16 := by rw [q1, hsl]
      obtain ⟨r, r1, r2, r3, r4, r5, r6⟩ := o19_is q2
      have h21 := o21_is r1 r4
      rw [dt (by omega), dt (by omega), s1]
      simp only [Bool.and_self, cond_true]
      rw [bindO_some rfl, l1, bindO_some rfl]
      simp only
      rw [r1, bindO_some rfl, o20_is r1 (by omega) r4, bindO_some rfl, List.length_map, neq_f rfl, cond_false, h21, bindO_some rfl]
      have hm : (!(((((r.length : Nat) : Int)) == 0) == ((if r.length = 0 then 0 else (b1.defs.getD (r.getD 0 0).toNat default).level) == 0))) = false := by
        by_cases h0 : r.length = 0
        · rw [if_pos h0, eq_t (by omega)]; rfl
        · obtain ⟨i, i1, i2, i3⟩ := r4 0 (by omega)
          have := std_level ⟨i, by omega⟩
          simp only at this
          rw [if_neg h0, eq_f (by omega), i3, show (((i : Nat) : Int)).toNat = i from by omega, q1, eq_f this]; rfl
      rw [hm, bindO_some rfl, cond_false, L1_ok kp1' r1 (by omega) r4 r6, joinO_go rfl, joinO_go rfl, grd_at' (by omega)]
      exact .inl ⟨_, rfl, ⟨by simp only; omega, kp1'⟩, by simp only; omega⟩
    · refine .inr ⟨_, cond_neg ?_, rfl⟩
      simp only
      by_cases h2 : k < acts.length
      · rw [df (by omega : ¬ ((k : Nat) : Int) < 20), Bool.and_false]
      · rw [df (by omega : ¬ ((k : Nat) : Int) < ((acts.length : Nat) : Int)), Bool.false_and]) fuelN (0, List.replicate 16 0, std0) ⟨Nat.zero_le _, rfl, w_std0, rfl, List.length_replicate, fun j hj => by
        simp only
        rw [show std0.conds = List.replicate 16 default from rfl, List.getD_eq_getElem?_getD, List.getElem?_replicate, if_pos hj, List.getD_eq_getElem?_getD, List.getElem?_replicate, if_pos hj]
        rfl⟩ (by simp only [fuelN]; omega)
  rw [h, joinO_go rfl]
theorem okA_of {l : List Act} (h : ∀ x, x ∈ l → okAct x) : ∀ j, j < l.length → okA (l.getD j default) := fun j hj => by
  rw [List.getD_eq_getElem?_getD, List.getElem?_eq_getElem hj]
  have := h l[j] (List.getElem_mem hj)
  exact ⟨this.2.1, this.2.2.1⟩
end Go.Proofs.Ytfhchendnfpbkaa
