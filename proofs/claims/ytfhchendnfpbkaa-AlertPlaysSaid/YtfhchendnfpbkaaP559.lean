/-
AlertPlays in plain words. Conditions: each lemma's own.
-/
import Derived.Test.YtfhchendnfpbkaaP55rx9
namespace Go.Proofs.Ytfhchendnfpbkaa
set_option linter.unusedVariables false
set_option linter.unusedSimpArgs false
open Go.RowKit
theorem bit0_eq {c : Nat} (hc : c ≤ 65535) {k : Nat} (hk : k < 16) : bit0 ((c : Nat) : Int) k = !c.testBit k := by
  unfold bit0
  have e1 : shrK .u16 ((c : Nat) : Int) ((k : Nat) : Int) = ((c / 2 ^ k : Nat) : Int) := by
    unfold shrK
    rw [show min (((k : Nat) : Int)).toNat IntKind.u16.bits = k from by show min _ 16 = k; omega, Int.fdiv_eq_ediv_of_nonneg _ (Int.pow_nonneg (by decide))]
    simp
  have hlt : c / 2 ^ k < 65536 := Nat.lt_of_le_of_lt (Nat.div_le_self _ _) (by omega)
  have e2 : landK .u16 ((c / 2 ^ k : Nat) : Int) 1 = ((c / 2 ^ k % 2 : Nat) : Int) := by
    unfold landK
    have h1 : (BitVec.ofInt IntKind.u16.bits ((c / 2 ^ k : Nat) : Int) &&& BitVec.ofInt IntKind.u16.bits 1).toNat = c / 2 ^ k % 2 := by
      rw [BitVec.toNat_and]
      have a1 : (BitVec.ofInt IntKind.u16.bits ((c / 2 ^ k : Nat) : Int)).toNat = c / 2 ^ k := by
        rw [BitVec.toNat_ofInt]
        generalize c / 2 ^ k = m at hlt
        show (((m : Nat) : Int) % ((2 ^ 16 : Nat) : Int)).toNat = _
        omega
      have a2 : (BitVec.ofInt IntKind.u16.bits 1).toNat = 1 := rfl
      rw [a1, a2, Nat.and_one_is_mod]
    rw [h1]
    have : c / 2 ^ k % 2 < 2 := Nat.mod_lt _ (by decide)
    generalize c / 2 ^ k % 2 = m at this
    have : m = 0 ∨ m = 1 := by omega
    rcases this with rfl | rfl <;> rfl
  rw [e1, e2, Nat.testBit_eq_decide_div_mod_eq]
  have : c / 2 ^ k % 2 < 2 := Nat.mod_lt _ (by decide)
  generalize c / 2 ^ k % 2 = m at this
  have : m = 0 ∨ m = 1 := by omega
  rcases this with rfl | rfl <;> rfl
theorem high_eq {c : Nat} (hc : c ≤ 65535) {n : Nat} (hn : n ≤ 16) : shrK .i64 (IntKind.i64.wrap ((c : Nat) : Int)) ((n : Nat) : Int) = 0 ↔ ∀ k, n ≤ k → k < 16 → bit0 ((c : Nat) : Int) k = true := by
  have e1 : shrK .i64 (IntKind.i64.wrap ((c : Nat) : Int)) ((n : Nat) : Int) = ((c / 2 ^ n : Nat) : Int) := by
    rw [wr64 (by omega)]
    unfold shrK
    rw [show min (((n : Nat) : Int)).toNat IntKind.i64.bits = n from by show min _ 64 = n; omega, Int.fdiv_eq_ediv_of_nonneg _ (Int.pow_nonneg (by decide))]
    simp
  rw [e1]
  constructor
  · intro h k h1 h2
    rw [bit0_eq hc h2]
    have h0 : c / 2 ^ n = 0 := by omega
    have hlt : c < 2 ^ n := by
      rcases (Nat.div_eq_zero_iff).1 h0 with h | h
      · exact absurd h (Nat.pos_iff_ne_zero.1 (Nat.pow_pos (by decide)))
      · exact h
    rw [Nat.testBit_lt_two_pow (Nat.lt_of_lt_of_le hlt (Nat.pow_le_pow_right (by decide) h1))]; rfl
  · intro h
    have hlt : c < 2 ^ n := by
      refine Nat.lt_pow_two_of_testBit c fun i hi => ?_
      by_cases h2 : i < 16
      · have := h i hi h2
        rw [bit0_eq hc h2] at this
        simpa using this
      · exact Nat.testBit_lt_two_pow (Nat.lt_of_lt_of_le (by omega : c < 2 ^ 16) (Nat.pow_le_pow_right (by decide) (by omega)))
    have : c / 2 ^ n = 0 := Nat.div_eq_of_lt hlt
    omega
theorem o56_is (w : RBoard) (h : w.onset.length ≤ 100) : o56 w = some w := by unfold o56; exact grd_at' (by omega)
theorem step_ok {b : Board} {w : RBoard} (R : BRel b w) (g : GoodB b) (hs : b.steps ≤ 1000) {c : Nat} (hc : c ≤ 65535) (phase : Int) :
    ∃ x y, o17 b ((c : Nat) : Int) phase = some x ∧ o29 w ((c : Nat) : Int) phase = some y ∧ x.2 = y.2 ∧ BRel x.1 y.1 ∧ GoodB x.1 ∧ x.1.defs = b.defs ∧ x.1.steps ≤ b.steps + 1 := by
  have hR := R
  obtain ⟨e1, e2, e3, e4, e5, wb, e6⟩ := R
  obtain ⟨g1, g2, g3, g4, g5, g6, g7⟩ := g
  have hg := And.intro g1 (And.intro g2 (And.intro g3 (And.intro g4 (And.intro g5 (And.intro g6 g7)))))
  have hL1 : ((∀ k, b.defs.length ≤ k → k < 16 → bit0 ((c : Nat) : Int) k = true) → loopO fuelN (o29_L1 w ((c : Nat) : Int)) 0 = some (Ctl.go ())) ∧ ((¬ ∀ k, b.defs.length ≤ k → k < 16 → bit0 ((c : Nat) : Int) k = true) → loopO fuelN (o29_L1 w ((c : Nat) : Int)) 0 = some (Ctl.done (w, 1))) := by
    obtain ⟨r, h, hr⟩ := loopO_ok (f := o29_L1 w ((c : Nat) : Int)) (fun s => s ≤ 16 ∧ ∀ k, b.defs.length ≤ k → k < s → bit0 ((c : Nat) : Int) k = true) (fun s => 16 - s) (fun r => (r = Ctl.go () ∧ ∀ k, b.defs.length ≤ k → k < 16 → bit0 ((c : Nat) : Int) k = true) ∨ (r = Ctl.done (w, 1) ∧ ¬ ∀ k, b.defs.length ≤ k → k < 16 → bit0 ((c : Nat) : Int) k = true)) (by
      rintro s ⟨h1, h2⟩
      unfold o29_L1
      obtain ⟨M, hM, hMb⟩ : ∃ M : Int, M = 9223372036854775807 ∧ M > 1000 := ⟨_, rfl, by decide⟩
      rw [← hM, e1, bit1]
      by_cases hlt : s < 16
      · rw [dt (by omega), cond_true]
        have hb0 : (landK .u16 (shrK .u16 ((c : Nat) : Int) ((s : Nat) : Int)) 1 == 0) = bit0 ((c : Nat) : Int) s := rfl
        rw [hb0]
        by_cases hge : b.defs.length ≤ s
        · rw [dt (by omega), Bool.true_and]
          cases hb : bit0 ((c : Nat) : Int) s with
          | true =>
            simp only [Bool.not_true, cond_false]
            rw [grd_at' (by omega)]
            refine .inl ⟨_, rfl, ⟨by omega, fun k k1 k2 => ?_⟩, by omega⟩
            by_cases hks : k = s
            · subst hks; exact hb
            · exact h2 k k1 (by omega)
          | false => exact .inr ⟨_, rfl, .inr ⟨rfl, fun h => by have := h s hge hlt; rw [hb] at this; cases this⟩⟩
        · rw [df (by omega), Bool.false_and, cond_false, grd_at' (by omega)]
          exact .inl ⟨_, rfl, ⟨by omega, fun k k1 k2 => h2 k k1 (by omega)⟩, by omega⟩
      · rw [df (by omega), cond_false]
        exact .inr ⟨_, rfl, .inl ⟨rfl, fun k k1 k2 => h2 k k1 (by omega)⟩⟩) fuelN 0 ⟨Nat.zero_le _, fun k k1 k2 => by omega⟩ (by simp only [fuelN]; omega)
    rw [h]
    rcases hr with ⟨rfl, hr⟩ | ⟨rfl, hr⟩
    · exact ⟨fun _ => rfl, fun hn => absurd hr hn⟩
    · exact ⟨fun hn => absurd hn hr, fun _ => rfl⟩
  by_cases hhi : ∀ k, b.defs.length ≤ k → k < 16 → bit0 ((c : Nat) : Int) k = true
  rotate_left
  · refine ⟨(b, 1), (w, 1), ?_, ?_, rfl, hR, hg, rfl, by simp only; omega⟩
    · unfold o17
      rw [neq_t (fun h => hhi ((high_eq hc (by omega)).1 h)), cond_true]
    · unfold o29
      rw [hL1.2 hhi, joinO_done rfl]
  have hsh := (high_eq hc (n := b.defs.length) (by omega)).2 hhi
  by_cases hph : 1 ≤ phase ∧ phase ≤ 8
  rotate_left
  · have hbad : (decide (phase < 1) || decide (phase > 8)) = true := by
      by_cases h : phase < 1
      · rw [dt h]; rfl
      · rw [dt (p := phase > 8) (by omega), Bool.or_true]
    refine ⟨(b, 2), (w, 2), ?_, ?_, rfl, hR, hg, rfl, by simp only; omega⟩
    · unfold o17
      rw [neq_f hsh, cond_false, hbad, cond_true]
    · unfold o29
      rw [hL1.1 hhi, joinO_go rfl, hbad, cond_true]
  obtain ⟨cs, s1, s2, s3⟩ := o17_is wb ((c : Nat) : Int) phase hsh hph
  have hwr : IntKind.i64.wrap (b.steps + 1) = b.steps + 1 := wr64 (by omega)
  rw [hwr] at s1 s3
  have h29 : ∃ on ak, o29 w ((c : Nat) : Int) phase = some (⟨w.defs, b.steps + 1, phase, on, ak⟩, 0) ∧ on.length = b.defs.length ∧ ak.length = b.defs.length ∧ ∀ j, j < b.defs.length → on.getD j 0 = (stepC ((c : Nat) : Int) (b.steps + 1) j (b.conds.getD j default)).onset ∧ ak.getD j false = (stepC ((c : Nat) : Int) (b.steps + 1) j (b.conds.getD j default)).acked := by
    unfold o29
    rw [hL1.1 hhi, joinO_go rfl, df (by omega), df (by omega)]
    simp only [Bool.or_false, cond_false]
    rw [o56_is w (by omega), bindO_some rfl, e2, hwr]
    obtain ⟨r, h, q1, q2, q3⟩ := loopO_ok (f := o29_L0 ((c : Nat) : Int) w) (fun s => s.1 ≤ b.defs.length ∧ s.2.1.length = b.defs.length ∧ s.2.2.length = b.defs.length ∧ ∀ j, j < b.defs.length → s.2.1.getD j 0 = (if j < s.1 then stepC ((c : Nat) : Int) (b.steps + 1) j (b.conds.getD j default) else b.conds.getD j default).onset ∧ s.2.2.getD j false = (if j < s.1 then stepC ((c : Nat) : Int) (b.steps + 1) j (b.conds.getD j default) else b.conds.getD j default).acked) (fun s => b.defs.length - s.1)
      (fun r => r.1.length = b.defs.length ∧ r.2.length = b.defs.length ∧ ∀ j, j < b.defs.length → r.1.getD j 0 = (stepC ((c : Nat) : Int) (b.steps + 1) j (b.conds.getD j default)).onset ∧ r.2.getD j false = (stepC ((c : Nat) : Int) (b.steps + 1) j (b.conds.getD j default)).acked) (by
      rintro ⟨k, on, ak⟩ ⟨h1, h2, h3, h4⟩
      simp only at h1 h2 h3 h4
      unfold o29_L0
      obtain ⟨M, hM, hMb⟩ : ∃ M : Int, M = 9223372036854775807 ∧ M > 2000 := ⟨_, rfl, by decide⟩
      rw [← hM, e1, e2, hwr]
      simp only
      by_cases hlt : k < b.defs.length
      · have hk := h4 k hlt
        rw [if_neg (Nat.lt_irrefl k)] at hk
        have key : ∀ (v : Int) (u : Bool), v = (stepC ((c : Nat) : Int) (b.steps + 1) k (b.conds.getD k default)).onset → u = (stepC ((c : Nat) : Int) (b.steps + 1) k (b.conds.getD k default)).acked → ∀ x y, (x = on.set k v ∨ (x = on ∧ on.getD k 0 = v)) → (y = ak.set k u ∨ (y = ak ∧ ak.getD k false = u)) → x.length = b.defs.length ∧ y.length = b.defs.length ∧ ∀ j, j < b.defs.length → x.getD j 0 = (if j < k + 1 then stepC ((c : Nat) : Int) (b.steps + 1) j (b.conds.getD j default) else b.conds.getD j default).onset ∧ y.getD j false = (if j < k + 1 then stepC ((c : Nat) : Int) (b.steps + 1) j (b.conds.getD j default) else b.conds.getD j default).acked := by
          intro v u hv hu x y hx hy
          have hxl : x.length = b.defs.length := by rcases hx with rfl | ⟨rfl, -⟩; · rw [List.length_set]; exact h2
                                                    · exact h2
          have hyl : y.length = b.defs.length := by rcases hy with rfl | ⟨rfl, -⟩; · rw [List.length_set]; exact h3
                                                    · exact h3
          refine ⟨hxl, hyl, fun j hj => ?_⟩
          by_cases hkj : k = j
          · subst hkj
            rw [if_pos (Nat.lt_succ_self k), ← hv, ← hu]
            constructor
            · rcases hx with rfl | ⟨rfl, hx⟩
              · rw [getD_set, if_pos ⟨rfl, by omega⟩]
              · exact hx
            · rcases hy with rfl | ⟨rfl, hy⟩
              · rw [getD_setBw, if_pos ⟨rfl, by omega⟩]
              · exact hy
          · have ex : x.getD j 0 = on.getD j 0 := by
              rcases hx with rfl | ⟨rfl, -⟩
              · rw [getD_set, if_neg (fun h => hkj h.1)]
              · rfl
            have ey : y.getD j false = ak.getD j false := by
              rcases hy with rfl | ⟨rfl, -⟩
              · rw [getD_setBw, if_neg (fun h => hkj h.1)]
              · rfl
            rw [ex, ey]
            by_cases hj2 : j < k
            · have := h4 j hj
              rw [if_pos hj2] at this
              rw [if_pos (show j < k + 1 by omega)]; exact this
            · have := h4 j hj
              rw [if_neg hj2] at this
              rw [if_neg (show ¬ j < k + 1 by omega)]; exact this
        have hb0 : (landK .u16 (shrK .u16 ((c : Nat) : Int) ((k : Nat) : Int)) 1 == 0) = bit0 ((c : Nat) : Int) k := rfl
        rw [dt (by omega), cond_true, hb0]
        cases hb : bit0 ((c : Nat) : Int) k with
        | true =>
          rw [cond_true, grd_at' (by omega), grd_at' (by omega), bindO_some rfl, grd_at' (by omega)]
          refine .inl ⟨_, rfl, ⟨by simp only; omega, key 0 false ?_ ?_ _ _ (.inl rfl) (.inl rfl)⟩, by simp only; omega⟩
          · unfold stepC; rw [hb]; rfl
          · unfold stepC; rw [hb]; rfl
        | false =>
          rw [cond_false, grd_at' (by omega)]
          by_cases h0 : on.getD k 0 = 0
          · rw [eq_t h0, cond_true, grd_at' (by omega), grd_at' (by omega), bindO_some rfl, bindO_some rfl, grd_at' (by omega)]
            rw [hk.1] at h0
            refine .inl ⟨_, rfl, ⟨by simp only; omega, key (b.steps + 1) false ?_ ?_ _ _ (.inl rfl) (.inl rfl)⟩, by simp only; omega⟩
            · unfold stepC; rw [hb, eq_t h0]; rfl
            · unfold stepC; rw [hb, eq_t h0]; rfl
          · rw [eq_f h0, cond_false, bindO_some rfl, bindO_some rfl, grd_at' (by omega)]
            rw [hk.1] at h0
            refine .inl ⟨_, rfl, ⟨by simp only; omega, key (b.conds.getD k default).onset (b.conds.getD k default).acked ?_ ?_ _ _ (.inr ⟨rfl, hk.1⟩) (.inr ⟨rfl, hk.2⟩)⟩, by simp only; omega⟩
            · unfold stepC; rw [hb, eq_f h0]; rfl
            · unfold stepC; rw [hb, eq_f h0]; rfl
      · obtain rfl : k = b.defs.length := by omega
        rw [df (by omega), cond_false]
        refine .inr ⟨_, rfl, h2, h3, fun j hj => ?_⟩
        have := h4 j hj
        rw [if_pos hj] at this
        exact this) fuelN (0, w.onset, w.acked) ⟨Nat.zero_le _, e4, e5, fun j hj => by
          simp only
          rw [if_neg (by omega)]
          exact ⟨(e6 j hj).1, (e6 j hj).2.1⟩⟩ (by simp only [fuelN]; omega)
    rw [h, bindO_some rfl]
    exact ⟨_, _, rfl, q1, q2, q3⟩
  obtain ⟨on, ak, t1, t2, t3, t4⟩ := h29
  have hst : ∀ j, j < b.defs.length → 0 ≤ (stepC ((c : Nat) : Int) (b.steps + 1) j (b.conds.getD j default)).onset ∧ (((stepC ((c : Nat) : Int) (b.steps + 1) j (b.conds.getD j default)).onset = 0 ∧ (stepC ((c : Nat) : Int) (b.steps + 1) j (b.conds.getD j default)).acked = false) ∨ (1 ≤ (stepC ((c : Nat) : Int) (b.steps + 1) j (b.conds.getD j default)).onset ∧ (stepC ((c : Nat) : Int) (b.steps + 1) j (b.conds.getD j default)).onset ≤ b.steps + 1)) := fun j hj => by
    unfold stepC
    cases bit0 ((c : Nat) : Int) j with
    | true => exact ⟨by simp only [cond_true]; omega, .inl ⟨rfl, rfl⟩⟩
    | false =>
      rw [cond_false]
      have := g7 j hj
      by_cases h0 : (b.conds.getD j default).onset = 0
      · rw [eq_t h0, cond_true]; exact ⟨by simp only; omega, .inr ⟨by simp only; omega, by simp only; omega⟩⟩
      · rw [eq_f h0, cond_false]; exact ⟨by omega, .inr ⟨by omega, by omega⟩⟩
  refine ⟨_, _, s1, t1, rfl, ⟨e1, rfl, rfl, t2, t3, ⟨s2, wb.2.1, by simp only; omega, by simp only; omega⟩, fun j hj => ?_⟩, ⟨⟨by simp only; omega, by simp only; omega⟩, hph, fun h => by simp only at h; omega, g4, g5, s2, fun j hj => ?_⟩, rfl, Int.le_refl _⟩
  · simp only at hj ⊢
    rw [s3 j hj, (t4 j hj).1, (t4 j hj).2]
    exact ⟨rfl, rfl, (hst j hj).1⟩
  · simp only at hj ⊢
    rw [s3 j hj]
    exact (hst j hj).2
def ackB (b : Board) (i : Nat) : Board := { b with conds := (List.set b.conds i ({ (List.getD b.conds i default) with acked := true })) }
theorem ack_rel {b : Board} {w : RBoard} (R : BRel b w) (g : GoodB b) {i : Nat} (hi : i < b.defs.length) (hs : shn b i = true) : BRel (ackB b i) { w with acked := w.acked.set i true } ∧ GoodB (ackB b i) := by
  obtain ⟨e1, e2, e3, e4, e5, wb, e6⟩ := R
  obtain ⟨g1, g2, g3, g4, g5, g6, g7⟩ := g
  have hc : ∀ j, j < b.defs.length → (ackB b i).conds.getD j default = if i = j then { (b.conds.getD i default) with acked := true } else b.conds.getD j default := fun j hj => by
    unfold ackB
    simp only
    rw [getD_setC]
    by_cases h : i = j
    · rw [if_pos ⟨h, by omega⟩, if_pos h]
    · rw [if_neg (fun q => h q.1), if_neg h]
  have hcl : (ackB b i).conds.length = b.conds.length := List.length_set ..
  refine ⟨⟨e1, e2, e3, e4, by simp only [List.length_set]; exact e5, ⟨by rw [hcl]; exact wb.1, wb.2⟩, fun j hj => ?_⟩, ⟨g1, g2, g3, g4, g5, by rw [hcl]; exact g6, fun j hj => ?_⟩⟩
  · rw [hc j hj]
    simp only
    rw [getD_setBw]
    by_cases h : i = j
    · subst h
      rw [if_pos (show i = i ∧ i < w.acked.length from ⟨rfl, by omega⟩), if_pos rfl]
      exact ⟨(e6 i hj).1, rfl, (e6 i hj).2.2⟩
    · rw [if_neg (show ¬ (i = j ∧ j < w.acked.length) from fun q => h q.1), if_neg h]
      exact e6 j hj
  · rw [hc j hj]
    by_cases h : i = j
    · subst h
      rw [if_pos rfl]
      refine .inr ?_
      have := g7 i hj
      simp only
      rcases this with ⟨h1, -⟩ | h1
      · unfold shn at hs
        rw [neq_f h1] at hs
        cases hs
      · exact h1
    · rw [if_neg h]
      exact g7 j hj
theorem o18_is {b : Board} (wb : WB b) {i : Nat} (hi : i < b.defs.length) : o18 b ((i : Nat) : Int) = some (cond (shn b i) (ackB b i, 0) (b, 8)) := by
  unfold o18
  have := wb.1
  rw [df (by omega : ¬ ((i : Nat) : Int) < 0), df (by omega : ¬ ((i : Nat) : Int) ≥ ((b.defs.length : Nat) : Int)), o40_is wb hi]
  simp only [Bool.or_false, cond_false]
  rw [bindO_some rfl, show (((i : Nat) : Int)).toNat = i from by omega]
  cases shn b i with
  | true => simp only [Bool.not_true, cond_false, cond_true]; exact grd_at' (by omega)
  | false => rfl
theorem o30_is {b : Board} {w : RBoard} (R : BRel b w) {i : Nat} (hi : i < b.defs.length) : o30 w ((i : Nat) : Int) = some (cond (shn b i) ({ w with acked := w.acked.set i true }, 0) (w, 8)) := by
  have wb := R.2.2.2.2.2.1
  have e4 := R.2.2.2.1
  have e5 := R.2.2.2.2.1
  have hn := wb.2.1
  unfold o30
  rw [df (by omega : ¬ ((i : Nat) : Int) < 0), df (by rw [R.1]; omega : ¬ ((i : Nat) : Int) ≥ ((w.defs.length : Nat) : Int)), o57_is R hi]
  simp only [Bool.or_false, cond_false]
  rw [bindO_some rfl, show (((i : Nat) : Int)).toNat = i from by omega]
  cases shn b i with
  | true =>
    simp only [Bool.not_true, cond_false, cond_true]
    rw [o56_is w (by omega), bindO_some rfl]
    exact grd_at' (by omega)
  | false => rfl
theorem ack_ok {b : Board} {w : RBoard} (R : BRel b w) (g : GoodB b) (i : Int) :
    ∃ x y, o18 b i = some x ∧ o30 w i = some y ∧ x.2 = y.2 ∧ BRel x.1 y.1 ∧ GoodB x.1 ∧ x.1.defs = b.defs ∧ x.1.steps = b.steps := by
  have wb := R.2.2.2.2.2.1
  by_cases hin : 0 ≤ i ∧ i < ((b.defs.length : Nat) : Int)
  · obtain ⟨k, rfl⟩ : ∃ k : Nat, i = ((k : Nat) : Int) := ⟨i.toNat, by omega⟩
    rw [o18_is wb (by omega), o30_is R (by omega)]
    cases hs : shn b k with
    | true =>
      obtain ⟨h1, h2⟩ := ack_rel R g (i := k) (by omega) hs
      exact ⟨_, _, rfl, rfl, rfl, h1, h2, rfl, rfl⟩
    | false => exact ⟨_, _, rfl, rfl, rfl, R, g, rfl, rfl⟩
  · have hbad : (decide (i < 0) || decide (i ≥ ((b.defs.length : Nat) : Int))) = true := by
      by_cases h : i < 0
      · rw [dt h]; rfl
      · rw [dt (p := i ≥ ((b.defs.length : Nat) : Int)) (by omega), Bool.or_true]
    refine ⟨(b, 2), (w, 2), ?_, ?_, rfl, R, g, rfl, rfl⟩
    · unfold o18; rw [hbad]; rfl
    · unfold o30; rw [R.1, hbad]; rfl
theorem all_ok {b : Board} {w : RBoard} (R : BRel b w) (g : GoodB b) :
    ∃ x y, o24 b = some x ∧ o31 w = some y ∧ x.2 = y.2 ∧ BRel x.1 y.1 ∧ GoodB x.1 ∧ x.1.defs = b.defs ∧ x.1.steps = b.steps := by
  have wb := R.2.2.2.2.2.1
  have hn := wb.2.1
  obtain ⟨r, r1, r2, r3, r4, r5, r6⟩ := o19_is wb
  unfold o24 o31
  rw [o50_is R, r1, bindO_some rfl, bindO_some rfl]
  obtain ⟨v, v', l1, l2, hQ⟩ := loop_rel (f := o24_L0 r) (g := o31_L0 r) (fun (s : Nat × (List Cnd)) (t : Nat × RBoard) => s.1 = t.1 ∧ s.1 ≤ r.length ∧ BRel { b with conds := s.2 } t.2 ∧ GoodB { b with conds := s.2 } ∧ ∀ j, j < b.defs.length → (∀ q, q < s.1 → r.getD q 0 ≠ ((j : Nat) : Int)) → s.2.getD j default = b.conds.getD j default) (fun s => r.length - s.1) (fun cs w' => BRel { b with conds := cs } w' ∧ GoodB { b with conds := cs }) (by
    rintro ⟨k, cs⟩ ⟨k', w'⟩ ⟨h1, h2, h3, h4, h5⟩
    simp only at h1 h2 h3 h4 h5
    subst h1
    unfold o24_L0 o31_L0
    obtain ⟨M, hM, hMb⟩ : ∃ M : Int, M = 9223372036854775807 ∧ M > 1000 := ⟨_, rfl, by decide⟩
    rw [← hM]
    simp only
    by_cases hlt : k < r.length
    · obtain ⟨i, i1, i2, i3⟩ := r4 k hlt
      have hci := h5 i i1 (fun q hq e => by have := r3 q k (by omega) hlt (by rw [e, i3]); omega)
      have hs : shn { b with conds := cs } i = true := by
        unfold shn at i2 ⊢
        simp only
        rw [hci]; exact i2
      have hcl : cs.length = b.defs.length := h4.2.2.2.2.2.1
      obtain ⟨q1, q2⟩ := ack_rel h3 h4 (i := i) i1 hs
      rw [dt (by omega), cond_true, cond_true, i3, o30_is h3 i1, hs, cond_true, bindO_some rfl, grd_at' (by omega), grd_at' (by omega), grd_at' (by omega), show (((i : Nat) : Int)).toNat = i from by omega]
      refine .inr ⟨_, _, rfl, rfl, ⟨rfl, by simp only; omega, q1, q2, fun j hj hq => ?_⟩, by simp only; omega⟩
      simp only at hq ⊢
      have hij : i ≠ j := fun e => hq k (by omega) (by rw [i3, e])
      rw [getD_setC, if_neg (fun h => hij h.1)]
      exact h5 j hj (fun q hq2 => hq q (by omega))
    · rw [df (by omega), cond_false, cond_false]
      exact .inl ⟨_, _, rfl, rfl, h3, h4⟩) fuelN (0, b.conds) (0, w) ⟨rfl, Nat.zero_le _, R, g, fun j hj _ => rfl⟩ (by simp only [fuelN]; omega)
  rw [l1, l2, bindO_some rfl, bindO_some rfl]
  exact ⟨_, _, rfl, rfl, rfl, hQ.1, hQ.2, rfl, rfl⟩
theorem bytesC_split (cs : List Cnd) : ∀ (n k : Nat), k < n → ∃ t, bytesC cs n = bytesC cs k ++ ([u8 (flagsC (cs.getD k default))] ++ (putB (cs.getD k default).onset 8 ++ t))
  | 0, k, h => by omega
  | n + 1, k, h => by
    by_cases hk : k = n
    · subst hk
      exact ⟨[], by rw [bytesC, List.append_assoc, List.append_nil]⟩
    · obtain ⟨t, ht⟩ := bytesC_split cs n k (by omega)
      refine ⟨t ++ ([u8 (flagsC (cs.getD n default))] ++ putB (cs.getD n default).onset 8), ?_⟩
      rw [bytesC, ht]
      simp only [List.append_assoc]
theorem extC {l m : List Cnd} (hl : l.length = m.length) (h : ∀ k, k < l.length → l.getD k default = m.getD k default) : l = m := by
  refine List.ext_getElem hl fun k h1 h2 => ?_
  have := h k h1
  rw [List.getD_eq_getElem?_getD, List.getD_eq_getElem?_getD, List.getElem?_eq_getElem h1, List.getElem?_eq_getElem h2] at this
  exact this
theorem flags_in (c : Cnd) : flagsC c = 0 ∨ flagsC c = 1 ∨ flagsC c = 2 ∨ flagsC c = 3 := by
  unfold flagsC
  cases c.acked <;> cases (c.onset != 0) <;> decide
theorem again_ok {b : Board} (g : GoodB b) : o25 b.defs (bytesB b) = some (some b, 0) := by
  obtain ⟨g1, g2, g3, g4, g5, g6, g7⟩ := g
  unfold o25
  rw [o12_is b.defs g4 g5, bindO_some rfl]
  simp only
  have hlen : (bytesB b).length = 9 + 9 * b.defs.length := by
    unfold bytesB
    rw [List.length_append, List.length_append, bytesC_len, putB_len, g6]
    simp only [List.length_cons, List.length_nil]
  have hY : getI (bytesB b) 8 = b.steps := by
    unfold bytesB
    rw [List.append_assoc]
    exact getI_putB _ _ (by omega)
  have h8 : (bytesB b).getD 8 0 = u8 b.phase := by
    unfold bytesB
    rw [List.append_assoc, List.getD_eq_getElem?_getD, List.getElem?_append_right (by rw [putB_len]; exact Nat.le_refl _), putB_len]; rfl
  rw [neq_f rfl, cond_false, neq_f (by omega), cond_false, o48_is _ (by omega), bindO_some rfl, bindO_some rfl, hY, h8, u8_toNat (by omega)]
  have hbad : ((((decide (b.steps < 0) || decide (b.steps > 4611686018427387904)) || decide (b.phase < 1)) || decide (b.phase > 8)) || ((b.steps == 0) && (b.phase != 1))) = false := by
    rw [df (by omega), df (by omega), df (by omega), df (by omega)]
    simp only [Bool.false_or]
    by_cases h0 : b.steps = 0
    · rw [neq_f (g3 h0), Bool.and_false]
    · rw [eq_f h0, Bool.false_and]
  rw [hbad, cond_false]
  have hat : ∀ k, k < b.defs.length → (bytesB b).getD (9 + 9 * k) 0 = u8 (flagsC (b.conds.getD k default)) ∧ getI ((bytesB b).drop (10 + 9 * k)) 8 = (b.conds.getD k default).onset := fun k hk => by
    obtain ⟨t, ht⟩ := bytesC_split b.conds b.conds.length k (by omega)
    have e : bytesB b = (putB b.steps 8 ++ [u8 b.phase] ++ bytesC b.conds k) ++ ([u8 (flagsC (b.conds.getD k default))] ++ (putB (b.conds.getD k default).onset 8 ++ t)) := by
      unfold bytesB
      rw [ht]
      simp only [List.append_assoc]
    have hl : (putB b.steps 8 ++ [u8 b.phase] ++ bytesC b.conds k).length = 9 + 9 * k := by
      rw [List.length_append, List.length_append, bytesC_len, putB_len]
      simp only [List.length_cons, List.length_nil]
    have ho := g7 k hk
    constructor
    · rw [e, List.getD_eq_getElem?_getD, List.getElem?_append_right (by omega), hl, Nat.sub_self]; rfl
    · have hl2 : (putB b.steps 8 ++ [u8 b.phase] ++ bytesC b.conds k ++ [u8 (flagsC (b.conds.getD k default))]).length = 10 + 9 * k := by
        rw [List.length_append, hl]
        simp only [List.length_cons, List.length_nil]
        omega
      rw [e, ← List.append_assoc (putB b.steps 8 ++ [u8 b.phase] ++ bytesC b.conds k), dropL hl2]
      exact getI_putB _ _ (by omega)
  obtain ⟨v, h, rfl⟩ := loopO_ok (f := o25_L0 (bytesB b) b.steps ⟨b.defs, 0, 1, List.replicate b.defs.length default⟩) (fun s => s.1 ≤ b.defs.length ∧ s.2.length = b.defs.length ∧ ∀ j, j < s.1 → s.2.getD j default = b.conds.getD j default) (fun s => b.defs.length - s.1) (fun v => v = Ctl.go b.conds) (by
    rintro ⟨k, cs⟩ ⟨h1, h2, h3⟩
    simp only at h1 h2 h3
    by_cases hlt : k < b.defs.length
    · obtain ⟨a1, a2⟩ := hat k hlt
      have ho := g7 k hlt
      have hfl := flags_in (b.conds.getD k default)
      have hst : (flagsC (b.conds.getD k default) = 0 ∧ (b.conds.getD k default).onset = 0) ∨ ((flagsC (b.conds.getD k default) = 1 ∨ flagsC (b.conds.getD k default) = 3) ∧ 1 ≤ (b.conds.getD k default).onset ∧ (b.conds.getD k default).onset ≤ b.steps) := by
        rcases ho with ⟨o1, o2⟩ | ⟨o1, o2⟩
        · refine .inl ⟨?_, o1⟩
          unfold flagsC
          rw [o2, neq_f o1]; rfl
        · refine .inr ⟨?_, o1, o2⟩
          unfold flagsC
          rw [neq_t (by omega)]
          cases (b.conds.getD k default).acked
          · exact .inl rfl
          · exact .inr rfl
      rw [o25_round _ _ _ k cs (by simp only [List.length_replicate]; exact hlt) (by simp only [List.length_replicate]; omega) (by simp only [List.length_replicate]; exact hlen) (by simp only [List.length_replicate]; exact h2), a1, a2, u8_toNat (by omega), badS_ok hst, cond_false]
      refine .inl ⟨_, rfl, ⟨by simp only; omega, by simp only [List.length_set]; exact h2, fun j hj => ?_⟩, by simp only; omega⟩
      simp only at hj ⊢
      rw [getD_setC]
      by_cases hkj : k = j
      · subst hkj
        rw [if_pos ⟨rfl, by omega⟩]
        have hack : (flagsC (b.conds.getD k default) == 3) = (b.conds.getD k default).acked := by
          rcases ho with ⟨o1, o2⟩ | ⟨o1, o2⟩
          · unfold flagsC; rw [o2, neq_f o1]; rfl
          · unfold flagsC; rw [neq_t (by omega)]; cases (b.conds.getD k default).acked <;> rfl
        rw [hack]
      · rw [if_neg (fun h => hkj h.1)]
        exact h3 j (by omega)
    · obtain rfl : k = b.defs.length := by omega
      refine .inr ⟨Ctl.go cs, ?_, ?_⟩
      · unfold o25_L0; exact cond_neg (df (by simp only [List.length_replicate]; omega))
      · rw [extC (l := cs) (m := b.conds) (by omega) (fun k hk => h3 k (by omega))]) fuelN (0, List.replicate b.defs.length default) ⟨Nat.zero_le _, List.length_replicate, fun j hj => by simp only at hj; omega⟩ (by simp only [fuelN]; omega)
  rw [h, joinO_go rfl]
def okA (a : Act) : Prop := (0 ≤ a.conds ∧ a.conds ≤ 65535) ∧ (0 ≤ a.phase ∧ a.phase ≤ 255)
theorem okA_of {l : List Act} (h : ∀ x, x ∈ l → okAct x) : ∀ j, j < l.length → okA (l.getD j default) := fun j hj => by
  rw [List.getD_eq_getElem?_getD, List.getElem?_eq_getElem hj]
  have := h l[j] (List.getElem_mem hj)
  exact ⟨this.2.1, this.2.2.1⟩
theorem alertPlays_plain (l : List AlertDef) (acts : List Act) (ok : ∀ j, j < acts.length → okA (acts.getD j default)) : o9 l acts = some true := by
  unfold o9
  rw [o10_true, bindO_some rfl]
  simp only [Bool.not_true, cond_false]
  rw [letJ_def]
  obtain ⟨D, hD⟩ : ∃ D, o11 l = D := ⟨_, rfl⟩
  rw [hD]
  obtain ⟨v, hv, hv0⟩ := o13_told D
  by_cases h0 : v = 0
  rotate_left
  · rw [o12_no D hv h0, o28_no D hv h0, bindO_some rfl, bindO_some rfl]
    simp only
    rw [neq_f rfl, neq_t h0, eq_t rfl]; rfl
  subst h0
  have hl16 := hv0 rfl
  rw [o12_is D hv hl16, o28_is D hv hl16, bindO_some rfl, bindO_some rfl]
  simp only
  rw [neq_f rfl]
  simp only [Bool.or_false, cond_false]
  rw [bindO_some rfl]
  obtain ⟨r, h, rfl⟩ := loopO_ok (f := o9_L0 acts D) (fun s => s.1 ≤ 20 ∧ BRel s.2.1 s.2.2 ∧ GoodB s.2.1 ∧ s.2.1.defs = D ∧ s.2.1.steps ≤ ((s.1 : Nat) : Int)) (fun s => 20 - s.1) (fun r => r = Ctl.go ()) (by
    rintro ⟨k, b, w⟩ ⟨h1, R, g, hd, hs⟩
    simp only at h1 R g hd hs
    unfold o9_L0
    obtain ⟨M, hM, hMb⟩ : ∃ M : Int, M = 9223372036854775807 ∧ M > 1000 := ⟨_, rfl, by decide⟩
    rw [← hM]
    by_cases hc : k < acts.length ∧ k < 20
    · simp only
      obtain ⟨⟨c1, c2⟩, -⟩ := ok k hc.1
      rw [dt (by omega), dt (by omega)]
      simp only [Bool.and_self, cond_true]
      have key : ∀ b' w', BRel b' w' → GoodB b' → b'.defs = D → b'.steps ≤ ((k : Nat) : Int) + 1 → ∃ s', (bindO (τ := Bool) (o27 b' w') fun y44 => (cond ((!y44)) (some (Ctl.done (Ctl.done ((false))))) (grd (decide (((k : Nat) : Int) + 1 ≤ M)) (some (Ctl.go ((k + 1), (b' : Board), (w' : RBoard)))))) : Option (Ctl (Nat × Board × RBoard) (Ctl (Unit) (Bool)))) = some (Ctl.go s') ∧ (s'.1 ≤ 20 ∧ BRel s'.2.1 s'.2.2 ∧ GoodB s'.2.1 ∧ s'.2.1.defs = D ∧ s'.2.1.steps ≤ ((s'.1 : Nat) : Int)) ∧ 20 - s'.1 < 20 - k := fun b' w' R' g' hd' hs' => by
        refine ⟨(k + 1, b', w'), ?_, ⟨by simp only; omega, R', g', hd', by simp only; omega⟩, by simp only; omega⟩
        rw [o27_true R', bindO_some rfl]
        simp only [Bool.not_true, cond_false]
        exact grd_at' (by omega)
      obtain ⟨c, hcc⟩ : ∃ c : Nat, (acts.getD k default).conds = ((c : Nat) : Int) := ⟨(acts.getD k default).conds.toNat, by omega⟩
      obtain ⟨x1, y1, a1, a2, a3, a4, a5, a6, a7⟩ := step_ok R g (by omega) (c := c) (by omega) (acts.getD k default).phase
      obtain ⟨x2, y2, b1, b2, b3, b4, b5, b6, b7⟩ := ack_ok R g (acts.getD k default).index
      obtain ⟨x3, y3, d1, d2, d3, d4, d5, d6, d7⟩ := all_ok R g
      rw [hcc, a1, a2, b1, b2, d1, d2, o22_is R.2.2.2.2.2.1, bindO_some rfl, bindO_some rfl, bindO_some rfl, bindO_some rfl, bindO_some rfl, bindO_some rfl, bindO_some rfl]
      rw [neq_f a3, neq_f b3, neq_f d3, cond_false, cond_false, cond_false]
      have hag := again_ok g
      rw [hd] at hag
      rw [hag, bindO_some rfl]
      simp only [Option.isNone_some, Bool.or_false]
      rw [neq_f rfl, cond_false, bindO_some rfl]
      cases (decide ((Int.tmod (acts.getD k default).kind 8) < 4)) with
      | true =>
        rw [cond_true, joinO_go rfl]
        exact .inl (key x1.1 y1.1 a4 a5 (by rw [a6, hd]) (by omega))
      | false =>
        rw [cond_false]
        cases (decide ((Int.tmod (acts.getD k default).kind 8) < 6)) with
        | true =>
          rw [cond_true, joinO_go rfl, joinO_go rfl]
          exact .inl (key x2.1 y2.1 b4 b5 (by rw [b6, hd]) (by omega))
        | false =>
          rw [cond_false]
          cases ((Int.tmod (acts.getD k default).kind 8) == 6) with
          | true =>
            rw [cond_true, joinO_go rfl, joinO_go rfl, joinO_go rfl]
            exact .inl (key x3.1 y3.1 d4 d5 (by rw [d6, hd]) (by omega))
          | false =>
            rw [cond_false, joinO_go rfl, joinO_go rfl, joinO_go rfl]
            exact .inl (key b w R g hd (by omega))
    · refine .inr ⟨_, cond_neg ?_, rfl⟩
      simp only
      by_cases h2 : k < acts.length
      · rw [df (by omega : ¬ ((k : Nat) : Int) < 20), Bool.and_false]
      · rw [df (by omega : ¬ ((k : Nat) : Int) < ((acts.length : Nat) : Int)), Bool.false_and]) fuelN (0, ⟨D, 0, 1, List.replicate D.length default⟩, ⟨D, 0, 1, List.replicate D.length 0, List.replicate D.length false⟩) ⟨Nat.zero_le _, new_rel D hl16, ⟨⟨by simp only; decide, by simp only; decide⟩, ⟨by simp only; decide, by simp only; decide⟩, fun _ => rfl, hv, hl16, List.length_replicate, fun j hj => by
        simp only at hj ⊢
        rw [List.getD_eq_getElem?_getD, List.getElem?_replicate, if_pos hj]
        exact .inl ⟨rfl, rfl⟩⟩, rfl, Int.le_refl _⟩ (by simp only [fuelN]; omega)
  rw [h, joinO_go rfl]
end Go.Proofs.Ytfhchendnfpbkaa
