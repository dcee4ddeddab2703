/-
A node's Share, and the reference's. Conditions: each lemma's own.
-/
import Derived.Test.YtnidomdebhekiaaGreatP53d
namespace Go.Proofs.YtnidomdebhekiaaGreat
set_option linter.unusedVariables false
set_option linter.unusedSimpArgs false
open Go.RowKit
theorem o97_eq (m : RNode) : o97 m = some (ownC m) := by
  unfold o97 ownC otherF
  rw [o114_eq, o114_eq]
  cases m.number == 1 <;> rfl
theorem packC_len (a b : List UInt8) (p q : Bool) (ha : a.length ≤ 400) (hb : b.length ≤ 400) : (packC a p b q).1.length ≤ 1000000 := by
  unfold packC
  have e1 := part1_len a p
  have e2 := part1_len b q
  cases long a p b q with
  | true => simp
  | false => simp only [cond_false, List.length_append, List.length_singleton]; omega
theorem ownC_len (m : RNode) (h1 : m.input.length ≤ 400) (h2 : m.heard.input.length ≤ 400) : (ownC m).in_.length ≤ 1000000 := by
  unfold ownC
  cases (m.number == 1) with
  | true => exact packC_len _ _ _ _ h1 h2
  | false => exact packC_len _ _ _ _ h2 h1
theorem pack_no2 (a b : List UInt8) (p : Bool) : packC a p b false = packC a p [] false := by
  unfold packC long part1; simp only [Bool.false_and, Bool.or_false, cond_false]
theorem pack_no1 (a b : List UInt8) (p : Bool) : packC b false a p = packC [] false a p := by
  unfold packC long part1; simp only [Bool.false_and, Bool.false_or, cond_false]
theorem pack_c2 (a b : List UInt8) (p x : Bool) : packC a p (cond x (true, b) (false, [])).2 (cond x (true, b) (false, [])).1 = packC a p b x := by
  cases x with
  | true => rfl
  | false => exact (pack_no2 a b p).symm
theorem pack_c1 (a b : List UInt8) (p x : Bool) : packC (cond x (true, b) (false, [])).2 (cond x (true, b) (false, [])).1 a p = packC b x a p := by
  cases x with
  | true => rfl
  | false => exact (pack_no1 a b p).symm
theorem share_rel {n : Node} {m : RNode} (h : NRel n m) : ∃ n' m' f b e, o54 n = some (n', f, b, e) ∧ o55 m = some (m', f, b, e) ∧ NRel n' m' := by
  by_cases h0 : m.stage = 2
  · obtain ⟨a1, a2, a3, a4⟩ := h.two (by omega)
    obtain ⟨b1, b2⟩ := h.has ⟨by omega, by omega⟩
    have hc := h.cyc (by omega)
    obtain ⟨hi, hl⟩ := h.inp (by omega)
    obtain ⟨hn, hn12, hr, hr13, hs, ha, hg, -, -, -, -, -, -, -, -, -⟩ := h
    obtain ⟨number, role, steps, alone, next_, cycle, input, heard, is_, fresh, set_, has, told⟩ := n
    obtain ⟨number', role', steps', alone', stage, cycle', input', fresh', isHeard, heard', stepped, told'⟩ := m
    simp only at h0 a1 a2 a3 a4 b1 b2 hc hi hl hn hn12 hr hr13 hs ha hg
    subst h0 a1 a2 a3 b1 b2 hc hi hn hr hs ha hg
    have key : ∀ (st : Sett), (role = 2 → st = ownC ⟨number, role, steps, alone, 3, cycle, input, fresh, is_, heard, false, told'⟩) →
        NRel ⟨number, role, steps, alone, 3, cycle, input, heard, is_, fresh, st, false, told⟩ ⟨number, role, steps, alone, 3, cycle, input, fresh, is_, heard, false, told'⟩ := by
      intro st hst
      exact ⟨rfl, hn12, rfl, hr13, rfl, rfl, rfl, ⟨by simp, by simp⟩, fun _ => rfl, fun _ => ⟨rfl, hl⟩, fun e => absurd e (by simp), fun _ => ⟨rfl, rfl, rfl, a4⟩, fun _ => ⟨rfl, rfl⟩, fun _ e => hst e, fun e => absurd e (by simp), fun e => absurd e (by simp)⟩
    have hlen := ownC_len ⟨number, role, steps, alone, 3, cycle, input, fresh, is_, heard, false, told'⟩ hl a4
    unfold o54 o55
    rw [letJ_def]
    rw [letJ_def]
    simp only [o81, cond_false, show ((2 : Int) != 2) = false from rfl, show ((0 : Int) != 0) = false from rfl]
    by_cases hr2 : role = 2
    · subst hr2
      simp only [show ((2 : Int) != 2) = false from rfl, cond_false]
      rw [o97_eq, bindO_some rfl, o96_eq _ hlen, bindO_some rfl]
      rcases hn12 with rfl | rfl
      · simp only [show ((1 : Int) == 1) = true from rfl, cond_true]
        repeat rw [letJ_def]
        rw [o94_eq, bindO_some rfl, pack_c2]
        exact ⟨_, _, _, _, _, bindO_some (o95_eq _ hlen), rfl, key _ (fun _ => rfl)⟩
      · simp only [show ((2 : Int) == 1) = false from rfl, show ((2 : Int) == 2) = true from rfl, cond_false]
        rw [grd_pos rfl]
        repeat rw [letJ_def]
        rw [o94_eq, bindO_some rfl, pack_c1]
        exact ⟨_, _, _, _, _, bindO_some (o95_eq _ hlen), rfl, key _ (fun _ => rfl)⟩
    · rw [neq_t hr2]
      simp only [cond_true]
      have hk := key set_ (fun e => absurd e hr2)
      rcases hn12 with rfl | rfl
      · exact ⟨_, _, _, _, _, rfl, rfl, hk⟩
      · exact ⟨_, _, _, _, _, rfl, rfl, hk⟩
  · unfold o54 o55
    rw [letJ_def, letJ_def, due_eq h, neq_t h0, h.num]
    rcases h.num12 with e | e
    · rw [e]; exact ⟨n, m, _, _, _, rfl, rfl, h⟩
    · rw [e]; exact ⟨n, m, _, _, _, rfl, rfl, h⟩
end Go.Proofs.YtnidomdebhekiaaGreat
