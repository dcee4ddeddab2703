/-
A node's Step, Tell, Judge, and the reference's. Conditions: each lemma's own.
-/
import Derived.Test.YtnidomdebhekiaaGreatP53e
namespace Go.Proofs.YtnidomdebhekiaaGreat
set_option linter.unusedVariables false
set_option linter.unusedSimpArgs false
open Go.RowKit
theorem step_rel {n : Node} {m : RNode} (h : NRel n m) (f : Frame) (came : Bool) (hp : f.payload.length ≤ 1000000) : ∃ n' m' s b e, o56 n f came = some (n', s, b, e) ∧ o59 m f came = some (m', s, b, e) ∧ NRel n' m' := by
  by_cases h0 : m.stage = 3
  · obtain ⟨a1, a2, a3, a4⟩ := h.two (by omega)
    obtain ⟨b1, b2⟩ := h.has ⟨by omega, by omega⟩
    have hc := h.cyc (by omega)
    have hst := h.three h0
    obtain ⟨hi, hl⟩ := h.inp (by omega)
    obtain ⟨hn, hn12, hr, hr13, hs, ha, hg, -, -, -, -, -, -, -, -, -⟩ := h
    obtain ⟨number, role, steps, alone, next_, cycle, input, heard, is_, fresh, set_, has, told⟩ := n
    obtain ⟨number', role', steps', alone', stage, cycle', input', fresh', isHeard, heard', stepped, told'⟩ := m
    simp only at h0 a1 a2 a3 a4 b1 b2 hc hi hl hn hn12 hr hr13 hs ha hg hst
    subst h0 a1 a2 a3 b1 b2 hc hi hn hr hs ha hg
    have key : ∀ (st : Sett) (r ss : Int) (x : Bool), (r = 1 ∨ r = 2 ∨ r = 3) →
        NRel ⟨number, r, ss, alone, 4, cycle, input, heard, is_, fresh, st, x, told⟩ ⟨number, r, ss, alone, 4, cycle, input, fresh, is_, heard, x, told'⟩ := by
      intro st r ss x hr
      exact ⟨rfl, hn12, rfl, hr, rfl, rfl, rfl, ⟨by simp, by simp⟩, fun _ => rfl, fun _ => ⟨rfl, hl⟩, fun e => absurd e (by simp), fun _ => ⟨rfl, rfl, rfl, a4⟩, fun e => absurd e.2 (by simp), fun e => absurd e (by simp), fun _ => rfl, fun e => absurd e (by simp)⟩
    unfold o56 o59
    rw [letJ_def]
    simp only [o81, cond_false, show ((3 : Int) != 3) = false from rfl, show ((0 : Int) != 0) = false from rfl]
    rcases hr13 with rfl | rfl | rfl
    · exact ⟨_, _, _, _, _, rfl, rfl, key set_ 1 steps false (.inl rfl)⟩
    · have e := hst rfl
      subst e
      simp only [show ((2 : Int) == 1) = false from rfl, show ((2 : Int) == 2) = true from rfl, show ((2 : Int) == 3) = false from rfl, cond_false, cond_true]
      rw [o97_eq]
      exact ⟨_, _, _, _, _, rfl, rfl, key _ 2 _ true (.inr (.inl rfl))⟩
    · simp only [show ((3 : Int) == 1) = false from rfl, show ((3 : Int) == 2) = false from rfl, show ((3 : Int) == 3) = true from rfl, cond_false, cond_true]
      rw [o97_eq]
      simp only [bindO_some rfl]
      repeat rw [letJ_def]
      rw [fits_eq (m := ⟨number, 3, steps, alone, 4, cycle, input, fresh, is_, heard, false, told'⟩) rfl rfl f came 2]
      cases hb : o60 ⟨number, 3, steps, alone, 4, cycle, input, fresh, is_, heard, false, told'⟩ f came 2 with
      | false => exact ⟨_, _, _, _, _, rfl, rfl, key set_ 1 0 false (.inl rfl)⟩
      | true =>
        simp only [cond_true]
        rw [o57_eq _ _ hp, o61_eq]
        generalize getSetC cycle f.payload = gs
        obtain ⟨s, e⟩ := gs
        simp only [bindO_some rfl]
        have ee : ((e != 0) || s.fresh || (s.steps != steps)) = !(((e == 0) && !s.fresh) && (s.steps == steps)) := by
          cases he : (e == 0) <;> cases s.fresh <;> cases h2 : (s.steps == steps) <;> simp [bne, he, h2]
        rw [ee]
        cases (((e == 0) && !s.fresh) && (s.steps == steps)) with
        | false => exact ⟨_, _, _, _, _, rfl, rfl, key set_ 1 0 false (.inl rfl)⟩
        | true => exact ⟨_, _, _, _, _, rfl, rfl, key s 3 _ true (.inr (.inr rfl))⟩
  · unfold o56 o59
    rw [letJ_def, due_eq h, neq_t h0]
    exact ⟨n, m, _, _, _, rfl, rfl, h⟩
theorem tell_rel {n : Node} {m : RNode} (h : NRel n m) (t : Targets) (ht : okT t) : ∃ n' m' f b e, o63 n t = some (n', f, b, e) ∧ o64 m t = some (m', f, b, e) ∧ NRel n' m' := by
  by_cases h0 : m.stage = 4
  · obtain ⟨a1, a2, a3, a4⟩ := h.two (by omega)
    have b1 := h.four (by omega)
    have hc := h.cyc (by omega)
    obtain ⟨hi, hl⟩ := h.inp (by omega)
    obtain ⟨hn, hn12, hr, hr13, hs, ha, hg, -, -, -, -, -, -, -, -, -⟩ := h
    obtain ⟨number, role, steps, alone, next_, cycle, input, heard, is_, fresh, set_, has, told⟩ := n
    obtain ⟨number', role', steps', alone', stage, cycle', input', fresh', isHeard, heard', stepped, told'⟩ := m
    simp only at h0 a1 a2 a3 a4 b1 hc hi hl hn hn12 hr hr13 hs ha hg
    subst h0 a1 a2 a3 b1 hc hi hn hr hs ha hg
    have key : ∀ (tp : Result) (tr : Targets), (has = true → tp = ⟨steps, tr⟩) →
        NRel ⟨number, role, steps, alone, 5, cycle, input, heard, is_, fresh, set_, has, tp⟩ ⟨number, role, steps, alone, 5, cycle, input, fresh, is_, heard, has, tr⟩ := by
      intro tp tr hx
      exact ⟨rfl, hn12, rfl, hr13, rfl, rfl, rfl, ⟨by simp, by simp⟩, fun _ => rfl, fun _ => ⟨rfl, hl⟩, fun e => absurd e (by simp), fun _ => ⟨rfl, rfl, rfl, a4⟩, fun e => absurd e.2 (by simp), fun e => absurd e (by simp), fun _ => rfl, fun _ e => hx e⟩
    unfold o63 o64
    rw [letJ_def]
    simp only [o81, cond_false, show ((4 : Int) != 4) = false from rfl, show ((0 : Int) != 0) = false from rfl]
    cases has with
    | false => exact ⟨_, _, _, _, _, rfl, rfl, key told told' (by simp)⟩
    | true =>
      simp only [Bool.not_true, cond_false]
      exact ⟨_, _, _, _, _, bindO_some (o101_eq ⟨steps, t⟩ ht), bindO_some (o102_eq ⟨steps, t⟩ ht), key ⟨steps, t⟩ t (fun _ => rfl)⟩
  · unfold o63 o64
    rw [letJ_def, due_eq h, neq_t h0]
    exact ⟨n, m, _, _, _, rfl, rfl, h⟩
theorem getResC_e (p : List UInt8) : (getResC p).2 = 0 ∨ (getResC p).2 = 4 := by
  unfold getResC
  cases (((p.length : Nat) : Int) != 43) with
  | true => exact .inr rfl
  | false => exact .inl rfl
theorem judge_rel {n : Node} {m : RNode} (h : NRel n m) (f : Frame) (came : Bool) : ∃ n' m' v e, o65 n f came = some (n', v, e) ∧ o66 m f came = some (m', v, e) ∧ NRel n' m' := by
  by_cases h0 : m.stage = 5
  · obtain ⟨a1, a2, a3, a4⟩ := h.two (by omega)
    have b1 := h.four (by omega)
    have hf := h.five h0
    have hc := h.cyc (by omega)
    obtain ⟨hi, hl⟩ := h.inp (by omega)
    obtain ⟨hn, hn12, hr, hr13, hs, ha, hg, -, -, -, -, -, -, -, -, -⟩ := h
    obtain ⟨number, role, steps, alone, next_, cycle, input, heard, is_, fresh, set_, has, told⟩ := n
    obtain ⟨number', role', steps', alone', stage, cycle', input', fresh', isHeard, heard', stepped, told'⟩ := m
    simp only at h0 a1 a2 a3 a4 b1 hc hi hl hn hn12 hr hr13 hs ha hg hf
    subst h0 a1 a2 a3 b1 hc hi hn hr hs ha hg
    have key : NRel ⟨number, role, steps, alone, 0, cycle, input, heard, is_, fresh, set_, has, told⟩ ⟨number, role, steps, alone, 0, cycle, input, fresh, is_, heard, has, told'⟩ :=
      ⟨rfl, hn12, rfl, hr13, rfl, rfl, rfl, ⟨by simp, by simp⟩, fun e => absurd rfl e, fun e => absurd rfl e, fun e => absurd e (by simp), fun e => absurd e (by simp), fun e => absurd e.1 (by simp), fun e => absurd e (by simp), fun e => absurd e (by simp), fun e => absurd e (by simp)⟩
    unfold o65 o66
    rw [letJ_def]
    simp only [o81, cond_false, show ((5 : Int) != 5) = false from rfl, show ((0 : Int) != 0) = false from rfl]
    cases has with
    | false => exact ⟨_, _, _, _, rfl, rfl, key⟩
    | true =>
      have e := hf rfl
      subst e
      simp only [Bool.not_true, cond_false]
      rw [o103_eq, o104_eq, bindO_some rfl]
      repeat rw [letJ_def]
      rw [fits_eq (m := ⟨number, role, steps, alone, 0, cycle, input, fresh, is_, heard, true, told'⟩) rfl rfl f came 3]
      cases hb : o60 ⟨number, role, steps, alone, 0, cycle, input, fresh, is_, heard, true, told'⟩ f came 3 with
      | false => exact ⟨_, _, _, _, rfl, rfl, key⟩
      | true =>
        simp only [cond_true]
        have ge := getResC_e f.payload
        generalize getResC f.payload = gs at *
        obtain ⟨r, e⟩ := gs
        simp only at ge
        rcases ge with rfl | rfl
        · simp only [bindO_some rfl, show ((0 : Int) == 0) = true from rfl, show ((0 : Int) != 0) = false from rfl, Bool.and_true, Bool.not_true, cond_false]
          have eo : (cond (role == 3) true (o93 ⟨number, role, steps, alone, 0, cycle, input, heard, is_, fresh, set_, true, ⟨steps, told'⟩⟩)) = ((role == 3) || (is_ && (heard.role == 3))) := by
            cases (role == 3) <;> rfl
          repeat rw [letJ_def]
          rw [eo]
          cases ((role == 3) || (is_ && (heard.role == 3))) with
          | false => exact ⟨_, _, _, _, rfl, rfl, key⟩
          | true =>
            simp only [Bool.true_and]
            generalize ((r.steps == steps) && _) = z
            cases z with
            | false => exact ⟨_, _, _, _, rfl, rfl, key⟩
            | true => exact ⟨_, _, _, _, rfl, rfl, key⟩
        · exact ⟨_, _, _, _, rfl, rfl, key⟩
  · unfold o65 o66
    rw [letJ_def, due_eq h, neq_t h0]
    exact ⟨n, m, _, _, rfl, rfl, h⟩
end Go.Proofs.YtnidomdebhekiaaGreat
