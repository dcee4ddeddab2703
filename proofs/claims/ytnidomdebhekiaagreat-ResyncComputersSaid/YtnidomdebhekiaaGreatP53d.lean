/-
A node's Hear, Share, Step, Tell, Judge, and the reference's. Conditions: each lemma's own.
-/
import Derived.Test.YtnidomdebhekiaaGreatP53c
namespace Go.Proofs.YtnidomdebhekiaaGreat
set_option linter.unusedVariables false
set_option linter.unusedSimpArgs false
open Go.RowKit
theorem bindO_letJ {α τ ρ : Type} (x : α) (g : α → Option τ) (k : τ → Option ρ) : bindO (letJ x g) k = bindO (g x) k := Eq.trans rfl rfl
theorem hear_rel {n : Node} {m : RNode} (h : NRel n m) (f : Frame) (came : Bool) : ∃ n' m' hd b e, o51 n f came = some (n', hd, b, e) ∧ o53 m f came = some (m', hd, b, e) ∧ NRel n' m' := by
  by_cases h0 : m.stage = 1
  · obtain ⟨a1, a2, a3, a4, a5⟩ := h.one h0
    obtain ⟨b1, b2⟩ := h.has ⟨by omega, by omega⟩
    have hc := h.cyc (by omega)
    obtain ⟨hi, hl⟩ := h.inp (by omega)
    obtain ⟨hn, hn12, hr, hr13, hs, ha, hg, -, -, -, -, -, -, -, -, -⟩ := h
    obtain ⟨number, role, steps, alone, next_, cycle, input, heard, is_, fresh, set_, has, told⟩ := n
    obtain ⟨number', role', steps', alone', stage, cycle', input', fresh', isHeard, heard', stepped, told'⟩ := m
    simp only at h0 a1 a2 a3 a4 a5 b1 b2 hc hi hl hn hn12 hr hr13 hs ha hg
    subst h0 a1 a2 a3 a4 a5 b1 b2 hc hi hn hr hs ha hg
    have key : ∀ (al : Int) (is : Bool) (hd : Heard) (st : Int) (fr : Bool) (y : Int), hd.input.length ≤ 400 → y = 1 ∨ y = 2 ∨ y = 3 →
        NRel ⟨number, y, st, al, 2, cycle, input, hd, is, fr, set_, false, told⟩ ⟨number, y, st, al, 2, cycle, input, fr, is, hd, false, told'⟩ := by
      intro al is hd st fr y hh hy
      exact ⟨rfl, hn12, rfl, hy, rfl, rfl, rfl, ⟨by simp, by simp⟩, fun _ => rfl, fun _ => ⟨rfl, hl⟩, fun e => absurd e (by simp), fun _ => ⟨rfl, rfl, rfl, hh⟩, fun _ => ⟨rfl, rfl⟩, fun e => absurd e (by simp), fun e => absurd e (by simp), fun e => absurd e (by simp)⟩
    unfold o51 o53
    rw [letJ_def]
    simp only [o81, cond_false, show ((1 : Int) != 1) = false from rfl, show ((0 : Int) != 0) = false from rfl]
    rw [letJ_def, letJ_def, fits_eq (m := ⟨number, role, steps, IntKind.i64.wrap (alone + 1), 2, cycle, input, false, false, noHeard, false, told'⟩) rfl rfl f came 1]
    cases hb : o60 ⟨number, role, steps, IntKind.i64.wrap (alone + 1), 2, cycle, input, false, false, noHeard, false, told'⟩ f came 1 with
    | false =>
      simp only [cond_false]
      rw [bindO_some rfl, bindO_some rfl, letJ_def, letJ_def, letJ_def, decide_eq]
      simp only [cond_false]
      have hyy := decide_13 number role steps (IntKind.i64.wrap (alone + 1)) false 0 0
      have hk := key (IntKind.i64.wrap (alone + 1)) false noHeard
      rw [show noHeard.role = 0 from rfl, show noHeard.steps = 0 from rfl]
      generalize o92 number role steps (IntKind.i64.wrap (alone + 1)) false 0 0 = y at *
      rcases hyy with rfl | rfl | rfl <;> rcases hr13 with rfl | rfl | rfl
      all_goals exact ⟨_, _, _, _, _, rfl, rfl, hk _ _ _ (by simp [noHeard]) (by first | exact .inl rfl | exact .inr (.inl rfl) | exact .inr (.inr rfl))⟩
    | true =>
      simp only [cond_true]
      rw [o86_eq, o91_eq]
      have hgl := getHello_len f.payload
      generalize getHello f.payload = gh at *
      obtain ⟨hd, e⟩ := gh
      cases he : (e == 0) with
      | false =>
        simp only [bindO_some rfl, he, cond_false]
        rw [bindO_letJ, bindO_some rfl, letJ_def, letJ_def, letJ_def, decide_eq]
        simp only [cond_false]
        have hyy := decide_13 number role steps (IntKind.i64.wrap (alone + 1)) false 0 0
        have hk := key (IntKind.i64.wrap (alone + 1)) false noHeard
        rw [show noHeard.role = 0 from rfl, show noHeard.steps = 0 from rfl]
        generalize o92 number role steps (IntKind.i64.wrap (alone + 1)) false 0 0 = y at *
        rcases hyy with rfl | rfl | rfl <;> rcases hr13 with rfl | rfl | rfl
        all_goals exact ⟨_, _, _, _, _, rfl, rfl, hk _ _ _ (by simp [noHeard]) (by first | exact .inl rfl | exact .inr (.inl rfl) | exact .inr (.inr rfl))⟩
      | true =>
        simp only [bindO_some rfl, he, cond_true]
        rw [bindO_letJ, bindO_some rfl, letJ_def, letJ_def, letJ_def, decide_eq]
        simp only [cond_true]
        have hyy := decide_13 number role steps 0 true hd.role hd.steps
        have hk := key 0 true hd
        generalize o92 number role steps 0 true hd.role hd.steps = y at *
        rcases hyy with rfl | rfl | rfl <;> rcases hr13 with rfl | rfl | rfl
        all_goals exact ⟨_, _, _, _, _, rfl, rfl, hk _ _ _ hgl (by first | exact .inl rfl | exact .inr (.inl rfl) | exact .inr (.inr rfl))⟩
  · unfold o51 o53
    rw [letJ_def, due_eq h, neq_t h0]
    exact ⟨n, m, _, _, _, rfl, rfl, h⟩
end Go.Proofs.YtnidomdebhekiaaGreat
