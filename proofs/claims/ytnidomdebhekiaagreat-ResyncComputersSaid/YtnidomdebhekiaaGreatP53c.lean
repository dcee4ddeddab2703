/-
A node of the program and of the reference go on alike. Conditions: each lemma's own.
-/
import Derived.Test.YtnidomdebhekiaaGreatP53b
namespace Go.Proofs.YtnidomdebhekiaaGreat
set_option linter.unusedVariables false
set_option linter.unusedSimpArgs false
open Go.RowKit
def otherF (m : RNode) : Bool := m.isHeard && (m.heard.role == 3)
def ownC (m : RNode) : Sett := ⟨m.steps, m.cycle, m.fresh, cond (m.number == 1) (packC m.input true m.heard.input (otherF m)).1 (packC m.heard.input (otherF m) m.input true).1⟩
structure NRel (n : Node) (m : RNode) : Prop where
  num : n.number = m.number
  num12 : m.number = 1 ∨ m.number = 2
  role : n.role = m.role
  role13 : m.role = 1 ∨ m.role = 2 ∨ m.role = 3
  steps : n.steps = m.steps
  alone : n.alone = m.alone
  stage : n.next_ = m.stage
  st : 0 ≤ m.stage ∧ m.stage ≤ 5
  cyc : m.stage ≠ 0 → n.cycle = m.cycle
  inp : m.stage ≠ 0 → n.input = m.input ∧ m.input.length ≤ 400
  one : m.stage = 1 → n.is_ = false ∧ m.isHeard = false ∧ n.heard = noHeard ∧ m.heard = noHeard ∧ m.fresh = false
  two : 2 ≤ m.stage → n.is_ = m.isHeard ∧ n.heard = m.heard ∧ n.fresh = m.fresh ∧ m.heard.input.length ≤ 400
  has : 1 ≤ m.stage ∧ m.stage ≤ 3 → n.has = false ∧ m.stepped = false
  three : m.stage = 3 → m.role = 2 → n.set_ = ownC m
  four : 4 ≤ m.stage → n.has = m.stepped
  five : m.stage = 5 → m.stepped = true → n.told = ⟨m.steps, m.told⟩
theorem due_eq {n : Node} {m : RNode} (h : NRel n m) (c : Int) : o81 n c = cond (m.stage != c) 8 0 := by
  unfold o81; rw [h.stage]
theorem neq_t {a b : Int} (h : a ≠ b) : (a != b) = true := by simpa using h
theorem neq_f {a b : Int} (h : a = b) : (a != b) = false := by simpa using h
theorem eq_t {a b : Int} (h : a = b) : (a == b) = true := by simpa using h
theorem eq_f {a b : Int} (h : a ≠ b) : (a == b) = false := by simpa using h
theorem new_rel {number : Int} (h : number = 1 ∨ number = 2) : ∃ n m, o15 number = (some n, 0) ∧ o18 number = (m, 0) ∧ NRel n m := by
  rcases h with rfl | rfl
  all_goals
    refine ⟨_, _, rfl, rfl, ⟨rfl, ?_, rfl, .inl rfl, rfl, rfl, rfl, ⟨by decide, by decide⟩, fun h => absurd rfl h, fun h => absurd rfl h, fun h => absurd h (by decide), fun h => absurd h (by decide), fun h => absurd h.1 (by decide), fun h => absurd h (by decide), fun h => absurd h (by decide), fun h => absurd h (by decide)⟩⟩
  · exact .inl rfl
  · exact .inr rfl
theorem new_no {number : Int} (h : ¬ (number = 1 ∨ number = 2)) : (o15 number).1 = none ∧ (o15 number).2 = 1 ∧ (o18 number).2 = 1 := by
  have e : ((number != 1) && (number != 2)) = true := by
    simp only [Bool.and_eq_true, bne_iff_ne]
    exact ⟨fun e => h (.inl e), fun e => h (.inr e)⟩
  unfold o15 o18
  rw [e]
  exact ⟨rfl, rfl, rfl⟩
theorem hello_rel {n : Node} {m : RNode} (h : NRel n m) (cy : Int) (inp : List UInt8) (w : Want) : ∃ n' m' f e, o48 n cy inp w = some (n', f, e) ∧ o50 m cy inp w = some (m', f, e) ∧ NRel n' m' := by
  unfold o48 o50
  rw [letJ_def, due_eq h]
  by_cases h0 : m.stage = 0
  · rw [neq_f h0]
    simp only [cond_false, show ((0 : Int) != 0) = false from rfl]
    by_cases hc : cy < 0
    · rw [dt hc]
      exact ⟨n, m, _, _, rfl, rfl, h⟩
    · rw [df hc]
      simp only [cond_false]
      rw [o82_eq, o84_eq, bindO_some rfl, bindO_some rfl, h.role, h.steps]
      cases he : ((putHello ⟨m.role, m.steps, w, inp⟩).2 != 0) with
      | true => exact ⟨n, m, _, _, rfl, rfl, h⟩
      | false =>
        simp only [cond_false]
        rw [letJ_def, o43_def, letJ_def]
        have hl : inp.length ≤ 400 := by
          unfold putHello at he
          cases hb : badHello ⟨m.role, m.steps, w, inp⟩ with
          | true => rw [hb] at he; cases he
          | false =>
            rw [hb] at he
            simp only [cond_false] at he
            by_cases hl : ((inp.length : Nat) : Int) > 400
            · rw [dt hl] at he; cases he
            · omega
        refine ⟨_, _, _, _, rfl, congrArg some (Prod.ext rfl (Prod.ext ?_ rfl)), ?_⟩
        · unfold o83
          simp only [h.num]
        · exact ⟨h.num, h.num12, rfl, h.role13, rfl, h.alone, rfl, ⟨by simp, by simp⟩, fun _ => rfl, fun _ => ⟨rfl, hl⟩, fun _ => ⟨rfl, rfl, rfl, rfl, rfl⟩, fun h => absurd h (by simp), fun _ => ⟨rfl, rfl⟩, fun h => absurd h (by simp), fun h => absurd h (by simp), fun h => absurd h (by simp)⟩
  · rw [neq_t h0]
    exact ⟨n, m, _, _, rfl, rfl, h⟩
theorem decide_eq (a b c d : Int) (f : Bool) (x y : Int) : o87 a b c d f x y = o92 a b c d f x y := by
  unfold o87 o92
  rw [letJ_def]
  by_cases h2 : x = 2
  · subst h2; simp
  · by_cases h3 : x = 3
    · subst h3; simp
    · have e2 : (x == 2) = false := by simpa using h2
      have e3 : (x == 3) = false := by simpa using h3
      have n2 : (x != 2) = true := by simpa using h2
      have n3 : (x != 3) = true := by simpa using h3
      simp [e2, e3, n2, n3]
theorem fits_eq {n : Node} {m : RNode} (hn : n.number = m.number) (hc : n.cycle = m.cycle) (f : Frame) (came : Bool) (l : Int) : o85 n f came l = o60 m f came l := by
  unfold o85 o60; rw [hn, hc]
theorem getHello_len (p : List UInt8) : (getHello p).1.input.length ≤ 400 := by
  unfold getHello
  by_cases h : ((p.length : Nat) : Int) > 419
  · rw [dt h]; simp [noHeard]
  · cases (((((decide (((p.length : Nat) : Int) < 19) || decide (((p.length : Nat) : Int) > 419)) || decide (((p.getD 0 0).toNat : Int) < 1)) || decide (((p.getD 0 0).toNat : Int) > 3)) || decide (getI (p.drop 1) 8 < 0)) || decide (getI (p.drop 9) 8 < 0)) with
    | true => simp [noHeard]
    | false => simp only [cond_false, List.length_drop]; omega
theorem cond_or {b : Bool} {x y : Int} (h : x = 1 ∨ x = 2 ∨ x = 3) (k : y = 1 ∨ y = 2 ∨ y = 3) : cond b x y = 1 ∨ cond b x y = 2 ∨ cond b x y = 3 := by cases b <;> assumption
theorem decide_13 (a b c d : Int) (f : Bool) (x y : Int) : o92 a b c d f x y = 1 ∨ o92 a b c d f x y = 2 ∨ o92 a b c d f x y = 3 := by
  rw [← decide_eq]
  unfold o87
  repeat' (first | exact .inl rfl | exact .inr (.inl rfl) | exact .inr (.inr rfl) | (refine cond_or ?_ ?_))
theorem adopt_rel {n : Node} {m : RNode} (h : NRel n m) (s : Int) : ∃ n' m' e, o74 n s = (n', e) ∧ o78 m s = (m', e) ∧ NRel n' m' := by
  unfold o74 o78
  rw [h.stage, h.role]
  cases hb : ((m.stage != 0) || (m.role != 1)) with
  | true => exact ⟨n, m, _, rfl, rfl, h⟩
  | false =>
    simp only [cond_false]
    cases (decide (s < 1) || decide (s > 4611686018427387904)) with
    | true => exact ⟨n, m, _, rfl, rfl, h⟩
    | false =>
      simp only [Bool.or_eq_false_iff] at hb
      have h0 : m.stage = 0 := by simpa using hb.1
      refine ⟨_, _, _, rfl, rfl, ⟨h.num, h.num12, rfl, .inr (.inr rfl), rfl, h.alone, rfl, h.st, fun e => absurd h0 e, fun e => absurd h0 e, fun e => ?_, fun e => ?_, fun e => ?_, fun e => ?_, fun e => ?_, fun e => ?_⟩⟩ <;> (exfalso; simp only at e; omega)
theorem drop_rel {n : Node} {m : RNode} (h : NRel n m) : NRel (o79 n) (o80 m) := by
  unfold o79 o80 o88
  rw [letJ_def]
  exact ⟨h.num, h.num12, rfl, .inl rfl, rfl, h.alone, rfl, ⟨by simp, by simp⟩, fun e => absurd rfl e, fun e => absurd rfl e, fun e => absurd e (by simp), fun e => absurd e (by simp), fun e => absurd e.1 (by simp), fun e => absurd e (by simp), fun e => absurd e (by simp), fun e => absurd e (by simp)⟩
end Go.Proofs.YtnidomdebhekiaaGreat
