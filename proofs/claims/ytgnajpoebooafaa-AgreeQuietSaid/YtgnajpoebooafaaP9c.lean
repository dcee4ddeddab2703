/-
A cycle of two nodes, whatever frames are lost. Conditions: each lemma's own.
-/
import Derived.Test.YtgnajpoebooafaaP9b
namespace Go.Proofs.Ytgnajpoebooafaa
set_option linter.unusedVariables false
set_option linter.unusedSimpArgs false
open Go.RowKit
/-- a node between two cycles -/
structure Idle (n : Node) (k B : Int) : Prop where
  num : n.number = k
  next : n.next_ = 0
  role : 1 ≤ n.role ∧ n.role ≤ 3
  steps : 0 ≤ n.steps ∧ n.steps ≤ B
theorem o19_13 (a b c d : Int) (f : Bool) (x y : Int) : 1 ≤ o19 a b c d f x y ∧ o19 a b c d f x y ≤ 3 := by
  have h : ∀ (b : Bool) (x y : Int), (1 ≤ x ∧ x ≤ 3) → (1 ≤ y ∧ y ≤ 3) → 1 ≤ cond b x y ∧ cond b x y ≤ 3 := fun b x y h k => by cases b <;> assumption
  unfold o19
  repeat' (first | exact ⟨by decide, by decide⟩ | refine h _ _ _ ?_ ?_)
theorem w1 : IntKind.u8.wrap 1 = 1 := rfl
theorem w2_ : IntKind.u8.wrap 2 = 2 := rfl
theorem fits1 {n : Node} (h : n.number = 1) (f : Frame) (came : Bool) (l : Int) (hl : f.label = l) (hf : f.from_ = 2) (hc : f.cycle = n.cycle) : o71 n f came l = came := by
  unfold o71
  rw [h, show IntKind.u8.wrap (IntKind.i64.wrap (3 - 1)) = 2 from rfl, eq_t hl, eq_t hf, eq_t hc]
  simp
theorem fits2 {n : Node} (h : n.number = 2) (f : Frame) (came : Bool) (l : Int) (hl : f.label = l) (hf : f.from_ = 1) (hc : f.cycle = n.cycle) : o71 n f came l = came := by
  unfold o71
  rw [h, show IntKind.u8.wrap (IntKind.i64.wrap (3 - 2)) = 1 from rfl, eq_t hl, eq_t hf, eq_t hc]
  simp
theorem fits_came {n : Node} {f : Frame} {came : Bool} {l : Int} (h : o71 n f came l = true) : came = true := by
  unfold o71 at h
  cases came with
  | true => rfl
  | false => simp at h
/-- what a node has heard behind the first frames -/
structure Heard1 (n n2 : Node) (cy : Int) (inp : List UInt8) (came : Bool) (m : Node) (minp : List UInt8) : Prop where
  num : n2.number = n.number
  next : n2.next_ = 2
  cyc : n2.cycle = cy
  inp : n2.input = inp
  has : n2.has = false
  is_ : n2.is_ = came
  heard : n2.heard = cond came ⟨m.role, m.steps, ⟨0, 0⟩, minp⟩ noHeard
  role : ∃ al, n2.role = o19 n.number n.role n.steps al came (cond came m.role 0) (cond came m.steps 0)
  steps : n2.steps = (cond (n2.role == 1) 0 (cond (n.role == 1 && n2.role == 2) 0 n.steps))
  fresh : n2.fresh = ((n.role == 1) && (n2.role == 2))
theorem heard_ok {n1 : Node} {n : Node} {cy : Int} {inp : List UInt8} {f : Frame} {came : Bool} {m : Node} {minp : List UInt8} (h1 : n1 = ⟨n.number, n.role, n.steps, n.alone, 1, cy, inp, noHeard, false, n.fresh, noSet, false, ⟨0, noTargets⟩⟩)
    (hf : f.payload = helloP m.role m.steps minp) (hfit : o71 n1 f came 1 = came) (hr : 1 ≤ m.role ∧ m.role ≤ 3) (hs : 0 ≤ m.steps ∧ m.steps ≤ 1000000) (hi : minp.length ≤ 20) :
    ∃ n2 H b, o47 n1 f came = some (n2, H, b, 0) ∧ Heard1 n n2 cy inp came m minp := by
  have e1 : n1.next_ = 1 := by rw [h1]
  have e2 : n1.heard = noHeard := by rw [h1]
  have e3 : n1.is_ = false := by rw [h1]
  obtain ⟨n2, H, b, e, q1, q2, q3, q4, q5, q6, q7, ⟨al, q8⟩, q9, q10⟩ := hear_spec (n := n1) (f := f) (came := came) e1 e2 e3
  have g := getHello_P (r := m.role) (s := m.steps) (inp := minp) hr ⟨hs.1, by omega⟩ (by omega)
  have hh : heardIn n1 f came = came := by
    unfold heardIn
    rw [hfit, hf, g]
    cases came <;> rfl
  rw [hh] at q6 q7
  rw [hf, g] at q7
  have n_num : n1.number = n.number := by rw [h1]
  have n_role : n1.role = n.role := by rw [h1]
  have n_steps : n1.steps = n.steps := by rw [h1]
  refine ⟨n2, H, b, e, ⟨by rw [q1, h1], q2, by rw [q3, h1], by rw [q4, h1], by rw [q5, h1], q6, q7, ⟨al, ?_⟩, by rw [q9, n_role, n_steps], by rw [q10, n_role]⟩⟩
  rw [q8, n_num, n_role, n_steps, q6, q7]
  cases came <;> rfl
/-- the frame that carries a leader's set -/
def shareF (n2 : Node) (f : Frame) (b : Bool) (x : Sett) : Prop := (n2.role ≠ 2 ∧ b = false) ∨ (n2.role = 2 ∧ b = true ∧ f.label = 2 ∧ f.from_ = n2.number ∧ f.cycle = n2.cycle ∧ f.payload = (putSetC x).1 ∧ x = ⟨n2.steps, n2.cycle, n2.fresh, packN n2⟩)
structure Shared (n2 n3 : Node) (f : Frame) (b : Bool) : Prop where
  num : n3.number = n2.number
  next : n3.next_ = 3
  cyc : n3.cycle = n2.cycle
  has : n3.has = false
  is_ : n3.is_ = n2.is_
  heard : n3.heard = n2.heard
  role : n3.role = n2.role
  steps : n3.steps = n2.steps
  len : f.payload.length ≤ 1000
  fr : shareF n2 f b n3.set_
theorem share_ok {n2 : Node} (h2 : n2.next_ = 2) (hn : n2.number = 1 ∨ n2.number = 2) (hi : n2.input.length ≤ 400) (hh : n2.heard.input.length ≤ 400) (h0 : n2.has = false) : ∃ n3 f b, o48 n2 = some (n3, f, b, 0) ∧ Shared n2 n3 f b := by
  obtain ⟨n3, f, b, e, q1, q2, q3, q4, q5, q6, q7, q8, q9, q10⟩ := share_spec h2 hn hi hh
  refine ⟨n3, f, b, e, ⟨q1, q2, q3, q4.trans h0, q5, q6, q7, q8, q9, ?_⟩⟩
  rcases q10 with h | ⟨h1, h2, h3, h4⟩
  · exact .inl h
  · subst h3
    refine .inr ⟨h1, h2, rfl, ?_, rfl, rfl, h4⟩
    rcases hn with e | e <;> (rw [e]; rfl)
/-- what came of the other's frame -/
theorem took_eq {n2 n3 m2 m3 : Node} {f : Frame} {b came : Bool} (h : Shared n2 n3 f b) (hm : n2.number = 1 ∧ m3.number = 2 ∨ n2.number = 2 ∧ m3.number = 1) (hc : m3.cycle = n2.cycle) (hs : 0 ≤ n2.steps ∧ n2.steps ≤ 1000000)
    (ht : tookSet m3 f (cond b came false) = true) : n2.role = 2 ∧ (getSetC m3.cycle f.payload).1 = n3.set_ := by
  unfold tookSet at ht
  simp only [Bool.and_eq_true] at ht
  obtain ⟨t1, ⟨t2, t3⟩, t4⟩ := ht
  have hcame := fits_came t1
  rcases h.fr with ⟨h1, h2⟩ | ⟨h1, h2, h3, h4, h5, h6, h7⟩
  · rw [h2] at hcame; cases hcame
  · refine ⟨h1, ?_⟩
    rw [h6] at t2 ⊢
    rcases getSet_put m3.cycle n3.set_ (by rw [h7]; simp only; omega) with ⟨e, _⟩ | e
    · rw [e] at t2; cases t2
    · rw [e, hc]
      simp only
      rw [h7]
end Go.Proofs.Ytgnajpoebooafaa
