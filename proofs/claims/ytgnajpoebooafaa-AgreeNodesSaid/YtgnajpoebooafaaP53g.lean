/-
One call of both nodes, and a whole life of them: the answers agree. Conditions: each lemma's own.
-/
import Derived.Test.YtgnajpoebooafaaP53f
namespace Go.Proofs.Ytgnajpoebooafaa
set_option linter.unusedVariables false
set_option linter.unusedSimpArgs false
open Go.RowKit
theorem o14_ok (p : List UInt8) (n : Int) (h : 0 ≤ n) : ∃ q, o14 p n = some q ∧ (q.length : Int) ≤ n := by
  have e : minI ((p.length : Nat) : Int) n ≤ n ∧ 0 ≤ minI ((p.length : Nat) : Int) n := by unfold minI; split <;> omega
  refine ⟨_, grd_pos (by simpa using e.2), ?_⟩
  rw [List.length_take]
  omega
theorem frame_same (a : Frame) : o60 a a = true := by unfold o60; simp only [beq_self_eq_true, Bool.and_self]
theorem heard_same (a : Heard) : o29 a a = true := by unfold o29; simp only [beq_self_eq_true, Bool.and_self]
theorem sett_same (a : Sett) : o35 a a = true := by unfold o35; simp only [beq_self_eq_true, Bool.and_self]
theorem do_rel {n : Node} {m : RNode} (h : NRel n m) (c : CallT) (ht : okT c.targets) (hp : c.frame.payload.length ≤ 1000000) : ∃ n' m', o43 n m c = some (n', m', true) ∧ NRel n' m' := by
  unfold o43
  rw [letJ_def]
  generalize cond c.next_ m.stage (Int.tmod (IntKind.i64.wrap c.kind) 8) = t
  cases (t == 0) with
  | true =>
    obtain ⟨q, hq, -⟩ := o14_ok c.input 404 (by decide)
    obtain ⟨n', m', f, e, e1, e2, hr⟩ := hello_rel h c.cycle q c.want
    refine ⟨n', m', ?_, hr⟩
    simp only [cond_true]
    rw [hq, bindO_some rfl, e1, bindO_some rfl, bindO_some rfl, e2, bindO_some rfl, letJ_def, frame_same]
    simp only [beq_self_eq_true, Bool.and_self]
  | false =>
  cases (t == 1) with
  | true =>
    obtain ⟨n', m', hd, b, e, e1, e2, hr⟩ := hear_rel h c.frame c.came
    refine ⟨n', m', ?_, hr⟩
    simp only [cond_true, cond_false]
    rw [e1, bindO_some rfl, e2, bindO_some rfl, letJ_def, letJ_def]
    unfold o27
    rw [heard_same]
    simp only [beq_self_eq_true, Bool.and_self]
  | false =>
  cases (t == 2) with
  | true =>
    obtain ⟨n', m', f, b, e, e1, e2, hr⟩ := share_rel h
    refine ⟨n', m', ?_, hr⟩
    simp only [cond_true, cond_false]
    rw [e1, bindO_some rfl, e2, bindO_some rfl, letJ_def, frame_same]
    simp only [beq_self_eq_true, Bool.and_self]
  | false =>
  cases (t == 3) with
  | true =>
    obtain ⟨n', m', s, b, e, e1, e2, hr⟩ := step_rel h c.frame c.came hp
    refine ⟨n', m', ?_, hr⟩
    simp only [cond_true, cond_false]
    rw [e1, bindO_some rfl, e2, bindO_some rfl, letJ_def, letJ_def]
    unfold o33
    rw [sett_same]
    simp only [beq_self_eq_true, Bool.and_self]
  | false =>
  cases (t == 4) with
  | true =>
    obtain ⟨n', m', f, b, e, e1, e2, hr⟩ := tell_rel h c.targets ht
    refine ⟨n', m', ?_, hr⟩
    simp only [cond_true, cond_false]
    rw [e1, bindO_some rfl, e2, bindO_some rfl, letJ_def, frame_same]
    simp only [beq_self_eq_true, Bool.and_self]
  | false =>
  cases (t == 5) with
  | true =>
    obtain ⟨n', m', v, e, e1, e2, hr⟩ := judge_rel h c.frame c.came
    refine ⟨n', m', ?_, hr⟩
    simp only [cond_true, cond_false]
    rw [e1, bindO_some rfl, e2, bindO_some rfl]
    simp only [beq_self_eq_true, Bool.and_self]
  | false =>
  cases (t == 6) with
  | true => exact ⟨_, _, rfl, drop_rel h⟩
  | false =>
    obtain ⟨n', m', e, e1, e2, hr⟩ := adopt_rel h c.cycle
    refine ⟨n', m', ?_, hr⟩
    simp only [cond_true, cond_false]
    rw [letJ_def, letJ_def, e1, e2]
    simp only [beq_self_eq_true, Bool.and_self]
theorem o13_true : o13 = some true := by
  unfold o13
  rw [o15_eq, o17_eq]
  decide
theorem agreeNodes_plain (number : Int) (calls : List CallT) (hl : (calls.length : Int) < 9223372036854775807) (hc : ∀ c ∈ calls, okT c.targets) : o11 number calls = some true := by
  unfold o11
  have hN : calls.length + 1 < fuelN := by unfold fuelN; omega
  generalize fuelN = N at hN ⊢
  rw [o13_true, bindO_some rfl]
  simp only [Bool.not_true, cond_false]
  rw [letJ_def, letJ_def]
  by_cases hn : number = 1 ∨ number = 2
  · obtain ⟨n, m, e1, e2, hr⟩ := new_rel hn
    rw [e1, e2]
    simp only [show ((0 : Int) != 0) = false from rfl, cond_false]
    rw [bindO_some rfl]
    obtain ⟨r, h1, h2⟩ := loopO_ok (f := o11_L0 calls) (fun s => NRel s.2.2 s.2.1 ∧ s.1 ≤ calls.length) (fun s => calls.length + 1 - s.1) (fun r => r = Ctl.go ()) (by
      rintro ⟨i, m, n⟩ ⟨hr, hi⟩
      simp only at hr hi
      unfold o11_L0
      by_cases hlt : i < calls.length ∧ i < 24
      · have e0 : (decide (((i : Nat) : Int) < ((calls.length : Nat) : Int)) && decide (((i : Nat) : Int) < 24)) = true := by
          simp only [Bool.and_eq_true, decide_eq_true_eq]; omega
        simp only [e0, cond_true]
        have hm : calls.getD i default ∈ calls := by
          rw [List.getD_eq_getElem?_getD, List.getElem?_eq_getElem hlt.1]; exact List.getElem_mem ..
        generalize calls.getD i default = c at *
        obtain ⟨q, hq, hql⟩ := o14_ok c.frame.payload 900 (by decide)
        obtain ⟨n', m', e1, hr'⟩ := do_rel hr { c with frame := ⟨c.frame.label, c.frame.from_, c.frame.cycle, q⟩ } (hc c hm) (by show q.length ≤ 1000000; omega)
        refine .inl ⟨(i + 1, m', n'), ?_, ⟨hr', by simp only; omega⟩, by simp only; omega⟩
        rw [hq, bindO_some rfl, e1, bindO_some rfl]
        simp only [Bool.not_true, cond_false]
        unfold o41 o40
        simp only [hr'.role, hr'.steps]
        repeat rw [letJ_def]
        rw [neq_f (rfl : m'.role = m'.role), neq_f (rfl : m'.steps = m'.steps), grd_pos (decide_eq_true (by omega))]
        rfl
      · have e0 : (decide (((i : Nat) : Int) < ((calls.length : Nat) : Int)) && decide (((i : Nat) : Int) < 24)) = false := by
          simp only [Bool.and_eq_false_iff, decide_eq_false_iff_not]; omega
        simp only [e0, cond_false]
        exact .inr ⟨_, rfl, rfl⟩) N (0, m, n) ⟨hr, Nat.zero_le _⟩ (by simp only; omega)
    subst h2
    rw [h1]
    rfl
  · obtain ⟨e1, e2, e3⟩ := new_no hn
    rw [e2, e3, e1]
    rfl
end Go.Proofs.Ytgnajpoebooafaa
