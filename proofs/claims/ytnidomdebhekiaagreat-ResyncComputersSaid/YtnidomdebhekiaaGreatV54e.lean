/-
ResyncComputers in plain words. Conditions: each lemma's own.
-/
import Derived.Test.YtnidomdebhekiaaGreatV54d
namespace Go.Proofs.YtnidomdebhekiaaGreat
set_option linter.unusedVariables false
set_option linter.unusedSimpArgs false
open Go.RowKit
theorem o7_ok (p : List UInt8) (n : Int) (h : 0 ≤ n) : ∃ q, o7 p n = some q ∧ (q.length : Int) ≤ n := by
  have e : minI ((p.length : Nat) : Int) n ≤ n ∧ 0 ≤ minI ((p.length : Nat) : Int) n := by unfold minI; split <;> omega
  refine ⟨_, grd_pos (by simpa using e.2), ?_⟩
  rw [List.length_take]
  omega
theorem frame_same (a : Frame) : o21 a a = true := by unfold o21; simp only [beq_self_eq_true, Bool.and_self]
theorem sett_same (a : Sett) : o28 a a = true := by unfold o28; simp only [beq_self_eq_true, Bool.and_self]
theorem own_job {j : Job} (h : j.sets.length ≤ 874) : o39 j = some j := by
  obtain ⟨r, hr, rfl⟩ := loopO_ok (f := o39_L0 j) (fun s => s.1 ≤ j.sets.length ∧ s.2 = j.sets.take s.1) (fun s => j.sets.length - s.1) (fun r => r = j.sets) (by
    rintro ⟨m, x⟩ ⟨h1, h2⟩
    simp only at h1 h2
    subst h2
    unfold o39_L0
    obtain ⟨M, hM, hMb⟩ : ∃ M : Int, M = 9223372036854775807 ∧ M > 1000000000000000000 := ⟨_, rfl, by decide⟩
    rw [← hM]
    simp only
    by_cases hlt : m < j.sets.length
    · rw [dt (by omega), cond_true, letJ_def, grd_at' (by rw [List.length_take]; simp only [List.length_cons, List.length_nil]; omega), grd_at' (by omega)]
      refine .inl ⟨_, rfl, ⟨by simp only; omega, ?_⟩, by simp only; omega⟩
      show j.sets.take m ++ [j.sets.getD m default] = j.sets.take (m + 1)
      rw [List.take_add_one, List.getD_eq_getElem?_getD, List.getElem?_eq_getElem hlt]
      rfl
    · obtain rfl : m = j.sets.length := by omega
      refine .inr ⟨_, cond_neg (df (by omega)), ?_⟩
      exact List.take_length) fuelN (0, []) ⟨Nat.zero_le _, rfl⟩ (by simp only [fuelN]; omega)
  unfold o39
  rw [hr, bindO_some rfl]
theorem same_job {j : Job} (h : j.sets.length ≤ 874) : o38 j j = some true := by
  unfold o38
  rw [neq_f rfl, beq_self_eq_true, neq_f rfl]
  simp only [Bool.not_true, Bool.or_self, cond_false]
  obtain ⟨r, hr, rfl⟩ := loopO_ok (f := o38_L0 j j) (fun s => s ≤ j.sets.length) (fun s => j.sets.length - s) (fun r => r = Ctl.go ()) (by
    intro k hk
    unfold o38_L0
    obtain ⟨M, hM, hMb⟩ : ∃ M : Int, M = 9223372036854775807 ∧ M > 1000000000000000000 := ⟨_, rfl, by decide⟩
    rw [← hM]
    by_cases hlt : k < j.sets.length
    · rw [dt (by omega), cond_true, grd_at' hlt, letJ_def, sett_same, Bool.not_true, cond_false, grd_at' (by omega)]
      exact .inl ⟨_, rfl, by omega, by omega⟩
    · exact .inr ⟨_, cond_neg (df (by omega)), rfl⟩) fuelN 0 (Nat.zero_le _) (by simp only [fuelN]; omega)
  rw [hr, joinO_go rfl]
theorem do_c {c : Comp} {m : RComp} (h : CRel c m) (x : CallT) (ht : okT x.targets) (hp : x.frame.payload.length ≤ 1000000) : ∃ c' m', o8 c m x = some (c', m', true) ∧ CRel c' m' := by
  unfold o8
  rw [letJ_def]
  generalize (cond x.next_ m.stage ((Int.tmod (IntKind.i64.wrap x.kind) 9)) : Int) = k
  obtain ⟨q, hq, -⟩ := o7_ok x.input 404 (by decide)
  rw [hq, etaC]
  by_cases h0 : k = 0
  · obtain ⟨c', m', f, e, e1, e2, hr⟩ := hello_c h x.cycle q
    rw [eq_t h0, cond_true, bindO_some rfl, e1, bindO_some rfl, bindO_some rfl, e2, bindO_some rfl, letJ_def]
    simp only
    rw [frame_same, beq_self_eq_true]
    exact ⟨_, _, rfl, hr⟩
  rw [eq_f h0, cond_false]
  by_cases h1 : k = 1
  · obtain ⟨c', m', e, e1, e2, hr⟩ := hear_c h x.frame x.came
    rw [eq_t h1, cond_true, e1, bindO_some rfl, e2, bindO_some rfl]
    simp only
    rw [beq_self_eq_true]
    exact ⟨_, _, rfl, hr⟩
  rw [eq_f h1, cond_false]
  by_cases h2 : k = 2
  · obtain ⟨c', m', f, b, e, e1, e2, hr⟩ := share_c h
    rw [eq_t h2, cond_true, e1, bindO_some rfl, e2, bindO_some rfl, letJ_def]
    simp only
    rw [frame_same, beq_self_eq_true, beq_self_eq_true]
    exact ⟨_, _, rfl, hr⟩
  rw [eq_f h2, cond_false]
  by_cases h3 : k = 3
  · obtain ⟨c', m', s, b, e, e1, e2, hr⟩ := step_c h x.frame x.came hp
    rw [eq_t h3, cond_true, e1, bindO_some rfl, e2, bindO_some rfl, letJ_def, letJ_def]
    simp only
    rw [show o29 s = s from rfl, sett_same, beq_self_eq_true, beq_self_eq_true]
    exact ⟨_, _, rfl, hr⟩
  rw [eq_f h3, cond_false]
  by_cases h4 : k = 4
  · obtain ⟨c', m', f, b, e, e1, e2, hr⟩ := tell_c h x.targets ht
    rw [eq_t h4, cond_true, e1, bindO_some rfl, e2, bindO_some rfl, letJ_def]
    simp only
    rw [frame_same, beq_self_eq_true, beq_self_eq_true]
    exact ⟨_, _, rfl, hr⟩
  rw [eq_f h4, cond_false]
  by_cases h5 : k = 5
  · obtain ⟨c', m', v, e, e1, e2, hr⟩ := judge_c h x.frame x.came
    rw [eq_t h5, cond_true, e1, bindO_some rfl, e2, bindO_some rfl]
    simp only
    rw [beq_self_eq_true, beq_self_eq_true]
    exact ⟨_, _, rfl, hr⟩
  rw [eq_f h5, cond_false]
  by_cases h6 : k = 6
  · obtain ⟨c', m', f, b, e, e1, e2, hr⟩ := serve_c h x.input
    rw [eq_t h6, cond_true, e1, bindO_some rfl, e2, bindO_some rfl, letJ_def]
    simp only
    rw [frame_same, beq_self_eq_true, beq_self_eq_true]
    exact ⟨_, _, rfl, hr⟩
  rw [eq_f h6, cond_false]
  by_cases h7 : k = 7
  · obtain ⟨c', m', j, b, e, e1, e2, hr, hj⟩ := take_c h x.frame x.came
    rw [eq_t h7, cond_true, e1, bindO_some rfl, e2, bindO_some rfl]
    simp only
    rw [own_job hj, bindO_some rfl, same_job hj, bindO_some rfl, beq_self_eq_true, beq_self_eq_true]
    exact ⟨_, _, rfl, hr⟩
  rw [eq_f h7, cond_false, letJ_def, letJ_def]
  exact ⟨o40 c, o41 m, rfl, drop_c h⟩
theorem new_c {number : Int} (h : number = 1 ∨ number = 2) : ∃ c m, o5 number = some (some c, 0) ∧ o6 number = (m, 0) ∧ CRel c m := by
  obtain ⟨n, m, e1, e2, hr⟩ := new_rel h
  have hn : m.number = number ∧ m.stage = 0 := by
    unfold o18 at e2
    revert e2
    cases ((number != 1) && (number != 2)) with
    | true => intro e2; simp only [cond_true, Prod.mk.injEq] at e2; exact absurd e2.2 (by decide)
    | false => intro e2; simp only [cond_false, Prod.mk.injEq] at e2; obtain ⟨rfl, -⟩ := e2; exact ⟨rfl, rfl⟩
  unfold o5 o6
  rw [e1, e2, letJ_def, letJ_def]
  simp only
  rw [neq_f rfl, cond_false, letJ_def, letJ_def, bindO_some rfl]
  exact ⟨_, _, rfl, rfl, ⟨hr, hn.1.symm, rfl, rfl, .no, rfl, (show (0 : Int) ≤ 0 ∧ (0 : Int) ≤ 7 by decide), hn.2, fun q => absurd rfl q, fun q => absurd (show (2 : Int) ≤ 0 from q) (by decide)⟩⟩
theorem new_no_c {number : Int} (h : ¬ (number = 1 ∨ number = 2)) : o5 number = some (none, 1) ∧ (o6 number).2 = 1 := by
  obtain ⟨e1, e2, e3⟩ := new_no h
  unfold o5 o6
  rw [letJ_def, letJ_def, e2]
  exact ⟨rfl, e3⟩
theorem clone_is (n : Node) : o42 n = n := by
  unfold o42
  rw [letJ_def, letJ_def, letJ_def, o43_def, o43_def, o43_def]
theorem o4_true : o4 = some true := by kernel_rfl
theorem resyncComputers_plain (number : Int) (calls : List CallT) (hl : (calls.length : Int) < 9223372036854775807) (hc : ∀ c ∈ calls, okT c.targets) : o3 number calls = some true := by
  unfold o3
  have hN : calls.length + 1 < fuelN := by unfold fuelN; omega
  generalize fuelN = N at hN ⊢
  rw [o4_true, bindO_some rfl]
  simp only [Bool.not_true, cond_false]
  by_cases hn : number = 1 ∨ number = 2
  · obtain ⟨c, m, e1, e2, hr⟩ := new_c hn
    rw [e1, e2, bindO_some rfl, letJ_def]
    simp only
    rw [neq_f rfl, cond_false, cond_false, bindO_some rfl]
    obtain ⟨r, h1, h2⟩ := loopO_ok (f := o3_L0 number calls) (fun s => CRel ⟨s.2.2.1, s.2.2.2.2.2.2.2.2.1, ⟨s.2.2.2.2.2.2.2.2.2.1⟩, s.2.2.2.2.2.2.2.2.2.2, s.2.2.2.1, s.2.2.2.2.1, s.2.2.2.2.2.1, ⟨s.2.2.2.2.2.2.1, s.2.2.2.2.2.2.2.1⟩⟩ s.2.1 ∧ s.1 ≤ calls.length) (fun s => calls.length + 1 - s.1) (fun r => r = Ctl.go ()) (by
      rintro s ⟨hr, hi⟩
      unfold o3_L0
      obtain ⟨M, hM, hMb⟩ : ∃ M : Int, M = 9223372036854775807 ∧ M > 1000000000000000000 := ⟨_, rfl, by decide⟩
      rw [← hM]
      generalize hce : (⟨s.2.2.1, s.2.2.2.2.2.2.2.2.1, ⟨s.2.2.2.2.2.2.2.2.2.1⟩, s.2.2.2.2.2.2.2.2.2.2, s.2.2.2.1, s.2.2.2.2.1, s.2.2.2.2.2.1, ⟨s.2.2.2.2.2.2.1, s.2.2.2.2.2.2.2.1⟩⟩ : Comp) = cc at hr ⊢
      by_cases hlt : s.1 < calls.length ∧ s.1 < 32
      · have e0 : (decide (((s.1 : Nat) : Int) < ((calls.length : Nat) : Int)) && decide (((s.1 : Nat) : Int) < 32)) = true := by
          simp only [Bool.and_eq_true, decide_eq_true_eq]; omega
        rw [e0, cond_true]
        have hm : calls.getD s.1 default ∈ calls := by
          rw [List.getD_eq_getElem?_getD, List.getElem?_eq_getElem hlt.1]; exact List.getElem_mem ..
        generalize calls.getD s.1 default = x at *
        obtain ⟨q, hq, hql⟩ := o7_ok x.frame.payload 900 (by decide)
        obtain ⟨q2, hq2, -⟩ := o7_ok x.input 1500 (by decide)
        obtain ⟨c', m', e1, hr'⟩ := do_c hr { x with input := q2, frame := ⟨x.frame.label, x.frame.from_, x.frame.cycle, q⟩ } (hc x hm) (by show q.length ≤ 1000000; omega)
        rw [hq, bindO_some rfl, hq2, bindO_some rfl, e1, bindO_some rfl]
        simp only [Bool.not_true, cond_false]
        unfold o9 o10 o11
        simp only [letJ_def, clone_is]
        rw [hr'.node.role, hr'.node.steps, neq_f (rfl : m'.node.role = m'.node.role), neq_f (rfl : m'.node.steps = m'.node.steps)]
        simp only [cond_false]
        rw [grd_pos (decide_eq_true (by omega))]
        exact .inl ⟨_, rfl, ⟨hr', by simp only; omega⟩, by simp only; omega⟩
      · have e0 : (decide (((s.1 : Nat) : Int) < ((calls.length : Nat) : Int)) && decide (((s.1 : Nat) : Int) < 32)) = false := by
          simp only [Bool.and_eq_false_iff, decide_eq_false_iff_not]; omega
        rw [e0, cond_false]
        exact .inr ⟨_, rfl, rfl⟩) N (0, m, c.number, c.next_, c.cycle, c.asked, c.want.base, c.want.have_, c.node, c.sender.pieces, c.collector) ⟨hr, Nat.zero_le _⟩ (by simp only; omega)
    subst h2
    rw [h1]
    rfl
  · obtain ⟨e1, e2⟩ := new_no_c hn
    rw [e1, bindO_some rfl, letJ_def, e2]
    rfl
theorem okT_of {t : Targets} (h : okTargets t) : okT t := by
  obtain ⟨⟨a1, a2⟩, ⟨b1, b2⟩, ⟨c1, c2⟩, -⟩ := h
  have e1 : IntKind.u8.min = 0 := rfl
  have e2 : IntKind.u8.max = 255 := rfl
  rw [e1] at a1 b1 c1; rw [e2] at a2 b2 c2
  exact ⟨⟨a1, a2⟩, ⟨b1, b2⟩, ⟨c1, c2⟩⟩
theorem resyncComputers_yes {p : Psi} {A : Option Addr} {c : Nat} {number : Int} {calls : List CallT} (h : Arr p tyCallT A c calls) (hk : ∀ x ∈ calls, okCallT x) : o3 number calls = some true :=
  resyncComputers_plain number calls (by have := h.len; omega) (fun x hx => okT_of (hk x hx).2.2.2.2.2.2.1)
end Go.Proofs.YtnidomdebhekiaaGreat
