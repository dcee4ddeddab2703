/-
The calls of a computer: the program's and the law's own. Conditions: each lemma's own.
-/
import Derived.Test.YtnidomdebhekiaaGreatV54b
namespace Go.Proofs.YtnidomdebhekiaaGreat
set_option linter.unusedVariables false
set_option linter.unusedSimpArgs false
open Go.RowKit
theorem bindO_inv {τ ρ : Type} {x : Option τ} {k : τ → Option ρ} {r : ρ} (h : bindO x k = some r) : ∃ t, x = some t ∧ k t = some r := by
  cases x with
  | none => cases h
  | some t => exact ⟨t, rfl, h⟩
theorem hello_k {m m' : RNode} {cy : Int} {inp : List UInt8} {w : Want} {f : Frame} {e : Int} (h : o50 m cy inp w = some (m', f, e)) : (e = 0 ∧ m'.stage = 1 ∧ m'.cycle = cy ∧ m'.number = m.number) ∨ (e ≠ 0 ∧ m' = m) := by
  unfold o50 at h
  cases h1 : (m.stage != 0) with
  | true =>
    rw [h1, cond_true] at h
    simp only [Option.some.injEq, Prod.mk.injEq] at h
    exact .inr ⟨by omega, h.1.symm⟩
  | false =>
    cases h2 : decide (cy < 0) with
    | true =>
      rw [h1, h2, cond_false, cond_true] at h
      simp only [Option.some.injEq, Prod.mk.injEq] at h
      exact .inr ⟨by omega, h.1.symm⟩
    | false =>
      rw [h1, h2, cond_false, cond_false] at h
      obtain ⟨y, hy, h⟩ := bindO_inv h
      cases h3 : (y.2 != 0) with
      | true =>
        rw [h3, cond_true] at h
        simp only [Option.some.injEq, Prod.mk.injEq] at h
        have : y.2 ≠ 0 := by simpa using h3
        exact .inr ⟨by omega, h.1.symm⟩
      | false =>
        rw [h3, cond_false] at h
        simp only [Option.some.injEq, Prod.mk.injEq] at h
        obtain ⟨rfl, -, rfl⟩ := h
        exact .inl ⟨rfl, rfl, rfl, rfl⟩
theorem hear_k {m m' : RNode} {f : Frame} {came b : Bool} {hd : Heard} {e : Int} (hs : m.stage = 1) (h : o53 m f came = some (m', hd, b, e)) : e = 0 ∧ m'.stage = 2 ∧ m'.cycle = m.cycle ∧ m'.number = m.number ∧ hd = m'.heard := by
  unfold o53 at h
  rw [neq_f hs, cond_false, letJ_def] at h
  obtain ⟨y, hy, h⟩ := bindO_inv h
  rw [letJ_def, letJ_def, letJ_def] at h
  simp only [Option.some.injEq, Prod.mk.injEq] at h
  obtain ⟨rfl, rfl, -, rfl⟩ := h
  exact ⟨rfl, rfl, rfl, rfl, rfl⟩
theorem share_k {m m' : RNode} {f : Frame} {b : Bool} {e : Int} (hs : m.stage = 2) (h : o55 m = some (m', f, b, e)) : e = 0 ∧ m'.stage = 3 ∧ m'.cycle = m.cycle ∧ m'.number = m.number ∧ m'.heard = m.heard := by
  unfold o55 at h
  rw [neq_f hs, cond_false] at h
  cases h1 : (m.role != 2) with
  | true =>
    rw [h1, cond_true] at h
    simp only [Option.some.injEq, Prod.mk.injEq] at h
    obtain ⟨rfl, -, -, rfl⟩ := h
    exact ⟨rfl, rfl, rfl, rfl, rfl⟩
  | false =>
    rw [h1, cond_false] at h
    obtain ⟨y, hy, h⟩ := bindO_inv h
    obtain ⟨z, hz, h⟩ := bindO_inv h
    simp only [Option.some.injEq, Prod.mk.injEq] at h
    obtain ⟨rfl, -, -, rfl⟩ := h
    exact ⟨rfl, rfl, rfl, rfl, rfl⟩
theorem step_k {m m' : RNode} {f : Frame} {came b : Bool} {s : Sett} {e : Int} (hs : m.stage = 3) (h : o59 m f came = some (m', s, b, e)) : e = 0 ∧ m'.stage = 4 ∧ m'.cycle = m.cycle ∧ m'.number = m.number ∧ m'.heard = m.heard := by
  unfold o59 at h
  rw [neq_f hs, cond_false] at h
  cases h1 : (m.role == 1) with
  | true =>
    rw [h1, cond_true] at h
    simp only [Option.some.injEq, Prod.mk.injEq] at h
    obtain ⟨rfl, -, -, rfl⟩ := h
    exact ⟨rfl, rfl, rfl, rfl, rfl⟩
  | false =>
    rw [h1, cond_false] at h
    obtain ⟨y, hy, h⟩ := bindO_inv h
    have key : ∀ x : Option (Ctl Sett (RNode × Sett × Bool × Int)), (∀ v, x = some (Ctl.done v) → v = ({ m with role := 1, steps := 0, stage := 4 }, ⟨0, 0, false, []⟩, false, 0)) → (joinO (τ := Sett) (ρ := RNode × Sett × Bool × Int) x fun t11 => (some ((({ m with steps := (IntKind.i64.wrap (m.steps + 1)), stage := 4, stepped := true }), t11, (true), (0 : Int))))) = some (m', s, b, e) → e = 0 ∧ m'.stage = 4 ∧ m'.cycle = m.cycle ∧ m'.number = m.number ∧ m'.heard = m.heard := by
      intro x hx hj
      cases x with
      | none => cases hj
      | some c =>
        cases c with
        | go t =>
          rw [joinO_go rfl] at hj
          simp only [Option.some.injEq, Prod.mk.injEq] at hj
          obtain ⟨rfl, -, -, rfl⟩ := hj
          exact ⟨rfl, rfl, rfl, rfl, rfl⟩
        | done v =>
          rw [joinO_done rfl, hx v rfl] at hj
          simp only [Option.some.injEq, Prod.mk.injEq] at hj
          obtain ⟨rfl, -, -, rfl⟩ := hj
          exact ⟨rfl, rfl, rfl, rfl, rfl⟩
    refine key _ (fun v hv => ?_) h
    cases h3 : (m.role == 3) with
    | false => rw [h3, cond_false] at hv; cases hv
    | true =>
      rw [h3, cond_true, letJ_def] at hv
      obtain ⟨t, ht, hv⟩ := bindO_inv hv
      cases hc : (((t.1 != 0) || t.2.fresh) || (t.2.steps != m.steps)) with
      | false => rw [hc, cond_false] at hv; cases hv
      | true =>
        rw [hc, cond_true] at hv
        injection hv with hv
        injection hv with hv
        exact hv.symm
theorem tell_k {m m' : RNode} {t : Targets} {f : Frame} {b : Bool} {e : Int} (hs : m.stage = 4) (h : o64 m t = some (m', f, b, e)) : e = 0 ∧ m'.stage = 5 ∧ m'.cycle = m.cycle ∧ m'.number = m.number ∧ m'.heard = m.heard := by
  unfold o64 at h
  rw [neq_f hs, cond_false] at h
  cases h1 : m.stepped with
  | false =>
    rw [h1, Bool.not_false, cond_true] at h
    simp only [Option.some.injEq, Prod.mk.injEq] at h
    obtain ⟨rfl, -, -, rfl⟩ := h
    exact ⟨rfl, rfl, rfl, rfl, rfl⟩
  | true =>
    rw [h1, Bool.not_true, cond_false] at h
    obtain ⟨y, hy, h⟩ := bindO_inv h
    simp only [Option.some.injEq, Prod.mk.injEq] at h
    obtain ⟨rfl, -, -, rfl⟩ := h
    exact ⟨rfl, rfl, rfl, rfl, rfl⟩
theorem judge_k {m m' : RNode} {f : Frame} {came : Bool} {v e : Int} (hs : m.stage = 5) (h : o66 m f came = some (m', v, e)) : e = 0 ∧ m'.stage = 0 ∧ m'.cycle = m.cycle ∧ m'.number = m.number ∧ m'.heard = m.heard := by
  unfold o66 at h
  rw [neq_f hs, cond_false] at h
  cases h1 : m.stepped with
  | false =>
    rw [h1, Bool.not_false, cond_true] at h
    simp only [Option.some.injEq, Prod.mk.injEq] at h
    obtain ⟨rfl, -, rfl⟩ := h
    exact ⟨rfl, rfl, rfl, rfl, rfl⟩
  | true =>
    rw [h1, Bool.not_true, cond_false, letJ_def] at h
    obtain ⟨y, hy, h⟩ := bindO_inv h
    cases h2 : (y.1 != 0) with
    | true =>
      rw [h2, cond_true] at h
      simp only [Option.some.injEq, Prod.mk.injEq] at h
      obtain ⟨rfl, -, rfl⟩ := h
      exact ⟨rfl, rfl, rfl, rfl, rfl⟩
    | false =>
      rw [h2, cond_false] at h
      revert h
      generalize (((m.role == 3) || (m.isHeard && (m.heard.role == 3))) && (y.2.steps == m.steps) && ((y.2.targets.lateral == m.told.lateral) && ((y.2.targets.vertical == m.told.vertical) && ((y.2.targets.phase == m.told.phase) && ((y.2.targets.bank == m.told.bank) && ((y.2.targets.speed == m.told.speed) && ((y.2.targets.alt == m.told.alt) && (y.2.targets.vs == m.told.vs)))))))) = q
      intro h
      cases q with
      | true =>
        rw [cond_true] at h
        simp only [Option.some.injEq, Prod.mk.injEq] at h
        obtain ⟨rfl, -, rfl⟩ := h
        exact ⟨rfl, rfl, rfl, rfl, rfl⟩
      | false =>
        rw [cond_false] at h
        simp only [Option.some.injEq, Prod.mk.injEq] at h
        obtain ⟨rfl, -, rfl⟩ := h
        exact ⟨rfl, rfl, rfl, rfl, rfl⟩
structure CRel (c : Comp) (m : RComp) : Prop where
  node : NRel c.node m.node
  num : c.number = m.node.number
  snd : c.sender = m.sender
  col : c.collector = m.collector
  ok : ColOk m.collector
  nxt : c.next_ = m.stage
  st : 0 ≤ m.stage ∧ m.stage ≤ 7
  nst : m.node.stage = if m.stage ≤ 5 then m.stage else 0
  cyc : m.stage ≠ 0 → c.cycle = m.node.cycle
  ask : 2 ≤ m.stage → c.asked = m.asked ∧ c.want = m.node.heard.want
theorem etaC (c : Comp) : (⟨c.number, c.node, c.sender, c.collector, c.next_, c.cycle, c.asked, c.want⟩ : Comp) = c := rfl
theorem o45_is (c : Comp) (k : Int) : o45 c k = (c, cond (c.next_ != k) 8 0) := by unfold o45; cases (c.next_ != k) <;> rfl
theorem o46_is (c : Comp) : o46 c = (c, c.node.role == 1) := by unfold o46 o10; rw [letJ_def]
theorem o52_is (c : Comp) : o52 c = { c with sender := ⟨[]⟩, collector := noC } := by
  unfold o52 o89
  rw [letJ_def, letJ_def, o90_is]
theorem due_c {c : Comp} {m : RComp} (h : CRel c m) (k : Int) : o45 c k = (c, cond (m.stage != k) 8 0) := by rw [o45_is, h.nxt]
theorem hello_c {c : Comp} {m : RComp} (h : CRel c m) (cy : Int) (inp : List UInt8) : ∃ c' m' f e, o19 c cy inp = some (c', f, e) ∧ o20 m cy inp = some (m', f, e) ∧ CRel c' m' := by
  unfold o19 o20
  rw [etaC, letJ_def, due_c h]
  by_cases hs : m.stage = 0
  · rw [neq_f hs]
    simp only [cond_false]
    rw [neq_f rfl, cond_false, letJ_def, etaC, o46_is]
    simp only
    rw [h.node.role]
    have hw : (cond (m.node.role == 1) (letJ (o47 c.collector) fun y229 => (y229.base, y229.have_)) (0, 0) : Int × Int) = cond (m.node.role == 1) (letJ (o49 m.collector) fun y19 => (y19.base, y19.have_)) (0, 0) := by rw [h.col]; rfl
    rw [hw]
    generalize (cond (m.node.role == 1) (letJ (o49 m.collector) fun y19 => (y19.base, y19.have_)) (0, 0) : Int × Int) = w
    rw [letJ_def, letJ_def]
    obtain ⟨n', m', f, e, e1, e2, hr⟩ := hello_rel h.node cy inp ⟨w.1, w.2⟩
    rw [e1, e2, bindO_some rfl, bindO_some rfl]
    simp only
    rw [letJ_def, letJ_def]
    rcases hello_k e2 with ⟨rfl, k1, k2, k3⟩ | ⟨k1, rfl⟩
    · exact ⟨_, _, _, _, rfl, rfl, ⟨hr, h.num.trans k3.symm, h.snd, h.col, h.ok, rfl, (show (0 : Int) ≤ 1 ∧ (1 : Int) ≤ 7 by decide), k1, fun _ => k2.symm, fun h2 => absurd (show (2 : Int) ≤ 1 from h2) (by decide)⟩⟩
    · rw [eq_f k1]
      exact ⟨_, _, _, _, rfl, rfl, ⟨hr, h.num, h.snd, h.col, h.ok, h.nxt, h.st, h.nst, h.cyc, h.ask⟩⟩
  · rw [neq_t hs]
    exact ⟨_, _, _, _, rfl, rfl, h⟩
theorem hear_c {c : Comp} {m : RComp} (h : CRel c m) (f : Frame) (came : Bool) : ∃ c' m' e, o22 c f came = some (c', e) ∧ o23 m f came = some (m', e) ∧ CRel c' m' := by
  unfold o22 o23
  rw [etaC, letJ_def, due_c h]
  by_cases hs : m.stage = 1
  · have hns : m.node.stage = 1 := by rw [h.nst, hs]; rfl
    rw [neq_f hs]
    simp only [cond_false]
    rw [neq_f rfl, cond_false, letJ_def]
    obtain ⟨n', m', hd, b, e, e1, e2, hr⟩ := hear_rel h.node f came
    obtain ⟨rfl, k1, k2, k3, k4⟩ := hear_k hns e2
    rw [e1, e2, bindO_some rfl, bindO_some rfl]
    simp only
    rw [neq_f rfl, cond_false, letJ_def, letJ_def, letJ_def]
    rw [show o10 n' = m'.role from hr.role, show o10 c.node = m.node.role from h.node.role]
    cases (m'.role != m.node.role) with
    | true =>
      rw [cond_true, cond_true, letJ_def, o52_is]
      exact ⟨_, _, _, rfl, rfl, ⟨hr, h.num.trans k3.symm, rfl, rfl, .no, rfl, (show (0 : Int) ≤ 2 ∧ (2 : Int) ≤ 7 by decide), k1, fun _ => (h.cyc (by omega)).trans k2.symm, fun _ => ⟨rfl, by rw [k4]⟩⟩⟩
    | false =>
      rw [cond_false, cond_false]
      exact ⟨_, _, _, rfl, rfl, ⟨hr, h.num.trans k3.symm, h.snd, h.col, h.ok, rfl, (show (0 : Int) ≤ 2 ∧ (2 : Int) ≤ 7 by decide), k1, fun _ => (h.cyc (by omega)).trans k2.symm, fun _ => ⟨rfl, by rw [k4]⟩⟩⟩
  · rw [neq_t hs]
    exact ⟨_, _, _, rfl, rfl, h⟩
theorem share_c {c : Comp} {m : RComp} (h : CRel c m) : ∃ c' m' f b e, o24 c = some (c', f, b, e) ∧ o25 m = some (m', f, b, e) ∧ CRel c' m' := by
  unfold o24 o25
  rw [etaC, letJ_def, due_c h]
  by_cases hs : m.stage = 2
  · have hns : m.node.stage = 2 := by rw [h.nst, hs]; rfl
    rw [neq_f hs]
    simp only [cond_false]
    rw [neq_f rfl, cond_false]
    obtain ⟨n', m', f, b, e, e1, e2, hr⟩ := share_rel h.node
    obtain ⟨rfl, k1, k2, k3, k4⟩ := share_k hns e2
    rw [e1, e2, bindO_some rfl, bindO_some rfl]
    exact ⟨_, _, _, _, _, rfl, rfl, ⟨hr, h.num.trans k3.symm, h.snd, h.col, h.ok, rfl, (show (0 : Int) ≤ 3 ∧ (3 : Int) ≤ 7 by decide), k1, fun _ => (h.cyc (by omega)).trans k2.symm, fun _ => ⟨(h.ask (by omega)).1, (h.ask (by omega)).2.trans (by rw [k4])⟩⟩⟩
  · rw [neq_t hs]
    exact ⟨_, _, _, _, _, rfl, rfl, h⟩
theorem tell_c {c : Comp} {m : RComp} (h : CRel c m) (t : Targets) (ht : okT t) : ∃ c' m' f b e, o30 c t = some (c', f, b, e) ∧ o31 m t = some (m', f, b, e) ∧ CRel c' m' := by
  unfold o30 o31
  rw [etaC, letJ_def, due_c h]
  by_cases hs : m.stage = 4
  · have hns : m.node.stage = 4 := by rw [h.nst, hs]; rfl
    rw [neq_f hs]
    simp only [cond_false]
    rw [neq_f rfl, cond_false]
    obtain ⟨n', m', f, b, e, e1, e2, hr⟩ := tell_rel h.node t ht
    obtain ⟨rfl, k1, k2, k3, k4⟩ := tell_k hns e2
    rw [e1, e2, bindO_some rfl, bindO_some rfl]
    exact ⟨_, _, _, _, _, rfl, rfl, ⟨hr, h.num.trans k3.symm, h.snd, h.col, h.ok, rfl, (show (0 : Int) ≤ 5 ∧ (5 : Int) ≤ 7 by decide), k1, fun _ => (h.cyc (by omega)).trans k2.symm, fun _ => ⟨(h.ask (by omega)).1, (h.ask (by omega)).2.trans (by rw [k4])⟩⟩⟩
  · rw [neq_t hs]
    exact ⟨_, _, _, _, _, rfl, rfl, h⟩
theorem judge_c {c : Comp} {m : RComp} (h : CRel c m) (f : Frame) (came : Bool) : ∃ c' m' v e, o32 c f came = some (c', v, e) ∧ o33 m f came = some (m', v, e) ∧ CRel c' m' := by
  unfold o32 o33
  rw [etaC, letJ_def, due_c h]
  by_cases hs : m.stage = 5
  · have hns : m.node.stage = 5 := by rw [h.nst, hs]; rfl
    rw [neq_f hs]
    simp only [cond_false]
    rw [neq_f rfl, cond_false]
    obtain ⟨n', m', v, e, e1, e2, hr⟩ := judge_rel h.node f came
    obtain ⟨rfl, k1, k2, k3, k4⟩ := judge_k hns e2
    rw [e1, e2, bindO_some rfl, bindO_some rfl]
    exact ⟨_, _, _, _, rfl, rfl, ⟨hr, h.num.trans k3.symm, h.snd, h.col, h.ok, rfl, (show (0 : Int) ≤ 6 ∧ (6 : Int) ≤ 7 by decide), k1, fun _ => (h.cyc (by omega)).trans k2.symm, fun _ => ⟨(h.ask (by omega)).1, (h.ask (by omega)).2.trans (by rw [k4])⟩⟩⟩
  · rw [neq_t hs]
    exact ⟨_, _, _, _, rfl, rfl, h⟩
theorem drop_c {c : Comp} {m : RComp} (h : CRel c m) : CRel (o40 c) (o41 m) := by
  unfold o40 o41
  rw [letJ_def, letJ_def, letJ_def, o52_is]
  have hr := drop_rel h.node
  exact ⟨hr, h.num, rfl, rfl, .no, rfl, (show (0 : Int) ≤ 0 ∧ (0 : Int) ≤ 7 by decide), rfl, fun q => absurd rfl q, fun q => absurd (show (2 : Int) ≤ 0 from q) (by decide)⟩
end Go.Proofs.YtnidomdebhekiaaGreat
