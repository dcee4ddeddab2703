/-
Step, Serve and Take of a computer: the program's and the law's own. Conditions: each lemma's own.
-/
import Derived.Test.YtnidomdebhekiaaGreatV54c
namespace Go.Proofs.YtnidomdebhekiaaGreat
set_option linter.unusedVariables false
set_option linter.unusedSimpArgs false
open Go.RowKit
theorem fits_c {c : Int} {cy : Int} {m : RNode} (hn : c = m.number) (hc : cy = m.cycle) (f : Frame) (came : Bool) (l : Int) : (((came && (f.label == l)) && (f.from_ == (IntKind.u8.wrap (IntKind.i64.wrap (3 - c))))) && (f.cycle == cy)) = o60 m f came l := by
  subst hn hc
  unfold o60
  rfl
theorem note_both {col : Coll} (hk : ColOk col) {cyc : Int} {m : RNode} (hn : cyc = m.cycle) (f : Frame) (hp : f.payload.length ≤ 1000000) (q : Bool) :
    ∃ col', (bindO (o57 cyc f.payload) fun y224 => o58 col y224.1 (q && (y224.2 == 0))) = some col' ∧ (bindO (τ := Int × Sett) (cond q (bindO (τ := Sett × Int) (o61 m.cycle f.payload) fun y29 => some (y29.2, y29.1)) (some (4, ⟨0, 0, false, []⟩))) fun t22 => o62 col t22.2 (t22.1 == 0)) = some col' ∧ ColOk col' := by
  subst hn
  rw [o57_eq _ _ hp, bindO_some rfl, o58_is hk]
  cases q with
  | true =>
    rw [cond_true, o61_eq, bindO_some rfl, bindO_some rfl, o62_is hk, Bool.true_and]
    exact ⟨_, rfl, rfl, note_ok hk _ _⟩
  | false =>
    rw [cond_false, bindO_some rfl, o62_is hk, Bool.false_and]
    exact ⟨_, rfl, by rw [show ((4 : Int) == 0) = false from rfl]; exact congrArg some (note_no _ _ _), note_ok hk _ _⟩
theorem step_c {c : Comp} {m : RComp} (h : CRel c m) (f : Frame) (came : Bool) (hp : f.payload.length ≤ 1000000) : ∃ c' m' s b e, o26 c f came = some (c', s, b, e) ∧ o27 m f came = some (m', s, b, e) ∧ CRel c' m' := by
  unfold o26 o27
  rw [etaC, letJ_def, due_c h]
  by_cases hs : m.stage = 3
  · have hns : m.node.stage = 3 := by rw [h.nst, hs]; rfl
    rw [neq_f hs]
    simp only [cond_false]
    rw [neq_f rfl, cond_false, letJ_def, o46_is]
    obtain ⟨n', m', s, b, e, e1, e2, hr⟩ := step_rel h.node f came hp
    obtain ⟨rfl, k1, k2, k3, k4⟩ := step_k hns e2
    rw [e1, e2, bindO_some rfl, bindO_some rfl]
    simp only
    rw [letJ_def, o46_is]
    simp only
    rw [hr.role, h.node.role]
    have hnum : c.number = m'.number := h.num.trans k3.symm
    have hcyc : c.cycle = m'.cycle := (h.cyc (by omega)).trans k2.symm
    have hask := h.ask (by omega)
    cases (m'.role == 1) with
    | false =>
      rw [cond_false, cond_false, bindO_some rfl, bindO_some rfl]
      exact ⟨_, _, _, _, _, rfl, rfl, ⟨hr, hnum, h.snd, h.col, h.ok, rfl, (show (0 : Int) ≤ 4 ∧ (4 : Int) ≤ 7 by decide), k1, fun _ => hcyc, fun _ => ⟨hask.1, hask.2.trans (by rw [k4])⟩⟩⟩
    | true =>
      rw [cond_true, cond_true, letJ_def, letJ_def, o52_is]
      simp only
      have hro : (!(m.node.role == 1)) = (m.node.role != 1) := rfl
      rw [hro]
      cases (m.node.role != 1) with
      | true =>
        simp only [cond_true]
        obtain ⟨col', q1, q2, q3⟩ := note_both ColOk.no hcyc f hp (o60 m' f came 2)
        rw [fits_c hnum hcyc]
        obtain ⟨y, hy, q1⟩ := bindO_inv q1
        rw [hy, bindO_some rfl, q1, bindO_some rfl, bindO_some rfl, letJ_def]
        obtain ⟨z, hz, q2⟩ := bindO_inv q2
        rw [letJ_def, hz, bindO_some rfl]
        have q2' : o62 (([] : List Piece), (⟨0, 0, [], []⟩ : Coll)).2 z.2 (z.1 == 0) = some col' := q2
        rw [q2', bindO_some rfl, bindO_some rfl]
        exact ⟨_, _, _, _, _, rfl, rfl, ⟨hr, hnum, rfl, rfl, q3, rfl, (show (0 : Int) ≤ 4 ∧ (4 : Int) ≤ 7 by decide), k1, fun _ => hcyc, fun _ => ⟨hask.1, hask.2.trans (by rw [k4])⟩⟩⟩
      | false =>
        simp only [cond_false]
        obtain ⟨col', q1, q2, q3⟩ := note_both h.ok hcyc f hp (o60 m' f came 2)
        rw [fits_c hnum hcyc, h.col]
        obtain ⟨y, hy, q1⟩ := bindO_inv q1
        rw [hy, bindO_some rfl, q1, bindO_some rfl, bindO_some rfl, letJ_def]
        obtain ⟨z, hz, q2⟩ := bindO_inv q2
        rw [letJ_def, hz, bindO_some rfl]
        have q2' : o62 ((m.sender.pieces : List Piece), m.collector).2 z.2 (z.1 == 0) = some col' := q2
        rw [q2', bindO_some rfl, bindO_some rfl]
        exact ⟨_, _, _, _, _, rfl, rfl, ⟨hr, hnum, by show (⟨c.sender.pieces⟩ : Sender) = ⟨m.sender.pieces⟩; rw [h.snd], rfl, q3, rfl, (show (0 : Int) ≤ 4 ∧ (4 : Int) ≤ 7 by decide), k1, fun _ => hcyc, fun _ => ⟨hask.1, hask.2.trans (by rw [k4])⟩⟩⟩
  · rw [neq_t hs]
    exact ⟨_, _, _, _, _, rfl, rfl, h⟩
theorem serve_c {c : Comp} {m : RComp} (h : CRel c m) (save : List UInt8) : ∃ c' m' f b e, o34 c save = some (c', f, b, e) ∧ o35 m save = some (m', f, b, e) ∧ CRel c' m' := by
  unfold o34 o35
  rw [etaC, letJ_def, due_c h]
  by_cases hs : m.stage = 6
  · have hns : m.node.stage = 0 := by rw [h.nst, hs]; rfl
    have hask := h.ask (by omega)
    have hcyc := h.cyc (by omega)
    have rel : ∀ (s : Sender), CRel ⟨c.number, c.node, s, c.collector, 7, c.cycle, c.asked, c.want⟩ ⟨m.node, s, m.collector, m.asked, 7⟩ := fun s => ⟨h.node, h.num, rfl, h.col, h.ok, rfl, (show (0 : Int) ≤ 7 ∧ (7 : Int) ≤ 7 by decide), hns, fun _ => hcyc, fun _ => hask⟩
    rw [neq_f hs]
    simp only [cond_false]
    rw [neq_f rfl, cond_false, hask.1]
    cases hma : m.asked with
    | false =>
      have := rel c.sender
      rw [h.snd, hask.1, hma] at this
      refine ⟨_, _, _, _, _, rfl, rfl, ?_⟩
      rw [h.snd]
      exact this
    | true =>
      simp only [Bool.not_true, cond_false]
      rw [letJ_def, show o11 c.node = m.node.steps from h.node.steps, h.snd, hask.2]
      obtain ⟨⟨s, p, e⟩, s1, s2, s3⟩ := serve_is m.sender m.node.heard.want m.node.steps save
      rw [s1, s2, bindO_some rfl, bindO_some rfl]
      simp only at s3 ⊢
      by_cases he : e = 0
      · subst he
        rw [neq_f rfl, cond_false, cond_false, o68_is, o70_is, bindO_some rfl, bindO_some rfl, h.num, hcyc]
        have := rel s
        rw [hask.1, hma, h.num, hcyc, hask.2] at this
        exact ⟨_, _, _, _, _, rfl, rfl, this⟩
      · have hs3 := s3 he
        subst hs3
        rw [neq_t he, cond_true, cond_true]
        have := rel m.sender
        rw [hask.1, hma, hask.2] at this
        exact ⟨_, _, _, _, _, rfl, rfl, this⟩
  · rw [neq_t hs]
    exact ⟨_, _, _, _, _, rfl, rfl, h⟩
theorem adopt_k {m : RNode} {s : Int} (h0 : m.stage = 0) (h1 : m.role = 1) (hs : 1 ≤ s ∧ s ≤ 4611686018427387904) : o78 m s = ({ m with role := 3, steps := s }, 0) := by
  unfold o78
  rw [neq_f h0, neq_f h1, df (show ¬ s < 1 by omega), df (show ¬ s > 4611686018427387904 by omega)]
  rfl
theorem col_both {col : Coll} (hk : ColOk col) (f : Frame) (q : Bool) : ∃ col', (cond q (bindO (τ := Piece × Int) (o71 f.payload) fun y33 => (bindO (τ := Coll) (cond (y33.2 == 0) (bindO (τ := Coll) (o72 col y33.1) fun y41 => some y41) (some col)) fun t37 => some t37)) (some col)) = some col' ∧ (cond q (bindO (τ := Piece × Int) (o75 f.payload) fun y22 => (bindO (τ := Coll) (cond (y22.2 == 0) (bindO (τ := Coll) (o76 col y22.1) fun y30 => some y30) (some col)) fun t26 => some t26)) (some col)) = some col' ∧ ColOk col' := by
  cases q with
  | false => exact ⟨_, rfl, rfl, hk⟩
  | true =>
    rw [cond_true, cond_true, o71_is, o75_is, bindO_some rfl, bindO_some rfl, o72_is hk, o76_is hk]
    cases ((decP f.payload).2 == 0) with
    | true => exact ⟨_, rfl, rfl, take_ok hk _⟩
    | false => exact ⟨_, rfl, rfl, hk⟩
theorem take_c {c : Comp} {m : RComp} (h : CRel c m) (f : Frame) (came : Bool) : ∃ c' m' j b e, o36 c f came = some (c', j, b, e) ∧ o37 m f came = some (m', j, b, e) ∧ CRel c' m' ∧ j.sets.length ≤ 874 := by
  unfold o36 o37
  rw [etaC, letJ_def, due_c h]
  by_cases hs : m.stage = 7
  · have hns : m.node.stage = 0 := by rw [h.nst, hs]; rfl
    have hcyc := h.cyc (by omega)
    have rel : ∀ (col : Coll), ColOk col → CRel ⟨c.number, c.node, c.sender, col, 0, c.cycle, c.asked, c.want⟩ ⟨m.node, m.sender, col, m.asked, 0⟩ := fun col hk => ⟨h.node, h.num, h.snd, rfl, hk, rfl, (show (0 : Int) ≤ 0 ∧ (0 : Int) ≤ 7 by decide), hns, fun q => absurd rfl q, fun q => absurd (show (2 : Int) ≤ 0 from q) (by decide)⟩
    rw [neq_f hs]
    simp only [cond_false]
    rw [neq_f rfl, cond_false, letJ_def, o46_is]
    simp only
    rw [h.node.role]
    cases hro : (m.node.role == 1) with
    | false =>
      have hro' : (m.node.role != 1) = true := by unfold bne; rw [hro]; rfl
      rw [hro', h.col]
      exact ⟨_, _, _, _, _, rfl, rfl, rel _ h.ok, Nat.zero_le _⟩
    | true =>
      have hro' : (m.node.role != 1) = false := by unfold bne; rw [hro]; rfl
      have hrole : m.node.role = 1 := by simpa using hro
      simp only [Bool.not_true, cond_false]
      rw [hro', cond_false, letJ_def, fits_c h.num hcyc, h.col]
      obtain ⟨col', q1, q2, q3⟩ := col_both h.ok f (o60 m.node f came 4)
      rw [q1, q2, bindO_some rfl, bindO_some rfl, o73_is q3, o77_is q3, bindO_some rfl, bindO_some rfl]
      cases hj : (jobC col').2 with
      | false =>
        simp only [Bool.not_false, cond_true]
        rw [letJ_def]
        exact ⟨_, _, _, _, _, rfl, rfl, rel _ q3, Nat.zero_le _⟩
      | true =>
        simp only [Bool.not_true, cond_false]
        have hjc : jobC col' = (⟨col'.base, catP col'.parts col'.parts.length, col'.sets⟩, true) := by
          unfold jobC at hj ⊢
          cases hq : ((((col'.parts.length : Nat) : Int) == 0) || (((col'.parts.length : Nat) : Int) != col'.count)) with
          | true => rw [hq] at hj; cases hj
          | false => rfl
        have hne : col'.parts.length ≠ 0 := fun e => by
          unfold jobC at hj
          rw [eq_t (show ((col'.parts.length : Nat) : Int) = 0 by omega), Bool.true_or] at hj
          cases hj
        have hb := (q3.cnt hne).2
        have hse := q3.sets
        have hfe := q3.few
        rw [hjc]
        simp only
        have hw : IntKind.i64.wrap (col'.base + ((col'.sets.length : Nat) : Int)) = col'.base + ((col'.sets.length : Nat) : Int) := wr64 (by omega)
        rw [hw]
        obtain ⟨n', m', e, e1, e2, hr⟩ := adopt_rel h.node (col'.base + ((col'.sets.length : Nat) : Int))
        have hk := adopt_k hns hrole (s := col'.base + ((col'.sets.length : Nat) : Int)) (by omega)
        rw [hk] at e2
        simp only [Prod.mk.injEq] at e2
        obtain ⟨rfl, rfl⟩ := e2
        rw [e1, hk, letJ_def, letJ_def, letJ_def]
        simp only
        rw [neq_f rfl, cond_false, letJ_def, o52_is]
        exact ⟨_, _, _, _, _, rfl, rfl, ⟨hr, h.num, rfl, rfl, .no, rfl, (show (0 : Int) ≤ 0 ∧ (0 : Int) ≤ 7 by decide), hns, fun q => absurd rfl q, fun q => absurd (show (2 : Int) ≤ 0 from q) (by decide)⟩, show col'.sets.length ≤ 874 by omega⟩
  · rw [neq_t hs]
    exact ⟨_, _, _, _, _, rfl, rfl, h, Nat.zero_le _⟩
end Go.Proofs.YtnidomdebhekiaaGreat
