/-
AgreeValid and AgreeQuiet in plain words. Conditions: each lemma's own.
-/
import Derived.Test.YtgnajpoebooafaaP9d
namespace Go.Proofs.Ytgnajpoebooafaa
set_option linter.unusedVariables false
set_option linter.unusedSimpArgs false
open Go.RowKit
theorem stepped_range {n3 n4 : Node} {f : Frame} {came : Bool} {s : Sett} {B : Int} (h : Stepped n3 n4 f came s) (hs : 0 ≤ n3.steps ∧ n3.steps ≤ B) : (1 ≤ n4.role ∧ n4.role ≤ 3) ∧ 0 ≤ n4.steps ∧ n4.steps ≤ B + 1 := by
  rcases h.way with ⟨_, h1, _, h2, _⟩ | ⟨_, h1, _, h2, _⟩ | ⟨h1, _, h2, _⟩ <;> omega
theorem stepped_has {n3 n4 : Node} {f : Frame} {came : Bool} {s : Sett} (h : Stepped n3 n4 f came s) (hh : n4.has = true) : (n3.role = 2 ∧ s = n3.set_) ∨ (n3.role = 3 ∧ tookSet n3 f came = true ∧ s = (getSetC n3.cycle f.payload).1) := by
  rcases h.way with ⟨h1, _, _, _, h2⟩ | ⟨h1, _, _, _, h2, h3⟩ | ⟨_, h1, _⟩
  · exact .inl ⟨h1, h2⟩
  · exact .inr ⟨h1, h2, h3⟩
  · rw [h1] at hh; cases hh
theorem stepped_3 {n3 n4 : Node} {f : Frame} {came : Bool} {s : Sett} (h : Stepped n3 n4 f came s) (h4 : n4.role = 3) : n3.role = 3 ∧ tookSet n3 f came = true := by
  rcases h.way with ⟨_, h1, _⟩ | ⟨h1, _, _, _, h2, _⟩ | ⟨h1, _⟩
  · omega
  · exact ⟨h1, h2⟩
  · omega
theorem stepped_2 {n3 n4 : Node} {f : Frame} {came : Bool} {s : Sett} (h : Stepped n3 n4 f came s) (h3 : n3.role = 2) : n4.role = 2 := by
  rcases h.way with ⟨_, h1, _⟩ | ⟨h1, _⟩ | ⟨_, _, _, h1⟩ <;> omega
theorem led {n n2 : Node} {cy : Int} {inp minp : List UInt8} {c : Bool} {m : Node} (h : Heard1 n n2 cy inp c m minp) (h1 : n2.is_ = true ∧ n2.heard.role = 3) : c = true ∧ m.role = 3 := by
  obtain ⟨a, b⟩ := h1
  rw [h.is_] at a
  subst a
  rw [h.heard] at b
  exact ⟨rfl, b⟩
theorem valid_ok {la lb : Node} {B cy : Int} {r : Round} (A : Idle la 1 B) (C : Idle lb 2 B) (hB : B ≤ 900000) (hcy : 0 ≤ cy) :
    ∃ la' lb' S I T U, o39 la lb cy r = some (la', lb', S, I, T, U, true) ∧ Idle la' 1 (B + 1) ∧ Idle lb' 2 (B + 1) ∧ ¬ (la'.role = 3 ∧ lb'.role = 3) ∧
      (U.a0 = 4 → U.a1 = 4 → I.a0 = true ∧ I.a1 = true ∧ T.a0 = T.a1 ∧ la'.steps = lb'.steps ∧ S.a0 = S.a1) := by
  obtain ⟨y8, y11, n2a, n2b, n3a, n3b, n4a, n4b, n5a, n5b, f3a, f3b, b3a, b3b, f5a, f5b, sa, sb, va, vb, e8, e11, k8, k11, Q2a, Q2b, Q3a, Q3b, Q4a, Q4b, Q5a, Q5b, ja, jb, e⟩ := exch (r := r) A C hB hcy
  have S2a := steps_le Q2a.steps A.steps
  have S2b := steps_le Q2b.steps C.steps
  have R4a := stepped_range Q4a (B := B) (by rw [Q3a.steps]; exact S2a)
  have R4b := stepped_range Q4b (B := B) (by rw [Q3b.steps]; exact S2b)
  have num2a : n2a.number = 1 := Q2a.num.trans A.num
  have num2b : n2b.number = 2 := Q2b.num.trans C.num
  have num3a : n3a.number = 1 := Q3a.num.trans num2a
  have num3b : n3b.number = 2 := Q3b.num.trans num2b
  have cyc3a : n3a.cycle = cy := Q3a.cyc.trans Q2a.cyc
  have cyc3b : n3b.cycle = cy := Q3b.cyc.trans Q2b.cyc
  have tookA := fun h => took_eq (m2 := n2a) (m3 := n3a) Q3b (.inr ⟨num2b, num3a⟩) (cyc3a.trans Q2b.cyc.symm) ⟨S2b.1, by omega⟩ (came := cm r.lost.a1 2) h
  have tookB := fun h => took_eq (m2 := n2b) (m3 := n3b) Q3a (.inl ⟨num2a, num3b⟩) (cyc3b.trans Q2a.cyc.symm) ⟨S2a.1, by omega⟩ (came := cm r.lost.a0 2) h
  refine ⟨_, _, _, _, _, _, e, ⟨?_, rfl, ?_, ?_⟩, ⟨?_, rfl, ?_, ?_⟩, ?_, ?_⟩
  · exact Q5a.num.trans (Q4a.num.trans num3a)
  · show 1 ≤ n5a.role ∧ n5a.role ≤ 3
    rw [Q5a.role]; exact R4a.1
  · show 0 ≤ n5a.steps ∧ n5a.steps ≤ B + 1
    rw [Q5a.steps]; exact R4a.2
  · exact Q5b.num.trans (Q4b.num.trans num3b)
  · show 1 ≤ n5b.role ∧ n5b.role ≤ 3
    rw [Q5b.role]; exact R4b.1
  · show 0 ≤ n5b.steps ∧ n5b.steps ≤ B + 1
    rw [Q5b.steps]; exact R4b.2
  · rintro ⟨ra, rb⟩
    have ra : n5a.role = 3 := ra
    have rb : n5b.role = 3 := rb
    rw [Q5a.role] at ra
    rw [Q5b.role] at rb
    obtain ⟨-, ta⟩ := stepped_3 Q4a ra
    have := stepped_2 Q4b (Q3b.role.trans (tookA ta).1)
    omega
  · intro ha hb
    have ha : va = 4 := ha
    have hb : vb = 4 := hb
    subst ha; subst hb
    obtain ⟨a1, a2, a3, a4, a5⟩ := valid_read Q5b Q5a ⟨R4b.2.1, by omega⟩ ja.symm
    obtain ⟨b1, b2, b3, b4, b5⟩ := valid_read Q5a Q5b ⟨R4a.2.1, by omega⟩ jb.symm
    refine ⟨a2, a1, b4, ?_, ?_⟩
    · show n5a.steps = n5b.steps
      rw [Q5a.steps, Q5b.steps]; exact b3
    · show sa = sb
      rcases stepped_has Q4a a2 with ⟨h1, h2⟩ | ⟨h1, h2, h3⟩
      · rcases stepped_has Q4b a1 with ⟨k1, k2⟩ | ⟨k1, k2, k3⟩
        · exfalso
          have ra4 := stepped_2 Q4a h1
          have rb4 := stepped_2 Q4b k1
          have ea : n2a.is_ = true ∧ n2a.heard.role = 3 := by
            rcases a5 with h | h
            · omega
            · rw [Q4a.is_, Q4a.heard, Q3a.is_, Q3a.heard] at h; exact h
          have eb : n2b.is_ = true ∧ n2b.heard.role = 3 := by
            rcases b5 with h | h
            · omega
            · rw [Q4b.is_, Q4b.heard, Q3b.is_, Q3b.heard] at h; exact h
          obtain ⟨c1, r1⟩ := led Q2a ea
          obtain ⟨c2, r2⟩ := led Q2b eb
          obtain ⟨al, ia⟩ := Q2a.role
          obtain ⟨be, ib⟩ := Q2b.role
          rw [c1, r1, r2, A.num] at ia
          rw [c2, r2, r1, C.num] at ib
          exact both_lead (ia.symm.trans (Q3a.role.symm.trans h1)) (ib.symm.trans (Q3b.role.symm.trans k1))
        · rw [h2, k3]; exact (tookB k2).2.symm
      · obtain ⟨q1, q2⟩ := tookA h2
        rcases stepped_has Q4b a1 with ⟨k1, k2⟩ | ⟨k1, k2, k3⟩
        · rw [h3, k2]; exact q2
        · exfalso
          have := Q3b.role
          omega
theorem same_tgt {a b : Targets} (h : a = b) : ((a.lateral == b.lateral) && ((a.vertical == b.vertical) && ((a.phase == b.phase) && ((a.bank == b.bank) && ((a.speed == b.speed) && ((a.alt == b.alt) && (a.vs == b.vs))))))) = true := by subst h; simp
theorem same_set {a b : Sett} (h : a = b) : o35 a b = true := by subst h; unfold o35; simp
theorem o13_true : o13 = some true := by
  unfold o13
  rw [o15_eq, o17_eq]
  decide
theorem land7 (x : Int) : 0 ≤ landK .i64 x 7 ∧ landK .i64 x 7 ≤ 7 := land64 x 7 (by decide)
theorem adopt_idle {n : Node} {k s : Int} (h : Idle n k 7) (hs : 0 ≤ s ∧ s ≤ 7) : Idle (o38 n s).1 k 7 := by
  unfold o38
  cases ((n.next_ != 0) || (n.role != 1)) with
  | true => exact h
  | false =>
    cases (decide (s < 1) || decide (s > 4611686018427387904)) with
    | true => exact h
    | false => exact ⟨h.num, h.next, (show (1 : Int) ≤ 3 ∧ (3 : Int) ≤ 3 by decide), hs⟩
theorem new_idle (k : Int) : Idle ⟨k, 1, 0, 0, 0, 0, [], ⟨0, 0, ⟨0, 0⟩, []⟩, false, false, ⟨0, 0, false, []⟩, false, ⟨0, ⟨0, 0, 0, 0, 0, 0, 0⟩⟩⟩ k 7 := ⟨rfl, rfl, (show (1 : Int) ≤ 1 ∧ (1 : Int) ≤ 3 by decide), (show (0 : Int) ≤ 0 ∧ (0 : Int) ≤ 7 by decide)⟩
theorem agreeValid_plain (l : List Round) (adopt : TwoI) (hl : l.length < 1000000000000000) : o9 l adopt = some true := by
  unfold o9
  have hN : l.length + 1 < fuelN := by unfold fuelN; omega
  generalize fuelN = N at hN ⊢
  rw [o13_true, bindO_some rfl]
  simp only [Bool.not_true, cond_false]
  rw [letJ_def, letJ_def]
  have n1 : (o37 1).1 = some ⟨1, 1, 0, 0, 0, 0, [], ⟨0, 0, ⟨0, 0⟩, []⟩, false, false, ⟨0, 0, false, []⟩, false, ⟨0, ⟨0, 0, 0, 0, 0, 0, 0⟩⟩⟩ := rfl
  have n2 : (o37 2).1 = some ⟨2, 1, 0, 0, 0, 0, [], ⟨0, 0, ⟨0, 0⟩, []⟩, false, false, ⟨0, 0, false, []⟩, false, ⟨0, ⟨0, 0, 0, 0, 0, 0, 0⟩⟩⟩ := rfl
  rw [n1, n2]
  simp only [Option.isNone_some, Bool.or_self, cond_false]
  rw [bindO_some rfl, letJ_def, bindO_some rfl, letJ_def]
  have A := adopt_idle (new_idle 1) (land7 adopt.a0)
  have C := adopt_idle (new_idle 2) (land7 adopt.a1)
  obtain ⟨rr, h1, h2⟩ := loopO_ok (f := o9_L0 l) (fun s => Idle s.2.2 1 (7 + s.1) ∧ Idle s.2.1 2 (7 + s.1) ∧ s.1 ≤ 12) (fun s => l.length + 1 - s.1) (fun r => r = Ctl.go ()) (by
    rintro ⟨i, lb, la⟩ ⟨A, C, hi⟩
    simp only at A C hi
    unfold o9_L0
    obtain ⟨M, hM⟩ : ∃ M : Int, M = 9223372036854775807 := ⟨_, rfl⟩
    rw [← hM]
    by_cases hlt : i < l.length ∧ i < 12
    · have e0 : (decide (((i : Nat) : Int) < ((l.length : Nat) : Int)) && decide (((i : Nat) : Int) < 12)) = true := by
        simp only [Bool.and_eq_true, decide_eq_true_eq]; omega
      simp only [e0, cond_true]
      obtain ⟨la', lb', S, I, T, U, e, A', C', hnf, hv⟩ := valid_ok (r := l.getD i default) A C (by omega) (by omega : (0 : Int) ≤ i)
      refine .inl ⟨(i + 1, lb', la'), ?_, ⟨by simp only; rw [show (7 : Int) + ((i + 1 : Nat) : Int) = 7 + (i : Int) + 1 by omega]; exact A', by simp only; rw [show (7 : Int) + ((i + 1 : Nat) : Int) = 7 + (i : Int) + 1 by omega]; exact C', by simp only; omega⟩, by simp only; omega⟩
      rw [e, bindO_some rfl]
      simp only [Bool.not_true, cond_false]
      have e42 : ∀ x y : Bool, cond x y false = (x && y) := fun x y => by cases x <;> rfl
      have et : ∀ x y : Bool, cond x true y = (x || y) := fun x y => by cases x <;> rfl
      rw [letJ_def, e42]
      have hend : (bindO (τ := Unit) (some ()) fun _ => (letJ (τ := Int) (o41 la') fun y48 => (letJ (τ := Bool) (cond ((y48 == 3)) (letJ (τ := Int) (o41 lb') fun y57 => (y57 == 3)) (false)) fun t51 => (cond (t51) (some (Ctl.done (Ctl.done ((false))))) (grd (decide (((i : Nat) : Int) + 1 ≤ M)) (some (Ctl.go ((i + 1), (lb' : Node), (la' : Node))))))))) = (some (Ctl.go (i + 1, lb', la')) : Option (Ctl (Nat × Node × Node) (Ctl Unit Bool))) := by
        rw [bindO_some rfl, letJ_def, letJ_def, letJ_def, e42]
        have : ((o41 la' == 3) && (o41 lb' == 3)) = false := by
          unfold o41
          by_cases q : la'.role = 3
          · rw [eq_t q, eq_f (fun q2 => hnf ⟨q, q2⟩)]; rfl
          · rw [eq_f q]; rfl
        rw [this]
        simp only [cond_false]
        exact grd_pos (dt (by omega))
      cases hvv : (U.a0 == 4) && (U.a1 == 4) with
      | false =>
        simp only [cond_false]
        rw [joinO_go rfl]
        rw [bindO_some rfl] at hend
        exact hend
      | true =>
        simp only [Bool.and_eq_true, beq_iff_eq] at hvv
        obtain ⟨i0, i1, t0, s0, q0⟩ := hv hvv.1 hvv.2
        simp only [cond_true]
        rw [letJ_def, letJ_def, letJ_def, letJ_def, i0, i1]
        simp only [Bool.not_true, cond_false]
        rw [same_tgt t0]
        simp only [Bool.not_true, cond_false]
        rw [letJ_def, letJ_def]
        unfold o40
        rw [neq_f s0]
        simp only [cond_false]
        unfold o33
        rw [letJ_def, letJ_def, letJ_def, same_set q0]
        simp only [Bool.not_true, cond_false]
        rw [joinO_go rfl]
        rw [bindO_some rfl] at hend
        exact hend
    · have e0 : (decide (((i : Nat) : Int) < ((l.length : Nat) : Int)) && decide (((i : Nat) : Int) < 12)) = false := by
        simp only [Bool.and_eq_false_iff, decide_eq_false_iff_not]; omega
      simp only [e0, cond_false]
      exact .inr ⟨_, rfl, rfl⟩) N (0, _, _) ⟨by simpa using A, by simpa using C, by simp⟩ (by simp only; omega)
  subst h2
  rw [h1]
  rfl
theorem agreeValid_yes {p : Psi} {A : Option Addr} {c : Nat} {l : List Round} (adopt : TwoI) (h : Arr p tyRound A c l) : o9 l adopt = some true := agreeValid_plain l adopt (by have := h.len; omega)
end Go.Proofs.Ytgnajpoebooafaa
