/-
AgreeQuiet in plain words. Conditions: each lemma's own.
-/
import Derived.Test.YtgnajpoebooafaaP9e
namespace Go.Proofs.Ytgnajpoebooafaa
set_option linter.unusedVariables false
set_option linter.unusedSimpArgs false
open Go.RowKit
def quietR (r : Round) : Round := { r with lost := ⟨0, 0⟩, wrong := ⟨0, 0⟩ }
theorem lead1 {s al : Int} {r : Int} (h : r = 2 ∨ r = 3) : o19 1 r s al true 3 s = 2 := by
  unfold o19
  rcases h with rfl | rfl
  · rfl
  · simp only [show ((3 : Int) == 2) = false from rfl, show ((3 : Int) == 3) = true from rfl, show ((3 : Int) != 3) = false from rfl, show ((3 : Int) != 2) = true from rfl, show ((1 : Int) == 1) = true from rfl, Bool.not_true, Bool.and_false, Bool.or_false, Bool.or_true, cond_true, cond_false]
    rw [df (by omega : ¬ s > s)]
    rfl
theorem follow2 {s al : Int} {r : Int} (h : r = 2 ∨ r = 3) : o19 2 3 s al true r s = 3 := by
  unfold o19
  rcases h with rfl | rfl
  · simp only [show ((3 : Int) == 2) = false from rfl, show ((3 : Int) == 3) = true from rfl, show ((2 : Int) == 2) = true from rfl, show ((2 : Int) != 2) = false from rfl, Bool.not_true, Bool.false_and, Bool.or_false, cond_true, cond_false]
    rw [show (s == s) = true from eq_t rfl]
    rfl
  · simp only [show ((3 : Int) == 2) = false from rfl, show ((3 : Int) == 3) = true from rfl, show ((3 : Int) != 3) = false from rfl, show ((3 : Int) != 2) = true from rfl, show ((2 : Int) == 1) = false from rfl, Bool.not_true, Bool.and_false, Bool.or_false, cond_true, cond_false]
    rw [df (by omega : ¬ s > s)]
    rfl
theorem quiet_ok {la lb : Node} {B cy S : Int} {r : Round} (A : Idle la 1 B) (C : Idle lb 2 B) (hB : B ≤ 900000) (hcy : 0 ≤ cy) (ra : la.role = 2 ∨ la.role = 3) (rb : lb.role = 3) (sa : la.steps = S) (sb : lb.steps = S) (hl : r.lost = ⟨0, 0⟩) (hw : r.wrong = ⟨0, 0⟩) :
    ∃ la' lb' X I T y8 y11, o39 la lb cy r = some (la', lb', X, I, T, ⟨4, 4⟩, true) ∧ Idle la' 1 (B + 1) ∧ Idle lb' 2 (B + 1) ∧ la'.role = 2 ∧ lb'.role = 3 ∧ la'.steps = S + 1 ∧ lb'.steps = S + 1 ∧
      o14 r.one 20 = some y8 ∧ o14 r.two 20 = some y11 ∧ unpackC X.a1.in_ = (y8, true, y11, true, 0) := by
  obtain ⟨y8, y11, n2a, n2b, n3a, n3b, n4a, n4b, n5a, n5b, f3a, f3b, b3a, b3b, f5a, f5b, sa', sb', va, vb, e8, e11, k8, k11, Q2a, Q2b, Q3a, Q3b, Q4a, Q4b, Q5a, Q5b, ja, jb, e⟩ := exch (r := r) A C hB hcy
  have c1 : cm r.lost.a1 1 = true := by rw [hl]; rfl
  have c0 : cm r.lost.a0 1 = true := by rw [hl]; rfl
  have d1 : cm r.lost.a1 2 = true := by rw [hl]; rfl
  have d0 : cm r.lost.a0 2 = true := by rw [hl]; rfl
  have g1 : cm r.lost.a1 4 = true := by rw [hl]; rfl
  have g0 : cm r.lost.a0 4 = true := by rw [hl]; rfl
  rw [c1] at Q2a
  rw [c0] at Q2b
  rw [d1] at Q4a
  rw [d0] at Q4b
  rw [g1] at ja
  rw [g0] at jb
  have r2a : n2a.role = 2 := by
    obtain ⟨al, h⟩ := Q2a.role
    rw [h, A.num, sa]
    simp only [cond_true]
    rw [rb, sb]; exact lead1 ra
  have r2b : n2b.role = 3 := by
    obtain ⟨al, h⟩ := Q2b.role
    rw [h, C.num, sb, rb]
    simp only [cond_true]
    rw [sa]; exact follow2 ra
  have s2a : n2a.steps = S := by
    rw [Q2a.steps, r2a, sa, eq_f (by omega : la.role ≠ 1)]; rfl
  have s2b : n2b.steps = S := by
    rw [Q2b.steps, r2b, sb, rb]; rfl
  have fr : n2a.fresh = false := by rw [Q2a.fresh, eq_f (by omega : la.role ≠ 1)]; rfl
  have num2a : n2a.number = 1 := Q2a.num.trans A.num
  have num2b : n2b.number = 2 := Q2b.num.trans C.num
  have o72a : o72 n2a = true := by
    unfold o72; rw [Q2a.is_, Q2a.heard]; simp only [cond_true]; rw [rb]; rfl
  have hpack : packN n2a = (packC y8 true y11 true).1 := by
    unfold packN
    rw [num2a, o72a, Q2a.inp, Q2a.heard]
    rfl
  have hS : 0 ≤ S ∧ S ≤ 900000 := by have := A.steps; omega
  rcases Q3a.fr with ⟨h, _⟩ | ⟨-, hb3, fl, ff, fc, fp, fx⟩
  · exact absurd r2a h
  rw [hpack, fr, s2a] at fx
  have hun : unpackC n3a.set_.in_ = (y8, true, y11, true, 0) := by rw [fx]; exact unpack_pack y8 y11 (by omega) (by omega)
  have cyb : n3b.cycle = n2a.cycle := (Q3b.cyc.trans Q2b.cyc).trans Q2a.cyc.symm
  have hget : getSetC n3b.cycle f3a.payload = (n3a.set_, 0) := by
    rw [fp]
    rcases getSet_put n3b.cycle n3a.set_ (by rw [fx]; simp only; omega) with ⟨_, h⟩ | h
    · exact absurd ⟨by rw [fx]; exact hS.1, by rw [hun]⟩ h
    · rw [h, cyb]
      have : n3a.set_.cycle = n2a.cycle := by rw [fx]
      rw [← this]
  have htook : tookSet n3b f3a (cond b3a true false) = true := by
    unfold tookSet
    rw [hb3, fits2 (Q3b.num.trans num2b) f3a (cond true true false) 2 fl (ff.trans num2a) (fc.trans cyb.symm), hget, Q3b.steps, s2b, fx]
    simp
  have wa : n4a.role = 2 ∧ n4a.has = true ∧ n4a.steps = S + 1 ∧ sa' = n3a.set_ := by
    rcases Q4a.way with ⟨_, h1, h2, h3, h4⟩ | ⟨h1, _⟩ | ⟨_, _, _, h1⟩
    · exact ⟨h1, h2, by rw [h3, Q3a.steps, s2a], h4⟩
    · have := Q3a.role; omega
    · have := Q3a.role; omega
  have wb : n4b.role = 3 ∧ n4b.has = true ∧ n4b.steps = S + 1 ∧ sb' = n3a.set_ := by
    rcases Q4b.way with ⟨h1, _⟩ | ⟨_, h1, h2, h3, _, h4⟩ | ⟨_, _, _, h1⟩
    · have := Q3b.role; omega
    · exact ⟨h1, h2, by rw [h3, Q3b.steps, s2b], by rw [h4, hget]⟩
    · rcases h1 with h1 | ⟨_, h1⟩
      · have := Q3b.role; omega
      · rw [htook] at h1; cases h1
  obtain ⟨wa1, wa2, wa3, wa4⟩ := wa
  obtain ⟨wb1, wb2, wb3, wb4⟩ := wb
  obtain ⟨ta, fa⟩ := Q5a.told wa2
  obtain ⟨tb, fb⟩ := Q5b.told wb2
  have num4a : n4a.number = 1 := Q4a.num.trans (Q3a.num.trans num2a)
  have num4b : n4b.number = 2 := Q4b.num.trans (Q3b.num.trans num2b)
  have cy4 : n4b.cycle = n4a.cycle := (Q4b.cyc.trans cyb).trans ((Q3a.cyc.symm).trans Q4a.cyc.symm)
  have ht : tgt sa' r.wrong.a0 = tgt sb' r.wrong.a1 := by rw [wa4, wb4, hw]
  have rd : ∀ (s : Sett) (w : Int), getResC (putResC ⟨S + 1, tgt s w⟩) = (⟨S + 1, tgt s w⟩, 0) := fun s w => res_read _ (by omega) s w
  have va4 : va = 4 := by
    have : (va == 4) = true := by
      rw [ja]
      unfold valid
      rw [Q5a.has, wa2, wb2, fb]
      rw [fits1 (Q5a.num.trans num4a) _ _ 3 rfl (by rw [num4b]; rfl) (by rw [Q5a.cyc]; exact cy4), ta, wb3, wa3]
      simp only
      rw [rd, ht, sameR_refl]
      have : o72 n5a = true := by
        unfold o72
        rw [Q5a.is_, Q5a.heard, Q4a.is_, Q4a.heard, Q3a.is_, Q3a.heard]
        exact o72a
      rw [this]
      simp
    simpa using this
  have vb4 : vb = 4 := by
    have : (vb == 4) = true := by
      rw [jb]
      unfold valid
      rw [Q5b.has, wa2, wb2, fa]
      rw [fits2 (Q5b.num.trans num4b) _ _ 3 rfl (by rw [num4a]; rfl) (by rw [Q5b.cyc]; exact cy4.symm), tb, wb3, wa3]
      simp only
      rw [rd, ht, sameR_refl, Q5b.role, wb1]
      simp
    simpa using this
  subst va4; subst vb4
  have S' : 0 ≤ S + 1 ∧ S + 1 ≤ B + 1 := by have := A.steps; omega
  refine ⟨_, _, _, _, _, y8, y11, e, ⟨?_, rfl, ?_, ?_⟩, ⟨?_, rfl, ?_, ?_⟩, ?_, ?_, ?_, ?_, e8, e11, ?_⟩
  · exact Q5a.num.trans num4a
  · show 1 ≤ n5a.role ∧ n5a.role ≤ 3
    rw [Q5a.role]; omega
  · show 0 ≤ n5a.steps ∧ n5a.steps ≤ B + 1
    rw [Q5a.steps, wa3]; exact S'
  · exact Q5b.num.trans num4b
  · show 1 ≤ n5b.role ∧ n5b.role ≤ 3
    rw [Q5b.role]; omega
  · show 0 ≤ n5b.steps ∧ n5b.steps ≤ B + 1
    rw [Q5b.steps, wb3]; exact S'
  · exact Q5a.role.trans wa1
  · exact Q5b.role.trans wb1
  · exact Q5a.steps.trans wa3
  · exact Q5b.steps.trans wb3
  · show unpackC sb'.in_ = _
    rw [wb4]; exact hun
theorem adopt_ok {n : Node} {k s : Int} (h : n.number = k ∧ n.next_ = 0 ∧ n.role = 1) (hs : 1 ≤ s ∧ s ≤ 1024) : (o38 n s).2 = 0 ∧ Idle (o38 n s).1 k 1024 ∧ (o38 n s).1.role = 3 ∧ (o38 n s).1.steps = s := by
  unfold o38
  have e1 : ((n.next_ != 0) || (n.role != 1)) = false := by rw [neq_f h.2.1, neq_f h.2.2]; rfl
  have e2 : (decide (s < 1) || decide (s > 4611686018427387904)) = false := by rw [df (by omega : ¬ s < 1), df (by omega : ¬ s > 4611686018427387904)]; rfl
  rw [cond_neg e1, cond_neg e2]
  exact ⟨rfl, ⟨h.1, h.2.1, (show (1 : Int) ≤ 3 ∧ (3 : Int) ≤ 3 by decide), (show 0 ≤ s ∧ s ≤ 1024 by omega)⟩, rfl, rfl⟩
theorem land1023 (x : Int) : 0 ≤ landK .i64 x 1023 ∧ landK .i64 x 1023 ≤ 1023 := land64 x 1023 (by decide)
theorem agreeQuiet_plain (l : List Round) (steps : Int) (hl : l.length < 1000000000000000) : o10 l steps = some true := by
  unfold o10
  have hN : l.length + 1 < fuelN := by unfold fuelN; omega
  generalize fuelN = N at hN ⊢
  rw [o13_true, bindO_some rfl]
  simp only [Bool.not_true, cond_false]
  rw [letJ_def, letJ_def]
  have n1 : (o37 1).1 = some ⟨1, 1, 0, 0, 0, 0, [], ⟨0, 0, ⟨0, 0⟩, []⟩, false, false, ⟨0, 0, false, []⟩, false, ⟨0, ⟨0, 0, 0, 0, 0, 0, 0⟩⟩⟩ := rfl
  have n2 : (o37 2).1 = some ⟨2, 1, 0, 0, 0, 0, [], ⟨0, 0, ⟨0, 0⟩, []⟩, false, false, ⟨0, 0, false, []⟩, false, ⟨0, ⟨0, 0, 0, 0, 0, 0, 0⟩⟩⟩ := rfl
  have hs := land1023 steps
  obtain ⟨s, es⟩ : ∃ s, s = landK .i64 steps 1023 + 1 := ⟨_, rfl⟩
  rw [n1, n2]
  simp only [Option.isNone_some, Bool.or_self, cond_false]
  rw [bindO_some rfl, letJ_def, bindO_some rfl, letJ_def, ← es]
  obtain ⟨a1, A, a2, a3⟩ := adopt_ok (n := ⟨1, 1, 0, 0, 0, 0, [], ⟨0, 0, ⟨0, 0⟩, []⟩, false, false, ⟨0, 0, false, []⟩, false, ⟨0, ⟨0, 0, 0, 0, 0, 0, 0⟩⟩⟩) (s := s) ⟨rfl, rfl, rfl⟩ (by omega)
  obtain ⟨b1, C, b2, b3⟩ := adopt_ok (n := ⟨2, 1, 0, 0, 0, 0, [], ⟨0, 0, ⟨0, 0⟩, []⟩, false, false, ⟨0, 0, false, []⟩, false, ⟨0, ⟨0, 0, 0, 0, 0, 0, 0⟩⟩⟩) (s := s) ⟨rfl, rfl, rfl⟩ (by omega)
  rw [a1, neq_f rfl]
  simp only [cond_false]
  rw [letJ_def, b1]
  have z : ((0 : Int) != 0) = false := rfl
  rw [z]
  simp only [cond_false]
  generalize hla : (o38 ⟨1, 1, 0, 0, 0, 0, [], ⟨0, 0, ⟨0, 0⟩, []⟩, false, false, ⟨0, 0, false, []⟩, false, ⟨0, ⟨0, 0, 0, 0, 0, 0, 0⟩⟩⟩ s).1 = la at A a2 a3 ⊢
  generalize hlb : (o38 ⟨2, 1, 0, 0, 0, 0, [], ⟨0, 0, ⟨0, 0⟩, []⟩, false, false, ⟨0, 0, false, []⟩, false, ⟨0, ⟨0, 0, 0, 0, 0, 0, 0⟩⟩⟩ s).1 = lb at C b2 b3 ⊢
  obtain ⟨rr, h1, h2⟩ := loopO_ok (f := o10_L0 l steps) (fun q => Idle q.2.2 1 (1024 + q.1) ∧ Idle q.2.1 2 (1024 + q.1) ∧ q.1 ≤ 12 ∧ (q.2.2.role = 2 ∨ q.2.2.role = 3) ∧ q.2.1.role = 3 ∧ q.2.2.steps = s + q.1 ∧ q.2.1.steps = s + q.1) (fun q => l.length + 1 - q.1) (fun r => r = Ctl.go ()) (by
    rintro ⟨i, lb, la⟩ ⟨A, C, hi, ra, rb, sa, sb⟩
    simp only at A C hi ra rb sa sb
    unfold o10_L0
    rw [← es]
    obtain ⟨M, hM⟩ : ∃ M : Int, M = 9223372036854775807 := ⟨_, rfl⟩
    obtain ⟨M2, hM2⟩ : ∃ M : Int, M = -9223372036854775808 := ⟨_, rfl⟩
    rw [← hM2, ← hM]
    by_cases hlt : i < l.length ∧ i < 12
    · have e0 : (decide (((i : Nat) : Int) < ((l.length : Nat) : Int)) && decide (((i : Nat) : Int) < 12)) = true := by
        simp only [Bool.and_eq_true, decide_eq_true_eq]; omega
      simp only [e0, cond_true]
      obtain ⟨la', lb', X, I, T, y8, y11, e, A', C', ra', rb', sa'', sb'', e8, e11, eu⟩ := quiet_ok (r := { l.getD i default with lost := ⟨0, 0⟩, wrong := ⟨0, 0⟩ }) A C (by omega) (by omega : (0 : Int) ≤ i) ra rb sa sb rfl rfl
      refine .inl ⟨(i + 1, lb', la'), ?_, ⟨by simp only; rw [show (1024 : Int) + ((i + 1 : Nat) : Int) = 1024 + (i : Int) + 1 by omega]; exact A', by simp only; rw [show (1024 : Int) + ((i + 1 : Nat) : Int) = 1024 + (i : Int) + 1 by omega]; exact C', by simp only; omega, .inl ra', rb', by simp only; omega, by simp only; omega⟩, by simp only; omega⟩
      have e8 : o14 (l.getD i default).one 20 = some y8 := e8
      have e11 : o14 (l.getD i default).two 20 = some y11 := e11
      rw [e, bindO_some rfl]
      simp only [Bool.not_true, cond_false]
      rw [letJ_def, neq_f rfl]
      simp only [cond_false]
      unfold o41 o40
      repeat rw [letJ_def]
      rw [neq_f ra', neq_f rb']
      simp only [cond_false]
      rw [grd_pos (dt (by omega)), sa'', neq_f (rfl : s + (i : Int) + 1 = s + (i : Int) + 1), bindO_some rfl]
      simp only [cond_false]
      rw [o17_eq, bindO_some rfl, eu]
      simp only [Bool.not_true, Bool.false_or]
      rw [neq_f (rfl : (0 : Int) = 0)]
      simp only [cond_false]
      rw [e8, bindO_some rfl, bindO_some rfl]
      simp only [beq_self_eq_true, Bool.not_true, cond_false]
      rw [e11, bindO_some rfl, bindO_some rfl]
      simp only [beq_self_eq_true, Bool.not_true, cond_false]
      exact grd_pos (dt (by omega))
    · have e0 : (decide (((i : Nat) : Int) < ((l.length : Nat) : Int)) && decide (((i : Nat) : Int) < 12)) = false := by
        simp only [Bool.and_eq_false_iff, decide_eq_false_iff_not]; omega
      simp only [e0, cond_false]
      exact .inr ⟨_, rfl, rfl⟩) N (0, lb, la) ⟨by simpa using A, by simpa using C, by simp, .inr a2, b2, by simpa using a3, by simpa using b3⟩ (by simp only; omega)
  subst h2
  rw [h1]
  rfl
theorem agreeQuiet_yes {p : Psi} {A : Option Addr} {c : Nat} {l : List Round} (steps : Int) (h : Arr p tyRound A c l) : o10 l steps = some true := agreeQuiet_plain l steps (by have := h.len; omega)
end Go.Proofs.Ytgnajpoebooafaa
