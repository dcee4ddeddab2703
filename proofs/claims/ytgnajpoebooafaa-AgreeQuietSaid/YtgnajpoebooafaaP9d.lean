/-
A whole cycle of two nodes: what it computes, and what holds behind it. Conditions: each lemma's own.
-/
import Derived.Test.YtgnajpoebooafaaP9c
namespace Go.Proofs.Ytgnajpoebooafaa
set_option linter.unusedVariables false
set_option linter.unusedSimpArgs false
open Go.RowKit
theorem cond_role {c : Bool} {x : Int} : cond c x x = x := by cases c <;> rfl
theorem steps_le {n n2 : Node} {B : Int} (h : n2.steps = (cond (n2.role == 1) 0 (cond (n.role == 1 && n2.role == 2) 0 n.steps))) (hs : 0 ≤ n.steps ∧ n.steps ≤ B) : 0 ≤ n2.steps ∧ n2.steps ≤ B := by
  rw [h]
  cases (n2.role == 1) <;> cases (n.role == 1 && n2.role == 2) <;> simp only [cond_true, cond_false] <;> omega
/-- what a step leaves -/
structure Stepped (n3 n4 : Node) (f : Frame) (came : Bool) (s : Sett) : Prop where
  num : n4.number = n3.number
  next : n4.next_ = 4
  cyc : n4.cycle = n3.cycle
  is_ : n4.is_ = n3.is_
  heard : n4.heard = n3.heard
  way : (n3.role = 2 ∧ n4.role = 2 ∧ n4.has = true ∧ n4.steps = n3.steps + 1 ∧ s = n3.set_) ∨
       (n3.role = 3 ∧ n4.role = 3 ∧ n4.has = true ∧ n4.steps = n3.steps + 1 ∧ tookSet n3 f came = true ∧ s = (getSetC n3.cycle f.payload).1) ∨
       (n4.role = 1 ∧ n4.has = false ∧ (n4.steps = 0 ∨ n4.steps = n3.steps) ∧ (n3.role = 1 ∨ (n3.role = 3 ∧ tookSet n3 f came = false)))
structure Told (n4 n5 : Node) (f : Frame) (t : Targets) : Prop where
  num : n5.number = n4.number
  next : n5.next_ = 5
  cyc : n5.cycle = n4.cycle
  has : n5.has = n4.has
  is_ : n5.is_ = n4.is_
  heard : n5.heard = n4.heard
  role : n5.role = n4.role
  steps : n5.steps = n4.steps
  told : n4.has = true → n5.told = ⟨n4.steps, t⟩ ∧ f = ⟨3, IntKind.u8.wrap n4.number, n4.cycle, putResC ⟨n4.steps, t⟩⟩
def tgt (s : Sett) (w : Int) : Targets := ⟨IntKind.u8.wrap ((s.in_.length : Nat) : Int), 0, 0, IntKind.i64.wrap (s.steps + w), 0, 0, 0⟩
theorem z255 : (0 : Int) ≤ 0 ∧ (0 : Int) ≤ 255 := by decide
theorem zI : -9223372036854775808 ≤ (0 : Int) ∧ (0 : Int) ≤ 9223372036854775807 := by decide
theorem tgt_ok (s : Sett) (w : Int) : okT (tgt s w) := ⟨u8_in _, z255, z255⟩
theorem i64_in (x : Int) : -9223372036854775808 ≤ IntKind.i64.wrap x ∧ IntKind.i64.wrap x ≤ 9223372036854775807 := by rw [IntKind.wrap_i64]; omega
theorem res_read (n : Int) (h : 0 ≤ n ∧ n ≤ 2000000) (s : Sett) (w : Int) : getResC (putResC ⟨n, tgt s w⟩) = (⟨n, tgt s w⟩, 0) :=
  getRes_put _ (tgt_ok s w) ⟨by show _ ≤ n; omega, by show n ≤ _; omega⟩ (i64_in _) zI zI zI
/-- one that is valid has read the other's result -/
theorem valid_read {n4 n5 m4 m5 : Node} {f : Frame} {came : Bool} {s s' : Sett} {w w' : Int} (hn : Told n4 n5 f (tgt s w)) {fm : Frame} (hm : Told m4 m5 fm (tgt s' w')) (hs : 0 ≤ n4.steps ∧ n4.steps ≤ 2000000) (hv : valid m5 f (cond n4.has came false) = true) :
    n4.has = true ∧ m4.has = true ∧ n4.steps = m4.steps ∧ tgt s w = tgt s' w' ∧ (m4.role = 3 ∨ (m4.is_ = true ∧ m4.heard.role = 3)) := by
  unfold valid at hv
  simp only [Bool.and_eq_true] at hv
  obtain ⟨v1, ⟨v2, v3⟩, v4, v5⟩ := hv
  have hc := fits_came v2
  have hh : n4.has = true := by cases h : n4.has with
    | true => rfl
    | false => rw [h] at hc; cases hc
  rw [hm.has] at v1
  obtain ⟨_, ef⟩ := hn.told hh
  obtain ⟨et, _⟩ := hm.told v1
  rw [ef, et] at v5
  simp only at v5
  rw [res_read _ hs] at v5
  have := sameR_eq v5
  injection this with e1 e2
  refine ⟨hh, v1, e1, e2, ?_⟩
  rw [hm.role] at v4
  unfold o72 at v4
  rw [hm.is_, hm.heard] at v4
  simpa using v4
theorem both_lead {sa sb : Int} {al be : Int} (h1 : o19 1 3 sa al true 3 sb = 2) (h2 : o19 2 3 sb be true 3 sa = 2) : False := by
  unfold o19 at h1 h2
  simp only [show ((3 : Int) == 2) = false from rfl, show ((3 : Int) == 3) = true from rfl, show ((3 : Int) != 3) = false from rfl, show ((1 : Int) == 1) = true from rfl, show ((2 : Int) == 1) = false from rfl, show ((3 : Int) != 2) = true from rfl, Bool.not_true, Bool.and_false, Bool.or_false, Bool.or_true, cond_true, cond_false, Bool.and_true, Bool.false_or] at h1 h2
  by_cases a : sb > sa
  · rw [dt a] at h1; simp at h1
  · by_cases b : sa > sb
    · rw [dt b] at h2; simp at h2
    · rw [df b, df (by omega : ¬ sa < sb)] at h2; simp at h2
def cm (x b : Int) : Bool := (landK .u8 x b == 0)
theorem exch {la lb : Node} {B cy : Int} {r : Round} (A : Idle la 1 B) (C : Idle lb 2 B) (hB : B ≤ 900000) (hcy : 0 ≤ cy) :
    ∃ y8 y11 n2a n2b n3a n3b n4a n4b n5a n5b f3a f3b b3a b3b f5a f5b sa sb va vb, o14 r.one 20 = some y8 ∧ o14 r.two 20 = some y11 ∧ y8.length ≤ 20 ∧ y11.length ≤ 20 ∧
      Heard1 la n2a cy y8 (cm r.lost.a1 1) lb y11 ∧ Heard1 lb n2b cy y11 (cm r.lost.a0 1) la y8 ∧ Shared n2a n3a f3a b3a ∧ Shared n2b n3b f3b b3b ∧
      Stepped n3a n4a f3b (cond b3b (cm r.lost.a1 2) false) sa ∧ Stepped n3b n4b f3a (cond b3a (cm r.lost.a0 2) false) sb ∧ Told n4a n5a f5a (tgt sa r.wrong.a0) ∧ Told n4b n5b f5b (tgt sb r.wrong.a1) ∧
      (va == 4) = valid n5a f5b (cond n4b.has (cm r.lost.a1 4) false) ∧ (vb == 4) = valid n5b f5a (cond n4a.has (cm r.lost.a0 4) false) ∧
      o39 la lb cy r = some ({ n5a with next_ := 0 }, { n5b with next_ := 0 }, ⟨sa, sb⟩, ⟨n4a.has, n4b.has⟩, ⟨tgt sa r.wrong.a0, tgt sb r.wrong.a1⟩, ⟨va, vb⟩, true) := by
  obtain ⟨y8, e8, l8⟩ := o14_ok r.one 20 (by decide)
  obtain ⟨y11, e11, l11⟩ := o14_ok r.two 20 (by decide)
  have ha := hello_spec (n := la) (cy := cy) (inp := y8) A.next hcy A.role A.steps.1 (by omega)
  have hb := hello_spec (n := lb) (cy := cy) (inp := y11) C.next hcy C.role C.steps.1 (by omega)
  have k8 : y8.length ≤ 20 := by omega
  have k11 : y11.length ≤ 20 := by omega
  obtain ⟨n2a, Ha, ba, ea, Q2a⟩ := heard_ok (n := la) (f := ⟨1, IntKind.u8.wrap lb.number, cy, helloP lb.role lb.steps y11⟩) (came := cm r.lost.a1 1) (m := lb) (minp := y11) (inp := y8) (cy := cy) rfl rfl
    (fits1 (by exact A.num) _ _ 1 rfl (by rw [C.num]; rfl) rfl) C.role ⟨C.steps.1, by have := C.steps.2; omega⟩ k11
  obtain ⟨n2b, Hb, bb, eb, Q2b⟩ := heard_ok (n := lb) (f := ⟨1, IntKind.u8.wrap la.number, cy, helloP la.role la.steps y8⟩) (came := cm r.lost.a0 1) (m := la) (minp := y8) (inp := y11) (cy := cy) rfl rfl
    (fits2 (by exact C.num) _ _ 1 rfl (by rw [A.num]; rfl) rfl) A.role ⟨A.steps.1, by have := A.steps.2; omega⟩ k8
  have S2a := steps_le Q2a.steps A.steps
  have S2b := steps_le Q2b.steps C.steps
  have hla : n2a.heard.input.length ≤ 400 := by rw [Q2a.heard]; cases cm r.lost.a1 1 <;> simp [noHeard]; omega
  have hlb : n2b.heard.input.length ≤ 400 := by rw [Q2b.heard]; cases cm r.lost.a0 1 <;> simp [noHeard]; omega
  obtain ⟨n3a, f3a, b3a, e3a, Q3a⟩ := share_ok (n2 := n2a) Q2a.next (.inl (Q2a.num.trans A.num)) (by rw [Q2a.inp]; omega) hla Q2a.has
  obtain ⟨n3b, f3b, b3b, e3b, Q3b⟩ := share_ok (n2 := n2b) Q2b.next (.inr (Q2b.num.trans C.num)) (by rw [Q2b.inp]; omega) hlb Q2b.has
  have r2a : 1 ≤ n2a.role ∧ n2a.role ≤ 3 := by obtain ⟨al, h⟩ := Q2a.role; rw [h]; exact o19_13 ..
  have r2b : 1 ≤ n2b.role ∧ n2b.role ≤ 3 := by obtain ⟨al, h⟩ := Q2b.role; rw [h]; exact o19_13 ..
  obtain ⟨n4a, sa, e4a, p1, p2, p3, p4, p5, p6⟩ := step_spec (n := n3a) (f := f3b) (came := cond b3b (cm r.lost.a1 2) false) Q3a.next Q3a.has (by rw [Q3a.role]; exact r2a) Q3b.len (by rw [Q3a.steps]; omega)
  obtain ⟨n4b, sb, e4b, u1, u2, u3, u4, u5, u6⟩ := step_spec (n := n3b) (f := f3a) (came := cond b3a (cm r.lost.a0 2) false) Q3b.next Q3b.has (by rw [Q3b.role]; exact r2b) Q3a.len (by rw [Q3b.steps]; omega)
  obtain ⟨n5a, f5a, e5a, v1, v2, v3, v4, v5, v6, v7, v8, v9⟩ := tell_spec (n := n4a) (t := tgt sa r.wrong.a0) p2 (tgt_ok _ _)
  obtain ⟨n5b, f5b, e5b, x1, x2, x3, x4, x5, x6, x7, x8, x9⟩ := tell_spec (n := n4b) (t := tgt sb r.wrong.a1) u2 (tgt_ok _ _)
  obtain ⟨va, e6a, ja⟩ := judge_spec (n := n5a) (f := f5b) (came := cond n4b.has (cm r.lost.a1 4) false) v2
  obtain ⟨vb, e6b, jb⟩ := judge_spec (n := n5b) (f := f5a) (came := cond n4a.has (cm r.lost.a0 4) false) x2
  refine ⟨y8, y11, n2a, n2b, n3a, n3b, n4a, n4b, n5a, n5b, f3a, f3b, b3a, b3b, f5a, f5b, sa, sb, va, vb, e8, e11, k8, k11, Q2a, Q2b, Q3a, Q3b, ⟨p1, p2, p3, p4, p5, p6⟩, ⟨u1, u2, u3, u4, u5, u6⟩, ⟨v1, v2, v3, v4, v5, v6, v7, v8, v9⟩, ⟨x1, x2, x3, x4, x5, x6, x7, x8, x9⟩, ja, jb, ?_⟩
  unfold o39
  rw [e8, bindO_some rfl, e11, bindO_some rfl, ha, bindO_some rfl]
  have z : ((0 : Int) != 0) = false := rfl
  simp only [z, cond_false]
  rw [hb, bindO_some rfl]
  simp only [z, cond_false]
  rw [joinO_go rfl]
  simp only
  unfold cm at *
  rw [ea, bindO_some rfl, eb, bindO_some rfl, bindO_some rfl]
  simp only
  rw [e3a, bindO_some rfl, e3b, bindO_some rfl, bindO_some rfl]
  simp only
  rw [letJ_def, e4a, bindO_some rfl, letJ_def, e4b, bindO_some rfl, bindO_some rfl]
  simp only
  unfold tgt at e5a e5b
  rw [e5a, bindO_some rfl, e5b, bindO_some rfl, bindO_some rfl]
  simp only
  rw [letJ_def, e6a, bindO_some rfl, letJ_def, e6b, bindO_some rfl, bindO_some rfl]
  rfl
end Go.Proofs.Ytgnajpoebooafaa
