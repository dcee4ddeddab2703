/-
What each call of a node does, whatever it is given. Conditions: each lemma's own.
-/
import Derived.Test.YtgnajpoebooafaaP9a
namespace Go.Proofs.Ytgnajpoebooafaa
set_option linter.unusedVariables false
set_option linter.unusedSimpArgs false
open Go.RowKit
theorem o69_z {n : Node} {c : Int} (h : n.next_ = c) : o69 n c = 0 := by unfold o69; rw [neq_f h]; rfl
theorem hello_spec {n : Node} {cy : Int} {inp : List UInt8} (h0 : n.next_ = 0) (hc : 0 ≤ cy) (hr : 1 ≤ n.role ∧ n.role ≤ 3) (hs : 0 ≤ n.steps) (hi : inp.length ≤ 20) :
    o46 n cy inp ⟨0, 0⟩ = some (⟨n.number, n.role, n.steps, n.alone, 1, cy, inp, noHeard, false, n.fresh, noSet, false, ⟨0, noTargets⟩⟩, ⟨1, IntKind.u8.wrap n.number, cy, helloP n.role n.steps inp⟩, 0) := by
  unfold o46
  rw [letJ_def, o69_z h0, neq_f rfl]
  simp only [cond_false]
  rw [df (by omega : ¬ cy < 0), o25_eq, bindO_some rfl, putHello_P hr hs (by omega)]
  simp only [cond_false]
  rw [neq_f rfl]
  simp only [cond_false]
  rw [letJ_def, o56_def, letJ_def]
  rfl
def heardIn (n : Node) (f : Frame) (came : Bool) : Bool := o71 n f came 1 && ((getHello f.payload).2 == 0)
theorem hear_spec {n : Node} {f : Frame} {came : Bool} (h1 : n.next_ = 1) (hh : n.heard = noHeard) (hi : n.is_ = false) :
    ∃ n2 H b, o47 n f came = some (n2, H, b, 0) ∧ n2.number = n.number ∧ n2.next_ = 2 ∧ n2.cycle = n.cycle ∧ n2.input = n.input ∧ n2.has = n.has ∧ n2.is_ = heardIn n f came ∧ n2.heard = cond (heardIn n f came) (getHello f.payload).1 noHeard ∧
      (∃ al, n2.role = o19 n.number n.role n.steps al n2.is_ n2.heard.role n2.heard.steps) ∧ n2.steps = (cond (n2.role == 1) 0 (cond (n.role == 1 && n2.role == 2) 0 n.steps)) ∧ n2.fresh = ((n.role == 1) && (n2.role == 2)) := by
  have key : (bindO (τ := Heard × Bool) (cond (o71 n f came 1) (bindO (τ := Heard × Int) (o28 f.payload) fun y40 => some (y40.1, (y40.2 == 0))) (some (n.heard, n.is_))) fun t => some t) = some (cond (o71 n f came 1) (getHello f.payload).1 noHeard, heardIn n f came) := by
    unfold heardIn
    cases o71 n f came 1 with
    | true => simp only [cond_true]; rw [o28_eq, bindO_some rfl]; rfl
    | false => simp only [cond_false]; rw [hh, hi]; rfl
  have key2 : (cond (o71 n f came 1) (bindO (τ := Heard × Int) (o28 f.payload) fun y40 => some (y40.1, (y40.2 == 0))) (some (n.heard, n.is_))) = some (cond (o71 n f came 1) (getHello f.payload).1 noHeard, heardIn n f came) := by
    rw [← key]
    cases (cond (o71 n f came 1) (bindO (τ := Heard × Int) (o28 f.payload) fun y40 => some (y40.1, (y40.2 == 0))) (some (n.heard, n.is_))) <;> rfl
  have hb : heardIn n f came = true → o71 n f came 1 = true := fun h => by unfold heardIn at h; exact (Bool.and_eq_true _ _ ▸ h).1
  unfold o47
  rw [letJ_def, o69_z h1, neq_f rfl]
  simp only [cond_false]
  rw [letJ_def, key2, bindO_some rfl, letJ_def]
  simp only
  have e13 : (cond (heardIn n f came) (0, cond (o71 n f came 1) (getHello f.payload).1 noHeard) (IntKind.i64.wrap (n.alone + 1), (⟨0, 0, (⟨0, 0⟩ : Want), ([] : List UInt8)⟩ : Heard))) = ((cond (heardIn n f came) 0 (IntKind.i64.wrap (n.alone + 1)), cond (heardIn n f came) (getHello f.payload).1 noHeard) : Int × Heard) := by
    cases h : heardIn n f came with
    | true => rw [hb h]; rfl
    | false => rfl
  rw [e13]
  simp only
  rw [letJ_def]
  generalize hal : cond (heardIn n f came) 0 (IntKind.i64.wrap (n.alone + 1)) = al
  generalize hH : cond (heardIn n f came) (getHello f.payload).1 noHeard = H
  generalize hR : o19 n.number n.role n.steps al (heardIn n f came) H.role H.steps = R
  by_cases hR1 : R = 1
  · rw [eq_t hR1]
    simp only [cond_true]
    unfold o68
    rw [letJ_def, letJ_def, letJ_def, letJ_def, o56_def]
    refine ⟨_, _, _, rfl, rfl, rfl, rfl, rfl, rfl, rfl, rfl, ⟨al, ?_⟩, ?_, ?_⟩
    · simp only; rw [hR, hR1]
    · simp
    · simp
  · rw [eq_f hR1]
    simp only [cond_false]
    rw [letJ_def, letJ_def, letJ_def, o56_def]
    refine ⟨_, _, _, rfl, rfl, rfl, rfl, rfl, rfl, rfl, rfl, ⟨al, hR.symm⟩, ?_, rfl⟩
    simp only
    rw [eq_f hR1]
    rfl
/-- the bytes of a leader's set -/
def packN (n : Node) : List UInt8 := cond (n.number == 1) (packC n.input true (cond (o72 n) n.heard.input []) (o72 n)).1 (packC (cond (o72 n) n.heard.input []) (o72 n) n.input true).1
theorem packC_len (a b : List UInt8) (x y : Bool) (ha : a.length ≤ 400) (hb : b.length ≤ 400) : (packC a x b y).1.length ≤ 900 := by
  unfold packC
  cases long a x b y with
  | true => simp
  | false =>
    have := part1_len a x
    have := part1_len b y
    simp; omega
theorem cond_len {c : Bool} {a b : List UInt8} {k : Nat} (ha : a.length ≤ k) (hb : b.length ≤ k) : (cond c a b).length ≤ k := by cases c <;> assumption
theorem packN_len (n : Node) (hi : n.input.length ≤ 400) (hh : n.heard.input.length ≤ 400) : (packN n).length ≤ 900 := by
  unfold packN
  have : (cond (o72 n) n.heard.input []).length ≤ 400 := cond_len hh (by simp)
  exact cond_len (packC_len _ _ _ _ hi this) (packC_len _ _ _ _ this hi)
theorem putSetC_len (x : Sett) (h : x.in_.length ≤ 900) : (putSetC x).1.length ≤ 1000 := by
  unfold putSetC
  cases decide (x.steps < 0) with
  | true => simp
  | false =>
    cases ((unpackC x.in_).2.2.2.2 != 0) with
    | true => simp
    | false => simp [putB_len]; omega
theorem share_spec {n : Node} (h2 : n.next_ = 2) (hn : n.number = 1 ∨ n.number = 2) (hi : n.input.length ≤ 400) (hh : n.heard.input.length ≤ 400) :
    ∃ n3 f b, o48 n = some (n3, f, b, 0) ∧ n3.number = n.number ∧ n3.next_ = 3 ∧ n3.cycle = n.cycle ∧ n3.has = n.has ∧ n3.is_ = n.is_ ∧ n3.heard = n.heard ∧ n3.role = n.role ∧ n3.steps = n.steps ∧ f.payload.length ≤ 1000 ∧
      ((n.role ≠ 2 ∧ b = false) ∨ (n.role = 2 ∧ b = true ∧ f = ⟨2, IntKind.u8.wrap n.number, n.cycle, (putSetC n3.set_).1⟩ ∧ n3.set_ = ⟨n.steps, n.cycle, n.fresh, packN n⟩)) := by
  have hP := packN_len n hi hh
  have hL := putSetC_len ⟨n.steps, n.cycle, n.fresh, packN n⟩ hP
  have e10 : o72 { n with next_ := 3 } = o72 n := rfl
  have e13 : cond (o72 n) (true, n.heard.input) (false, ([] : List UInt8)) = (o72 n, cond (o72 n) n.heard.input []) := by cases o72 n <;> rfl
  have hw : (⟨n.steps, n.cycle, n.fresh, packN n⟩ : Sett).in_.length ≤ 1000000 := by show (packN n).length ≤ _; omega
  unfold o48
  by_cases hr : n.role = 2
  · rcases hn with hn | hn
    · have ep : (packC n.input true (cond (o72 n) n.heard.input []) (o72 n)).1 = packN n := by unfold packN; rw [eq_t hn]; rfl
      rw [eq_t hn]
      simp only [cond_true]
      rw [letJ_def, o69_z h2, neq_f rfl]
      simp only [cond_false]
      rw [neq_f hr]
      simp only [cond_false]
      rw [letJ_def, e10, letJ_def, e13]
      simp only
      rw [o15_eq, bindO_some rfl, ep, o31_eq _ hw, bindO_some rfl, letJ_def]
      exact ⟨_, _, _, rfl, rfl, rfl, rfl, rfl, rfl, rfl, rfl, rfl, hL, .inr ⟨hr, rfl, rfl, rfl⟩⟩
    · have ep : (packC (cond (o72 n) n.heard.input []) (o72 n) n.input true).1 = packN n := by unfold packN; rw [eq_f (by omega : n.number ≠ 1)]; rfl
      rw [eq_f (by omega : n.number ≠ 1), eq_t hn]
      simp only [cond_false]
      rw [grd_pos rfl, letJ_def, o69_z h2, neq_f rfl]
      simp only [cond_false]
      rw [neq_f hr]
      simp only [cond_false]
      rw [letJ_def, e10, letJ_def, e13]
      simp only
      rw [o15_eq, bindO_some rfl, ep, o31_eq _ hw, bindO_some rfl, letJ_def]
      exact ⟨_, _, _, rfl, rfl, rfl, rfl, rfl, rfl, rfl, rfl, rfl, hL, .inr ⟨hr, rfl, rfl, rfl⟩⟩
  · have hz : ([] : List UInt8).length ≤ 1000 := by simp
    rcases hn with hn | hn
    · rw [eq_t hn]
      simp only [cond_true]
      rw [letJ_def, o69_z h2, neq_f rfl]
      simp only [cond_false]
      rw [neq_t hr]
      exact ⟨_, _, _, rfl, rfl, rfl, rfl, rfl, rfl, rfl, rfl, rfl, hz, .inl ⟨hr, rfl⟩⟩
    · rw [eq_f (by omega : n.number ≠ 1), eq_t hn]
      simp only [cond_false]
      rw [grd_pos rfl, letJ_def, o69_z h2, neq_f rfl]
      simp only [cond_false]
      rw [neq_t hr]
      exact ⟨_, _, _, rfl, rfl, rfl, rfl, rfl, rfl, rfl, rfl, rfl, hz, .inl ⟨hr, rfl⟩⟩
/-- a follower takes the leader's set -/
def tookSet (n : Node) (f : Frame) (came : Bool) : Bool := o71 n f came 2 && ((((getSetC n.cycle f.payload).2 == 0) && !(getSetC n.cycle f.payload).1.fresh) && ((getSetC n.cycle f.payload).1.steps == n.steps))
theorem step_spec {n : Node} {f : Frame} {came : Bool} (h3 : n.next_ = 3) (hh : n.has = false) (hr : 1 ≤ n.role ∧ n.role ≤ 3) (hp : f.payload.length ≤ 1000) (hs : 0 ≤ n.steps ∧ n.steps ≤ 1000000) :
    ∃ n4 s, o49 n f came = some (n4, s, n4.has, 0) ∧ n4.number = n.number ∧ n4.next_ = 4 ∧ n4.cycle = n.cycle ∧ n4.is_ = n.is_ ∧ n4.heard = n.heard ∧
      ((n.role = 2 ∧ n4.role = 2 ∧ n4.has = true ∧ n4.steps = n.steps + 1 ∧ s = n.set_) ∨
       (n.role = 3 ∧ n4.role = 3 ∧ n4.has = true ∧ n4.steps = n.steps + 1 ∧ tookSet n f came = true ∧ s = (getSetC n.cycle f.payload).1) ∨
       (n4.role = 1 ∧ n4.has = false ∧ (n4.steps = 0 ∨ n4.steps = n.steps) ∧ (n.role = 1 ∨ (n.role = 3 ∧ tookSet n f came = false)))) := by
  have hw : IntKind.i64.wrap (n.steps + 1) = n.steps + 1 := wr64 (by omega)
  unfold o49
  rw [letJ_def, o69_z h3, neq_f rfl]
  simp only [cond_false]
  by_cases h2 : n.role = 2
  · rw [eq_t h2]
    simp only [cond_true]
    rw [bindO_some rfl]
    simp only [Bool.not_true, cond_false]
    rw [letJ_def, o56_def, hw]
    exact ⟨_, _, rfl, rfl, rfl, rfl, rfl, rfl, .inl ⟨h2, h2, rfl, rfl, rfl⟩⟩
  rw [eq_f h2]
  simp only [cond_false]
  by_cases h33 : n.role = 3
  · rw [eq_t h33]
    simp only [cond_true]
    have e71 : o71 { n with next_ := 4 } f came 2 = o71 n f came 2 := rfl
    have e26 : (cond (o71 n f came 2) (bindO (τ := Sett × Int) (o34 n.cycle f.payload) fun y38 => letJ (τ := Sett × Bool) (cond (((y38.2 == 0) && !y38.1.fresh) && (y38.1.steps == n.steps)) (y38.1, true) (n.set_, n.has)) fun t => some (t.1, t.2)) (some (n.set_, n.has)))
        = some (cond (tookSet n f came) ((getSetC n.cycle f.payload).1, true) (n.set_, false)) := by
      unfold tookSet
      cases o71 n f came 2 with
      | false => rw [hh]; rfl
      | true =>
        simp only [cond_true, Bool.true_and]
        rw [o34_eq _ _ (by omega), bindO_some rfl, letJ_def, hh]
    rw [letJ_def, e71, e26, bindO_some rfl]
    cases ht : tookSet n f came with
    | true =>
      simp only [cond_true, Bool.not_true, cond_false]
      rw [letJ_def, bindO_some rfl, bindO_some rfl]
      simp only [Bool.not_true, cond_false]
      rw [letJ_def, o56_def, hw]
      exact ⟨_, _, rfl, rfl, rfl, rfl, rfl, rfl, .inr (.inl ⟨h33, h33, rfl, rfl, by trivial, rfl⟩)⟩
    | false =>
      simp only [cond_false, Bool.not_false, cond_true]
      unfold o68
      rw [letJ_def, letJ_def, bindO_some rfl, bindO_some rfl]
      simp only [Bool.not_false, cond_true]
      exact ⟨_, _, rfl, rfl, rfl, rfl, rfl, rfl, .inr (.inr ⟨rfl, rfl, .inl rfl, .inr ⟨h33, by trivial⟩⟩)⟩
  · rw [eq_f h33]
    simp only [cond_false]
    rw [bindO_some rfl, bindO_some rfl]
    simp only
    rw [hh]
    simp only [Bool.not_false, cond_true]
    refine ⟨_, _, rfl, rfl, rfl, rfl, rfl, rfl, .inr (.inr ⟨?_, rfl, .inr rfl, .inl ?_⟩)⟩ <;> first | omega | (simp only; omega)
theorem tell_spec {n : Node} {t : Targets} (h4 : n.next_ = 4) (ht : okT t) :
    ∃ n5 f, o50 n t = some (n5, f, n.has, 0) ∧ n5.number = n.number ∧ n5.next_ = 5 ∧ n5.cycle = n.cycle ∧ n5.has = n.has ∧ n5.is_ = n.is_ ∧ n5.heard = n.heard ∧ n5.role = n.role ∧ n5.steps = n.steps ∧
      (n.has = true → n5.told = ⟨n.steps, t⟩ ∧ f = ⟨3, IntKind.u8.wrap n.number, n.cycle, putResC ⟨n.steps, t⟩⟩) := by
  unfold o50
  rw [letJ_def, o69_z h4, neq_f rfl]
  simp only [cond_false]
  cases hb : n.has with
  | false =>
    simp only [Bool.not_false, cond_true]
    exact ⟨_, _, rfl, rfl, rfl, rfl, rfl, rfl, rfl, rfl, rfl, fun h => by cases h⟩
  | true =>
    simp only [Bool.not_true, cond_false]
    rw [o21_eq _ ht, bindO_some rfl, letJ_def]
    exact ⟨_, _, rfl, rfl, rfl, rfl, rfl, rfl, rfl, rfl, rfl, fun _ => ⟨rfl, rfl⟩⟩
def sameR (a b : Result) : Bool := (a.steps == b.steps) && ((a.targets.lateral == b.targets.lateral) && ((a.targets.vertical == b.targets.vertical) && ((a.targets.phase == b.targets.phase) && ((a.targets.bank == b.targets.bank) && ((a.targets.speed == b.targets.speed) && ((a.targets.alt == b.targets.alt) && (a.targets.vs == b.targets.vs)))))))
theorem sameR_refl (a : Result) : sameR a a = true := by unfold sameR; simp
theorem sameR_eq {a b : Result} (h : sameR a b = true) : a = b := by
  obtain ⟨s, t1, t2, t3, t4, t5, t6, t7⟩ := a
  obtain ⟨s', u1, u2, u3, u4, u5, u6, u7⟩ := b
  unfold sameR at h
  simp only [Bool.and_eq_true, beq_iff_eq] at h
  obtain ⟨rfl, rfl, rfl, rfl, rfl, rfl, rfl, rfl⟩ := h
  rfl
def valid (n : Node) (f : Frame) (came : Bool) : Bool := n.has && ((o71 n f came 3 && ((getResC f.payload).2 == 0)) && (((n.role == 3) || o72 n) && sameR (getResC f.payload).1 n.told))
theorem judge_spec {n : Node} {f : Frame} {came : Bool} (h5 : n.next_ = 5) :
    ∃ v, o51 n f came = some ({ n with next_ := 0 }, v, 0) ∧ (v == 4) = valid n f came := by
  unfold o51 valid
  rw [letJ_def, o69_z h5, neq_f rfl]
  simp only [cond_false]
  cases n.has with
  | false => exact ⟨_, rfl, rfl⟩
  | true =>
    simp only [Bool.not_true, cond_false, Bool.true_and]
    have e71 : o71 { n with next_ := 0, has := true } f came 3 = o71 n f came 3 := rfl
    have e72 : o72 { n with next_ := 0, has := true } = o72 n := rfl
    rw [o22_eq, bindO_some rfl, letJ_def, e71]
    cases (o71 n f came 3 && ((getResC f.payload).2 == 0)) with
    | false => exact ⟨_, rfl, rfl⟩
    | true =>
      simp only [Bool.not_true, cond_false, Bool.true_and]
      rw [e72]
      have e16 : (cond (n.role == 3) true (letJ (τ := Bool) (o72 n) fun y => y)) = ((n.role == 3) || o72 n) := by cases (n.role == 3) <;> rfl
      rw [e16, letJ_def]
      show ∃ v, cond (((n.role == 3) || o72 n) && sameR (getResC f.payload).1 n.told) _ _ = _ ∧ _
      cases (((n.role == 3) || o72 n) && sameR (getResC f.payload).1 n.told) <;> exact ⟨_, rfl, rfl⟩
end Go.Proofs.Ytgnajpoebooafaa
