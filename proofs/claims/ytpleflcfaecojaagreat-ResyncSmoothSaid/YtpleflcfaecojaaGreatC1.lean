/-
Bytes of numbers, copies: what the small functions compute. Conditions: each lemma's own.
-/
import Derived.Test.YtpleflcfaecojaaGreatS2
import Derived.Test.YtpleflcfaecojaaGreatTP
namespace Go.Proofs.YtpleflcfaecojaaGreat
set_option linter.unusedVariables false
set_option linter.unusedSimpArgs false
set_option maxRecDepth 100000
open Go.RowKit
theorem cnd_some {α : Type} (c : Bool) (x y : α) : cnd c (some x) (some y) = some (cond c x y) := by cases c <;> rfl
theorem o33_eq {l : List UInt8} (h : l.length ≤ 100000000) : o33 l = some l := by
  unfold o33
  rw [nlO_eq fun e => ?_]
  · rw [gdT (dt (by simp; omega))]; rfl
  · have : l = [] := by simpa using e
    subst this
    rfl
theorem o148_eq (n : Int) {k : Nat} (hk : k ≤ 8) {l : List UInt8} (hl : l.length ≤ 1000000) : o148 n (k : Int) l = some (l ++ putB n k) := by
  unfold o148
  refine loop_from (fun i => ((n, (k : Int)), ((i : Nat) : Int), l ++ putB n i)) k (by rw [putB_zero, List.append_nil]; rfl) (fun i hi => ?_) ?_ (by omega)
  · refine (cndT (dt ?_)).trans ((gdT (dt ?_)).trans ((gdT (dt ?_)).trans ?_))
    · show (i : Int) < (k : Int); omega
    · show (0 : Int) ≤ IntKind.i64.wrap (8 * (i : Int)); rw [wr64 (by omega)]; omega
    · show ((l ++ putB n i).length + 1) * 1 ≤ 140737488355328
      rw [List.length_append, putB_len]; omega
    · show some (Ctl.go ((n, (k : Int)), IntKind.i64.wrap ((i : Int) + 1), (l ++ putB n i) ++ [u8 (IntKind.u8.wrap (shrK .i64 n (IntKind.i64.wrap (8 * (i : Int)))))])) = _
      rw [wr64 (by omega), wr64 (by omega), List.append_assoc, putB_succ]
      rfl
  · exact (cndF (df (by show ¬ (k : Int) < (k : Int); omega))).trans (dnS _)
theorem o148v1_eq (n : Int) {k : Nat} (hk : k ≤ 8) : o148v1 n (k : Int) = some (putB n k) := by
  unfold o148v1
  refine loop_from (fun i => ((n, (k : Int)), ((i : Nat) : Int), putB n i)) k rfl (fun i hi => ?_) ?_ (by omega)
  · refine (cndT (dt ?_)).trans ((gdT (dt ?_)).trans ((gdT (dt ?_)).trans ?_))
    · show (i : Int) < (k : Int); omega
    · show (0 : Int) ≤ IntKind.i64.wrap (8 * (i : Int)); rw [wr64 (by omega)]; omega
    · show ((putB n i).length + 1) * 1 ≤ 140737488355328
      rw [putB_len]; omega
    · show some (Ctl.go ((n, (k : Int)), IntKind.i64.wrap ((i : Int) + 1), putB n i ++ [u8 (IntKind.u8.wrap (shrK .i64 n (IntKind.i64.wrap (8 * (i : Int)))))])) = _
      rw [wr64 (by omega), wr64 (by omega), putB_succ]
      rfl
  · exact (cndF (df (by show ¬ (k : Int) < (k : Int); omega))).trans (dnS _)
theorem o120_eq {p : List UInt8} {k : Nat} (hk : k ≤ 8) (hl : k ≤ p.length) : o120 p (k : Int) = some (getI p k) := by
  unfold o120
  refine loop_from (fun i => ((p, getK p i), (k : Int), ((i : Nat) : Int))) k rfl (fun i hi => ?_) ?_ (by omega)
  · refine (cndT (dt ?_)).trans ((gdT (dt ?_)).trans ((gdT (dt ?_)).trans ?_))
    · show (i : Int) < (k : Int); omega
    · show (0 : Int) ≤ (i : Int) ∧ (i : Int) < (p.length : Int); omega
    · show (0 : Int) ≤ IntKind.i64.wrap (8 * (i : Int)); rw [wr64 (by omega)]; omega
    · show some (Ctl.go ((p, lorK .u64 (getK p i) (shlK .u64 (IntKind.u64.wrap ((p.getD (i : Int).toNat 0).toNat : Int)) (IntKind.i64.wrap (8 * (i : Int))))), (k : Int), IntKind.i64.wrap ((i : Int) + 1))) = _
      have hb := (p.getD (i : Int).toNat 0).toNat_lt
      rw [wr64 (by omega), wr64 (by omega), IntWalk.u64_in _ (by omega)]
      rfl
  · refine (cndF (df (by show ¬ (k : Int) < (k : Int); omega))).trans ?_
    refine (dnS _).trans ?_
    show some (Ctl.done (IntKind.i64.wrap (getK p k))) = _
    rw [getK_eq p _ (by omega)]
    rfl
structure Hd where
  role : Int
  steps : Int
  base : Int
  have_ : Int
  input : List UInt8
abbrev HdT : Type := (Int × Int) × Int × Int × List UInt8
def Hd.e (h : Hd) : HdT := ((h.role, h.steps), h.base, h.have_, h.input)
def badHello (h : Hd) : Bool := decide (h.role < 1) || (decide (h.role > 3) || (decide (h.steps < 0) || (decide (h.base < 0) || (decide (h.have_ < 0) || decide (h.have_ > 65535)))))
def helloB (h : Hd) : List UInt8 := [u8 h.role] ++ putB h.steps 8 ++ putB h.base 8 ++ putB h.have_ 2 ++ h.input
def putHello (h : Hd) : Int × List UInt8 := cond (badHello h) (1, []) (cond (decide ((h.input.length : Int) > 400)) (3, []) (0, helloB h))
theorem cnd_pr {α : Type} (a b : Bool) (x : α) : cnd a (some (true, x)) (some (b, x)) = some (a || b, x) := by cases a <;> rfl
theorem cnd_prR {α : Type} (a b : Bool) (x : α) : cnd a (some (x, true)) (some (x, b)) = some (x, a || b) := by cases a <;> rfl
theorem o112_eq (h : Hd) : o112 h.e = some (putHello h) := by
  unfold o112 putHello
  simp only [Hd.e, cnd_pr, bdI]
  show cnd (badHello h) _ _ = _
  cases badHello h with
  | true => rfl
  | false =>
    rw [cndF rfl, cond_false]
    by_cases hl : ((h.input.length : Nat) : Int) > 400
    · rw [cndT (dt hl), dt hl]; rfl
    · rw [cndF (df hl), df hl, cond_false]
      have e8 : (8 : Int) = ((8 : Nat) : Int) := rfl
      have e2 : (2 : Int) = ((2 : Nat) : Int) := rfl
      rw [e8, e2, o148_eq _ (by decide) (by simp), bdI, o148_eq _ (by decide) (by simp [putB_len]), bdI, o148_eq _ (by decide) (by simp [putB_len]), bdI, gdT (dt (by simp [putB_len]; omega))]
      rfl
def noHd : Hd := ⟨0, 0, 0, 0, []⟩
def getHello (p : List UInt8) : Hd × Int :=
  cond (decide ((p.length : Int) < 19) || decide ((p.length : Int) > 419)) (noHd, 4)
    (cond (badHello ⟨((p.getD 0 0).toNat : Int), getI (p.drop 1) 8, getI (p.drop 9) 8, getI (p.drop 17) 2, p.drop 19⟩) (noHd, 4) (⟨((p.getD 0 0).toNat : Int), getI (p.drop 1) 8, getI (p.drop 9) 8, getI (p.drop 17) 2, p.drop 19⟩, 0))
theorem o115_eq (p : List UInt8) : o115 p = some ((((getHello p).1.role, (getHello p).1.steps), (getHello p).1.base, (getHello p).1.have_, (getHello p).2), (getHello p).1.input) := by
  unfold o115 getHello
  simp only [cnd_prR, bdI]
  by_cases h1 : ((p.length : Nat) : Int) < 19
  · rw [dt h1, Bool.true_or]; rfl
  by_cases h2 : ((p.length : Nat) : Int) > 419
  · rw [dt h2, Bool.or_true]; rfl
  rw [df h1, df h2, Bool.or_false, cond_false, cndF rfl]
  have e8 : (8 : Int) = ((8 : Nat) : Int) := rfl
  have e2 : (2 : Int) = ((2 : Nat) : Int) := rfl
  have d1 : (1 : Int).toNat = 1 := rfl
  have d9 : (9 : Int).toNat = 9 := rfl
  have d17 : (17 : Int).toNat = 17 := rfl
  have d19 : (19 : Int).toNat = 19 := rfl
  have d0 : (0 : Int).toNat = 0 := rfl
  rw [gdT (dt (by omega)), gdT (dt (by omega)), e8, e2, d1, d9, d17, d19, d0, o120_eq (by decide) (by simp; omega), bdI, gdT (dt (by omega)), o120_eq (by decide) (by simp; omega), bdI, gdT (dt (by omega)), o120_eq (by decide) (by simp; omega), bdI, gdT (dt (by omega)), o33_eq (by simp; omega), bdI]
  have hh := o112_eq ⟨((p.getD 0 0).toNat : Int), getI (p.drop 1) 8, getI (p.drop 9) 8, getI (p.drop 17) 2, p.drop 19⟩
  rw [show o112 ((((p.getD 0 0).toNat : Int), getI (p.drop 1) 8), getI (p.drop 9) 8, getI (p.drop 17) 2, p.drop 19) = _ from hh, bdI]
  unfold putHello
  rw [df (show ¬ (((p.drop 19).length : Nat) : Int) > 400 by simp; omega)]
  cases badHello ⟨((p.getD 0 0).toNat : Int), getI (p.drop 1) 8, getI (p.drop 9) 8, getI (p.drop 17) 2, p.drop 19⟩ <;> rfl
end Go.Proofs.YtpleflcfaecojaaGreat
