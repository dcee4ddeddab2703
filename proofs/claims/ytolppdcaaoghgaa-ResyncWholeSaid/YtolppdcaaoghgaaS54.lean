/-
Plain law of the collector. Conditions: each lemma's own.
-/
import Derived.Test.YtolppdcaaoghgaaC3
namespace Go.Proofs.Ytolppdcaaoghgaa
set_option linter.unusedVariables false
set_option linter.unusedSimpArgs false
open Go.RowKit
structure collOk (x : Coll) (i : Nat) : Prop where
  np : x.parts.length ≤ i
  ns : x.sets.length ≤ i
  len : ∀ p ∈ x.parts, p.length ≤ 600
  cnt : (x.parts.length : Int) ≤ x.count
theorem coll0 : collOk (⟨0, 0, [], []⟩ : Coll) 0 := ⟨by simp, by simp, by simp, by simp⟩
theorem reset_ok {x : Coll} {i : Nat} : collOk (resetC x) i := ⟨by simp [resetC], by simp [resetC], by simp [resetC], by simp [resetC]⟩
theorem enc_valid (p : Piece) : ((rencS p).2 != 0) = !(validS p) := by
  unfold rencS validS
  have e : ∀ (b c : Bool) (l : List UInt8), b = !c → (((cond b (([] : List UInt8), (1 : Int)) (l, (0 : Int))).2 != 0) = !c) := by
    intro b c l h
    subst h
    cases c <;> rfl
  apply e
  rw [Bool.eq_iff_iff]
  simp only [Bool.or_eq_true, decide_eq_true_eq, Bool.not_eq_true', Bool.and_eq_false_iff, decide_eq_false_iff_not]
  omega
theorem take_eq {x y : Coll} {p : Piece} (h : y = x) : rtakeS y p = takeS x p := by
  subst h
  unfold rtakeS takeS
  rw [enc_valid]
  rfl
theorem note_eq {x y : Coll} {s : Sett} {c : Bool} (h : y = x) : rnoteS y s c = noteS x s c := by
  subst h
  rfl
theorem note_eqF {x y : Coll} {s s' : Sett} (h : y = x) : rnoteS y s' false = noteS x s false := by
  subst h
  rfl
theorem take_ok {x : Coll} {i : Nat} {p : Piece} (h : collOk x i) : collOk (takeS x p) (i + 1) := by
  have hb : collOk x (i + 1) := ⟨Nat.le_succ_of_le h.np, Nat.le_succ_of_le h.ns, h.len, h.cnt⟩
  unfold takeS
  cases hv : validS p with
  | false => exact hb
  | true =>
    have hv' := hv
    unfold validS at hv'
    simp only [Bool.and_eq_true, decide_eq_true_eq] at hv'
    simp only [Bool.not_true, cond_false]
    cases hc : ((((decide ((((x.parts).length : Nat) : Int) > 0) && (p.base == x.base)) && (p.count == x.count)) && (p.index == (((x.parts).length : Nat) : Int)))) with
    | true =>
      simp only [Bool.and_eq_true, beq_iff_eq, decide_eq_true_eq] at hc
      simp only [cond_true]
      refine ⟨by simp [h.np], hb.ns, fun q hq => ?_, ?_⟩
      · rcases List.mem_append.1 hq with h1 | h1
        · exact h.len q h1
        · have : q = p.data := by simpa [idL] using h1
          subst this; omega
      · simp only [List.length_append, List.length_cons, List.length_nil]; omega
    | false =>
      simp only [cond_false]
      cases h0 : (p.index == 0) with
      | true =>
        refine ⟨by simp, by simp, fun q hq => ?_, ?_⟩
        · have : q = p.data := by simpa [idL] using hq
          subst this; omega
        · simp only [cond_true, List.length_cons, List.length_nil]; omega
      | false => exact hb
theorem note_ok {x : Coll} {i : Nat} {s : Sett} {c : Bool} (h : collOk x i) : collOk (noteS x s c) (i + 1) := by
  have hb : collOk x (i + 1) := ⟨Nat.le_succ_of_le h.np, Nat.le_succ_of_le h.ns, h.len, h.cnt⟩
  unfold noteS
  cases ((((x.parts).length : Nat) : Int) == 0) with
  | true => exact hb
  | false =>
    cases (((((!c) || (s.steps != (IntKind.i64.wrap (x.base + (((x.sets).length : Nat) : Int))))) || s.fresh) || decide ((((x.sets).length : Nat) : Int) ≥ (((x.parts).length : Nat) : Int)))) with
    | true => exact reset_ok (x := x)
    | false => exact ⟨hb.np, by simp [h.ns], h.len, h.cnt⟩
theorem flat_bound {l : List (List UInt8)} (h : ∀ p ∈ l, p.length ≤ 600) : l.flatten.length ≤ 600 * l.length := by
  induction l with
  | nil => simp
  | cons a l ih =>
    rw [List.flatten_cons, List.length_append, List.length_cons]
    have := h a (by simp)
    have := ih fun p hp => h p (by simp [hp])
    omega
theorem coll_flat {x : Coll} {i : Nat} (h : collOk x i) (hi : i ≤ 1000) : x.parts.flatten.length ≤ 1000000000 := by
  have := flat_bound h.len
  have := h.np
  omega
theorem job_ready {x y : Coll} {i : Nat} (e : y = x) (h : collOk x i) : jobS x = readyS y := by
  subst e
  unfold jobS readyS concatS
  have : ((((y.parts.length : Nat) : Int) == 0) || (((y.parts.length : Nat) : Int) != y.count)) = ((((y.parts.length : Nat) : Int) == 0) || decide (((y.parts.length : Nat) : Int) < y.count)) := by
    have := h.cnt
    congr 1
    rw [Bool.eq_iff_iff]
    simp only [bne_iff_ne, decide_eq_true_eq]
    omega
  rw [this]
theorem job_sets {x : Coll} : (jobS x).1.sets.length ≤ x.sets.length := by
  unfold jobS
  cases ((((x.parts.length : Nat) : Int) == 0) || (((x.parts.length : Nat) : Int) != x.count)) <;> simp
theorem want_asks {x y : Coll} (e : y = x) : wantS x = rasksS y := by subst e; rfl
end Go.Proofs.Ytolppdcaaoghgaa
