/-
The program's codecs of seat 53. Conditions: each lemma's own.
-/
import Derived.Test.YtgnajpoebooafaaNB
import Derived.Test.YtgnajpoebooafaaV3
namespace Go.Proofs.Ytgnajpoebooafaa
set_option linter.unusedVariables false
set_option linter.unusedSimpArgs false
open Go.RowKit
theorem dt {p : Prop} [Decidable p] (h : p) : decide p = true := decide_eq_true h
theorem df {p : Prop} [Decidable p] (h : ¬ p) : decide p = false := decide_eq_false h
theorem w8 {k : Nat} (h : k ≤ 1000) : IntKind.i64.wrap (8 * ((k : Nat) : Int)) = 8 * (k : Int) := wr64 (by omega)
theorem o53_eq {out : List UInt8} {n size : Int} (h0 : 0 ≤ size) (h1 : size ≤ 64) (hl : out.length ≤ 70368744177664) : o53 out n size = some (out ++ putB n size.toNat) := by
  obtain ⟨r, h2, rfl⟩ := loopO_ok (f := o53_L0 n size) (fun s => s.1 = out ++ putB n s.2 ∧ (s.2 : Int) ≤ size) (fun s => size.toNat - s.2) (fun r => r = out ++ putB n size.toNat) (fun s hI => by
    obtain ⟨l, k⟩ := s
    obtain ⟨hl2, hk⟩ := hI
    simp only at hl2 hk
    subst hl2
    by_cases hlt : (k : Int) < size
    · refine .inl ⟨(out ++ putB n k ++ [byteAt n k], k + 1), ?_, ⟨by simp [putB_succ], by simp only; omega⟩, by simp only; omega⟩
      unfold o53_L0
      refine (cond_pos (dt hlt)).trans ((grd_pos (dt (by rw [w8 (by omega)]; omega))).trans ((grd_pos (dt (by simp [putB_len]; omega))).trans ((grd_pos (dt (by simp only; omega))).trans ?_)))
      rw [w8 (by omega)]
      rfl
    · refine .inr ⟨out ++ putB n k, ?_, by rw [show k = size.toNat by omega]⟩
      unfold o53_L0
      exact cond_neg (df hlt)) fuelN (out, 0) ⟨by simp [putB_zero], by simpa using h0⟩ (by simp only [fuelN]; omega)
  unfold o53
  rw [h2]
  rfl
theorem o55_eq {p : List UInt8} {size : Int} (h0 : 0 ≤ size) (h1 : size ≤ 8) (hl : size ≤ (p.length : Int)) : o55 p size = some (getI p size.toNat) := by
  obtain ⟨r, h2, rfl⟩ := loopO_ok (f := o55_L0 p size) (fun s => s.1 = getK p s.2 ∧ (s.2 : Int) ≤ size) (fun s => size.toNat - s.2) (fun r => r = getK p size.toNat) (fun s hI => by
    obtain ⟨x, k⟩ := s
    obtain ⟨hl2, hk⟩ := hI
    simp only at hl2 hk
    subst hl2
    by_cases hlt : (k : Int) < size
    · refine .inl ⟨(getK p (k + 1), k + 1), ?_, ⟨rfl, by simp only; omega⟩, by simp only; omega⟩
      unfold o55_L0
      refine (cond_pos (dt hlt)).trans ((grd_pos (dt (by simp only; omega))).trans ((grd_pos (dt (by rw [w8 (by omega)]; omega))).trans ((grd_pos (dt (by simp only; omega))).trans ?_)))
      rw [w8 (by omega)]
      rfl
    · refine .inr ⟨getK p k, ?_, by rw [show k = size.toNat by omega]⟩
      unfold o55_L0
      exact cond_neg (df hlt)) fuelN (0, 0) ⟨rfl, by simpa using h0⟩ (by simp only [fuelN]; omega)
  unfold o55
  rw [h2, getK_eq p _ (by omega)]
  rfl
/-- the first bytes alone count -/
theorem natL_take (p : List UInt8) : ∀ (k m : Nat), k ≤ m → natL (p.take m) k = natL p k
  | 0, m, _ => rfl
  | k + 1, m, h => by
    rw [natL, natL, natL_take p k m (by omega)]
    congr 2
    rw [List.getD_eq_getElem?_getD, List.getD_eq_getElem?_getD, List.getElem?_take, if_pos (by omega)]
theorem getI_take (p : List UInt8) (m : Nat) : getI (p.take m) m = getI p m := by unfold getI; rw [natL_take p m m (Nat.le_refl _)]
def badHello (h : Heard) : Bool := ((((decide (h.role < 1) || decide (h.role > 3)) || decide (h.steps < 0)) || decide (h.want.base < 0)) || decide (h.want.have_ < 0)) || decide (h.want.have_ > 65535)
def putHello (h : Heard) : List UInt8 × Int := cond (badHello h) ([], 1) (cond (decide (((h.input.length : Nat) : Int) > 400)) ([], 3) ([u8 h.role] ++ putB h.steps 8 ++ putB h.want.base 8 ++ putB h.want.have_ 2 ++ h.input, 0))
theorem o25_eq (h : Heard) : o25 h = some (putHello h) := by
  unfold o25 putHello
  cases hb : badHello h with
  | true => unfold badHello at hb; rw [hb]; rfl
  | false =>
    have hb' := hb
    unfold badHello at hb
    rw [hb]
    simp only [badHello, Bool.or_eq_false_iff, decide_eq_false_iff_not] at hb'
    by_cases hl : ((h.input.length : Nat) : Int) > 400
    · rw [dt hl]; rfl
    · rw [df hl]
      simp only [cond_false]
      rw [grd_pos (dt (by omega)), o53_eq (by decide) (by decide) (by simp), bindO_some rfl, o53_eq (by decide) (by decide) (by simp [putB_len]), bindO_some rfl, o53_eq (by decide) (by decide) (by simp [putB_len]), bindO_some rfl, grd_pos (dt (by simp [putB_len]; omega))]
      rfl
def noHeard : Heard := ⟨0, 0, ⟨0, 0⟩, []⟩
def getHello (p : List UInt8) : Heard × Int :=
  cond (((((decide (((p.length : Nat) : Int) < 19) || decide (((p.length : Nat) : Int) > 419)) || decide (((p.getD 0 0).toNat : Int) < 1)) || decide (((p.getD 0 0).toNat : Int) > 3)) || decide (getI (p.drop 1) 8 < 0)) || decide (getI (p.drop 9) 8 < 0)) (noHeard, 4)
    (⟨((p.getD 0 0).toNat : Int), getI (p.drop 1) 8, ⟨getI (p.drop 9) 8, getI (p.drop 17) 2⟩, p.drop 19⟩, 0)
theorem o28_eq (p : List UInt8) : o28 p = some (getHello p) := by
  unfold o28 getHello
  by_cases h1 : ((p.length : Nat) : Int) < 19
  · rw [dt h1]; rfl
  by_cases h2 : ((p.length : Nat) : Int) > 419
  · rw [df h1, dt h2]; rfl
  rw [df h1, df h2]
  simp only [Bool.or_self, cond_false, Bool.false_or]
  rw [o55_eq (by decide) (by decide) (by simp; omega), bindO_some rfl, o55_eq (by decide) (by decide) (by simp; omega), bindO_some rfl, o55_eq (by decide) (by decide) (by simp; omega), bindO_some rfl]
  simp only [letJ, o56]
  rw [o25_eq, bindO_some rfl]
  have hs : getI (p.drop 17) (2 : Int).toNat = (natL (p.drop 17) 2 : Int) := getI_small _ _ (by decide)
  have hs2 := natL_lt (p.drop 17) 2
  have hb : badHello ⟨((p.getD 0 0).toNat : Int), getI (p.drop 1) (8 : Int).toNat, ⟨getI (p.drop 9) (8 : Int).toNat, getI (p.drop 17) (2 : Int).toNat⟩, p.drop 19⟩ = ((((decide (((p.getD 0 0).toNat : Int) < 1)) || decide (((p.getD 0 0).toNat : Int) > 3)) || decide (getI (p.drop 1) 8 < 0)) || decide (getI (p.drop 9) 8 < 0)) := by
    unfold badHello
    simp only
    rw [hs, df (by omega : ¬ ((natL (p.drop 17) 2 : Nat) : Int) < 0), df (by omega : ¬ ((natL (p.drop 17) 2 : Nat) : Int) > 65535), Bool.or_false, Bool.or_false]
    rfl
  unfold putHello
  rw [hb, df (by simp; omega : ¬ (((p.drop 19).length : Nat) : Int) > 400)]
  cases ((((decide (((p.getD 0 0).toNat : Int) < 1)) || decide (((p.getD 0 0).toNat : Int) > 3)) || decide (getI (p.drop 1) 8 < 0)) || decide (getI (p.drop 9) 8 < 0)) <;> rfl
def long (one : List UInt8) (isOne : Bool) (two : List UInt8) (isTwo : Bool) : Bool := (isOne && decide (((one.length : Nat) : Int) > 400)) || (isTwo && decide (((two.length : Nat) : Int) > 400))
def part1 (p : List UInt8) (is : Bool) : List UInt8 := cond is (putB (p.length : Int) 2 ++ p) []
def flagB (isOne isTwo : Bool) : UInt8 := cond isOne (cond isTwo 3 1) (cond isTwo 2 0)
def packC (one : List UInt8) (isOne : Bool) (two : List UInt8) (isTwo : Bool) : List UInt8 × Int := cond (long one isOne two isTwo) ([], 3) ([flagB isOne isTwo] ++ part1 one isOne ++ part1 two isTwo, 0)
theorem part1_len (p : List UInt8) (is : Bool) : (part1 p is).length ≤ p.length + 2 := by cases is <;> simp [part1, putB_len]; omega
theorem long_false {one two : List UInt8} {a b : Bool} (h : long one a two b = false) : (a = true → one.length ≤ 400) ∧ (b = true → two.length ≤ 400) := by
  unfold long at h
  simp only [Bool.or_eq_false_iff, Bool.and_eq_false_iff, decide_eq_false_iff_not] at h
  refine ⟨fun e => ?_, fun e => ?_⟩
  · rcases h.1 with h1 | h1
    · rw [e] at h1; cases h1
    · omega
  · rcases h.2 with h1 | h1
    · rw [e] at h1; cases h1
    · omega
theorem o52_eq {p : List UInt8} {is : Bool} {bit : Int} {b : UInt8} {l : List UInt8} (hl : l.length ≤ 1000) (hp : is = true → p.length ≤ 400) : o52 p is bit (b :: l) = some (cond is ((u8 (lorK .u8 (b.toNat : Int) bit) :: l) ++ part1 p is) (b :: l)) := by
  unfold o52
  cases is with
  | false => rfl
  | true =>
    have := hp rfl
    simp only [cond_true]
    rw [grd_pos (dt (by simp)), grd_pos (dt (by simp))]
    have e : List.set (b :: l) 0 (u8 (lorK .u8 ((List.getD (b :: l) 0 0).toNat : Int) bit)) = u8 (lorK .u8 (b.toNat : Int) bit) :: l := rfl
    rw [e, o53_eq (by decide) (by decide) (by simp; omega), bindO_some rfl, grd_pos (dt (by simp [putB_len]; omega)), bindO_some rfl]
    simp [part1]
theorem o15_eq (one : List UInt8) (isOne : Bool) (two : List UInt8) (isTwo : Bool) : o15 one isOne two isTwo = some (packC one isOne two isTwo) := by
  unfold o15 packC
  cases hb : long one isOne two isTwo with
  | true => unfold long at hb; rw [hb]; rfl
  | false =>
    obtain ⟨h1, h2⟩ := long_false hb
    unfold long at hb
    rw [hb]
    simp only [cond_false]
    rw [o52_eq (by simp) h1, bindO_some rfl]
    have hp1 := part1_len one isOne
    cases isOne <;> cases isTwo
    · simp only [cond_false]
      rw [o52_eq (by simp) (fun h => by cases h), bindO_some rfl]
      rfl
    · simp only [cond_false]
      rw [o52_eq (by simp) h2, bindO_some rfl]
      simp only [cond_true, part1, cond_false, List.append_nil]
      rfl
    · simp only [cond_true, List.cons_append, List.nil_append]
      have := h1 rfl
      rw [o52_eq (by omega) (fun h => by cases h), bindO_some rfl]
      simp only [cond_false, part1, List.append_nil, cond_true]
      rfl
    · simp only [cond_true, List.cons_append, List.nil_append]
      have := h1 rfl
      rw [o52_eq (by omega) h2, bindO_some rfl]
      simp only [cond_true, List.cons_append, List.nil_append]
      rfl
/-- one input at the beginning of bytes -/
def inputC (p : List UInt8) (is : Bool) : List UInt8 × List UInt8 × Bool :=
  cond (!is) ([], p, true) (cond (decide (((p.length : Nat) : Int) < 2)) ([], [], false) (cond (decide ((natL p 2 : Int) > 400) || decide ((natL p 2 : Int) > ((p.length : Nat) : Int) - 2)) ([], [], false) ((p.drop 2).take (natL p 2), p.drop (2 + natL p 2), true)))
theorem get2 (p : List UInt8) (h : ¬ ((p.length : Nat) : Int) < 2) : o55 p 2 = some (natL p 2 : Int) := by
  rw [o55_eq (by decide) (by decide) (by omega)]
  exact congrArg some (getI_small p 2 (by decide))
def nothing : List UInt8 × Bool × List UInt8 × Bool × Int := ([], false, [], false, 4)
def unpackC (p : List UInt8) : List UInt8 × Bool × List UInt8 × Bool × Int :=
  cond ((((p.length : Nat) : Int) == 0) || decide (((p.getD 0 0).toNat : Int) > 3)) nothing
    (cond (!(inputC (p.drop 1) (landK .u8 ((p.getD 0 0).toNat : Int) 1 == 1)).2.2) nothing
      (cond (!(inputC (inputC (p.drop 1) (landK .u8 ((p.getD 0 0).toNat : Int) 1 == 1)).2.1 (landK .u8 ((p.getD 0 0).toNat : Int) 2 == 2)).2.2 || decide ((((inputC (inputC (p.drop 1) (landK .u8 ((p.getD 0 0).toNat : Int) 1 == 1)).2.1 (landK .u8 ((p.getD 0 0).toNat : Int) 2 == 2)).2.1.length : Nat) : Int) > 0)) nothing
        ((inputC (p.drop 1) (landK .u8 ((p.getD 0 0).toNat : Int) 1 == 1)).1, (landK .u8 ((p.getD 0 0).toNat : Int) 1 == 1), (inputC (inputC (p.drop 1) (landK .u8 ((p.getD 0 0).toNat : Int) 1 == 1)).2.1 (landK .u8 ((p.getD 0 0).toNat : Int) 2 == 2)).1, (landK .u8 ((p.getD 0 0).toNat : Int) 2 == 2), 0)))
/-- the program's step of the loop, whatever stands behind -/
theorem stepU {ρ : Type} (p : List UInt8) (is : Bool) (no : ρ) (x : Bool) (hx : x = !is) :
    (cond x (some (Ctl.go (p, ([] : List UInt8)))) (cond (decide (((p.length : Nat) : Int) < 2)) (some (Ctl.done no)) (bindO (τ := Int) (o55 p (2 : Int)) fun y => (cond (decide (y > 400) || decide (y > (((p.length : Nat) : Int) - 2))) (some (Ctl.done no)) (grd (decide (-9223372036854775808 ≤ 2 + y ∧ 2 + y ≤ 9223372036854775807)) (grd (decide (2 ≤ (2 + y) ∧ (2 + y) ≤ ((p.length : Nat) : Int))) (grd (decide (-9223372036854775808 ≤ 2 + y ∧ 2 + y ≤ 9223372036854775807)) (grd (decide (0 ≤ (2 + y) ∧ (2 + y) ≤ ((p.length : Nat) : Int))) (letJ (τ := List UInt8) (o56 (List.take ((2 + y).toNat - 2) (List.drop 2 p))) fun z => some (Ctl.go (List.drop (2 + y).toNat p, z)))))))))) : Option (Ctl (List UInt8 × List UInt8) ρ))
      = some (cond (inputC p is).2.2 (Ctl.go ((inputC p is).2.1, (inputC p is).1)) (Ctl.done no)) := by
  subst hx
  unfold inputC
  cases is with
  | false => rfl
  | true =>
    simp only [Bool.not_true, cond_false]
    by_cases h : ((p.length : Nat) : Int) < 2
    · rw [dt h]; rfl
    rw [df h]
    simp only [cond_false]
    rw [get2 p h, bindO_some rfl]
    cases hb : (decide ((natL p 2 : Int) > 400) || decide ((natL p 2 : Int) > ((p.length : Nat) : Int) - 2)) with
    | true => rfl
    | false =>
      simp only [Bool.or_eq_false_iff, decide_eq_false_iff_not] at hb
      simp only [cond_false]
      rw [grd_pos (dt (by omega)), grd_pos (dt (by omega)), grd_pos (dt (by omega)), grd_pos (dt (by omega))]
      have e : (2 + (natL p 2 : Int)).toNat = 2 + natL p 2 := by omega
      simp only [letJ, o56, cond_true]
      rw [e, show 2 + natL p 2 - 2 = natL p 2 by omega]
theorem bits3 (b : Nat) (h : b ≤ 3) : (landK .u8 (shrK .u8 (b : Int) 0) 1 == 0) = (!(landK .u8 (b : Int) 1 == 1)) ∧ (landK .u8 (shrK .u8 (b : Int) 1) 1 == 0) = (!(landK .u8 (b : Int) 2 == 2)) := by
  have : b = 0 ∨ b = 1 ∨ b = 2 ∨ b = 3 := by omega
  rcases this with rfl | rfl | rfl | rfl <;> decide
theorem o17_eq (p : List UInt8) : o17 p = some (unpackC p) := by
  unfold o17 unpackC
  cases hb : ((((p.length : Nat) : Int) == 0) || decide (((p.getD 0 0).toNat : Int) > 3)) with
  | true => rfl
  | false =>
    simp only [Bool.or_eq_false_iff, decide_eq_false_iff_not] at hb
    obtain ⟨b1, b2⟩ := bits3 (p.getD 0 0).toNat (by omega)
    simp only [cond_false]
    rw [stepU (p.drop 1) _ _ _ b1]
    cases h1 : (inputC (p.drop 1) (landK .u8 ((p.getD 0 0).toNat : Int) 1 == 1)).2.2 with
    | false => rfl
    | true =>
      simp only [cond_true, Bool.not_true, cond_false]
      rw [joinO_go (t := ((inputC (p.drop 1) (landK .u8 ((p.getD 0 0).toNat : Int) 1 == 1)).2.1, (inputC (p.drop 1) (landK .u8 ((p.getD 0 0).toNat : Int) 1 == 1)).1)) rfl]
      simp only
      rw [stepU _ _ _ _ b2]
      cases h2 : (inputC (inputC (p.drop 1) (landK .u8 ((p.getD 0 0).toNat : Int) 1 == 1)).2.1 (landK .u8 ((p.getD 0 0).toNat : Int) 2 == 2)).2.2 with
      | false => rfl
      | true =>
        simp only [cond_true, Bool.not_true, Bool.false_or]
        rw [joinO_go rfl, joinO_go rfl]
        simp only
        have e : ((((inputC (inputC (p.drop 1) (landK .u8 ((p.getD 0 0).toNat : Int) 1 == 1)).2.1 (landK .u8 ((p.getD 0 0).toNat : Int) 2 == 2)).2.1.length : Nat) : Int) != 0) = decide ((((inputC (inputC (p.drop 1) (landK .u8 ((p.getD 0 0).toNat : Int) 1 == 1)).2.1 (landK .u8 ((p.getD 0 0).toNat : Int) 2 == 2)).2.1.length : Nat) : Int) > 0) := by
          rw [Bool.eq_iff_iff]
          simp only [bne_iff_ne, decide_eq_true_eq]
          omega
        rw [e]
        cases decide ((((inputC (inputC (p.drop 1) (landK .u8 ((p.getD 0 0).toNat : Int) 1 == 1)).2.1 (landK .u8 ((p.getD 0 0).toNat : Int) 2 == 2)).2.1.length : Nat) : Int) > 0) <;> rfl
def putSetC (x : Sett) : List UInt8 × Int := cond (decide (x.steps < 0)) ([], 1) (cond ((unpackC x.in_).2.2.2.2 != 0) ([], (unpackC x.in_).2.2.2.2) (putB x.steps 8 ++ [u8 ((cond x.fresh 1 0 : Nat) : Int)] ++ x.in_, 0))
theorem o31_eq (x : Sett) (h : x.in_.length ≤ 1000000) : o31 x = some (putSetC x) := by
  unfold o31 putSetC
  by_cases h1 : x.steps < 0
  · rw [dt h1]; rfl
  rw [df h1]
  simp only [cond_false]
  rw [o17_eq, bindO_some rfl]
  cases ((unpackC x.in_).2.2.2.2 != 0) with
  | true => rfl
  | false =>
    simp only [cond_false, letJ]
    rw [o53_eq (by decide) (by decide) (by simp), bindO_some rfl, grd_pos (dt (by simp [putB_len])), grd_pos (dt (by simp [putB_len]; omega))]
    rfl
def noSet : Sett := ⟨0, 0, false, []⟩
def getSetC (cycle : Int) (p : List UInt8) : Sett × Int :=
  cond (((decide (((p.length : Nat) : Int) < 9) || decide (((p.getD 8 0).toNat : Int) > 1)) || decide (getI p 8 < 0)) || ((unpackC (p.drop 9)).2.2.2.2 != 0)) (noSet, 4) (⟨getI p 8, cycle, ((p.getD 8 0).toNat : Int) == 1, p.drop 9⟩, 0)
theorem unpackC_e (p : List UInt8) : (unpackC p).2.2.2.2 = 0 ∨ (unpackC p).2.2.2.2 = 4 := by
  unfold unpackC
  cases ((((p.length : Nat) : Int) == 0) || decide (((p.getD 0 0).toNat : Int) > 3)) with
  | true => exact .inr rfl
  | false =>
    simp only [cond_false]
    cases (!(inputC (p.drop 1) (landK .u8 ((p.getD 0 0).toNat : Int) 1 == 1)).2.2) with
    | true => exact .inr rfl
    | false =>
      simp only [cond_false]
      cases (!(inputC (inputC (p.drop 1) (landK .u8 ((p.getD 0 0).toNat : Int) 1 == 1)).2.1 (landK .u8 ((p.getD 0 0).toNat : Int) 2 == 2)).2.2 || decide ((((inputC (inputC (p.drop 1) (landK .u8 ((p.getD 0 0).toNat : Int) 1 == 1)).2.1 (landK .u8 ((p.getD 0 0).toNat : Int) 2 == 2)).2.1.length : Nat) : Int) > 0)) with
      | true => exact .inr rfl
      | false => exact .inl rfl
theorem putSetC_e (x : Sett) : ((putSetC x).2 != 0) = (decide (x.steps < 0) || ((unpackC x.in_).2.2.2.2 != 0)) := by
  unfold putSetC
  cases decide (x.steps < 0) with
  | true => rfl
  | false =>
    simp only [cond_false, Bool.false_or]
    cases h : ((unpackC x.in_).2.2.2.2 != 0) with
    | true => simpa using h
    | false => rfl
theorem o56_def (s : List UInt8) : o56 s = s := Eq.trans rfl rfl
theorem o34_eq (cycle : Int) (p : List UInt8) (h : p.length ≤ 1000000) : o34 cycle p = some (getSetC cycle p) := by
  unfold o34 getSetC
  by_cases h1 : ((p.length : Nat) : Int) < 9
  · rw [dt h1]; rfl
  rw [df h1]
  simp only [Bool.false_or]
  by_cases h2 : ((p.getD 8 0).toNat : Int) > 1
  · rw [dt h2]; rfl
  rw [df h2]
  simp only [cond_false, Bool.false_or]
  have e8 : o55 p 8 = some (getI p 8) := o55_eq (by decide) (by decide) (by omega)
  rw [e8, bindO_some rfl]
  generalize getI p 8 = x
  rw [letJ_def, o56_def]
  rw [o31_eq _ (by simp; omega), bindO_some rfl, putSetC_e]
  cases (decide (x < 0) || ((unpackC (p.drop 9)).2.2.2.2 != 0)) <;> rfl
def okT (t : Targets) : Prop := (0 ≤ t.lateral ∧ t.lateral ≤ 255) ∧ (0 ≤ t.vertical ∧ t.vertical ≤ 255) ∧ (0 ≤ t.phase ∧ t.phase ≤ 255)
def putResC (r : Result) : List UInt8 := putB r.steps 8 ++ [u8 r.targets.lateral, u8 r.targets.vertical, u8 r.targets.phase] ++ putB r.targets.bank 8 ++ putB r.targets.speed 8 ++ putB r.targets.alt 8 ++ putB r.targets.vs 8
theorem resStep {r : Result} {l : List UInt8} {i : Nat} {x : Int} (hi : i < 4) (hx : List.getD [r.targets.bank, r.targets.speed, r.targets.alt, r.targets.vs] i 0 = x) (hl : l.length ≤ 1000) : o21_L0 r (l, i) = some (Ctl.go (l ++ putB x 8, i + 1)) := by
  subst hx
  unfold o21_L0
  refine (cond_pos (dt (by simp only [List.length_cons, List.length_nil]; omega))).trans ?_
  rw [o53_eq (by decide) (by decide) (by simp only; omega), bindO_some rfl]
  exact grd_pos (dt (by simp only; omega))
theorem resEnd {r : Result} {l : List UInt8} : o21_L0 r (l, 4) = some (Ctl.done l) := rfl
theorem o21_eq (r : Result) (h : okT r.targets) : o21 r = some (putResC r) := by
  obtain ⟨h1, h2, h3⟩ := h
  unfold o21
  rw [o53_eq (by decide) (by decide) (by simp), bindO_some rfl, grd_pos (dt h1), grd_pos (dt h2), grd_pos (dt h3), grd_pos (dt (by simp [putB_len]))]
  have e : loopO fuelN (o21_L0 r) ([] ++ putB r.steps (8 : Int).toNat ++ ([u8 r.targets.lateral, u8 r.targets.vertical, u8 r.targets.phase] : List UInt8), 0) = some (putResC r) := by
    have hf : fuelN = (((((fuelN - 5) + 1) + 1) + 1) + 1) + 1 := by simp [fuelN]
    rw [hf, loopO_go (resStep (by decide) rfl (by simp [putB_len])), loopO_go (resStep (by decide) rfl (by simp [putB_len])), loopO_go (resStep (by decide) rfl (by simp [putB_len])), loopO_go (resStep (by decide) rfl (by simp [putB_len])), loopO_done resEnd]
    rfl
  rw [e]
  rfl
def noTargets : Targets := ⟨0, 0, 0, 0, 0, 0, 0⟩
def getResC (p : List UInt8) : Result × Int := cond (((p.length : Nat) : Int) != 43) (⟨0, noTargets⟩, 4) (⟨getI p 8, ⟨((p.getD 8 0).toNat : Int), ((p.getD 9 0).toNat : Int), ((p.getD 10 0).toNat : Int), getI (p.drop 11) 8, getI (p.drop 19) 8, getI (p.drop 27) 8, getI (p.drop 35) 8⟩⟩, 0)
theorem o22_eq (p : List UInt8) : o22 p = some (getResC p) := by
  unfold o22 getResC
  by_cases h : ((p.length : Nat) : Int) = 43
  · have hb : (((p.length : Nat) : Int) != 43) = false := by simp [h]
    rw [hb]
    simp only [cond_false]
    rw [o55_eq (by decide) (by decide) (by omega), bindO_some rfl, o55_eq (by decide) (by decide) (by simp; omega), bindO_some rfl, o55_eq (by decide) (by decide) (by simp; omega), bindO_some rfl, o55_eq (by decide) (by decide) (by simp; omega), bindO_some rfl, o55_eq (by decide) (by decide) (by simp; omega), bindO_some rfl]
    rfl
  · have hb : (((p.length : Nat) : Int) != 43) = true := by simpa using h
    rw [hb]; rfl
theorem neq_t {a b : Int} (h : a ≠ b) : (a != b) = true := by simpa using h
theorem neq_f {a b : Int} (h : a = b) : (a != b) = false := by simpa using h
theorem eq_t {a b : Int} (h : a = b) : (a == b) = true := by simpa using h
theorem eq_f {a b : Int} (h : a ≠ b) : (a == b) = false := by simpa using h
theorem getHello_len (p : List UInt8) : (getHello p).1.input.length ≤ 400 := by
  unfold getHello
  by_cases h : ((p.length : Nat) : Int) > 419
  · rw [dt h]; simp [noHeard]
  · cases (((((decide (((p.length : Nat) : Int) < 19) || decide (((p.length : Nat) : Int) > 419)) || decide (((p.getD 0 0).toNat : Int) < 1)) || decide (((p.getD 0 0).toNat : Int) > 3)) || decide (getI (p.drop 1) 8 < 0)) || decide (getI (p.drop 9) 8 < 0)) with
    | true => simp [noHeard]
    | false => simp only [cond_false, List.length_drop]; omega
theorem o14_ok (p : List UInt8) (n : Int) (h : 0 ≤ n) : ∃ q, o14 p n = some q ∧ (q.length : Int) ≤ n := by
  have e : minI ((p.length : Nat) : Int) n ≤ n ∧ 0 ≤ minI ((p.length : Nat) : Int) n := by unfold minI; split <;> omega
  refine ⟨_, grd_pos (by simpa using e.2), ?_⟩
  rw [List.length_take]
  omega
theorem okT_of {t : Targets} (h : okTargets t) : okT t := by
  obtain ⟨⟨a1, a2⟩, ⟨b1, b2⟩, ⟨c1, c2⟩, -⟩ := h
  have e1 : IntKind.u8.min = 0 := rfl
  have e2 : IntKind.u8.max = 255 := rfl
  rw [e1] at a1 b1 c1; rw [e2] at a2 b2 c2
  exact ⟨⟨a1, a2⟩, ⟨b1, b2⟩, ⟨c1, c2⟩⟩
end Go.Proofs.Ytgnajpoebooafaa
