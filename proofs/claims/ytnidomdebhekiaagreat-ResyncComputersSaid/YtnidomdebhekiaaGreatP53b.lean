/-
Inputs, sets and results of seat 53: the program's and the reference's codecs compute the same. Conditions: each lemma's own.
-/
import Derived.Test.YtnidomdebhekiaaGreatP53a
namespace Go.Proofs.YtnidomdebhekiaaGreat
set_option linter.unusedVariables false
set_option linter.unusedSimpArgs false
open Go.RowKit
def long (one : List UInt8) (isOne : Bool) (two : List UInt8) (isTwo : Bool) : Bool := (isOne && decide (((one.length : Nat) : Int) > 400)) || (isTwo && decide (((two.length : Nat) : Int) > 400))
def part1 (p : List UInt8) (is : Bool) : List UInt8 := cond is (putB (p.length : Int) 2 ++ p) []
def flagB (isOne isTwo : Bool) : UInt8 := cond isOne (cond isTwo 3 1) (cond isTwo 2 0)
def packC (one : List UInt8) (isOne : Bool) (two : List UInt8) (isTwo : Bool) : List UInt8 × Int := cond (long one isOne two isTwo) ([], 3) ([flagB isOne isTwo] ++ part1 one isOne ++ part1 two isTwo, 0)
theorem part1_len (p : List UInt8) (is : Bool) : (part1 p is).length ≤ p.length + 2 := by cases is <;> simp [part1, putB_len]; omega
theorem long_false {one two : List UInt8} {a b : Bool} (h : long one a two b = false) : (a = true → one.length ≤ 400) ∧ (b = true → two.length ≤ 400) := by
  unfold long at h
  simp only [Bool.or_eq_false_iff, Bool.and_eq_false_iff, decide_eq_false_iff_not] at h
  refine ⟨fun e => ?_, fun e => ?_⟩
  · rcases h.1 with h1 | h1
    · rw [e] at h1; cases h1
    · omega
  · rcases h.2 with h1 | h1
    · rw [e] at h1; cases h1
    · omega
theorem o112_eq {p : List UInt8} {is : Bool} {bit : Int} {b : UInt8} {l : List UInt8} (hl : l.length ≤ 1000) (hp : is = true → p.length ≤ 400) : o112 p is bit (b :: l) = some (cond is ((u8 (lorK .u8 (b.toNat : Int) bit) :: l) ++ part1 p is) (b :: l)) := by
  unfold o112
  cases is with
  | false => rfl
  | true =>
    have := hp rfl
    simp only [cond_true]
    rw [grd_pos (dt (by simp)), grd_pos (dt (by simp))]
    have e : List.set (b :: l) 0 (u8 (lorK .u8 ((List.getD (b :: l) 0 0).toNat : Int) bit)) = u8 (lorK .u8 (b.toNat : Int) bit) :: l := rfl
    rw [e, o111_eq (by decide) (by decide) (by simp; omega), bindO_some rfl, grd_pos (dt (by simp [putB_len]; omega)), bindO_some rfl]
    simp [part1]
theorem o94_eq (one : List UInt8) (isOne : Bool) (two : List UInt8) (isTwo : Bool) : o94 one isOne two isTwo = some (packC one isOne two isTwo) := by
  unfold o94 packC
  cases hb : long one isOne two isTwo with
  | true => unfold long at hb; rw [hb]; rfl
  | false =>
    obtain ⟨h1, h2⟩ := long_false hb
    unfold long at hb
    rw [hb]
    simp only [cond_false]
    rw [o112_eq (by simp) h1, bindO_some rfl]
    have hp1 := part1_len one isOne
    cases isOne <;> cases isTwo
    · simp only [cond_false]
      rw [o112_eq (by simp) (fun h => by cases h), bindO_some rfl]
      rfl
    · simp only [cond_false]
      rw [o112_eq (by simp) h2, bindO_some rfl]
      simp only [cond_true, part1, cond_false, List.append_nil]
      rfl
    · simp only [cond_true, List.cons_append, List.nil_append]
      have := h1 rfl
      rw [o112_eq (by omega) (fun h => by cases h), bindO_some rfl]
      simp only [cond_false, part1, List.append_nil, cond_true]
      rfl
    · simp only [cond_true, List.cons_append, List.nil_append]
      have := h1 rfl
      rw [o112_eq (by omega) h2, bindO_some rfl]
      simp only [cond_true, List.cons_append, List.nil_append]
      rfl
theorem o114_eq (one : List UInt8) (isOne : Bool) (two : List UInt8) (isTwo : Bool) : o114 one isOne two isTwo = some (packC one isOne two isTwo) := by
  unfold o114 packC
  cases hb : long one isOne two isTwo with
  | true => unfold long at hb; rw [hb]; rfl
  | false =>
    obtain ⟨h1, h2⟩ := long_false hb
    unfold long at hb
    rw [hb]
    simp only [cond_false, letJ]
    have c : ∀ (x : Nat), x ≤ 3 → u8 ((x : Nat) : Int) = UInt8.ofNat x := fun x _ => rfl
    cases isOne <;> cases isTwo <;> simp only [cond_true, cond_false]
    · rfl
    · have := h2 rfl
      rw [bindO_some rfl, o108_eq (by decide) (by decide), bindO_some rfl, grd_pos (dt (by simp [putB_len])), grd_pos (dt (by simp [putB_len]; omega)), bindO_some rfl]
      simp [part1, flagB]; rfl
    · have := h1 rfl
      rw [o108_eq (by decide) (by decide), bindO_some rfl, grd_pos (dt (by simp [putB_len])), grd_pos (dt (by simp [putB_len]; omega)), bindO_some rfl, bindO_some rfl]
      simp [part1, flagB]; rfl
    · have := h1 rfl
      have := h2 rfl
      rw [o108_eq (by decide) (by decide), bindO_some rfl, grd_pos (dt (by simp [putB_len])), grd_pos (dt (by simp [putB_len]; omega)), bindO_some rfl, o108_eq (by decide) (by decide), bindO_some rfl, grd_pos (dt (by simp [putB_len]; omega)), grd_pos (dt (by simp [putB_len]; omega)), bindO_some rfl]
      simp [part1, flagB]; rfl
def inputC (p : List UInt8) (is : Bool) : List UInt8 × List UInt8 × Bool :=
  cond (!is) ([], p, true) (cond (decide (((p.length : Nat) : Int) < 2)) ([], [], false) (cond (decide ((natL p 2 : Int) > 400) || decide ((natL p 2 : Int) > ((p.length : Nat) : Int) - 2)) ([], [], false) ((p.drop 2).take (natL p 2), p.drop (2 + natL p 2), true)))
theorem get2 (p : List UInt8) (h : ¬ ((p.length : Nat) : Int) < 2) : o98 p 2 = some (natL p 2 : Int) := by
  rw [o98_eq (by decide) (by decide) (by omega)]
  exact congrArg some (getI_small p 2 (by decide))
theorem get2' (p : List UInt8) (h : ¬ ((p.length : Nat) : Int) < 2) : o99 (List.take 2 p) = some (natL p 2 : Int) := by
  have hl : (List.take 2 p).length = 2 := by simp; omega
  rw [o99_eq (by omega), hl, getI_take]
  exact congrArg some (getI_small p 2 (by decide))
theorem o115_eq (p : List UInt8) (is : Bool) : o115 p is = some (inputC p is) := by
  unfold o115 inputC
  cases is with
  | false => rfl
  | true =>
    simp only [Bool.not_true, cond_false]
    by_cases h : ((p.length : Nat) : Int) < 2
    · rw [dt h]; rfl
    rw [df h]
    simp only [cond_false]
    rw [get2' p h, bindO_some rfl]
    cases hb : (decide ((natL p 2 : Int) > 400) || decide ((natL p 2 : Int) > ((p.length : Nat) : Int) - 2)) with
    | true => rfl
    | false =>
      simp only [Bool.or_eq_false_iff, decide_eq_false_iff_not] at hb
      simp only [cond_false]
      rw [grd_pos (dt (by omega)), grd_pos (dt (by omega)), grd_pos (dt (by omega)), grd_pos (dt (by omega))]
      have e : (2 + (natL p 2 : Int)).toNat = 2 + natL p 2 := by omega
      rw [e, show 2 + natL p 2 - 2 = natL p 2 by omega]
def nothing : List UInt8 × Bool × List UInt8 × Bool × Int := ([], false, [], false, 4)
def unpackC (p : List UInt8) : List UInt8 × Bool × List UInt8 × Bool × Int :=
  cond ((((p.length : Nat) : Int) == 0) || decide (((p.getD 0 0).toNat : Int) > 3)) nothing
    (cond (!(inputC (p.drop 1) (landK .u8 ((p.getD 0 0).toNat : Int) 1 == 1)).2.2) nothing
      (cond (!(inputC (inputC (p.drop 1) (landK .u8 ((p.getD 0 0).toNat : Int) 1 == 1)).2.1 (landK .u8 ((p.getD 0 0).toNat : Int) 2 == 2)).2.2 || decide ((((inputC (inputC (p.drop 1) (landK .u8 ((p.getD 0 0).toNat : Int) 1 == 1)).2.1 (landK .u8 ((p.getD 0 0).toNat : Int) 2 == 2)).2.1.length : Nat) : Int) > 0)) nothing
        ((inputC (p.drop 1) (landK .u8 ((p.getD 0 0).toNat : Int) 1 == 1)).1, (landK .u8 ((p.getD 0 0).toNat : Int) 1 == 1), (inputC (inputC (p.drop 1) (landK .u8 ((p.getD 0 0).toNat : Int) 1 == 1)).2.1 (landK .u8 ((p.getD 0 0).toNat : Int) 2 == 2)).1, (landK .u8 ((p.getD 0 0).toNat : Int) 2 == 2), 0)))
theorem o100_eq (p : List UInt8) : o100 p = some (unpackC p) := by
  unfold o100 unpackC
  cases ((((p.length : Nat) : Int) == 0) || decide (((p.getD 0 0).toNat : Int) > 3)) with
  | true => rfl
  | false =>
    simp only [cond_false]
    rw [o115_eq, bindO_some rfl]
    cases (!(inputC (p.drop 1) (landK .u8 ((p.getD 0 0).toNat : Int) 1 == 1)).2.2) with
    | true => rfl
    | false =>
      simp only [cond_false]
      rw [o115_eq, bindO_some rfl]
      cases (!(inputC (inputC (p.drop 1) (landK .u8 ((p.getD 0 0).toNat : Int) 1 == 1)).2.1 (landK .u8 ((p.getD 0 0).toNat : Int) 2 == 2)).2.2 || decide ((((inputC (inputC (p.drop 1) (landK .u8 ((p.getD 0 0).toNat : Int) 1 == 1)).2.1 (landK .u8 ((p.getD 0 0).toNat : Int) 2 == 2)).2.1.length : Nat) : Int) > 0)) <;> rfl
theorem stepU {ρ : Type} (p : List UInt8) (is : Bool) (no : ρ) (x : Bool) (hx : x = !is) :
    (cond x (some (Ctl.go (p, ([] : List UInt8)))) (cond (decide (((p.length : Nat) : Int) < 2)) (some (Ctl.done no)) (bindO (τ := Int) (o98 p (2 : Int)) fun y => (cond (decide (y > 400) || decide (y > (((p.length : Nat) : Int) - 2))) (some (Ctl.done no)) (grd (decide (-9223372036854775808 ≤ 2 + y ∧ 2 + y ≤ 9223372036854775807)) (grd (decide (2 ≤ (2 + y) ∧ (2 + y) ≤ ((p.length : Nat) : Int))) (grd (decide (-9223372036854775808 ≤ 2 + y ∧ 2 + y ≤ 9223372036854775807)) (grd (decide (0 ≤ (2 + y) ∧ (2 + y) ≤ ((p.length : Nat) : Int))) (letJ (τ := List UInt8) (o43 (List.take ((2 + y).toNat - 2) (List.drop 2 p))) fun z => some (Ctl.go (List.drop (2 + y).toNat p, z)))))))))) : Option (Ctl (List UInt8 × List UInt8) ρ))
      = some (cond (inputC p is).2.2 (Ctl.go ((inputC p is).2.1, (inputC p is).1)) (Ctl.done no)) := by
  subst hx
  unfold inputC
  cases is with
  | false => rfl
  | true =>
    simp only [Bool.not_true, cond_false]
    by_cases h : ((p.length : Nat) : Int) < 2
    · rw [dt h]; rfl
    rw [df h]
    simp only [cond_false]
    rw [get2 p h, bindO_some rfl]
    cases hb : (decide ((natL p 2 : Int) > 400) || decide ((natL p 2 : Int) > ((p.length : Nat) : Int) - 2)) with
    | true => rfl
    | false =>
      simp only [Bool.or_eq_false_iff, decide_eq_false_iff_not] at hb
      simp only [cond_false]
      rw [grd_pos (dt (by omega)), grd_pos (dt (by omega)), grd_pos (dt (by omega)), grd_pos (dt (by omega))]
      have e : (2 + (natL p 2 : Int)).toNat = 2 + natL p 2 := by omega
      simp only [letJ, o43, cond_true]
      rw [e, show 2 + natL p 2 - 2 = natL p 2 by omega]
theorem bits3 (b : Nat) (h : b ≤ 3) : (landK .u8 (shrK .u8 (b : Int) 0) 1 == 0) = (!(landK .u8 (b : Int) 1 == 1)) ∧ (landK .u8 (shrK .u8 (b : Int) 1) 1 == 0) = (!(landK .u8 (b : Int) 2 == 2)) := by
  have : b = 0 ∨ b = 1 ∨ b = 2 ∨ b = 3 := by omega
  rcases this with rfl | rfl | rfl | rfl <;> decide
theorem o113_eq (p : List UInt8) : o113 p = some (unpackC p) := by
  unfold o113 unpackC
  cases hb : ((((p.length : Nat) : Int) == 0) || decide (((p.getD 0 0).toNat : Int) > 3)) with
  | true => rfl
  | false =>
    simp only [Bool.or_eq_false_iff, decide_eq_false_iff_not] at hb
    obtain ⟨b1, b2⟩ := bits3 (p.getD 0 0).toNat (by omega)
    simp only [cond_false]
    rw [stepU (p.drop 1) _ _ _ b1]
    cases h1 : (inputC (p.drop 1) (landK .u8 ((p.getD 0 0).toNat : Int) 1 == 1)).2.2 with
    | false => rfl
    | true =>
      simp only [cond_true, Bool.not_true, cond_false]
      rw [joinO_go (t := ((inputC (p.drop 1) (landK .u8 ((p.getD 0 0).toNat : Int) 1 == 1)).2.1, (inputC (p.drop 1) (landK .u8 ((p.getD 0 0).toNat : Int) 1 == 1)).1)) rfl]
      simp only
      rw [stepU _ _ _ _ b2]
      cases h2 : (inputC (inputC (p.drop 1) (landK .u8 ((p.getD 0 0).toNat : Int) 1 == 1)).2.1 (landK .u8 ((p.getD 0 0).toNat : Int) 2 == 2)).2.2 with
      | false => rfl
      | true =>
        simp only [cond_true, Bool.not_true, Bool.false_or]
        rw [joinO_go rfl, joinO_go rfl]
        simp only
        have e : ((((inputC (inputC (p.drop 1) (landK .u8 ((p.getD 0 0).toNat : Int) 1 == 1)).2.1 (landK .u8 ((p.getD 0 0).toNat : Int) 2 == 2)).2.1.length : Nat) : Int) != 0) = decide ((((inputC (inputC (p.drop 1) (landK .u8 ((p.getD 0 0).toNat : Int) 1 == 1)).2.1 (landK .u8 ((p.getD 0 0).toNat : Int) 2 == 2)).2.1.length : Nat) : Int) > 0) := by
          rw [Bool.eq_iff_iff]
          simp only [bne_iff_ne, decide_eq_true_eq]
          omega
        rw [e]
        cases decide ((((inputC (inputC (p.drop 1) (landK .u8 ((p.getD 0 0).toNat : Int) 1 == 1)).2.1 (landK .u8 ((p.getD 0 0).toNat : Int) 2 == 2)).2.1.length : Nat) : Int) > 0) <;> rfl
def putSetC (x : Sett) : List UInt8 × Int := cond (decide (x.steps < 0)) ([], 1) (cond ((unpackC x.in_).2.2.2.2 != 0) ([], (unpackC x.in_).2.2.2.2) (putB x.steps 8 ++ [u8 ((cond x.fresh 1 0 : Nat) : Int)] ++ x.in_, 0))
theorem o95_eq (x : Sett) (h : x.in_.length ≤ 1000000) : o95 x = some (putSetC x) := by
  unfold o95 putSetC
  by_cases h1 : x.steps < 0
  · rw [dt h1]; rfl
  rw [df h1]
  simp only [cond_false]
  rw [o113_eq, bindO_some rfl]
  cases ((unpackC x.in_).2.2.2.2 != 0) with
  | true => rfl
  | false =>
    simp only [cond_false, letJ]
    rw [o111_eq (by decide) (by decide) (by simp), bindO_some rfl, grd_pos (dt (by simp [putB_len])), grd_pos (dt (by simp [putB_len]; omega))]
    rfl
theorem o96_eq (x : Sett) (h : x.in_.length ≤ 1000000) : o96 x = some (putSetC x) := by
  unfold o96 putSetC
  by_cases h1 : x.steps < 0
  · rw [dt h1]; rfl
  rw [df h1]
  simp only [cond_false]
  rw [o100_eq, bindO_some rfl]
  cases ((unpackC x.in_).2.2.2.2 != 0) with
  | true => rfl
  | false =>
    simp only [cond_false, letJ]
    rw [o108_eq (by decide) (by decide), bindO_some rfl, grd_pos (dt (by simp [putB_len])), grd_pos (dt (by simp [putB_len]; omega))]
    rfl
def noSet : Sett := ⟨0, 0, false, []⟩
def getSetC (cycle : Int) (p : List UInt8) : Sett × Int :=
  cond (((decide (((p.length : Nat) : Int) < 9) || decide (((p.getD 8 0).toNat : Int) > 1)) || decide (getI p 8 < 0)) || ((unpackC (p.drop 9)).2.2.2.2 != 0)) (noSet, 4) (⟨getI p 8, cycle, ((p.getD 8 0).toNat : Int) == 1, p.drop 9⟩, 0)
theorem unpackC_e (p : List UInt8) : (unpackC p).2.2.2.2 = 0 ∨ (unpackC p).2.2.2.2 = 4 := by
  unfold unpackC
  cases ((((p.length : Nat) : Int) == 0) || decide (((p.getD 0 0).toNat : Int) > 3)) with
  | true => exact .inr rfl
  | false =>
    simp only [cond_false]
    cases (!(inputC (p.drop 1) (landK .u8 ((p.getD 0 0).toNat : Int) 1 == 1)).2.2) with
    | true => exact .inr rfl
    | false =>
      simp only [cond_false]
      cases (!(inputC (inputC (p.drop 1) (landK .u8 ((p.getD 0 0).toNat : Int) 1 == 1)).2.1 (landK .u8 ((p.getD 0 0).toNat : Int) 2 == 2)).2.2 || decide ((((inputC (inputC (p.drop 1) (landK .u8 ((p.getD 0 0).toNat : Int) 1 == 1)).2.1 (landK .u8 ((p.getD 0 0).toNat : Int) 2 == 2)).2.1.length : Nat) : Int) > 0)) with
      | true => exact .inr rfl
      | false => exact .inl rfl
theorem putSetC_e (x : Sett) : ((putSetC x).2 != 0) = (decide (x.steps < 0) || ((unpackC x.in_).2.2.2.2 != 0)) := by
  unfold putSetC
  cases decide (x.steps < 0) with
  | true => rfl
  | false =>
    simp only [cond_false, Bool.false_or]
    cases h : ((unpackC x.in_).2.2.2.2 != 0) with
    | true => simpa using h
    | false => rfl
theorem o43_def (s : List UInt8) : o43 s = s := Eq.trans rfl rfl
theorem o57_eq (cycle : Int) (p : List UInt8) (h : p.length ≤ 1000000) : o57 cycle p = some (getSetC cycle p) := by
  unfold o57 getSetC
  by_cases h1 : ((p.length : Nat) : Int) < 9
  · rw [dt h1]; rfl
  rw [df h1]
  simp only [Bool.false_or]
  by_cases h2 : ((p.getD 8 0).toNat : Int) > 1
  · rw [dt h2]; rfl
  rw [df h2]
  simp only [cond_false, Bool.false_or]
  have e8 : o98 p 8 = some (getI p 8) := o98_eq (by decide) (by decide) (by omega)
  rw [e8, bindO_some rfl]
  generalize getI p 8 = x
  rw [letJ_def, o43_def]
  rw [o95_eq _ (by simp; omega), bindO_some rfl, putSetC_e]
  cases (decide (x < 0) || ((unpackC (p.drop 9)).2.2.2.2 != 0)) <;> rfl
theorem o61_eq (cycle : Int) (p : List UInt8) : o61 cycle p = some (getSetC cycle p) := by
  unfold o61 getSetC
  by_cases h1 : ((p.length : Nat) : Int) < 9
  · rw [dt h1]; rfl
  rw [df h1]
  simp only [Bool.false_or, cond_false]
  have e8 : o99 (List.take 8 p) = some (getI p 8) := by
    have hl : (List.take 8 p).length = 8 := by simp; omega
    rw [o99_eq (by omega), hl, getI_take]
  rw [e8, bindO_some rfl, bindO_some rfl]
  by_cases h3 : getI p 8 < 0
  · rw [dt h3]; simp only [cond_true, Bool.or_true, Bool.true_or]; rfl
  rw [df h3]
  simp only [cond_false, Bool.or_false]
  rw [grd_pos (dt (by omega)), bindO_some rfl]
  by_cases h2 : ((p.getD 8 0).toNat : Int) > 1
  · rw [dt h2]; rfl
  rw [df h2]
  simp only [cond_false, Bool.false_or]
  rw [grd_pos (dt (by omega)), o100_eq, bindO_some rfl]
  rcases unpackC_e (p.drop 9) with e | e
  · rw [e]
    simp only [bne_self_eq_false, cond_false]
    rw [grd_pos (dt (by omega)), grd_pos (dt (by omega)), grd_pos (dt (by omega)), bindO_some rfl]
  · rw [e]; rfl
def okT (t : Targets) : Prop := (0 ≤ t.lateral ∧ t.lateral ≤ 255) ∧ (0 ≤ t.vertical ∧ t.vertical ≤ 255) ∧ (0 ≤ t.phase ∧ t.phase ≤ 255)
def putResC (r : Result) : List UInt8 := putB r.steps 8 ++ [u8 r.targets.lateral, u8 r.targets.vertical, u8 r.targets.phase] ++ putB r.targets.bank 8 ++ putB r.targets.speed 8 ++ putB r.targets.alt 8 ++ putB r.targets.vs 8
theorem o102_eq (r : Result) (h : okT r.targets) : o102 r = some (putResC r) := by
  obtain ⟨h1, h2, h3⟩ := h
  unfold o102
  rw [o108_eq (by decide) (by decide), bindO_some rfl, grd_pos (dt h1), grd_pos (dt h2), grd_pos (dt h3), grd_pos (dt (by simp [putB_len])), o108_eq (by decide) (by decide), bindO_some rfl, grd_pos (dt (by simp [putB_len])), o108_eq (by decide) (by decide), bindO_some rfl, grd_pos (dt (by simp [putB_len])),
    o108_eq (by decide) (by decide), bindO_some rfl, grd_pos (dt (by simp [putB_len])), o108_eq (by decide) (by decide), bindO_some rfl, grd_pos (dt (by simp [putB_len]))]
  rfl
theorem resStep {r : Result} {l : List UInt8} {i : Nat} {x : Int} (hi : i < 4) (hx : List.getD [r.targets.bank, r.targets.speed, r.targets.alt, r.targets.vs] i 0 = x) (hl : l.length ≤ 1000) : o101_L0 r (l, i) = some (Ctl.go (l ++ putB x 8, i + 1)) := by
  subst hx
  unfold o101_L0
  refine (cond_pos (dt (by simp only [List.length_cons, List.length_nil]; omega))).trans ?_
  rw [o111_eq (by decide) (by decide) (by simp only; omega), bindO_some rfl]
  exact grd_pos (dt (by simp only; omega))
theorem resEnd {r : Result} {l : List UInt8} : o101_L0 r (l, 4) = some (Ctl.done l) := rfl
theorem o101_eq (r : Result) (h : okT r.targets) : o101 r = some (putResC r) := by
  obtain ⟨h1, h2, h3⟩ := h
  unfold o101
  rw [o111_eq (by decide) (by decide) (by simp), bindO_some rfl, grd_pos (dt h1), grd_pos (dt h2), grd_pos (dt h3), grd_pos (dt (by simp [putB_len]))]
  have e : loopO fuelN (o101_L0 r) ([] ++ putB r.steps (8 : Int).toNat ++ ([u8 r.targets.lateral, u8 r.targets.vertical, u8 r.targets.phase] : List UInt8), 0) = some (putResC r) := by
    have hf : fuelN = (((((fuelN - 5) + 1) + 1) + 1) + 1) + 1 := by simp [fuelN]
    rw [hf, loopO_go (resStep (by decide) rfl (by simp [putB_len])), loopO_go (resStep (by decide) rfl (by simp [putB_len])), loopO_go (resStep (by decide) rfl (by simp [putB_len])), loopO_go (resStep (by decide) rfl (by simp [putB_len])), loopO_done resEnd]
    rfl
  rw [e]
  rfl
def noTargets : Targets := ⟨0, 0, 0, 0, 0, 0, 0⟩
def getResC (p : List UInt8) : Result × Int := cond (((p.length : Nat) : Int) != 43) (⟨0, noTargets⟩, 4) (⟨getI p 8, ⟨((p.getD 8 0).toNat : Int), ((p.getD 9 0).toNat : Int), ((p.getD 10 0).toNat : Int), getI (p.drop 11) 8, getI (p.drop 19) 8, getI (p.drop 27) 8, getI (p.drop 35) 8⟩⟩, 0)
theorem o103_eq (p : List UInt8) : o103 p = some (getResC p) := by
  unfold o103 getResC
  by_cases h : ((p.length : Nat) : Int) = 43
  · have hb : (((p.length : Nat) : Int) != 43) = false := by simp [h]
    rw [hb]
    simp only [cond_false]
    rw [o98_eq (by decide) (by decide) (by omega), bindO_some rfl, o98_eq (by decide) (by decide) (by simp; omega), bindO_some rfl, o98_eq (by decide) (by decide) (by simp; omega), bindO_some rfl, o98_eq (by decide) (by decide) (by simp; omega), bindO_some rfl, o98_eq (by decide) (by decide) (by simp; omega), bindO_some rfl]
    rfl
  · have hb : (((p.length : Nat) : Int) != 43) = true := by simpa using h
    rw [hb]; rfl
theorem o104_eq (p : List UInt8) : o104 p = some (getResC p) := by
  unfold o104 getResC
  by_cases h : ((p.length : Nat) : Int) = 43
  · have hb : (((p.length : Nat) : Int) != 43) = false := by simp [h]
    rw [hb]
    simp only [cond_false]
    have e1 := cut8 p 11 (by omega)
    have e2 := cut8 p 19 (by omega)
    have e3 := cut8 p 27 (by omega)
    have e4 := cut8 p 35 (by omega)
    have e8 : o99 (List.take 8 p) = some (getI p 8) := by
      have hl : (List.take 8 p).length = 8 := by simp; omega
      rw [o99_eq (by omega), hl, getI_take]
    simp only [Nat.reduceAdd] at e1 e2 e3 e4
    rw [e1, bindO_some rfl, e2, bindO_some rfl, e3, bindO_some rfl, e4, bindO_some rfl, e8, bindO_some rfl]
  · have hb : (((p.length : Nat) : Int) != 43) = true := by simpa using h
    rw [hb]; rfl
end Go.Proofs.YtnidomdebhekiaaGreat
