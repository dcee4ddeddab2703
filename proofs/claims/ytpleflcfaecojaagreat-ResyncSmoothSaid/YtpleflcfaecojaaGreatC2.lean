/-
Inputs, sets and results as bytes. Conditions: each lemma's own.
-/
import Derived.Test.YtpleflcfaecojaaGreatC1
namespace Go.Proofs.YtpleflcfaecojaaGreat
set_option linter.unusedVariables false
set_option linter.unusedSimpArgs false
set_option maxRecDepth 100000
open Go.RowKit
theorem e8' : (8 : Int) = ((8 : Nat) : Int) := rfl
theorem e2' : (2 : Int) = ((2 : Nat) : Int) := rfl
def long (one : List UInt8) (isOne : Bool) (two : List UInt8) (isTwo : Bool) : Bool := (isOne && decide ((one.length : Int) > 400)) || (isTwo && decide ((two.length : Int) > 400))
def part1 (p : List UInt8) (is : Bool) : List UInt8 := cond is (putB (p.length : Int) 2 ++ p) []
def flagB (isOne isTwo : Bool) : UInt8 := cond isOne (cond isTwo 3 1) (cond isTwo 2 0)
def packC (one : List UInt8) (isOne : Bool) (two : List UInt8) (isTwo : Bool) : Int × List UInt8 := cond (long one isOne two isTwo) (3, []) (0, [flagB isOne isTwo] ++ part1 one isOne ++ part1 two isTwo)
theorem part1_len (p : List UInt8) (is : Bool) : (part1 p is).length ≤ p.length + 2 := by cases is <;> simp [part1, putB_len]; omega
theorem o149_eq {p : List UInt8} {is : Bool} {bit : Int} {b : UInt8} {l : List UInt8} (hl : l.length ≤ 1000) (hp : is = true → p.length ≤ 400) : o149 p is bit (b :: l) = some (cond is ((u8 (lorK .u8 (b.toNat : Int) bit) :: l) ++ part1 p is) (b :: l)) := by
  unfold o149
  cases is with
  | false => rfl
  | true =>
    have := hp rfl
    rw [cndT rfl, gdT (dt (by simp)), gdT (dt (by simp))]
    have e : List.set (b :: l) ((0 : Int).toNat) (u8 (lorK .u8 ((List.getD (b :: l) ((0 : Int).toNat) 0).toNat : Int) bit)) = u8 (lorK .u8 (b.toNat : Int) bit) :: l := rfl
    rw [e, e2', o148_eq _ (by decide) (by simp; omega), bdI, gdT (dt (by simp [putB_len]; omega)), cond_true]
    simp [part1]
theorem o118_eq (one : List UInt8) (isOne : Bool) (two : List UInt8) (isTwo : Bool) : o118 one isOne two isTwo = some (packC one isOne two isTwo) := by
  unfold o118 packC
  have e : (cnd isOne (cnd (decide (((one.length : Nat) : Int) > (400 : Int))) (some ((one, isOne), two, isTwo, true)) (cnd isTwo (some ((one, isOne), two, isTwo, (decide (((two.length : Nat) : Int) > (400 : Int))))) (some ((one, isOne), two, isTwo, false)))) (cnd isTwo (some ((one, isOne), two, isTwo, (decide (((two.length : Nat) : Int) > (400 : Int))))) (some ((one, isOne), two, isTwo, false))))
      = some ((one, isOne), two, isTwo, long one isOne two isTwo) := by
    unfold long
    cases isOne <;> cases isTwo <;> cases decide (((one.length : Nat) : Int) > (400 : Int)) <;> rfl
  rw [e, bdI]
  cases hb : long one isOne two isTwo with
  | true => rfl
  | false =>
    rw [cndF rfl, cond_false]
    unfold long at hb
    simp only [Bool.or_eq_false_iff, Bool.and_eq_false_iff, decide_eq_false_iff_not] at hb
    have h1 : isOne = true → one.length ≤ 400 := fun e => by
      rcases hb.1 with h | h
      · rw [e] at h; cases h
      · omega
    have h2 : isTwo = true → two.length ≤ 400 := fun e => by
      rcases hb.2 with h | h
      · rw [e] at h; cases h
      · omega
    have hp1 := part1_len one isOne
    have g : o149 one isOne 1 [u8 0] = some (cond isOne ((u8 (lorK .u8 ((u8 0).toNat : Int) 1) :: []) ++ part1 one isOne) (u8 0 :: [])) := o149_eq (by simp) h1
    rw [show ([(u8 (0 : Int))] : List UInt8) = [u8 0] from rfl, g, bdI]
    cases isOne with
    | false =>
      rw [cond_false, o149_eq (by simp) h2, bdI]
      cases isTwo <;> rfl
    | true =>
      have := h1 rfl
      rw [cond_true, List.cons_append, List.nil_append, o149_eq (by omega) h2, bdI]
      cases isTwo
      · simp only [cond_false, part1, List.append_nil, cond_true]
        rfl
      · simp only [cond_true, List.cons_append, List.nil_append]
        rfl
def inputC (p : List UInt8) (is : Bool) : List UInt8 × List UInt8 × Bool :=
  cond (!is) ([], p, true) (cond (decide ((p.length : Int) < 2)) ([], [], false) (cond (decide ((natL p 2 : Int) > 400) || decide ((natL p 2 : Int) > (p.length : Int) - 2)) ([], [], false) ((p.drop 2).take (natL p 2), p.drop (2 + natL p 2), true)))
structure Un where
  one : List UInt8
  isOne : Bool
  two : List UInt8
  isTwo : Bool
  err : Int
def Un.e (x : Un) : (Bool × Bool × Int) × List UInt8 × List UInt8 := ((x.isOne, x.isTwo, x.err), x.one, x.two)
def nothing : Un := ⟨[], false, [], false, 4⟩
def unpackC (p : List UInt8) : Un :=
  cond ((((p.length : Nat) : Int) == 0) || decide (((p.getD 0 0).toNat : Int) > 3)) nothing
    (cond (!(inputC (p.drop 1) (landK .u8 ((p.getD 0 0).toNat : Int) 1 == 1)).2.2) nothing
      (cond (!(inputC (inputC (p.drop 1) (landK .u8 ((p.getD 0 0).toNat : Int) 1 == 1)).2.1 (landK .u8 ((p.getD 0 0).toNat : Int) 2 == 2)).2.2) nothing
        (cond ((((inputC (inputC (p.drop 1) (landK .u8 ((p.getD 0 0).toNat : Int) 1 == 1)).2.1 (landK .u8 ((p.getD 0 0).toNat : Int) 2 == 2)).2.1.length : Nat) : Int) != 0) nothing
        ⟨(inputC (p.drop 1) (landK .u8 ((p.getD 0 0).toNat : Int) 1 == 1)).1, (landK .u8 ((p.getD 0 0).toNat : Int) 1 == 1), (inputC (inputC (p.drop 1) (landK .u8 ((p.getD 0 0).toNat : Int) 1 == 1)).2.1 (landK .u8 ((p.getD 0 0).toNat : Int) 2 == 2)).1, (landK .u8 ((p.getD 0 0).toNat : Int) 2 == 2), 0⟩)))
theorem bits3 (b : Nat) (h : b ≤ 3) : (landK .u8 (shrK .u8 (b : Int) 0) 1 == 0) = (!(landK .u8 (b : Int) 1 == 1)) ∧ (landK .u8 (shrK .u8 (b : Int) 1) 1 == 0) = (!(landK .u8 (b : Int) 2 == 2)) := by
  have : b = 0 ∨ b = 1 ∨ b = 2 ∨ b = 3 := by omega
  rcases this with rfl | rfl | rfl | rfl <;> decide
theorem wrapsub {k : Nat} (h : k ≤ 100000000) : IntKind.i64.wrap ((k : Int) - 2) = (k : Int) - 2 := wr64 (by omega)
theorem stepU {p rest : List UInt8} {b : Nat} {i : Int} {x y : List UInt8} {is : Bool} (hp : p ≠ []) (hl : rest.length ≤ 100000000) (hi : i = 0 ∨ i = 1) (hb : (landK .u8 (shrK .u8 ((p.getD 0 0).toNat : Int) i) 1 == 0) = !is) (hx : i = 0 → x = []) (hy : y = []) :
    o150_b0 ((p, rest), i, x, y) = some (cond (inputC rest is).2.2 (.go ((p, (inputC rest is).2.1), i + 1, cond (i == 0) (inputC rest is).1 x, cond (i == 1) (inputC rest is).1 y)) (.done nothing.e)) := by
  have hp2 : 0 < p.length := List.length_pos_iff.2 hp
  have hi2 : IntKind.i64.wrap (i + 1) = i + 1 := wr64 (by omega)
  unfold o150_b0
  refine (cndT (dt (by show i < 2; omega))).trans ((gdT (dt (by show (0 : Int) ≤ 0 ∧ (0 : Int) < (p.length : Int); omega))).trans ((gdT (dt (by show 0 ≤ i; omega))).trans ?_))
  rw [show (landK .u8 (shrK .u8 ((List.getD ((p, rest), i, x, y).1.1 (0 : Int).toNat 0).toNat : Int) ((p, rest), i, x, y).2.1) 1 == 0) = !is from hb]
  cases is with
  | false =>
    refine (cndT rfl).trans ?_
    show some (Ctl.go ((p, rest), IntKind.i64.wrap (i + 1), x, y)) = _
    rw [hi2]
    subst hy
    rcases hi with rfl | rfl
    · rw [hx rfl]; rfl
    · rfl
  | true =>
    refine (cndF rfl).trans ?_
    unfold inputC
    rw [Bool.not_true, cond_false]
    by_cases h2 : ((rest.length : Nat) : Int) < 2
    · refine (cndT (dt h2)).trans ?_
      rw [dt h2]; rfl
    refine (cndF (df h2)).trans ?_
    rw [df h2, cond_false]
    dsimp only
    have g : o120 rest 2 = some (natL rest 2 : Int) := (o120_eq (k := 2) (by decide) (by show 2 ≤ rest.length; omega)).trans (congrArg some (getI_small rest 2 (by decide)))
    rw [g, bdI]
    have hn := natL_lt rest 2
    simp only [wrapsub hl]
    have e : (cnd (decide ((natL rest 2 : Int) > (400 : Int))) (some (((p, rest), i, (natL rest 2 : Int)), (i, true), x, y)) (some (((p, rest), i, (natL rest 2 : Int)), (i, (decide ((natL rest 2 : Int) > (rest.length : Int) - 2))), x, y)))
        = some (((p, rest), i, (natL rest 2 : Int)), (i, decide ((natL rest 2 : Int) > 400) || decide ((natL rest 2 : Int) > (rest.length : Int) - 2)), x, y) := by
      cases decide ((natL rest 2 : Int) > (400 : Int)) <;> rfl
    rw [e, bdI]
    cases hb : (decide ((natL rest 2 : Int) > 400) || decide ((natL rest 2 : Int) > ((rest.length : Nat) : Int) - 2)) with
    | true => rfl
    | false =>
      simp only [Bool.or_eq_false_iff, decide_eq_false_iff_not] at hb
      have hw : IntKind.i64.wrap (2 + (natL rest 2 : Int)) = 2 + (natL rest 2 : Int) := wr64 (by omega)
      have hd : (2 + (natL rest 2 : Int)).toNat = 2 + natL rest 2 := by omega
      have d2 : (2 : Int).toNat = 2 := rfl
      have h3 : 2 + natL rest 2 ≤ rest.length := by omega
      simp only [hw, hd, d2]
      rw [cndF rfl, gdT (dt (by omega)), o33_eq (by simp; omega), bdI, gdT (dt (by omega)), show 2 + natL rest 2 - 2 = natL rest 2 by omega]
      simp only [cond_false]
      rcases hi with rfl | rfl
      · show bd (sm (isZ 0 0) _ _) _ = _
        rw [show isZ 0 0 = .inl () from rfl, smL, bdI]
        show some (Ctl.go ((p, rest.drop (2 + natL rest 2)), IntKind.i64.wrap (0 + 1), _, _)) = _
        rw [hi2]
        rfl
      · show bd (sm (isZ 1 0) _ _) _ = _
        rw [show isZ 1 0 = .inr () from rfl, smR, show isZ 1 1 = .inl () from rfl, smL, bdI]
        show some (Ctl.go ((p, rest.drop (2 + natL rest 2)), IntKind.i64.wrap (1 + 1), _, _)) = _
        rw [hi2]
        rfl
theorem inputC_len {p : List UInt8} {is : Bool} : (inputC p is).2.1.length ≤ p.length := by
  unfold inputC
  cases is with
  | false => simp
  | true =>
    simp only [Bool.not_true, cond_false]
    cases decide ((p.length : Int) < 2) <;> cases (decide ((natL p 2 : Int) > 400) || decide ((natL p 2 : Int) > (p.length : Int) - 2)) <;> simp
theorem o150_eq {p : List UInt8} (h : p.length ≤ 1000000) : o150 p = some (unpackC p).e := by
  unfold o150 unpackC
  cases p with
  | nil => rfl
  | cons b q =>
    have hl : ¬ (((b :: q).length : Nat) : Int) = 0 := by simp only [List.length_cons]; omega
    rw [cndF (eq_f hl), gdT (dt (by simp only [List.length_cons]; omega)), bdI, eq_f hl, Bool.false_or]
    have d0 : (0 : Int).toNat = 0 := rfl
    simp only [d0]
    cases hb : decide ((((b :: q).getD 0 0).toNat : Int) > 3) with
    | true => rfl
    | false =>
      simp only [decide_eq_false_iff_not] at hb
      obtain ⟨b1, b2⟩ := bits3 ((b :: q).getD 0 0).toNat (by omega)
      rw [cndF rfl, cond_false, gdT (dt (by simp only [List.length_cons]; omega)), show (1 : Int).toNat = 1 from rfl]
      have hq : ((b :: q).drop 1).length ≤ 1000000 := by simp at h ⊢; omega
      have hf : fuelN = (((fuelN - 3) + 1) + 1) + 1 := by simp [fuelN]
      rw [hf]
      have s1 := stepU (b := 0) (p := b :: q) (rest := (b :: q).drop 1) (i := 0) (x := []) (y := []) (by simp) (by omega) (.inl rfl) b1 (fun _ => rfl) rfl
      have hlen := @inputC_len ((b :: q).drop 1) (landK .u8 (((b :: q).getD 0 0).toNat : Int) 1 == 1)
      generalize inputC ((b :: q).drop 1) (landK .u8 (((b :: q).getD 0 0).toNat : Int) 1 == 1) = A at s1 hlen ⊢
      obtain ⟨a1, a2, a3⟩ := A
      dsimp only at s1 hlen ⊢
      cases a3 with
      | false =>
        rw [cond_false] at s1
        rw [loopO_done s1]; rfl
      | true =>
        rw [cond_true, show (cond ((0 : Int) == 0) a1 []) = a1 from rfl, show (cond ((0 : Int) == 1) a1 ([] : List UInt8)) = [] from rfl, show (0 : Int) + 1 = 1 from rfl] at s1
        rw [loopO_go s1, Bool.not_true, cond_false]
        have s2 := stepU (b := 0) (p := b :: q) (rest := a2) (i := 1) (x := a1) (y := []) (by simp) (by omega) (.inr rfl) b2 (fun h => by cases h) rfl
        generalize inputC a2 (landK .u8 (((b :: q).getD 0 0).toNat : Int) 2 == 2) = C at s2 ⊢
        obtain ⟨c1, c2, c3⟩ := C
        dsimp only at s2 ⊢
        cases c3 with
        | false =>
          rw [cond_false] at s2
          rw [loopO_done s2]; rfl
        | true =>
          rw [cond_true, show (cond ((1 : Int) == 0) c1 a1) = a1 from rfl, show (cond ((1 : Int) == 1) c1 ([] : List UInt8)) = c1 from rfl, show (1 : Int) + 1 = 2 from rfl] at s2
          rw [loopO_go s2, Bool.not_true, cond_false]
          refine loopO_done (r := _) ?_
          unfold o150_b0
          refine (cndF (df (by show ¬ ((2 : Int) < 2); omega))).trans ?_
          dsimp only
          cases (((c2.length : Nat) : Int) != 0) with
          | true => rfl
          | false =>
            rw [cond_false, cndF rfl, gdT (dt (by simp only [List.length_cons]; omega)), gdT (dt (by simp only [List.length_cons]; omega)), dnS]
            rfl
end Go.Proofs.YtpleflcfaecojaaGreat
