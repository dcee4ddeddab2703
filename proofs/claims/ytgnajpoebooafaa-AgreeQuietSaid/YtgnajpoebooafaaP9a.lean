/-
What is packed is read again: hellos, sets, results, inputs. Conditions: each lemma's own.
-/
import Derived.Test.YtgnajpoebooafaaVP
namespace Go.Proofs.Ytgnajpoebooafaa
set_option linter.unusedVariables false
set_option linter.unusedSimpArgs false
open Go.RowKit
theorem getI_putB (n : Int) (q : List UInt8) (h : -9223372036854775808 ≤ n ∧ n ≤ 9223372036854775807) : getI (putB n 8 ++ q) 8 = n := by
  unfold getI
  have e := natL_putB n 8 8 q (Nat.le_refl _) (Nat.le_refl _)
  rw [e, IntKind.wrap_i64]
  simp only [Int.reducePow]
  omega
theorem natL2 (n : Nat) (q : List UInt8) (h : n ≤ 65535) : natL (putB n 2 ++ q) 2 = n := by
  have e := natL_putB n 2 2 q (Nat.le_refl _) (by decide)
  simp only [Int.reducePow] at e
  omega
theorem dropL {p q : List UInt8} {k : Nat} (h : p.length = k) : (p ++ q).drop k = q := by subst h; simp
theorem getI_0 (q : List UInt8) : getI (putB 0 8 ++ q) 8 = 0 := getI_putB 0 q (by decide)
def helloP (r s : Int) (inp : List UInt8) : List UInt8 := u8 r :: (putB s 8 ++ (putB 0 8 ++ (putB 0 2 ++ inp)))
theorem helloP_len (r s : Int) (inp : List UInt8) : (helloP r s inp).length = 19 + inp.length := by simp [helloP, putB_len]; omega
theorem putHello_P {r s : Int} {inp : List UInt8} (hr : 1 ≤ r ∧ r ≤ 3) (hs : 0 ≤ s) (hi : inp.length ≤ 400) : putHello ⟨r, s, ⟨0, 0⟩, inp⟩ = (helloP r s inp, 0) := by
  unfold putHello badHello
  simp only
  rw [df (by omega : ¬ r < 1), df (by omega : ¬ r > 3), df (by omega : ¬ s < 0), df (by omega : ¬ (0 : Int) < 0), df (by omega : ¬ (0 : Int) > 65535), df (by omega : ¬ ((inp.length : Nat) : Int) > 400)]
  simp [helloP]
theorem getHello_P {r s : Int} {inp : List UInt8} (hr : 1 ≤ r ∧ r ≤ 3) (hs : 0 ≤ s ∧ s ≤ 9223372036854775807) (hi : inp.length ≤ 400) : getHello (helloP r s inp) = (⟨r, s, ⟨0, 0⟩, inp⟩, 0) := by
  have hl := helloP_len r s inp
  have d1 : (helloP r s inp).drop 1 = putB s 8 ++ (putB 0 8 ++ (putB 0 2 ++ inp)) := rfl
  have d9 : (helloP r s inp).drop 9 = putB 0 8 ++ (putB 0 2 ++ inp) := by
    show List.drop 8 (putB s 8 ++ _) = _
    exact dropL (putB_len _ _)
  have d17 : (helloP r s inp).drop 17 = putB 0 2 ++ inp := by
    have : (helloP r s inp).drop 17 = ((helloP r s inp).drop 9).drop 8 := by rw [List.drop_drop]
    rw [this, d9]; exact dropL (putB_len _ _)
  have d19 : (helloP r s inp).drop 19 = inp := by
    have : (helloP r s inp).drop 19 = ((helloP r s inp).drop 17).drop 2 := by rw [List.drop_drop]
    rw [this, d17]; exact dropL (putB_len _ _)
  have g0 : (helloP r s inp).getD 0 0 = u8 r := rfl
  have gr : ((u8 r).toNat : Int) = r := u8_toNat (by omega)
  have n2 : getI (putB 0 2 ++ inp) 2 = 0 := by
    rw [getI_small _ _ (by decide)]
    exact congrArg Int.ofNat (natL2 0 inp (by decide))
  unfold getHello
  rw [d1, d9, d17, d19, g0, gr, getI_putB s _ (by omega), getI_0, n2, hl]
  rw [df (by omega : ¬ ((19 + inp.length : Nat) : Int) < 19), df (by omega : ¬ ((19 + inp.length : Nat) : Int) > 419), df (by omega : ¬ r < 1), df (by omega : ¬ r > 3), df (by omega : ¬ s < 0), df (by omega : ¬ (0 : Int) < 0)]
  rfl
/-! sets -/
theorem getSet_put (cy : Int) (x : Sett) (hs : x.steps ≤ 9223372036854775807) : (getSetC cy (putSetC x).1 = (noSet, 4) ∧ ¬ (0 ≤ x.steps ∧ (unpackC x.in_).2.2.2.2 = 0)) ∨ getSetC cy (putSetC x).1 = (⟨x.steps, cy, x.fresh, x.in_⟩, 0) := by
  unfold putSetC
  by_cases h1 : x.steps < 0
  · rw [dt h1]; exact .inl ⟨rfl, fun h => by omega⟩
  rw [df h1]
  rcases unpackC_e x.in_ with e | e
  · rw [e]
    refine .inr ?_
    have e0 : ((0 : Int) != 0) = false := rfl
    rw [e0]
    simp only [cond_false]
    have g8 : (putB x.steps 8 ++ [u8 ((cond x.fresh 1 0 : Nat) : Int)] ++ x.in_).drop 8 = u8 ((cond x.fresh 1 0 : Nat) : Int) :: x.in_ := by
      rw [List.append_assoc]; exact dropL (putB_len _ _)
    have g9 : (putB x.steps 8 ++ [u8 ((cond x.fresh 1 0 : Nat) : Int)] ++ x.in_).drop 9 = x.in_ := by
      have : (putB x.steps 8 ++ [u8 ((cond x.fresh 1 0 : Nat) : Int)] ++ x.in_).drop 9 = ((putB x.steps 8 ++ [u8 ((cond x.fresh 1 0 : Nat) : Int)] ++ x.in_).drop 8).drop 1 := by rw [List.drop_drop]
      rw [this, g8]; rfl
    have gd : (putB x.steps 8 ++ [u8 ((cond x.fresh 1 0 : Nat) : Int)] ++ x.in_).getD 8 0 = u8 ((cond x.fresh 1 0 : Nat) : Int) := by
      rw [List.append_assoc, List.getD_eq_getElem?_getD, List.getElem?_append_right (by rw [putB_len]; omega), putB_len]
      rfl
    have gl : (putB x.steps 8 ++ [u8 ((cond x.fresh 1 0 : Nat) : Int)] ++ x.in_).length = 9 + x.in_.length := by simp [putB_len]; omega
    have gi : getI (putB x.steps 8 ++ [u8 ((cond x.fresh 1 0 : Nat) : Int)] ++ x.in_) 8 = x.steps := by rw [List.append_assoc]; exact getI_putB _ _ (by omega)
    have gf : ((u8 ((cond x.fresh 1 0 : Nat) : Int)).toNat : Int) = ((cond x.fresh 1 0 : Nat) : Int) := u8_toNat (by cases x.fresh <;> decide)
    unfold getSetC
    rw [gl, gd, gi, g9, e, gf, df (by omega : ¬ ((9 + x.in_.length : Nat) : Int) < 9), df h1]
    cases x.fresh <;> rfl
  · rw [e]; exact .inl ⟨rfl, fun h => by omega⟩
/-! results -/
theorem getRes_put (r : Result) (h : okT r.targets) (h1 : -9223372036854775808 ≤ r.steps ∧ r.steps ≤ 9223372036854775807) (h2 : -9223372036854775808 ≤ r.targets.bank ∧ r.targets.bank ≤ 9223372036854775807) (h3 : -9223372036854775808 ≤ r.targets.speed ∧ r.targets.speed ≤ 9223372036854775807)
    (h4 : -9223372036854775808 ≤ r.targets.alt ∧ r.targets.alt ≤ 9223372036854775807) (h5 : -9223372036854775808 ≤ r.targets.vs ∧ r.targets.vs ≤ 9223372036854775807) : getResC (putResC r) = (r, 0) := by
  obtain ⟨k1, k2, k3⟩ := h
  have hl : (putResC r).length = 43 := by simp [putResC, putB_len]
  have es : putResC r = putB r.steps 8 ++ (u8 r.targets.lateral :: u8 r.targets.vertical :: u8 r.targets.phase :: (putB r.targets.bank 8 ++ (putB r.targets.speed 8 ++ (putB r.targets.alt 8 ++ (putB r.targets.vs 8 ++ []))))) := by simp [putResC]
  have d8 : (putResC r).drop 8 = u8 r.targets.lateral :: u8 r.targets.vertical :: u8 r.targets.phase :: (putB r.targets.bank 8 ++ (putB r.targets.speed 8 ++ (putB r.targets.alt 8 ++ (putB r.targets.vs 8 ++ [])))) := by rw [es]; exact dropL (putB_len _ _)
  have dd : ∀ i, (putResC r).getD (8 + i) 0 = ((putResC r).drop 8).getD i 0 := fun i => by simp [List.getD_eq_getElem?_getD, List.getElem?_drop]
  have dr : ∀ a b, (putResC r).drop (a + b) = ((putResC r).drop a).drop b := fun a b => by rw [List.drop_drop]
  have d11 : (putResC r).drop 11 = putB r.targets.bank 8 ++ (putB r.targets.speed 8 ++ (putB r.targets.alt 8 ++ (putB r.targets.vs 8 ++ []))) := by rw [dr 8 3, d8]; rfl
  have d19 : (putResC r).drop 19 = putB r.targets.speed 8 ++ (putB r.targets.alt 8 ++ (putB r.targets.vs 8 ++ [])) := by rw [dr 11 8, d11]; exact dropL (putB_len _ _)
  have d27 : (putResC r).drop 27 = putB r.targets.alt 8 ++ (putB r.targets.vs 8 ++ []) := by rw [dr 19 8, d19]; exact dropL (putB_len _ _)
  have d35 : (putResC r).drop 35 = putB r.targets.vs 8 ++ [] := by rw [dr 27 8, d27]; exact dropL (putB_len _ _)
  have g8 : (putResC r).getD 8 0 = u8 r.targets.lateral := by rw [dd 0, d8]; rfl
  have g9 : (putResC r).getD 9 0 = u8 r.targets.vertical := by rw [dd 1, d8]; rfl
  have g10 : (putResC r).getD 10 0 = u8 r.targets.phase := by rw [dd 2, d8]; rfl
  have gi : getI (putResC r) 8 = r.steps := by rw [es]; exact getI_putB _ _ h1
  have hb : (((43 : Nat) : Int) != 43) = false := rfl
  unfold getResC
  rw [hl, hb, gi, g8, g9, g10, d11, d19, d27, d35, getI_putB _ _ h2, getI_putB _ _ h3, getI_putB _ _ h4, getI_putB _ _ h5, u8_toNat k1, u8_toNat k2, u8_toNat k3]
  rfl
/-! inputs -/
theorem input_part (p q : List UInt8) (h : p.length ≤ 400) : inputC (part1 p true ++ q) true = (p, q, true) := by
  have e : part1 p true ++ q = putB ((p.length : Nat) : Int) 2 ++ (p ++ q) := by unfold part1; simp
  have en : natL (putB ((p.length : Nat) : Int) 2 ++ (p ++ q)) 2 = p.length := natL2 p.length _ (by omega)
  rw [e]
  unfold inputC
  simp only [Bool.not_true, cond_false]
  rw [en]
  rw [df (by simp [putB_len]; omega : ¬ (((putB ((p.length : Nat) : Int) 2 ++ (p ++ q)).length : Nat) : Int) < 2), df (by omega : ¬ ((p.length : Nat) : Int) > 400), df (by simp [putB_len]; omega : ¬ ((p.length : Nat) : Int) > (((putB ((p.length : Nat) : Int) 2 ++ (p ++ q)).length : Nat) : Int) - 2)]
  simp only [Bool.or_self, cond_false]
  have e2 : (putB ((p.length : Nat) : Int) 2 ++ (p ++ q)).drop 2 = p ++ q := dropL (putB_len _ _)
  rw [← List.drop_drop, e2]
  simp
theorem unpack_pack (a b : List UInt8) (ha : a.length ≤ 400) (hb : b.length ≤ 400) : unpackC (packC a true b true).1 = (a, true, b, true, 0) := by
  have hl : long a true b true = false := by
    unfold long
    rw [df (by omega : ¬ ((a.length : Nat) : Int) > 400), df (by omega : ¬ ((b.length : Nat) : Int) > 400)]
    rfl
  have hp : (packC a true b true).1 = (3 : UInt8) :: (part1 a true ++ (part1 b true ++ [])) := by
    unfold packC
    rw [hl]
    simp [flagB]
  rw [hp]
  unfold unpackC
  have hd : List.drop 1 ((3 : UInt8) :: (part1 a true ++ (part1 b true ++ []))) = part1 a true ++ (part1 b true ++ []) := rfl
  have h0 : List.getD ((3 : UInt8) :: (part1 a true ++ (part1 b true ++ []))) 0 0 = 3 := rfl
  have f1 : (landK .u8 (((3 : UInt8).toNat : Nat) : Int) 1 == 1) = true := by decide
  have f2 : (landK .u8 (((3 : UInt8).toNat : Nat) : Int) 2 == 2) = true := by decide
  have f3 : decide ((((3 : UInt8).toNat : Nat) : Int) > 3) = false := by decide
  have f4 : (((((3 : UInt8) :: (part1 a true ++ (part1 b true ++ []))).length : Nat) : Int) == 0) = false := by
    rw [List.length_cons]; exact eq_f (by omega)
  rw [hd, h0, f1, f2, f3, f4, input_part a _ ha]
  simp only [Bool.or_self, cond_false, Bool.not_true]
  rw [input_part b _ hb]
  rfl
end Go.Proofs.Ytgnajpoebooafaa
