/-
The codecs of seat 53, of the program and of the reference, compute the same. Conditions: each lemma's own.
-/
import Derived.Test.YtnidomdebhekiaaGreatNB
import Derived.Test.YtnidomdebhekiaaGreatC12
namespace Go.Proofs.YtnidomdebhekiaaGreat
set_option linter.unusedVariables false
set_option linter.unusedSimpArgs false
open Go.RowKit
theorem dt {p : Prop} [Decidable p] (h : p) : decide p = true := decide_eq_true h
theorem df {p : Prop} [Decidable p] (h : ¬ p) : decide p = false := decide_eq_false h
theorem w8 {k : Nat} (h : k ≤ 1000) : IntKind.i64.wrap (8 * ((k : Nat) : Int)) = 8 * (k : Int) := wr64 (by omega)
theorem o111_eq {out : List UInt8} {n size : Int} (h0 : 0 ≤ size) (h1 : size ≤ 64) (hl : out.length ≤ 70368744177664) : o111 out n size = some (out ++ putB n size.toNat) := by
  obtain ⟨r, h2, rfl⟩ := loopO_ok (f := o111_L0 n size) (fun s => s.1 = out ++ putB n s.2 ∧ (s.2 : Int) ≤ size) (fun s => size.toNat - s.2) (fun r => r = out ++ putB n size.toNat) (fun s hI => by
    obtain ⟨l, k⟩ := s
    obtain ⟨hl2, hk⟩ := hI
    simp only at hl2 hk
    subst hl2
    by_cases hlt : (k : Int) < size
    · refine .inl ⟨(out ++ putB n k ++ [byteAt n k], k + 1), ?_, ⟨by simp [putB_succ], by simp only; omega⟩, by simp only; omega⟩
      unfold o111_L0
      refine (cond_pos (dt hlt)).trans ((grd_pos (dt (by rw [w8 (by omega)]; omega))).trans ((grd_pos (dt (by simp [putB_len]; omega))).trans ((grd_pos (dt (by simp only; omega))).trans ?_)))
      rw [w8 (by omega)]
      rfl
    · refine .inr ⟨out ++ putB n k, ?_, by rw [show k = size.toNat by omega]⟩
      unfold o111_L0
      exact cond_neg (df hlt)) fuelN (out, 0) ⟨by simp [putB_zero], by simpa using h0⟩ (by simp only [fuelN]; omega)
  unfold o111
  rw [h2]
  rfl
theorem o108_eq {x n : Int} (h0 : 0 ≤ n) (h1 : n ≤ 8) : o108 x n = some (putB x n.toNat) := by
  obtain ⟨r, h2, rfl⟩ := loopO_ok (f := o108_L0 x n) (fun s => s.1 = putB x s.2 ∧ (s.2 : Int) ≤ n) (fun s => n.toNat - s.2) (fun r => r = putB x n.toNat) (fun s hI => by
    obtain ⟨l, k⟩ := s
    obtain ⟨hl2, hk⟩ := hI
    simp only at hl2 hk
    subst hl2
    by_cases hlt : (k : Int) < n
    · refine .inl ⟨(putB x k ++ [byteAt x k], k + 1), ?_, ⟨by simp [putB_succ], by simp only; omega⟩, by simp only; omega⟩
      unfold o108_L0
      refine (cond_pos (dt hlt)).trans ((grd_pos (dt (by rw [w8 (by omega)]; omega))).trans ((grd_pos (dt (by simp [putB_len]; omega))).trans ((grd_pos (dt (by simp only; omega))).trans ?_)))
      rw [w8 (by omega), byte_u64 x k (by omega)]
    · refine .inr ⟨putB x k, ?_, by rw [show k = n.toNat by omega]⟩
      unfold o108_L0
      exact cond_neg (df hlt)) fuelN ([], 0) ⟨by simp [putB_zero], by simpa using h0⟩ (by simp only [fuelN]; omega)
  unfold o108
  rw [h2]
  rfl
theorem o98_eq {p : List UInt8} {size : Int} (h0 : 0 ≤ size) (h1 : size ≤ 8) (hl : size ≤ (p.length : Int)) : o98 p size = some (getI p size.toNat) := by
  obtain ⟨r, h2, rfl⟩ := loopO_ok (f := o98_L0 p size) (fun s => s.1 = getK p s.2 ∧ (s.2 : Int) ≤ size) (fun s => size.toNat - s.2) (fun r => r = getK p size.toNat) (fun s hI => by
    obtain ⟨x, k⟩ := s
    obtain ⟨hl2, hk⟩ := hI
    simp only at hl2 hk
    subst hl2
    by_cases hlt : (k : Int) < size
    · refine .inl ⟨(getK p (k + 1), k + 1), ?_, ⟨rfl, by simp only; omega⟩, by simp only; omega⟩
      unfold o98_L0
      refine (cond_pos (dt hlt)).trans ((grd_pos (dt (by simp only; omega))).trans ((grd_pos (dt (by rw [w8 (by omega)]; omega))).trans ((grd_pos (dt (by simp only; omega))).trans ?_)))
      rw [w8 (by omega)]
      rfl
    · refine .inr ⟨getK p k, ?_, by rw [show k = size.toNat by omega]⟩
      unfold o98_L0
      exact cond_neg (df hlt)) fuelN (0, 0) ⟨rfl, by simpa using h0⟩ (by simp only [fuelN]; omega)
  unfold o98
  rw [h2, getK_eq p _ (by omega)]
  rfl
theorem o99_eq {p : List UInt8} (h1 : p.length ≤ 8) : o99 p = some (getI p p.length) := by
  obtain ⟨r, h2, rfl⟩ := loopO_ok (f := o99_L0 p) (fun s => s.1 = getK p s.2 ∧ s.2 ≤ p.length) (fun s => p.length - s.2) (fun r => r = getK p p.length) (fun s hI => by
    obtain ⟨x, k⟩ := s
    obtain ⟨hl2, hk⟩ := hI
    simp only at hl2 hk
    subst hl2
    by_cases hlt : (k : Int) < (p.length : Int)
    · refine .inl ⟨(getK p (k + 1), k + 1), ?_, ⟨rfl, by simp only; omega⟩, by simp only; omega⟩
      unfold o99_L0
      refine (cond_pos (dt hlt)).trans ((grd_pos (dt (by rw [w8 (by omega)]; omega))).trans ((grd_pos (dt (by simp only; omega))).trans ?_))
      rw [w8 (by omega)]
      rfl
    · refine .inr ⟨getK p k, ?_, by rw [show k = p.length by omega]⟩
      unfold o99_L0
      exact cond_neg (df hlt)) fuelN (0, 0) ⟨rfl, by simp⟩ (by simp only [fuelN]; omega)
  unfold o99
  rw [h2, getK_eq p _ (by omega)]
  rfl
theorem natL_take (p : List UInt8) : ∀ (k m : Nat), k ≤ m → natL (p.take m) k = natL p k
  | 0, m, _ => rfl
  | k + 1, m, h => by
    rw [natL, natL, natL_take p k m (by omega)]
    congr 2
    rw [List.getD_eq_getElem?_getD, List.getD_eq_getElem?_getD, List.getElem?_take, if_pos (by omega)]
theorem getI_take (p : List UInt8) (m : Nat) : getI (p.take m) m = getI p m := by unfold getI; rw [natL_take p m m (Nat.le_refl _)]
def badHello (h : Heard) : Bool := ((((decide (h.role < 1) || decide (h.role > 3)) || decide (h.steps < 0)) || decide (h.want.base < 0)) || decide (h.want.have_ < 0)) || decide (h.want.have_ > 65535)
def putHello (h : Heard) : List UInt8 × Int := cond (badHello h) ([], 1) (cond (decide (((h.input.length : Nat) : Int) > 400)) ([], 3) ([u8 h.role] ++ putB h.steps 8 ++ putB h.want.base 8 ++ putB h.want.have_ 2 ++ h.input, 0))
theorem o82_eq (h : Heard) : o82 h = some (putHello h) := by
  unfold o82 putHello
  cases hb : badHello h with
  | true => unfold badHello at hb; rw [hb]; rfl
  | false =>
    have hb' := hb
    unfold badHello at hb
    rw [hb]
    simp only [badHello, Bool.or_eq_false_iff, decide_eq_false_iff_not] at hb'
    by_cases hl : ((h.input.length : Nat) : Int) > 400
    · rw [dt hl]; rfl
    · rw [df hl]
      simp only [cond_false]
      rw [grd_pos (dt (by omega)), o111_eq (by decide) (by decide) (by simp), bindO_some rfl, o111_eq (by decide) (by decide) (by simp [putB_len]), bindO_some rfl, o111_eq (by decide) (by decide) (by simp [putB_len]), bindO_some rfl, grd_pos (dt (by simp [putB_len]; omega))]
      rfl
theorem o84_eq (h : Heard) : o84 h = some (putHello h) := by
  unfold o84 putHello
  cases hb : badHello h with
  | true => unfold badHello at hb; rw [hb]; rfl
  | false =>
    have hb' := hb
    unfold badHello at hb
    rw [hb]
    simp only [badHello, Bool.or_eq_false_iff, decide_eq_false_iff_not] at hb'
    by_cases hl : ((h.input.length : Nat) : Int) > 400
    · rw [dt hl]; rfl
    · rw [df hl]
      simp only [cond_false]
      rw [grd_pos (dt (by omega)), o108_eq (by decide) (by decide), bindO_some rfl, grd_pos (dt (by simp [putB_len])), o108_eq (by decide) (by decide), bindO_some rfl, grd_pos (dt (by simp [putB_len])), o108_eq (by decide) (by decide), bindO_some rfl, grd_pos (dt (by simp [putB_len])), grd_pos (dt (by simp [putB_len]; omega))]
      rfl
def noHeard : Heard := ⟨0, 0, ⟨0, 0⟩, []⟩
def getHello (p : List UInt8) : Heard × Int :=
  cond (((((decide (((p.length : Nat) : Int) < 19) || decide (((p.length : Nat) : Int) > 419)) || decide (((p.getD 0 0).toNat : Int) < 1)) || decide (((p.getD 0 0).toNat : Int) > 3)) || decide (getI (p.drop 1) 8 < 0)) || decide (getI (p.drop 9) 8 < 0)) (noHeard, 4)
    (⟨((p.getD 0 0).toNat : Int), getI (p.drop 1) 8, ⟨getI (p.drop 9) 8, getI (p.drop 17) 2⟩, p.drop 19⟩, 0)
theorem o86_eq (p : List UInt8) : o86 p = some (getHello p) := by
  unfold o86 getHello
  by_cases h1 : ((p.length : Nat) : Int) < 19
  · rw [dt h1]; rfl
  by_cases h2 : ((p.length : Nat) : Int) > 419
  · rw [df h1, dt h2]; rfl
  rw [df h1, df h2]
  simp only [Bool.or_self, cond_false, Bool.false_or]
  rw [o98_eq (by decide) (by decide) (by simp; omega), bindO_some rfl, o98_eq (by decide) (by decide) (by simp; omega), bindO_some rfl, o98_eq (by decide) (by decide) (by simp; omega), bindO_some rfl]
  simp only [letJ, o43]
  rw [o82_eq, bindO_some rfl]
  have hs : getI (p.drop 17) (2 : Int).toNat = (natL (p.drop 17) 2 : Int) := getI_small _ _ (by decide)
  have hs2 := natL_lt (p.drop 17) 2
  have hb : badHello ⟨((p.getD 0 0).toNat : Int), getI (p.drop 1) (8 : Int).toNat, ⟨getI (p.drop 9) (8 : Int).toNat, getI (p.drop 17) (2 : Int).toNat⟩, p.drop 19⟩ = ((((decide (((p.getD 0 0).toNat : Int) < 1)) || decide (((p.getD 0 0).toNat : Int) > 3)) || decide (getI (p.drop 1) 8 < 0)) || decide (getI (p.drop 9) 8 < 0)) := by
    unfold badHello
    simp only
    rw [hs, df (by omega : ¬ ((natL (p.drop 17) 2 : Nat) : Int) < 0), df (by omega : ¬ ((natL (p.drop 17) 2 : Nat) : Int) > 65535), Bool.or_false, Bool.or_false]
    rfl
  unfold putHello
  rw [hb, df (by simp; omega : ¬ (((p.drop 19).length : Nat) : Int) > 400)]
  cases ((((decide (((p.getD 0 0).toNat : Int) < 1)) || decide (((p.getD 0 0).toNat : Int) > 3)) || decide (getI (p.drop 1) 8 < 0)) || decide (getI (p.drop 9) 8 < 0)) <;> rfl
theorem cut8 (p : List UInt8) (a : Nat) (h : a + 8 ≤ p.length) : o99 (List.take ((a + 8) - a) (List.drop a p)) = some (getI (p.drop a) 8) := by
  have hl : (List.take ((a + 8) - a) (List.drop a p)).length = 8 := by simp; omega
  rw [o99_eq (by omega), hl, show a + 8 - a = 8 by omega, getI_take]
theorem o91_eq (p : List UInt8) : o91 p = some (getHello p) := by
  unfold o91 getHello
  by_cases h1 : ((p.length : Nat) : Int) < 19
  · rw [dt h1]; rfl
  by_cases h2 : ((p.length : Nat) : Int) > 419
  · rw [df h1, dt h2]; rfl
  rw [df h1, df h2]
  simp only [Bool.or_self, cond_false, Bool.false_or]
  have e1 := cut8 p 1 (by omega)
  have e9 := cut8 p 9 (by omega)
  have e17 : o99 (List.take (19 - 17) (List.drop 17 p)) = some (getI (p.drop 17) 2) := by
    have hl : (List.take (19 - 17) (List.drop 17 p)).length = 2 := by simp; omega
    rw [o99_eq (by omega), hl, show 19 - 17 = 2 by omega, getI_take]
  simp only [Nat.reduceAdd] at e1 e9
  cases hb : (decide (((p.getD 0 0).toNat : Int) < 1) || decide (((p.getD 0 0).toNat : Int) > 3)) with
  | true => rfl
  | false =>
    simp only [cond_false, Bool.false_or]
    rw [e1, bindO_some rfl, bindO_some rfl]
    by_cases h3 : getI (p.drop 1) 8 < 0
    · rw [dt h3]; rfl
    rw [df h3]
    simp only [cond_false, Bool.false_or]
    rw [grd_pos (dt (by omega)), e9, bindO_some rfl, bindO_some rfl]
    by_cases h4 : getI (p.drop 9) 8 < 0
    · rw [dt h4]; rfl
    rw [df h4]
    simp only [cond_false]
    rw [grd_pos (dt (by omega)), grd_pos (dt (by omega)), bindO_some rfl, e17, bindO_some rfl, grd_pos (dt (by omega)), grd_pos (dt (by omega)), grd_pos (dt (by omega)), bindO_some rfl]
end Go.Proofs.YtnidomdebhekiaaGreat
