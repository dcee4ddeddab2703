/-
What arrives of bytes, and which frame is received. Conditions: each lemma's own.
-/
import Derived.Test.YtmcgofgpcnlljaaP52b
import Derived.Test.YtmcgofgpcnlljaaK8x0
namespace Go.Proofs.Ytmcgofgpcnlljaa
set_option linter.unusedVariables false
set_option linter.unusedSimpArgs false
open Go.RowKit
def hitC (n : Nat) (f : Fate) (k : Nat) : Bool := ((landK .u32 (shrK .u32 f.pattern ((k : Nat) : Int)) 1 == 1) && decide (f.bit + ((k : Nat) : Int) ≥ 0)) && decide (f.bit + ((k : Nat) : Int) < 8 * ((n : Nat) : Int))
def flipC (f : Fate) (k : Nat) (out : List UInt8) : List UInt8 := List.set out ((f.bit + ((k : Nat) : Int)) / 8).toNat (u8 (lxorK .u8 ((List.getD out ((f.bit + ((k : Nat) : Int)) / 8).toNat 0).toNat : Int) (shlK .u8 1 ((f.bit + ((k : Nat) : Int)) % 8))))
def carN (p : List UInt8) (f : Fate) : Nat → List UInt8
  | 0 => p
  | k + 1 => cond (hitC p.length f k) (flipC f k (carN p f k)) (carN p f k)
theorem carN_len (p : List UInt8) (f : Fate) : ∀ k, (carN p f k).length = p.length
  | 0 => rfl
  | k + 1 => by
    have ih := carN_len p f k
    simp only [carN]
    cases hitC p.length f k with
    | true => simp only [cond_true, flipC, List.length_set]; exact ih
    | false => exact ih
def awayC (p : List UInt8) (f : Fate) : Bool := decide (f.bit < -31) || decide (f.bit ≥ 8 * ((p.length : Nat) : Int))
theorem carN_away (p : List UInt8) (f : Fate) (h : awayC p f = true) : ∀ k, k ≤ 32 → carN p f k = p
  | 0, _ => rfl
  | k + 1, hk => by
    simp only [carN]
    have : hitC p.length f k = false := by
      unfold awayC at h
      unfold hitC
      simp only [Bool.or_eq_true, decide_eq_true_eq] at h
      rcases h with h | h
      · rw [df (by omega : ¬ f.bit + ((k : Nat) : Int) ≥ 0)]; simp
      · rw [df (by omega : ¬ f.bit + ((k : Nat) : Int) < 8 * ((p.length : Nat) : Int))]; simp
    rw [this]
    exact carN_away p f h k (by omega)
def carC (p : List UInt8) (f : Fate) : List UInt8 × Bool := cond f.lost ([], false) (carN p f 32, true)
theorem o47_def (s : List UInt8) : o47 s = s := Eq.trans rfl rfl
theorem hit_in {n : Nat} {f : Fate} {k : Nat} (h : hitC n f k = true) : 0 ≤ f.bit + ((k : Nat) : Int) ∧ f.bit + ((k : Nat) : Int) < 8 * ((n : Nat) : Int) := by
  unfold hitC at h
  simp only [Bool.and_eq_true, decide_eq_true_eq] at h
  omega
theorem o22_eq (p : List UInt8) (f : Fate) (hp : p.length ≤ 1000000000) : o22 p f = some (carC p f) := by
  unfold o22 carC
  cases f.lost with
  | true => rfl
  | false =>
    simp only [cond_false]
    rw [letJ_def, o47_def]
    cases ha : awayC p f with
    | true =>
      have ha' := ha
      unfold awayC at ha'
      rw [ha', carN_away p f ha 32 (by decide)]
      rfl
    | false =>
      have ha' := ha
      unfold awayC at ha'
      rw [ha']
      simp only [Bool.or_eq_false_iff, decide_eq_false_iff_not] at ha'
      simp only [cond_false]
      obtain ⟨x, h, rfl⟩ := loopO_ok (f := o22_L0 p f) (fun s => s.1 = carN p f s.2 ∧ s.2 ≤ 32) (fun s => 32 - s.2) (fun r => r = carN p f 32) (by
        rintro ⟨x, k⟩ ⟨h1, h2⟩
        simp only at h1 h2
        subst h1
        by_cases hk : ((k : Nat) : Int) < 32
        · refine .inl ⟨(carN p f (k + 1), k + 1), ?_, ⟨rfl, by simp only; omega⟩, by simp only; omega⟩
          unfold o22_L0
          refine (cond_pos (dt hk)).trans ?_
          rw [grd_pos (dt (by simp only; omega))]
          simp only
          show bindO (τ := List UInt8) (cond (hitC p.length f k) _ _) _ = _
          cases hh : hitC p.length f k with
          | true =>
            have hi := hit_in hh
            simp only [cond_true]
            have hlen := carN_len p f k
            rw [grd_pos (dt (by omega)), grd_pos (dt (by omega)), bindO_some rfl, grd_pos (dt (by omega))]
            simp only [carN, hh, cond_true]
            rfl
          | false =>
            simp only [cond_false]
            rw [bindO_some rfl, grd_pos (dt (by omega))]
            simp only [carN, hh, cond_false]
        · refine .inr ⟨_, cond_neg (df hk), by rw [show k = 32 by omega]⟩) fuelN (p, 0) ⟨rfl, by simp⟩ (by simp [fuelN])
      rw [h]
      rfl
/-! which frame is received -/
def recC (p : List UInt8) (f : Fate) (label from_ cycle : Int) : Frame × Bool :=
  cond (!(carC p f).2) (noF, false) (cond (((((decC (carC p f).1).2 != 0) || ((decC (carC p f).1).1.label != label)) || ((decC (carC p f).1).1.from_ != from_)) || ((decC (carC p f).1).1.cycle != cycle)) (noF, false) ((decC (carC p f).1).1, true))
theorem car_len (p : List UInt8) (f : Fate) : (carC p f).1.length ≤ p.length := by
  unfold carC
  cases f.lost with
  | true => simp
  | false => simp only [cond_false]; rw [carN_len]; exact Nat.le_refl _
end Go.Proofs.Ytmcgofgpcnlljaa
