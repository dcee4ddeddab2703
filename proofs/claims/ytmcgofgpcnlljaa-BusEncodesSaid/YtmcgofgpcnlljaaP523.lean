/-
BusEncodes in plain words. Conditions: each lemma's own.
-/
import Derived.Test.YtmcgofgpcnlljaaP52e
namespace Go.Proofs.Ytmcgofgpcnlljaa
set_option linter.unusedVariables false
set_option linter.unusedSimpArgs false
open Go.RowKit
theorem busEncodes_plain (f : Frame) (n : Int) (hf : okF f) : o3 f n = some true := by
  unfold o3
  rw [o12_true, bindO_some rfl]
  simp only [Bool.not_true, cond_false]
  rw [letJ_def]
  have e13 : o13 f = { f with payload := (List.take ((minI (((f.payload).length : Nat) : Int) 1010)).toNat f.payload) } := Eq.trans rfl rfl
  rw [e13, letJ_def]
  generalize (cond (Int.tmod n 16 == 0) (List.replicate ((999 + ((IntKind.u16.wrap (Int.tdiv n 16)) % 3))).toNat (0 : UInt8) : List UInt8) (List.take ((minI (((f.payload).length : Nat) : Int) 1010)).toNat f.payload)) = w
  obtain ⟨F, hF⟩ : ∃ F : Frame, F = { f with payload := w } := ⟨_, rfl⟩
  have ok : okF F := by subst hF; exact hf
  have hw : F.payload = w := by subst hF; rfl
  show (bindO (τ := (List UInt8) × Int) (o14 { f with payload := w }) fun y12 => (bindO (τ := (List UInt8) × Int) (o15 { f with payload := w }) fun y15 => (cond (((!(y12.1 == y15.1)) || (y12.2 != y15.2))) (some ((false))) (cond ((y12.2 != 0)) (some ((decide ((((w).length : Nat) : Int) > 1000)))) (bindO (τ := Frame × Int) (o16 (y12.1 : List UInt8)) fun y21 => (letJ (τ := Bool) (cond ((y21.2 == 0)) (letJ (τ := Bool) (o17 y21.1 { f with payload := w }) fun y29 => y29) (false)) fun t25 => (some ((t25))))))))) = some true
  rw [← hF, o14_eq F ok, bindO_some rfl, o15_eq F ok, bindO_some rfl]
  have same : ((!((encC F).1 == (encC F).1)) || ((encC F).2 != (encC F).2)) = false := by simp
  rw [same]
  simp only [cond_false]
  unfold encC
  rw [hw]
  by_cases h : ((w.length : Nat) : Int) > 1000
  · rw [dt h]; rfl
  · rw [df h]
    simp only [cond_false, show ((0 : Int) != 0) = false from rfl]
    rw [o16_eq _ (by rw [seal_len, body_len, hw]; omega), bindO_some rfl, dec_enc F ok (by rw [hw]; omega)]
    simp only [show ((0 : Int) == 0) = true from rfl, cond_true]
    rw [letJ_def, letJ_def]
    unfold o17
    rw [same_frame]
theorem okF_of {f : Frame} (h : okFrame f) : okF f := by
  obtain ⟨⟨a1, a2⟩, ⟨b1, b2⟩, ⟨c1, c2⟩, -⟩ := h
  have e1 : IntKind.u8.min = 0 := rfl
  have e2 : IntKind.u8.max = 255 := rfl
  have e3 : IntKind.i64.min = -9223372036854775808 := rfl
  have e4 : IntKind.i64.max = 9223372036854775807 := rfl
  rw [e1] at a1 b1; rw [e2] at a2 b2; rw [e3] at c1; rw [e4] at c2
  exact ⟨⟨a1, a2⟩, ⟨b1, b2⟩, ⟨c1, c2⟩⟩
end Go.Proofs.Ytmcgofgpcnlljaa
