/-
What arrives by the reference. Conditions: each lemma's own.
-/
import Derived.Test.YtmcgofgpcnlljaaP52cx6
namespace Go.Proofs.Ytmcgofgpcnlljaa
set_option linter.unusedVariables false
set_option linter.unusedSimpArgs false
open Go.RowKit
theorem o23_eq (p : List UInt8) (f : Fate) (hp : p.length ≤ 1000000000) (hb : -9223372036854775808 ≤ f.bit ∧ f.bit ≤ 9223372036854775807) : o23 p f = some (carC p f) := by
  unfold o23 carC
  cases f.lost with
  | true => rfl
  | false =>
    simp only [cond_false]
    obtain ⟨x, h, rfl⟩ := loopO_ok (f := o23_L0 p f) (fun s => s.1 = carN p f s.2 ∧ s.2 ≤ 32) (fun s => 32 - s.2) (fun r => r = carN p f 32) (by
      rintro ⟨x, k⟩ ⟨h1, h2⟩
      simp only at h1 h2
      subst h1
      by_cases hk : ((k : Nat) : Int) < 32
      · refine .inl ⟨(carN p f (k + 1), k + 1), ?_, ⟨rfl, by simp only; omega⟩, by simp only; omega⟩
        unfold o23_L0
        refine (cond_pos (dt hk)).trans ?_
        simp only
        have w1 : IntKind.i64.wrap (0 - ((k : Nat) : Int)) = 0 - ((k : Nat) : Int) := wr64 (by omega)
        have w2 : IntKind.i64.wrap (8 * ((p.length : Nat) : Int) - ((k : Nat) : Int)) = 8 * ((p.length : Nat) : Int) - ((k : Nat) : Int) := wr64 (by omega)
        rw [w1, w2]
        have d1 : decide (f.bit ≥ 0 - ((k : Nat) : Int)) = decide (f.bit + ((k : Nat) : Int) ≥ 0) := by
          by_cases q : f.bit + ((k : Nat) : Int) ≥ 0
          · rw [dt q, dt (by omega)]
          · rw [df q, df (by omega)]
        have d2 : decide (f.bit < 8 * ((p.length : Nat) : Int) - ((k : Nat) : Int)) = decide (f.bit + ((k : Nat) : Int) < 8 * ((p.length : Nat) : Int)) := by
          by_cases q : f.bit + ((k : Nat) : Int) < 8 * ((p.length : Nat) : Int)
          · rw [dt q, dt (by omega)]
          · rw [df q, df (by omega)]
        rw [d1, d2]
        show bindO (τ := List UInt8) (cond (hitC p.length f k) _ _) _ = _
        cases hh : hitC p.length f k with
        | true =>
          have hi := hit_in hh
          have hlen := carN_len p f k
          have t1 : Int.tdiv (f.bit + ((k : Nat) : Int)) 8 = (f.bit + ((k : Nat) : Int)) / 8 := Int.tdiv_eq_ediv_of_nonneg hi.1
          have t2 : Int.tmod (f.bit + ((k : Nat) : Int)) 8 = (f.bit + ((k : Nat) : Int)) % 8 := Int.tmod_eq_emod_of_nonneg hi.1
          have t3 : IntKind.i64.wrap ((f.bit + ((k : Nat) : Int)) / 8) = (f.bit + ((k : Nat) : Int)) / 8 := wr64 (by omega)
          simp only [cond_true]
          rw [t1, t2, t3, grd_pos (dt (by omega)), grd_pos (dt (by omega)), grd_pos (dt (by omega)), grd_pos (dt (by omega)), bindO_some rfl, grd_pos (dt (by omega))]
          simp only [carN, hh, cond_true]
          rfl
        | false =>
          simp only [cond_false]
          rw [bindO_some rfl, grd_pos (dt (by omega))]
          simp only [carN, hh, cond_false]
      · refine .inr ⟨_, cond_neg (df hk), by rw [show k = 32 by omega]⟩) fuelN (p, 0) ⟨rfl, by simp⟩ (by simp [fuelN])
    rw [h]
    rfl
theorem min_len (p : List UInt8) (k : Nat) : (p.take (minI ((p.length : Nat) : Int) (k : Int)).toNat).length ≤ k := by
  have : minI ((p.length : Nat) : Int) (k : Int) ≤ (k : Int) := by unfold minI; split <;> omega
  rw [List.length_take]; omega
theorem bit_of {f : Fate} (h : okFate f) : -9223372036854775808 ≤ f.bit ∧ f.bit ≤ 9223372036854775807 := by
  obtain ⟨-, ⟨c1, c2⟩, -⟩ := h
  have e3 : IntKind.i64.min = -9223372036854775808 := rfl
  have e4 : IntKind.i64.max = 9223372036854775807 := rfl
  rw [e3] at c1; rw [e4] at c2
  exact ⟨c1, c2⟩
end Go.Proofs.Ytmcgofgpcnlljaa
