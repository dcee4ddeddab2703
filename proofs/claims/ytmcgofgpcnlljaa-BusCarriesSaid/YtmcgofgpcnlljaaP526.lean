/-
BusCarries in plain words. Conditions: each lemma's own.
-/
import Derived.Test.YtmcgofgpcnlljaaP52fx6
namespace Go.Proofs.Ytmcgofgpcnlljaa
set_option linter.unusedVariables false
set_option linter.unusedSimpArgs false
open Go.RowKit
theorem busCarries_plain (p : List UInt8) (f : Fate) (hb : -9223372036854775808 ≤ f.bit ∧ f.bit ≤ 9223372036854775807) : o6 p f = some true := by
  unfold o6
  have hl : (List.take ((minI (((p).length : Nat) : Int) 100)).toNat p).length ≤ 100 := min_len p 100
  rw [o12_true, bindO_some rfl]
  simp only [Bool.not_true, cond_false]
  generalize List.take ((minI (((p).length : Nat) : Int) 100)).toNat p = q at hl ⊢
  rw [o22_eq q f (by omega), bindO_some rfl, o23_eq q f (by omega) hb, bindO_some rfl]
  have hc : (((!((carC q f).1 == (carC q f).1)) || (!((carC q f).2 == (carC q f).2))) || ((carC q f).2 && ((((carC q f).1.length : Nat) : Int) != ((q.length : Nat) : Int)))) = false := by
    unfold carC
    cases f.lost with
    | true => rfl
    | false => simp only [cond_false]; rw [carN_len]; simp
  rw [hc]
  simp only [cond_false]
  have hlen := car_len q f
  obtain ⟨x, h, -⟩ := loopO_ok (f := o6_L0 (carC q f)) (fun s => s.1.length = (carC q f).1.length ∧ s.2 ≤ (carC q f).1.length) (fun s => (carC q f).1.length - s.2) (fun r => True) (by
    rintro ⟨l, k⟩ ⟨h1, h2⟩
    simp only at h1 h2
    by_cases hk : ((k : Nat) : Int) < (((carC q f).1.length : Nat) : Int)
    · refine .inl ⟨(List.set l k (u8 (IntKind.u8.wrap (((List.getD l k 0).toNat : Int) + 1))), k + 1), ?_, ⟨by simp only [List.length_set]; exact h1, by simp only; omega⟩, by simp only; omega⟩
      unfold o6_L0
      refine (cond_pos (dt hk)).trans ?_
      rw [grd_pos (dt (by simp only; omega)), grd_pos (dt (by simp only; omega)), grd_pos (dt (by simp only; omega))]
    · exact .inr ⟨(), cond_neg (df hk), trivial⟩) fuelN ((carC q f).1, 0) ⟨rfl, by simp⟩ (by simp only [fuelN]; omega)
  rw [h, bindO_some rfl]
  simp
end Go.Proofs.Ytmcgofgpcnlljaa
