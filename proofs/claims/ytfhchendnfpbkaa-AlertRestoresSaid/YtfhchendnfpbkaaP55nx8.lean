/-
The texts of the alerts that are shown. Conditions: each lemma's own.
-/
import Derived.Test.YtfhchendnfpbkaaR55
import Derived.Test.YtfhchendnfpbkaaK8x2
namespace Go.Proofs.Ytfhchendnfpbkaa
set_option linter.unusedVariables false
set_option linter.unusedSimpArgs false
open Go.RowKit
def nameOf (b : Board) (i : Int) : List UInt8 := (b.defs.getD i.toNat default).name
theorem o20_is {b : Board} {r : List Int} (h : o19 b = some r) (hl : r.length ≤ 18) (hr : ∀ q, q < r.length → ∃ i : Nat, i < b.defs.length ∧ shn b i = true ∧ r.getD q 0 = ((i : Nat) : Int)) : o20 b = some (r.map (nameOf b)) := by
  unfold o20
  rw [h, bindO_some rfl]
  obtain ⟨v, hv, rfl⟩ := loopO_ok (f := o20_L0 b r) (fun s => s.2 ≤ r.length ∧ s.1 = (r.take s.2).map (nameOf b)) (fun s => r.length - s.2) (fun v => v = r.map (nameOf b)) (by
    rintro ⟨x, k⟩ ⟨hk, hx⟩
    simp only at hk hx
    unfold o20_L0
    obtain ⟨M, hM⟩ : ∃ M : Int, M = 9223372036854775807 := ⟨_, rfl⟩
    rw [← hM]
    simp only
    by_cases hlt : k < r.length
    · obtain ⟨i, h1, h2, h3⟩ := hr k hlt
      have hxl : x.length = k := by rw [hx, List.length_map, List.length_take]; omega
      rw [dt (by omega), cond_true, grd_at' (by omega), grd_at' (by simp only [List.length_cons, List.length_nil]; omega), grd_at' (by omega)]
      refine .inl ⟨_, rfl, ⟨by simp only; omega, ?_⟩, by simp only; omega⟩
      simp only
      have e : r[k]? = some (r.getD k 0) := by rw [List.getD_eq_getElem?_getD, List.getElem?_eq_getElem hlt]; rfl
      rw [hx, List.take_add_one, List.map_append, e]
      rfl
    · obtain rfl : k = r.length := by omega
      exact .inr ⟨_, cond_neg (df (by omega)), by rw [hx, List.take_length]⟩) fuelN ([], 0) ⟨Nat.zero_le _, rfl⟩ (by simp only [fuelN]; omega)
  rw [hv, bindO_some rfl]
end Go.Proofs.Ytfhchendnfpbkaa
