/-
The second engine, part 7: arrays that came in, read element by element. Conditions: each lemma's own.
-/
import Derived.Test.YtpleflcfaecojaaGreatG6
namespace Go.Proofs.YtpleflcfaecojaaGreat
open Go.RowKit
theorem array_fields {H : Type} {enc : TypeId × Value → H} {P : Program} {t e : TypeId} {k : Nat} {w : World} {base : Nat} {spare : Nat → Bool} {held : Bool} {fuel : Nat} {cs : List Value} {d : DataW H} {pl : List MemPlace} (ht : P.underlying t = some (.array k e))
    (h : DataW.trod enc P w base spare held fuel t cs = some (d, pl)) (hw : ∀ m ∈ d.weights P t, m ≤ reachBytes) :
    cs.length = P.cellsOf t ∧ ∀ i, i < k → ∃ n d' pl', DataW.trod enc P w base spare held n e ((cs.drop (i * P.cellsOf e)).take (P.cellsOf e)) = some (d', pl') ∧ ∀ m ∈ d'.weights P e, m ≤ reachBytes := by
  obtain ⟨xs, n, _, hx, hlen, hxl, hf⟩ := DataW.trod_array ht h
  injection hx with hd _
  subst hd
  simp only [DataW.weights, ht] at hw
  refine ⟨hlen, fun i hi => ?_⟩
  have hlt : i < xs.length := by rw [hxl]; exact hi
  refine ⟨n, (xs[i]).1, (xs[i]).2, (hf i hi).trans (List.getElem?_eq_getElem hlt), fun m hm => hw m ?_⟩
  exact weightsAll_mem (List.mem_map.2 ⟨xs[i], List.getElem_mem .., rfl⟩) hm
end Go.Proofs.YtpleflcfaecojaaGreat
