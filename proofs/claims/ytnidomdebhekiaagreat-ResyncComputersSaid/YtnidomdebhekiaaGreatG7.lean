/-
The second engine, part 7: arrays that came in, read element by element. Conditions: each lemma's own.
-/
import Derived.Test.YtnidomdebhekiaaGreatG6
namespace Go.Proofs.YtnidomdebhekiaaGreat
open Go.RowKit
theorem u8_in (x : Int) : 0 ≤ IntKind.u8.wrap x ∧ IntKind.u8.wrap x ≤ 255 := lit_wf (wf_wrap .u8 x)
theorem okI {p : Prop} (h : p := by first | exact ⟨by omega, by omega⟩ | exact u8_in _) : p := h
end Go.Proofs.YtnidomdebhekiaaGreat
