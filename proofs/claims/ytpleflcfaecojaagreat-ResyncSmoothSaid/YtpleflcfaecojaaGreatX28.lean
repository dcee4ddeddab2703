/-
What is known of a world that came in. Conditions: each lemma's own.
-/
import Derived.Test.YtpleflcfaecojaaGreatD5
namespace Go.Proofs.YtpleflcfaecojaaGreat
set_option linter.unusedVariables false
set_option maxRecDepth 100000
open Go.RowKit
abbrev CdW : Cd := (.p (.i .u64) (.p (.i .u16) (.p (.p (.i .i64) (.p (.i .i64) (.p (.i .i64) (.i .i64)))) (.a (.p (.a .y) (.p (.a .y) (.p (.p .b .b) (.p (.p .b .b) (.p (.p .b .b) (.p (.p (.i .i64) (.i .i64)) (.p (.p (.p .b (.p (.i .i64) (.i .u32))) (.p (.p .b (.p (.i .i64) (.i .u32))) (.p (.p .b (.p (.i .i64) (.i .u32))) (.p .b (.p (.i .i64) (.i .u32)))))) (.p (.p .b (.p (.i .i64) (.i .u32))) (.p (.p .b (.p (.i .i64) (.i .u32))) (.p (.p .b (.p (.i .i64) (.i .u32))) (.p .b (.p (.i .i64) (.i .u32)))))))))))))))))
abbrev WdT : Type := Int × Int × (Int × Int × Int × Int) × List CyT
theorem world_in {p : Psi} {cs : List Value} {x : WdT} (h : CdW.ty.rep p cs x) : (0 ≤ x.1 ∧ x.1 ≤ 18446744073709551615) ∧ (0 ≤ x.2.1 ∧ x.2.1 ≤ 65535) := by
  obtain ⟨c1, c2, e, h1, c3, c4, e2, h2, h3⟩ := h
  exact ⟨⟨h1.2.1, h1.2.2⟩, ⟨h2.2.1, h2.2.2⟩⟩
def woOf (x : WdT) : WoT := ((x.1, x.2.1, x.2.2.1.1), (x.2.2.1.2.1, x.2.2.1.2.2.1), x.2.2.1.2.2.2, x.2.2.2)
end Go.Proofs.YtpleflcfaecojaaGreat
