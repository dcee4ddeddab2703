/-
The second engine, part 8: arrays as rows, told by their elements; more operations on numbers. Conditions: each lemma's own.
-/
import Derived.Test.YtnidomdebhekiaaGreatG7
namespace Go.Proofs.YtnidomdebhekiaaGreat
set_option linter.unusedVariables false
set_option linter.unusedSimpArgs false
open Go.RowKit
theorem i64_in_ (x : Int) : -9223372036854775808 ≤ IntKind.i64.wrap x ∧ IntKind.i64.wrap x ≤ 9223372036854775807 := by rw [IntKind.wrap_i64]; omega
theorem u8_in_ (x : Int) : 0 ≤ IntKind.u8.wrap x ∧ IntKind.u8.wrap x ≤ 255 := lit_wf (wf_wrap .u8 x)
theorem u64_in_ (x : Int) : 0 ≤ IntKind.u64.wrap x ∧ IntKind.u64.wrap x ≤ 18446744073709551615 := lit_wf (wf_wrap .u64 x)
section
variable {P : Program} {n : Nat} {g : Gh} {own : Own} {sl : Sl} {ty : TypeId} {op : Op} {p : Psi} {α : Type} {T : Ty α}
end
section
variable {P : Program} {n : Nat} {own : Own} {sl : Sl} {ty : TypeId} {op : Op} {p : Psi}
end
end Go.Proofs.YtnidomdebhekiaaGreat
