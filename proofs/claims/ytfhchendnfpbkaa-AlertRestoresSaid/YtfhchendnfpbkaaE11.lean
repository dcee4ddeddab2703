/-
The engine, part 11: == and != on structures. Conditions: each lemma's own.
-/
import Derived.Test.YtfhchendnfpbkaaE10
import Derived.Laws.StructEq
namespace Go.Proofs.Ytfhchendnfpbkaa
set_option linter.unusedVariables false
set_option linter.unusedSimpArgs false
open Go.RowKit
section
variable {P : Program} {n : Nat} {p : Psi} {own : Own} {sl : Sl} {ty : TypeId}
end
end Go.Proofs.Ytfhchendnfpbkaa
