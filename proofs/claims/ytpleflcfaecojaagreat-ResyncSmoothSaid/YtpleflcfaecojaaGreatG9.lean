/-
The second engine, part 9: parts of strings, their order, functions of the library that the model tells by itself. Conditions: each lemma's own.
-/
import Derived.Test.YtpleflcfaecojaaGreatG8
import Derived.Lib.Bytealg
namespace Go.Proofs.YtpleflcfaecojaaGreat
set_option linter.unusedVariables false
set_option linter.unusedSimpArgs false
open Go.RowKit
section
variable {P : Program} {n : Nat} {own : Own} {sl : Sl} {ty : TypeId} {op : Op} {p : Psi}
end
end Go.Proofs.YtpleflcfaecojaaGreat
