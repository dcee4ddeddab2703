/-
The second engine, part 6: a slice of one's own that is converted is marked by the machine, and is handed to the ghost. Conditions: each lemma's own.
-/
import Derived.Test.YtpleflcfaecojaaGreatG5
namespace Go.Proofs.YtpleflcfaecojaaGreat
set_option linter.unusedVariables false
set_option linter.unusedSimpArgs false
open Go.RowKit
section
variable {P : Program} {n : Nat} {g : Gh} {own : Own} {sl : Sl} {ty : TypeId} {op : Op} {α : Type} {T : Ty α}
end
end Go.Proofs.YtpleflcfaecojaaGreat
