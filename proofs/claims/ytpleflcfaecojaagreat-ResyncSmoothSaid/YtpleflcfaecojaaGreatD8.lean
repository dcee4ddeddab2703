/-
ResyncSmooth for a world that came in. Conditions: the world came in.
-/
import Derived.Test.YtpleflcfaecojaaGreatD7
import Derived.Test.YtpleflcfaecojaaGreatX28
namespace Go.Proofs.YtpleflcfaecojaaGreat
set_option linter.unusedVariables false
set_option maxRecDepth 100000
open Go.RowKit
theorem smooth_law {p : Psi} {cs : List Value} {x : WdT} (h : CdW.ty.rep p cs x) : o6 (woOf x) = some true := smooth_plain (x := woOf x) (world_in h).2
end Go.Proofs.YtpleflcfaecojaaGreat
