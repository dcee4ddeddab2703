/-
What the package-level variables hold, as a fact about worlds. Conditions: none.
-/
import Derived.Test.YtpleflcfaecojaaGreatG10
import Derived.Test.YtpleflcfaecojaaGreatProg
namespace Go.Proofs.YtpleflcfaecojaaGreat
set_option linter.unusedVariables false
def GW (w : World) : Prop := True
end Go.Proofs.YtpleflcfaecojaaGreat
