/-
What package-level variables give: nothing is asked. Conditions: none.
-/
import Derived.Test.YtpleflcfaecojaaGreatH22
namespace Go.Proofs.YtpleflcfaecojaaGreat
theorem gi_of (W : World) : GI (psiOf W) := fun _ _ => trivial
end Go.Proofs.YtpleflcfaecojaaGreat
