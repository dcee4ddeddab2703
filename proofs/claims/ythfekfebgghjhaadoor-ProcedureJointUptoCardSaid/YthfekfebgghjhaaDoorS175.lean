/-
ProcedureJoint in plain words. Conditions: each lemma's own.
-/
import Derived.Test.YthfekfebgghjhaaDoorS17fx5
import Derived.Test.YthfekfebgghjhaaDoorK5x0
namespace Go.Proofs.YthfekfebgghjhaaDoor
set_option linter.unusedVariables false
set_option linter.unusedSimpArgs false
open Go.RowKit
theorem procedureJoint_plain {a b : List Leg} (h : a.length + b.length ≤ 1048576) : o5 a b = some true := by
  have hl := W17.jn_len a b
  unfold o5
  rw [o12_true, bindO_some rfl, cond_true, W17.o21_is (by omega), bindO_some rfl, o22_is (by omega), bindO_some rfl, o20_same (by omega), bindO_some rfl, bindO_some rfl]
end Go.Proofs.YthfekfebgghjhaaDoor
