/-
The sort of seat 55 is the generic one. Conditions: none.
-/
import Derived.Test.YtfhchendnfpbkaaQ1
import Derived.Test.YtfhchendnfpbkaaA4
namespace Go.Proofs.Ytfhchendnfpbkaa
set_option linter.unusedVariables false
open Go.RowKit
def cmpB (cp : Board) : Cmp := fun i j => o42 i j cp
theorem L0_g (ih : (List Int) → Int → Int → Int → Board → Option (List Int)) (cp : Board) : o59f42_L0 ih cp = gPdq_L0 (fun l a b k _ => ih l a b k cp) (cmpB cp) := Eq.trans rfl rfl
theorem L0_h (ih : (List Int) → Int → Int → Int → Cmp → Option (List Int)) (c : Cmp) : gPdq_L0 (fun l a b k _ => ih l a b k c) c = gPdq_L0 ih c := Eq.trans rfl rfl
theorem pdq_g (cp : Board) : ∀ (n : Nat) (l : List Int) (a b k : Int), o59f42 n l a b k cp = gPdq n l a b k (cmpB cp)
  | 0, l, a, b, k => rfl
  | n + 1, l, a, b, k => by
    have ih : (fun l a b k (_ : Cmp) => o59f42 n l a b k cp) = (fun l a b k (_ : Cmp) => gPdq n l a b k (cmpB cp)) := by
      funext l a b k _
      exact pdq_g cp n l a b k
    show o59f42_B (o59f42 n) l a b k cp = gPdq_B (gPdq n) l a b k (cmpB cp)
    unfold o59f42_B gPdq_B
    rw [L0_g, ih, L0_h]
theorem sort_g (l : List Int) (cp : Board) : o41f42 l cp = gSort l (cmpB cp) := by
  unfold o41f42 gSort
  rw [show o60 = gLen from rfl]
  generalize fuelN = N
  simp only [pdq_g]
end Go.Proofs.Ytfhchendnfpbkaa
