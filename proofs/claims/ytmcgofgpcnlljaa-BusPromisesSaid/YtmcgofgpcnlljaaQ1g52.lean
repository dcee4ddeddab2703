/-
The sort of seat 52 is the generic one. Conditions: none.
-/
import Derived.Test.YtmcgofgpcnlljaaQ1
import Derived.Test.YtmcgofgpcnlljaaK11x0
namespace Go.Proofs.Ytmcgofgpcnlljaa
set_option linter.unusedVariables false
open Go.RowKit
def cmpM (cp : List Msg) : Cmp := fun i j => o39 i j cp
theorem ins_g (l : List Int) (a b : Int) (cp : List Msg) : o58f39 l a b cp = gIns l a b (cmpM cp) := Eq.trans rfl rfl
theorem heap_g (l : List Int) (a b : Int) (cp : List Msg) : o59f39 l a b cp = gHeap l a b (cmpM cp) := Eq.trans rfl rfl
theorem break_g (l : List Int) (a b : Int) (cp : List Msg) : o60f39 l a b cp = gBreak l a b (cmpM cp) := Eq.trans rfl rfl
theorem pivot_g (l : List Int) (a b : Int) (cp : List Msg) : o61f39 l a b cp = gPivot l a b (cmpM cp) := Eq.trans rfl rfl
theorem rev_g (l : List Int) (a b : Int) (cp : List Msg) : o62f39 l a b cp = gRev l a b (cmpM cp) := Eq.trans rfl rfl
theorem pins_g (l : List Int) (a b : Int) (cp : List Msg) : o63f39 l a b cp = gPins l a b (cmpM cp) := Eq.trans rfl rfl
theorem peq_g (l : List Int) (a b p : Int) (cp : List Msg) : o64f39 l a b p cp = gPEq l a b p (cmpM cp) := Eq.trans rfl rfl
theorem ptn_g (l : List Int) (a b p : Int) (cp : List Msg) : o65f39 l a b p cp = gPtn l a b p (cmpM cp) := Eq.trans rfl rfl
theorem L0_g (ih : (List Int) → Int → Int → Int → (List Msg) → Option (List Int)) (cp : List Msg) : o52f39_L0 ih cp = gPdq_L0 (fun l a b k _ => ih l a b k cp) (cmpM cp) := Eq.trans rfl rfl
theorem L0_h (ih : (List Int) → Int → Int → Int → Cmp → Option (List Int)) (c : Cmp) : gPdq_L0 (fun l a b k _ => ih l a b k c) c = gPdq_L0 ih c := Eq.trans rfl rfl
theorem pdq_g (cp : List Msg) : ∀ (n : Nat) (l : List Int) (a b k : Int), o52f39 n l a b k cp = gPdq n l a b k (cmpM cp)
  | 0, l, a, b, k => rfl
  | n + 1, l, a, b, k => by
    have ih : (fun l a b k (_ : Cmp) => o52f39 n l a b k cp) = (fun l a b k (_ : Cmp) => gPdq n l a b k (cmpM cp)) := by
      funext l a b k _
      exact pdq_g cp n l a b k
    show o52f39_B (o52f39 n) l a b k cp = gPdq_B (gPdq n) l a b k (cmpM cp)
    unfold o52f39_B gPdq_B
    rw [L0_g, ih, L0_h]
theorem sort_g (l : List Int) (cp : List Msg) : o38f39 l cp = gSort l (cmpM cp) := by
  unfold o38f39 gSort
  rw [show o53 = gLen from rfl]
  generalize fuelN = N
  simp only [pdq_g]
end Go.Proofs.Ytmcgofgpcnlljaa
