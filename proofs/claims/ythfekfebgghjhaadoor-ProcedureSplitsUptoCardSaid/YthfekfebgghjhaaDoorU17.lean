/-
What the bound of the second form gives of a slice. Conditions: each lemma's own.
-/
import Derived.Test.YthfekfebgghjhaaDoorX17
import Derived.Test.YthfekfebgghjhaaDoorG10
import Derived.Deep.DeepHandedRow
namespace Go.Proofs.YthfekfebgghjhaaDoor
set_option linter.unusedVariables false
set_option linter.unusedSimpArgs false
open Go.RowKit Go.WideShapes Go.ChangeShapes Go.Deep
theorem bulk_one {H : Type} (d : DataW H) : 1 ≤ Rows.uptoBulk d := by
  cases d with
  | lit l => cases l <;> simp [Rows.uptoBulk]
  | nil => simp [Rows.uptoBulk]
  | ptr d => simp [Rows.uptoBulk]
  | slice elems spare => simp [Rows.uptoBulk]
  | agg parts => simp [Rows.uptoBulk]
  | iface t d => simp [Rows.uptoBulk]
  | map entries => simp [Rows.uptoBulk]
  | held h => simp [Rows.uptoBulk]
theorem bulk_length {H : Type} (l : List (DataW H)) : l.length ≤ Rows.uptoBulkAll l := by
  induction l with
  | nil => simp [Rows.uptoBulkAll]
  | cons x r ih => have := bulk_one x; simp only [Rows.uptoBulkAll, List.length_cons]; omega
theorem bulk_two {H : Type} {d0 d1 : DataW H} (hk : Rows.uptoSmall H [d0, d1] = true) : Rows.uptoBulk d0 + Rows.uptoBulk d1 ≤ 1048576 := by
  have h := of_decide_eq_true hk
  simp only [Rows.uptoBulkAll, Nat.add_zero] at h
  exact h
theorem bulk_len {H : Type} {enc : TypeId × Value → H} {P : Program} {w : World} {base : Nat} {spare : Nat → Bool} {held : Bool} {fuel : Nat} {t e : TypeId} {A : Option Addr} {n c : Nat} {d : DataW H} {pl : List MemPlace} (ht : P.underlying t = some (.slice e)) (h : DataW.trod enc P w base spare held fuel t [.slice A n c] = some (d, pl)) : n ≤ Rows.uptoBulk d := by
  rcases open_slice ht h with ⟨h1, _⟩ | ⟨a, len, cap, k, n', D, Pl, h1, hbs, hl, hmm, hmk, hx, hi⟩
  · simp only [List.cons.injEq, Value.slice.injEq, and_true] at h1
    omega
  · simp only [List.cons.injEq, Value.slice.injEq, and_true] at h1
    injection hx with hd _
    subst hd
    have := bulk_length ((List.range len).map D)
    simp only [List.length_map, List.length_range] at this
    simp only [Rows.uptoBulk]
    omega
end Go.Proofs.YthfekfebgghjhaaDoor
