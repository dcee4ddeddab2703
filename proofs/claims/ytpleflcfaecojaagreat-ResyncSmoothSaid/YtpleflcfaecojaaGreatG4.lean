/-
The second engine, part 4: operations that need a fact, calls, returns; each with its operands read off the code. Conditions: each lemma's own.
-/
import Derived.Test.YtpleflcfaecojaaGreatG3
import Derived.LoopN
namespace Go.Proofs.YtpleflcfaecojaaGreat
set_option linter.unusedVariables false
set_option linter.unusedSimpArgs false
open Go.RowKit
section
variable {P : Program} {n : Nat} {p : Psi} {own : Own} {sl : Sl} {ty : TypeId} {op : Op}
def bnd (o : Option Int) (d : Nat) (l : Nat) : Prop := match o with | none => d = l | some z => z = (l : Int)
end
section
variable {P : Program} {n : Nat} {g : Gh} {own : Own} {sl : Sl} {ty : TypeId} {op : Op} {p : Psi} {α : Type} {T : Ty α}
def Row (p : Psi) (T : Ty α) (et : TypeId) (b : Nat) (N : Nat) (k : Option Bk) (xs : List α) : Prop := ∃ cs, k = some ⟨b, et, cs⟩ ∧ Reps T p cs xs ∧ xs.length = N
theorem Row.mono {et : TypeId} {b N : Nat} {k : Option Bk} {xs : List α} {q : Psi} (h : Row p T et b N k xs) (hl : p.le q) : Row q T et b N k xs := by
  obtain ⟨cs, h1, h2, h3⟩ := h
  exact ⟨cs, h1, h2.mono hl, h3⟩
theorem Row.open_ {et : TypeId} {b N : Nat} {k : Option Bk} {xs : List α} (h : Row p T et b N k xs) {i : Nat} (hi : i < N) (d : α) : ∃ kb cs, b = kb.g ∧ k = some kb ∧ i < xs.length ∧ T.rep p cs (xs.getD i d) ∧ (kb.cs.drop (i * T.n)).take T.n = cs := by
  obtain ⟨cs, h1, h2, h3⟩ := h
  have hx : xs[i]? = some (xs.getD i d) := by rw [List.getD_eq_getElem?_getD, List.getElem?_eq_getElem (by omega)]; rfl
  exact ⟨_, _, rfl, h1, by omega, h2.at_ hx, rfl⟩
end
section
variable {P : Program} {Q : Exit → Act → World → Prop} {n : Nat} {g g0 : Gh} {own : Own} {sl : Sl} {C : Code} {pth : List Nat}
end
section
variable {P : Program} {Q : Exit → Act → World → Prop} {n : Nat} {g : Gh} {own : Own} {sl : Sl} {C c : Code} {p : List Nat}
end
section
variable {n : Nat} {g : Gh} {own : Own} {sl : Sl} {p : Psi} {α : Type} {T : Ty α}
end
section
variable {P : Program} {n : Nat} {p : Psi} {own : Own} {sl : Sl} {ty : TypeId} {op : Op}
end
end Go.Proofs.YtpleflcfaecojaaGreat
