/-
The second engine, part 5: what the printing program asks for besides. Conditions: each lemma's own.
-/
import Derived.Test.YtpleflcfaecojaaGreatG4
namespace Go.Proofs.YtpleflcfaecojaaGreat
set_option linter.unusedVariables false
set_option linter.unusedSimpArgs false
open Go.RowKit
section
variable {P : Program} {n : Nat} {p : Psi} {g : Gh} {own : Own} {sl : Sl} {ty : TypeId} {op : Op} {α : Type} {T : Ty α}
end
section
variable {P : Program} {ops : Array Oper} {Q : Exit → Act → World → Prop} {n : Nat} {g : Gh} {own : Own} {sl : Sl} {lds fin : List Nat} {p : Psi} {K : Own}
end
theorem wr_u32 {x : Int} (h : 0 ≤ x ∧ x ≤ 4294967295) : IntKind.u32.wrap x = x := IntWalk.u32_in x h
section
variable {P : Program} {n : Nat} {p : Psi} {own : Own} {sl : Sl} {ty : TypeId} {op : Op}
theorem run_pnil {w : World} (d : Nat) {t e : TypeId} {A : Option Addr} (ht : P.underlying t = some (.pointer e)) : (Op.equalIn (d + 1) t (.pointer A) (.pointer none)).run P w = .ok A.isNone w := by
  cases A <;> simp [Op.equalIn, run_underlying ht]
end
theorem loopO_go {σ ρ : Type} {f : σ → Option (Ctl σ ρ)} {s s' : σ} {N : Nat} (h : f s = some (.go s')) : loopO (N + 1) f s = loopO N f s' := by
  show joinO (f s) (loopO N f) = _
  rw [h]; rfl
theorem loopO_done {σ ρ : Type} {f : σ → Option (Ctl σ ρ)} {s : σ} {r : ρ} {N : Nat} (h : f s = some (.done r)) : loopO (N + 1) f s = some r := by
  show joinO (f s) (loopO N f) = _
  rw [h]; rfl
end Go.Proofs.YtpleflcfaecojaaGreat
