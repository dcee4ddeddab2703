/-
The second engine, part 1: results that may fail to be told (Option), joins and loops of such results; a place in a function's code; operations taken many at a time. Conditions: each lemma's own.
-/
import Derived.Test.YtpleflcfaecojaaGreatE11
namespace Go.Proofs.YtpleflcfaecojaaGreat
set_option linter.unusedVariables false
set_option linter.unusedSimpArgs false
open Go.RowKit
abbrev vy (x : Int) : Value := .int .u8 x
abbrev vb (b : Bool) : Value := .bool b
abbrev vs {α : Type} (A : Option Addr) (xs : List α) (c : Nat) : Value := .slice A xs.length c
inductive Ctl (σ ρ : Type) where
  | go (s : σ)
  | done (r : ρ)
def grd {ρ : Type} (b : Bool) (x : Option ρ) : Option ρ := cond b x none
def bindO {τ ρ : Type} (x : Option τ) (k : τ → Option ρ) : Option ρ := match x with | some t => k t | none => none
def joinO {τ ρ : Type} (x : Option (Ctl τ ρ)) (k : τ → Option ρ) : Option ρ := match x with | some (.go t) => k t | some (.done r) => some r | none => none
def loopO {σ ρ : Type} (n : Nat) (f : σ → Option (Ctl σ ρ)) (s : σ) : Option ρ := Nat.rec (motive := fun _ => σ → Option ρ) (fun _ => none) (fun _ ih s => joinO (f s) ih) n s
def fuelN : Nat := 18446744073709551616
theorem grd_T {ρ : Type} {b : Bool} {A : Option ρ} {r : ρ} (hS : grd b A = some r) : b = true ∧ A = some r := by
  cases b with
  | true => exact ⟨rfl, hS⟩
  | false => cases hS
theorem bindO_T {τ ρ : Type} {x : Option τ} {k : τ → Option ρ} {r : ρ} (hS : bindO x k = some r) : ∃ t, x = some t ∧ k t = some r := by
  cases x with
  | none => cases hS
  | some t => exact ⟨t, rfl, hS⟩
theorem joinO_T {τ ρ : Type} {x : Option (Ctl τ ρ)} {k : τ → Option ρ} {r : ρ} (hS : joinO x k = some r) : ∃ c, x = some c ∧ (∀ t, c = .go t → k t = some r) ∧ ∀ v, c = .done v → v = r := by
  cases x with
  | none => cases hS
  | some c =>
    refine ⟨c, rfl, fun t e => ?_, fun v e => ?_⟩
    · subst e; exact hS
    · subst e; exact Option.some.inj hS
theorem loopO_T {σ ρ : Type} {n : Nat} {f : σ → Option (Ctl σ ρ)} {s : σ} {r : ρ} (hS : loopO n f s = some r) : ∃ m c, n = m + 1 ∧ f s = some c ∧ (∀ t, c = .go t → loopO m f t = some r) ∧ ∀ v, c = .done v → v = r := by
  cases n with
  | zero => cases hS
  | succ m =>
    obtain ⟨c, h1, h2, h3⟩ := joinO_T (x := f s) (k := loopO m f) hS
    exact ⟨m, c, rfl, h1, h2, h3⟩
section
variable {P : Program} {Q : Exit → Act → World → Prop} {n : Nat} {g : Gh} {own : Own} {sl : Sl} {C : Code} {p : List Nat}
end
end Go.Proofs.YtpleflcfaecojaaGreat
