/-
AgreeNodes answers true for what is in the types. Conditions: each lemma's own.
-/
import Derived.Test.YtgnajpoebooafaaP53g
namespace Go.Proofs.Ytgnajpoebooafaa
open Go.RowKit
theorem okT_of {t : Targets} (h : okTargets t) : okT t := by
  obtain ⟨⟨a1, a2⟩, ⟨b1, b2⟩, ⟨c1, c2⟩, -⟩ := h
  have e1 : IntKind.u8.min = 0 := rfl
  have e2 : IntKind.u8.max = 255 := rfl
  rw [e1] at a1 b1 c1; rw [e2] at a2 b2 c2
  exact ⟨⟨a1, a2⟩, ⟨b1, b2⟩, ⟨c1, c2⟩⟩
theorem agreeNodes_yes {p : Psi} {A : Option Addr} {c : Nat} {number : Int} {calls : List CallT} (h : Arr p tyCallT A c calls) (hk : ∀ x ∈ calls, okCallT x) : o11 number calls = some true :=
  agreeNodes_plain number calls (by have := h.len; omega) (fun x hx => okT_of (hk x hx).2.2.2.2.2.2.2.1)
end Go.Proofs.Ytgnajpoebooafaa
