/-
The third engine, part 22: from what a law's function is told to do to the law. Conditions: each lemma's own.
-/
import Derived.Test.YtpleflcfaecojaaGreatH21
namespace Go.Proofs.YtpleflcfaecojaaGreat
set_option linter.unusedVariables false
set_option linter.unusedSimpArgs false
open Go.RowKit
theorem slots_of {g : Gh} {ρ : Env} {bl : List BV} : ∀ {l : List SV} {vs : List Value} (i : Nat), All2 (RealS g ρ bl) l vs → ∀ t sv, getH (argH i l) t = some sv → ∃ v, getS (argS i vs) t = some v ∧ RealS g ρ bl sv v
  | [], [], i, _, t, sv, e => by cases e
  | s :: l, v :: vs, i, h, t, sv, e => by
    have e : cond (Nat.beq i t) (some s) (getH (argH (i + 1) l) t) = some sv := e
    show ∃ u, cond (Nat.beq i t) (some v) (getS (argS (i + 1) vs) t) = some u ∧ _
    cases hb : Nat.beq i t with
    | true => rw [hb] at e; injection e with e; subst e; exact ⟨v, rfl, h.1⟩
    | false => rw [hb] at e; exact slots_of (i + 1) h.2 t sv e
  | [], _ :: _, _, h, _, _, _ => h.elim
  | _ :: _, [], _, h, _, _, _ => h.elim
def r0 : List Sch := [⟨[(0, .v (.c .b))], []⟩]
theorem law_of_fok {P : Program} {f : FuncId} {ps : Sch} {run : HT ps.tr → Option Bool} (h : FOk P f ⟨ps, r0, run⟩) {t : HT ps.tr} (hr : run t = some true) (l : List SV) (hc : conT ps t = some ⟨argH 0 l, []⟩) {W : World} (hW : GI (psiOf W)) {vs : List Value}
    (hv : All2 (RealS (gh0 W) (fun _ => (none, 0)) []) l vs) (hl : vs.length = ps.sl.length) : Calls P f vs.toArray W fun e w' => e = .returned (.bool true) ∧ Below W.heap.size W w' := by
  have hR : Rl (gh0 W) (fun _ => (none, 0)) ⟨argH 0 l, []⟩ [] (argS 0 vs) := ⟨rfl, fun i bv k e => (by cases e), fun t sv e => slots_of 0 hv t sv e, hW⟩
  refine law_of_ctr (P := P) (f := f) (args := vs) ((h t true _ hr hc (gh0 W) _ [] vs hR hl).mono fun v ψ o hle ⟨str, ρ', h1, h2, h3, h4⟩ => ?_)
  have e : altC r0 true = some ⟨[(0, vC (.bool true))], []⟩ := rfl
  have h1 : altC r0 true = some str := h1
  rw [e] at h1
  injection h1 with h1; subst h1
  obtain ⟨u, h5, h6⟩ := h3.slot 0 _ rfl
  injection h5 with h5
  have h6 : u = .bool true := h6
  have hlen : o.length = 0 := h3.len
  exact ⟨List.length_eq_zero_iff.1 hlen, by rw [h5, h6]⟩
section
variable {P : Program} {t : TypeId}
theorem opIR {k : IntKind} (ht : P.underlying t = some (.int k)) : Opens P t (tyIR k) (fun _ => True) := fun h hw => by
  obtain ⟨x, h1, h2⟩ := opens_int ht h hw
  exact ⟨x, ⟨h1, h2⟩, trivial⟩
theorem opBR (ht : P.underlying t = some .bool) : Opens P t tyB (fun _ => True) := opens_bool ht
end
end Go.Proofs.YtpleflcfaecojaaGreat
