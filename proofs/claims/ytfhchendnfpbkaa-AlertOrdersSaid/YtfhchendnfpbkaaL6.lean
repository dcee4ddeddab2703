/-
AlertOrders returns true for every input. Conditions: none.
-/
import Derived.Test.YtfhchendnfpbkaaP556
import Derived.Test.YtfhchendnfpbkaaG8
namespace Go.Proofs.Ytfhchendnfpbkaa
set_option linter.unusedVariables false
set_option linter.unusedSimpArgs false
set_option maxRecDepth 100000
open Go.RowKit Go.WideShapes Go.ChangeShapes Go.ChangeAt
theorem op39 : Opens Try.prog 39 tyAct okAct := by
  intro H enc w base spare held fuel cs d pl h hw
  obtain ⟨hlen, hf⟩ := struct_fields Try.underlying39 h hw
  rw [show Try.prog.cellsOf 39 = 4 by kernel_rfl] at hlen
  match cs, hlen with
  | [c0, c1, c2, c3], _ =>
    obtain ⟨n0, d0, p0, h0, w0⟩ := hf 0 _ rfl
    simp [show Try.prog.cellsOf 5 = 1 by kernel_rfl] at h0
    obtain ⟨x0, r0, k0⟩ := (opens_int Try.underlying5) h0 w0
    have e0 : [c0] = [vy x0] := r0
    obtain ⟨n1, d1, p1, h1, w1⟩ := hf 1 _ rfl
    simp [show Try.prog.cellsOf 32 = 1 by kernel_rfl] at h1
    obtain ⟨x1, r1, k1⟩ := (opens_int Try.underlying32) h1 w1
    have e1 : [c1] = [Value.int .u16 x1] := r1
    obtain ⟨n2, d2, p2, h2, w2⟩ := hf 2 _ rfl
    simp [show Try.prog.cellsOf 5 = 1 by kernel_rfl] at h2
    obtain ⟨x2, r2, k2⟩ := (opens_int Try.underlying5) h2 w2
    have e2 : [c2] = [vy x2] := r2
    obtain ⟨n3, d3, p3, h3, w3⟩ := hf 3 _ rfl
    simp [show Try.prog.cellsOf 3 = 1 by kernel_rfl] at h3
    obtain ⟨x3, r3, k3⟩ := (opens_int Try.underlying3) h3 w3
    have e3 : [c3] = [vi x3] := r3
    exact ⟨⟨x0, x1, x2, x3⟩, (show _ = _ from (by rw [show ([c0, c1, c2, c3] : List Value) = [c0] ++ ([c1] ++ ([c2] ++ ([c3]))) from rfl, e0, e1, e2, e3]; rfl)), k0, k1, k2, k3, trivial⟩
theorem alertOrders_lifted (os : Os) (started : os.Started) (H : Type) (enc : TypeId × Value → H) :
    ReturnsInHanded {} Try.checked os 6 .any (Rows.alertOrdersSpec.pre6 enc Try.prog Try.f6 Rows.alertOrdersRow.domain false) (Rows.alertOrdersSpec.post enc Try.prog Try.f6 false true false false) := by
  refine returnsInHanded_of_change_sized (C := Try.checked) Try.own started (by kernel_rfl) Try.func6
    (ChangeSpec.witness6 (enc := enc) (C := Try.checked) false ⟨#[], #[.slice none 0 0], []⟩ 8 (by kernel_rfl) (by kernel_rfl) (by kernel_rfl) (by kernel_rfl)) ?_
  intro W base args ds gs before hval0 hW hcnd hsz0 _
  have hval : ∀ (j : Nat) t v, Try.f6.params[j]? = some t → args[j]? = some v → Value.okWide Try.prog W .any base t v := hval0
  have hW' := hW
  obtain ⟨p, q, hA0, hV, rfl, hfz, hnd⟩ := hW
  have hA : DataW.TrodAll enc Try.prog W 0 (fun _ => true) true Try.f6.params.toList args.toList ds p := hA0
  have hA1 := hA
  rw [Try.params6] at hA hval
  obtain ⟨v0, vs0, d0, ds0, p0, q0, hargs, rfl, rfl, h0, r0⟩ := trodAll_cons hA
  obtain ⟨rfl, rfl, rfl⟩ := trodAll_nil r0
  obtain rfl : args = #[v0] := by cases args; simp_all
  obtain ⟨rfl, rfl⟩ := trodVars_none hV
  have hsz : ∀ m ∈ DataW.weightsEach Try.prog [36] [d0], m ≤ reachBytes := fun m hm => by
    have h9 : (DataW.weightsEach Try.prog (Try.f6.params.toList ++ []) ([d0] ++ [])).all (· ≤ reachBytes) = true := hsz0
    rw [Try.params6, List.append_nil, List.append_nil] at h9
    have := List.all_eq_true.1 h9 m hm
    simpa using this
  obtain ⟨B0, n0, e0, rfl⟩ := okWide_slice Try.underlying36 (hval 0 36 v0 rfl rfl)
  obtain ⟨f0, g0⟩ := h0
  obtain ⟨acts, ⟨Aacts, cacts, z0, facts⟩, k0⟩ := (opens_slice op39 Try.underlying36 (by kernel_rfl) (by kernel_rfl)) g0 (fun m hm => hsz m (DataW.weights_mem_each (j := 0) rfl rfl m hm))
  obtain ⟨rfl, rfl, rfl⟩ : B0 = Aacts ∧ n0 = acts.length ∧ e0 = cacts := by simpa [Value.cells] using z0
  simp only [List.append_nil] at hW' hA1
  refine (law_of_ctr' (c6 (gh0 W) acts B0 e0 facts (alertOrders_plain acts (okA_of k0)))).mono fun e W' ⟨he, hg⟩ => ?_
  subst he
  exact ⟨_, rfl, law_post Try.laidOut (by intro t ht; simp only [Try.params6] at ht; revert t; decide +kernel) rfl rfl Try.underlying4 rfl hW' hA1 hg⟩
theorem alertOrders_holds : Rows.AlertOrdersSaid :=
  OpenClaim.holds_of_wide 6 Try.f6 rfl rfl rfl rfl rfl rfl rfl ⟨rfl, rfl, rfl, rfl, rfl⟩ rfl rfl rfl rfl rfl (by kernel_rfl) Try.func6 (by kernel_rfl)
    (of_decide_eq_true (by kernel_rfl)) (by unfold Func.isWrapper; first | (rw [if_pos (by decide +kernel)]; kernel_rfl) | (rw [if_neg (by decide +kernel)]; exact ⟨rfl, rfl⟩))
    (fun os started H enc _ => alertOrders_lifted os started H enc)
#print axioms alertOrders_holds
end Go.Proofs.Ytfhchendnfpbkaa
