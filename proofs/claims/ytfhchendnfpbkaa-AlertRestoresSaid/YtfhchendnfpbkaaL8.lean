/-
AlertRestores returns true for every input. Conditions: none.
-/
import Derived.Test.YtfhchendnfpbkaaP558
import Derived.Test.YtfhchendnfpbkaaG8
namespace Go.Proofs.Ytfhchendnfpbkaa
set_option linter.unusedVariables false
set_option linter.unusedSimpArgs false
set_option maxRecDepth 100000
open Go.RowKit Go.WideShapes Go.ChangeShapes Go.ChangeAt
theorem op34 : Opens Try.prog 34 tyAlertDef okAlertDef := by
  intro H enc w base spare held fuel cs d pl h hw
  obtain ⟨hlen, hf⟩ := struct_fields Try.underlying34 h hw
  rw [show Try.prog.cellsOf 34 = 3 by kernel_rfl] at hlen
  match cs, hlen with
  | [c0, c1, c2], _ =>
    obtain ⟨n0, d0, p0, h0, w0⟩ := hf 0 _ rfl
    simp [show Try.prog.cellsOf 9 = 1 by kernel_rfl] at h0
    obtain ⟨x0, r0, k0⟩ := (opens_str Try.underlying9) h0 w0
    have e0 : [c0] = [vt x0] := r0
    obtain ⟨n1, d1, p1, h1, w1⟩ := hf 1 _ rfl
    simp [show Try.prog.cellsOf 5 = 1 by kernel_rfl] at h1
    obtain ⟨x1, r1, k1⟩ := (opens_int Try.underlying5) h1 w1
    have e1 : [c1] = [vy x1] := r1
    obtain ⟨n2, d2, p2, h2, w2⟩ := hf 2 _ rfl
    simp [show Try.prog.cellsOf 32 = 1 by kernel_rfl] at h2
    obtain ⟨x2, r2, k2⟩ := (opens_int Try.underlying32) h2 w2
    have e2 : [c2] = [Value.int .u16 x2] := r2
    exact ⟨⟨x0, x1, x2⟩, (show _ = _ from (by rw [show ([c0, c1, c2] : List Value) = [c0] ++ ([c1] ++ ([c2])) from rfl, e0, e1, e2]; rfl)), k0, k1, k2, trivial⟩
theorem alertRestores_lifted (os : Os) (started : os.Started) (H : Type) (enc : TypeId × Value → H) :
    ReturnsInHanded {} Try.checked os 8 .any (Rows.alertRestoresSpec.pre6 enc Try.prog Try.f8 Rows.alertRestoresRow.domain false) (Rows.alertRestoresSpec.post enc Try.prog Try.f8 false true false false) := by
  refine returnsInHanded_of_change_sized (C := Try.checked) Try.own started (by kernel_rfl) Try.func8
    (ChangeSpec.witness6 (enc := enc) (C := Try.checked) false ⟨#[], #[.slice none 0 0, .slice none 0 0], []⟩ 8 (by kernel_rfl) (by kernel_rfl) (by kernel_rfl) (by kernel_rfl)) ?_
  intro W base args ds gs before hval0 hW hcnd hsz0 _
  have hval : ∀ (j : Nat) t v, Try.f8.params[j]? = some t → args[j]? = some v → Value.okWide Try.prog W .any base t v := hval0
  have hW' := hW
  obtain ⟨p, q, hA0, hV, rfl, hfz, hnd⟩ := hW
  have hA : DataW.TrodAll enc Try.prog W 0 (fun _ => true) true Try.f8.params.toList args.toList ds p := hA0
  have hA1 := hA
  rw [Try.params8] at hA hval
  obtain ⟨v0, vs0, d0, ds0, p0, q0, hargs, rfl, rfl, h0, r0⟩ := trodAll_cons hA
  obtain ⟨v1, vs1, d1, ds1, p1, q1, rfl, rfl, rfl, h1, r1⟩ := trodAll_cons r0
  obtain ⟨rfl, rfl, rfl⟩ := trodAll_nil r1
  obtain rfl : args = #[v0, v1] := by cases args; simp_all
  obtain ⟨rfl, rfl⟩ := trodVars_none hV
  have hsz : ∀ m ∈ DataW.weightsEach Try.prog [22, 49] [d0, d1], m ≤ reachBytes := fun m hm => by
    have h9 : (DataW.weightsEach Try.prog (Try.f8.params.toList ++ []) ([d0, d1] ++ [])).all (· ≤ reachBytes) = true := hsz0
    rw [Try.params8, List.append_nil, List.append_nil] at h9
    have := List.all_eq_true.1 h9 m hm
    simpa using this
  obtain ⟨B0, n0, e0, rfl⟩ := okWide_slice Try.underlying22 (hval 0 22 v0 rfl rfl)
  obtain ⟨f0, g0⟩ := h0
  obtain ⟨l, ⟨Al, cl, z0, fl⟩, k0⟩ := (opens_slice op34 Try.underlying22 (by kernel_rfl) (by kernel_rfl)) g0 (fun m hm => hsz m (DataW.weights_mem_each (j := 0) rfl rfl m hm))
  obtain ⟨rfl, rfl, rfl⟩ : B0 = Al ∧ n0 = l.length ∧ e0 = cl := by simpa [Value.cells] using z0
  obtain ⟨B1, n1, e1, rfl⟩ := okWide_slice Try.underlying49 (hval 1 49 v1 rfl rfl)
  obtain ⟨f1, g1⟩ := h1
  obtain ⟨p, ⟨Ap, cp, z1, fp⟩, k1⟩ := (opens_slice (opens_u8 Try.underlying5) Try.underlying49 (by kernel_rfl) (by kernel_rfl)) g1 (fun m hm => hsz m (DataW.weights_mem_each (j := 1) rfl rfl m hm))
  obtain ⟨rfl, rfl, rfl⟩ : B1 = Ap ∧ n1 = p.length ∧ e1 = cp := by simpa [Value.cells] using z1
  simp only [List.append_nil] at hW' hA1
  refine (law_of_ctr' (c8 (gh0 W) l B0 e0 p B1 e1 fl fp (alertRestores_plain l p))).mono fun e W' ⟨he, hg⟩ => ?_
  subst he
  exact ⟨_, rfl, law_post Try.laidOut (by intro t ht; simp only [Try.params8] at ht; revert t; decide +kernel) rfl rfl Try.underlying4 rfl hW' hA1 hg⟩
theorem alertRestores_holds : Rows.AlertRestoresSaid :=
  OpenClaim.holds_of_wide 8 Try.f8 rfl rfl rfl rfl rfl rfl rfl ⟨rfl, rfl, rfl, rfl, rfl⟩ rfl rfl rfl rfl rfl (by kernel_rfl) Try.func8 (by kernel_rfl)
    (of_decide_eq_true (by kernel_rfl)) (by unfold Func.isWrapper; first | (rw [if_pos (by decide +kernel)]; kernel_rfl) | (rw [if_neg (by decide +kernel)]; exact ⟨rfl, rfl⟩))
    (fun os started H enc _ => alertRestores_lifted os started H enc)
end Go.Proofs.Ytfhchendnfpbkaa
