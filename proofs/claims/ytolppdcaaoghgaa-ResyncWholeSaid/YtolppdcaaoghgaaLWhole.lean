/-
ResyncWhole returns true for every input. Conditions: none.
-/
import Derived.Test.YtolppdcaaoghgaaC9
namespace Go.Proofs.Ytolppdcaaoghgaa
set_option linter.unusedVariables false
set_option linter.unusedSimpArgs false
set_option maxRecDepth 100000
open Go.RowKit Go.WideShapes Go.ChangeShapes Go.ChangeAt
theorem resyncWhole_lifted (os : Os) (started : os.Started) (H : Type) (enc : TypeId × Value → H) :
    ReturnsInHanded {} Try.checked os 9 .any (Rows.resyncWholeSpec.pre6 enc Try.prog Try.f9 Rows.resyncWholeRow.domain false) (Rows.resyncWholeSpec.post enc Try.prog Try.f9 false true false false) := by
  refine returnsInHanded_of_change_sized (C := Try.checked) Try.own started (by kernel_rfl) Try.func9
    (ChangeSpec.witness6 (enc := enc) (C := Try.checked) false ⟨#[], #[.int .i64 (0), .slice none 0 0, .slice none 0 0], []⟩ 8 (by kernel_rfl) (by kernel_rfl) (by kernel_rfl) (by kernel_rfl)) ?_
  intro W base args ds gs before hval0 hW hcnd hsz0 _
  have hval : ∀ (j : Nat) t v, Try.f9.params[j]? = some t → args[j]? = some v → Value.okWide Try.prog W .any base t v := hval0
  have hW' := hW
  obtain ⟨p, q, hA0, hV, rfl, hfz, hnd⟩ := hW
  have hA : DataW.TrodAll enc Try.prog W 0 (fun _ => true) true Try.f9.params.toList args.toList ds p := hA0
  have hA1 := hA
  rw [Try.params9] at hA hval
  obtain ⟨v0, vs0, d0, ds0, p0, q0, hargs, rfl, rfl, h0, r0⟩ := trodAll_cons hA
  obtain ⟨v1, vs1, d1, ds1, p1, q1, rfl, rfl, rfl, h1, r1⟩ := trodAll_cons r0
  obtain ⟨v2, vs2, d2, ds2, p2, q2, rfl, rfl, rfl, h2, r2⟩ := trodAll_cons r1
  obtain ⟨rfl, rfl, rfl⟩ := trodAll_nil r2
  obtain rfl : args = #[v0, v1, v2] := by cases args; simp_all
  obtain ⟨rfl, rfl⟩ := trodVars_none hV
  have hsz : ∀ m ∈ DataW.weightsEach Try.prog [2, 22, 22] [d0, d1, d2], m ≤ reachBytes := fun m hm => by
    have h9 : (DataW.weightsEach Try.prog (Try.f9.params.toList ++ []) ([d0, d1, d2] ++ [])).all (· ≤ reachBytes) = true := hsz0
    rw [Try.params9, List.append_nil, List.append_nil] at h9
    have := List.all_eq_true.1 h9 m hm
    simpa using this
  obtain ⟨base, rfl, rfl, rfl, w0⟩ := open_int Try.underlying2 (hval 0 2 v0 rfl rfl) h0
  have k0 := lit_wf w0
  obtain ⟨B1, n1, e1, rfl⟩ := okWide_slice Try.underlying22 (hval 1 22 v1 rfl rfl)
  obtain ⟨f1, g1⟩ := h1
  obtain ⟨p, ⟨Ap, cp, z1, fp⟩, k1⟩ := (opens_slice (opens_u8 Try.underlying5) Try.underlying22 (by kernel_rfl) (by kernel_rfl)) g1 (fun m hm => hsz m (DataW.weights_mem_each (j := 1) rfl rfl m hm))
  obtain ⟨rfl, rfl, rfl⟩ : B1 = Ap ∧ n1 = p.length ∧ e1 = cp := by simpa [Value.cells] using z1
  obtain ⟨B2, n2, e2, rfl⟩ := okWide_slice Try.underlying22 (hval 2 22 v2 rfl rfl)
  obtain ⟨f2, g2⟩ := h2
  obtain ⟨in_, ⟨Ain_, cin_, z2, fin_⟩, k2⟩ := (opens_slice (opens_u8 Try.underlying5) Try.underlying22 (by kernel_rfl) (by kernel_rfl)) g2 (fun m hm => hsz m (DataW.weights_mem_each (j := 2) rfl rfl m hm))
  obtain ⟨rfl, rfl, rfl⟩ : B2 = Ain_ ∧ n2 = in_.length ∧ e2 = cin_ := by simpa [Value.cells] using z2
  simp only [List.append_nil] at hW' hA1
  refine (law_of_ctr (c9 (gh0 W) base p B1 e1 in_ B2 e2 fp fin_)).mono fun e W' ⟨he, hg⟩ => ?_
  subst he
  exact ⟨_, rfl, law_post Try.laidOut (by intro t ht; simp only [Try.params9] at ht; revert t; decide +kernel) rfl rfl Try.underlying4 rfl hW' hA1 hg⟩
theorem resyncWhole_holds : Rows.ResyncWholeSaid :=
  OpenClaim.holds_of_wide 9 Try.f9 rfl rfl rfl rfl rfl rfl rfl ⟨rfl, rfl, rfl, rfl, rfl⟩ rfl rfl rfl rfl rfl (by kernel_rfl) Try.func9 (by kernel_rfl)
    (of_decide_eq_true (by kernel_rfl)) (by unfold Func.isWrapper; first | (rw [if_pos (by decide +kernel)]; kernel_rfl) | (rw [if_neg (by decide +kernel)]; exact ⟨rfl, rfl⟩))
    (fun os started H enc _ => resyncWhole_lifted os started H enc)
#print axioms resyncWhole_holds
end Go.Proofs.Ytolppdcaaoghgaa
