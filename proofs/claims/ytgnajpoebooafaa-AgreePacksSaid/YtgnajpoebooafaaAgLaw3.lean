/-
AgreePacks returns true for every input. Conditions: none.
-/
import Derived.Test.YtgnajpoebooafaaFrame
import Derived.Test.YtgnajpoebooafaaAgL3
namespace Go.Proofs.Ytgnajpoebooafaa
set_option linter.unusedVariables false
set_option linter.unusedSimpArgs false
set_option maxRecDepth 100000
open Go.RowKit Go.WideShapes Go.ChangeShapes Go.ChangeAt
theorem agreePacks_lifted (os : Os) (started : os.Started) (H : Type) (enc : TypeId × Value → H) :
    ReturnsInHanded {} Try.checked os 3 .any (Rows.agreePacksSpec.pre6 enc Try.prog Try.f3 Rows.agreePacksRow.domain false) (Rows.agreePacksSpec.post enc Try.prog Try.f3 false true false false) := by
  refine returnsInHanded_of_change (C := Try.checked) Try.own started (by kernel_rfl) Try.func3
    (ChangeSpec.witness6 (enc := enc) (C := Try.checked) false ⟨#[], #[.slice none 0 0, .slice none 0 0, .int .u8 0], []⟩ 8 (by kernel_rfl) (by kernel_rfl) (by kernel_rfl) (by kernel_rfl)) ?_
  intro W base args ds gs before hval0 hW hcnd _
  have hval : ∀ (j : Nat) t v, Try.f3.params[j]? = some t → args[j]? = some v → Value.okWide Try.prog W .any base t v := hval0
  have hW' := hW
  obtain ⟨p, q, hA0, hV, rfl, hfz, hnd⟩ := hW
  have hA : DataW.TrodAll enc Try.prog W 0 (fun _ => true) true Try.f3.params.toList args.toList ds p := hA0
  have hA1 := hA
  rw [Try.params3] at hA hval
  obtain ⟨v0, vs0, d0, ds0, p0, q0, hargs, rfl, rfl, h0, r0⟩ := trodAll_cons hA
  obtain ⟨v1, vs1, d1, ds1, p1, q1, rfl, rfl, rfl, h1, r1⟩ := trodAll_cons r0
  obtain ⟨v2, vs2, d2, ds2, p2, q2, rfl, rfl, rfl, h2, r2⟩ := trodAll_cons r1
  obtain ⟨rfl, rfl, rfl⟩ := trodAll_nil r2
  obtain rfl : args = #[v0, v1, v2] := by cases args; simp_all
  obtain ⟨rfl, rfl⟩ := trodVars_none hV
  obtain ⟨A0, n0, c0, rfl⟩ := okWide_slice Try.underlying22 (hval 0 22 v0 rfl rfl)
  obtain ⟨f0, g0⟩ := h0
  obtain ⟨a0A, a0n, a0c, a0s, e0, q0_0⟩ := open_bytes Try.underlying22 Try.underlying5 (by kernel_rfl) g0
  obtain ⟨rfl, rfl, rfl⟩ : A0 = a0A ∧ n0 = a0n ∧ c0 = a0c := by simpa [Value.cells] using e0
  obtain ⟨A1, n1, c1, rfl⟩ := okWide_slice Try.underlying22 (hval 1 22 v1 rfl rfl)
  obtain ⟨f1, g1⟩ := h1
  obtain ⟨a1A, a1n, a1c, a1s, e1, q1_0⟩ := open_bytes Try.underlying22 Try.underlying5 (by kernel_rfl) g1
  obtain ⟨rfl, rfl, rfl⟩ : A1 = a1A ∧ n1 = a1n ∧ c1 = a1c := by simpa [Value.cells] using e1
  obtain ⟨a2, rfl, rfl, rfl, w2⟩ := open_int Try.underlying5 (hval 2 5 v2 rfl rfl) h2
  have q2_0 : U8 a2 := bounds_u8 w2
  simp only [List.append_nil] at hW' hA1
  refine (packs_walk A0 n0 c0 a0s A1 n1 c1 a1s a2 W q0_0 q1_0 q2_0).mono fun e W' ⟨he, hg⟩ => ?_
  subst he
  exact ⟨_, rfl, law_post Try.laidOut (by intro t ht; simp only [Try.params3] at ht; revert t; decide +kernel) rfl rfl Try.underlying4 rfl hW' hA1 hg⟩
theorem agreePacks_holds : Rows.AgreePacksSaid :=
  OpenClaim.holds_of_wide 3 Try.f3 rfl rfl rfl rfl rfl rfl rfl ⟨rfl, rfl, rfl, rfl, rfl⟩ rfl rfl rfl rfl rfl (by kernel_rfl) Try.func3 (by kernel_rfl)
    (of_decide_eq_true (by kernel_rfl)) (by unfold Func.isWrapper; first | (rw [if_pos (by decide +kernel)]; kernel_rfl) | (rw [if_neg (by decide +kernel)]; exact ⟨rfl, rfl⟩))
    (fun os started H enc _ => agreePacks_lifted os started H enc)
#print axioms agreePacks_holds
end Go.Proofs.Ytgnajpoebooafaa
