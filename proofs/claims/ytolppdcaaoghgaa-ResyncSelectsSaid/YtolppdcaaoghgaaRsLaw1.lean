/-
ResyncSelects returns true for every input. Conditions: none.
-/
import Derived.Test.YtolppdcaaoghgaaFrame
import Derived.Test.YtolppdcaaoghgaaRsAwake
namespace Go.Proofs.Ytolppdcaaoghgaa
set_option linter.unusedVariables false
set_option linter.unusedSimpArgs false
set_option maxRecDepth 100000
open Go.RowKit Go.WideShapes Go.ChangeShapes Go.ChangeAt
theorem selects_law (a b : Int) (w : World) :
    Calls Try.prog 5 #[.int .u8 a, .int .u8 b] w fun e w' => e = .returned (.bool true) ∧ Below w.heap.size w w' := by
  go_enter Try.func5, Try.ntmps5
  go_wp2_with (first
    | (go_at_call 10; refine (awake54 _).mono ?_; rintro e w1 ⟨rfl, hb1⟩)
    | (go_at_call 18; refine (select1 _ _ _).mono ?_; rintro e w2 ⟨rfl, hb2⟩)
    | (go_at_call 19; refine (select2 _ _ _).mono ?_; rintro e w3 ⟨rfl, rfl⟩))
  go_ret
  refine ⟨by simp, ?_⟩
  repeat (first | exact Below.refl _ _ | assumption | refine Ba ?_ | refine Bd ?_ | refine Bt ?_ (by assumption))

theorem selects_walk (a b : Int) (W : World) (_ : U8 a) (_ : U8 b) : Calls Try.prog 5 #[.int .u8 a, .int .u8 b] W fun e w' => e = .returned (.bool true) ∧ Below W.heap.size W w' := selects_law a b W
theorem resyncSelects_lifted (os : Os) (started : os.Started) (H : Type) (enc : TypeId × Value → H) :
    ReturnsInHanded {} Try.checked os 5 .any (Rows.resyncSelectsSpec.pre6 enc Try.prog Try.f5 Rows.resyncSelectsRow.domain false) (Rows.resyncSelectsSpec.post enc Try.prog Try.f5 false true false false) := by
  refine returnsInHanded_of_change (C := Try.checked) Try.own started (by kernel_rfl) Try.func5
    (ChangeSpec.witness6 (enc := enc) (C := Try.checked) false ⟨#[], #[.int .u8 0, .int .u8 0], []⟩ 8 (by kernel_rfl) (by kernel_rfl) (by kernel_rfl) (by kernel_rfl)) ?_
  intro W base args ds gs before hval0 hW hcnd _
  have hval : ∀ (j : Nat) t v, Try.f5.params[j]? = some t → args[j]? = some v → Value.okWide Try.prog W .any base t v := hval0
  have hW' := hW
  obtain ⟨p, q, hA0, hV, rfl, hfz, hnd⟩ := hW
  have hA : DataW.TrodAll enc Try.prog W 0 (fun _ => true) true Try.f5.params.toList args.toList ds p := hA0
  have hA1 := hA
  rw [Try.params5] at hA hval
  obtain ⟨v0, vs0, d0, ds0, p0, q0, hargs, rfl, rfl, h0, r0⟩ := trodAll_cons hA
  obtain ⟨v1, vs1, d1, ds1, p1, q1, rfl, rfl, rfl, h1, r1⟩ := trodAll_cons r0
  obtain ⟨rfl, rfl, rfl⟩ := trodAll_nil r1
  obtain rfl : args = #[v0, v1] := by cases args; simp_all
  obtain ⟨rfl, rfl⟩ := trodVars_none hV
  obtain ⟨a0, rfl, rfl, rfl, w0⟩ := open_int Try.underlying5 (hval 0 5 v0 rfl rfl) h0
  have q0_0 : U8 a0 := bounds_u8 w0
  obtain ⟨a1, rfl, rfl, rfl, w1⟩ := open_int Try.underlying5 (hval 1 5 v1 rfl rfl) h1
  have q1_0 : U8 a1 := bounds_u8 w1
  simp only [List.append_nil] at hW' hA1
  refine (selects_walk a0 a1 W q0_0 q1_0).mono fun e W' ⟨he, hg⟩ => ?_
  subst he
  exact ⟨_, rfl, law_post Try.laidOut (by intro t ht; simp only [Try.params5] at ht; revert t; decide +kernel) rfl rfl Try.underlying4 rfl hW' hA1 hg⟩
theorem resyncSelects_holds : Rows.ResyncSelectsSaid :=
  OpenClaim.holds_of_wide 5 Try.f5 rfl rfl rfl rfl rfl rfl rfl ⟨rfl, rfl, rfl, rfl, rfl⟩ rfl rfl rfl rfl rfl (by kernel_rfl) Try.func5 (by kernel_rfl)
    (of_decide_eq_true (by kernel_rfl)) (by unfold Func.isWrapper; first | (rw [if_pos (by decide +kernel)]; kernel_rfl) | (rw [if_neg (by decide +kernel)]; exact ⟨rfl, rfl⟩))
    (fun os started H enc _ => resyncSelects_lifted os started H enc)
#print axioms resyncSelects_holds
end Go.Proofs.Ytolppdcaaoghgaa
