/-
AgreeOne returns true for every input. Conditions: none.
-/
import Derived.Test.YtgnajpoebooafaaFrame
import Derived.Test.YtgnajpoebooafaaAgL1
namespace Go.Proofs.Ytgnajpoebooafaa
set_option linter.unusedVariables false
set_option linter.unusedSimpArgs false
set_option maxRecDepth 100000
open Go.RowKit Go.WideShapes Go.ChangeShapes Go.ChangeAt
theorem open_case53 {H : Type} {enc : TypeId × Value → H} {w : World} {base : Nat} {spare : Nat → Bool} {held : Bool} {fuel : Nat} {cs : List Value} {x : DataW H × List MemPlace} (h : DataW.trod enc Try.prog w base spare held fuel 32 cs = some x) :
    ∃ (nu : Int) (al : Int) (ro : Int) (ot : Int) (st : Int) (th : Int) (he : Bool), cs = [.int .i64 nu, .int .i64 al, .int .u8 ro, .int .u8 ot, .int .i64 st, .int .i64 th, .bool he] ∧ I64 nu ∧ I64 al ∧ U8 ro ∧ U8 ot ∧ I64 st ∧ I64 th := by
  obtain ⟨n, hlen, hf⟩ := open_field Try.underlying32 h
  rw [show Try.prog.cellsOf 32 = 7 by kernel_rfl] at hlen
  match cs, hlen with
  | [c0, c1, c2, c3, c4, c5, c6], _ =>
    obtain ⟨y0, h0⟩ := hf 0 _ rfl
    simp [show Try.prog.cellsOf 3 = 1 by kernel_rfl] at h0
    obtain ⟨nu, eh0, -, wfnu⟩ := DataW.trod_int Try.underlying3 h0
    have knu : I64 nu := I64.wf wfnu
    simp only [List.cons.injEq, and_true] at eh0
    obtain rfl := eh0
    obtain ⟨y1, h1⟩ := hf 1 _ rfl
    simp [show Try.prog.cellsOf 3 = 1 by kernel_rfl] at h1
    obtain ⟨al, eh1, -, wfal⟩ := DataW.trod_int Try.underlying3 h1
    have kal : I64 al := I64.wf wfal
    simp only [List.cons.injEq, and_true] at eh1
    obtain rfl := eh1
    obtain ⟨y2, h2⟩ := hf 2 _ rfl
    simp [show Try.prog.cellsOf 5 = 1 by kernel_rfl] at h2
    obtain ⟨ro, eh2, -, wfro⟩ := DataW.trod_int Try.underlying5 h2
    have kro : U8 ro := bounds_u8 wfro
    simp only [List.cons.injEq, and_true] at eh2
    obtain rfl := eh2
    obtain ⟨y3, h3⟩ := hf 3 _ rfl
    simp [show Try.prog.cellsOf 5 = 1 by kernel_rfl] at h3
    obtain ⟨ot, eh3, -, wfot⟩ := DataW.trod_int Try.underlying5 h3
    have kot : U8 ot := bounds_u8 wfot
    simp only [List.cons.injEq, and_true] at eh3
    obtain rfl := eh3
    obtain ⟨y4, h4⟩ := hf 4 _ rfl
    simp [show Try.prog.cellsOf 2 = 1 by kernel_rfl] at h4
    obtain ⟨st, eh4, -, wfst⟩ := DataW.trod_int Try.underlying2 h4
    have kst : I64 st := I64.wf wfst
    simp only [List.cons.injEq, and_true] at eh4
    obtain rfl := eh4
    obtain ⟨y5, h5⟩ := hf 5 _ rfl
    simp [show Try.prog.cellsOf 2 = 1 by kernel_rfl] at h5
    obtain ⟨th, eh5, -, wfth⟩ := DataW.trod_int Try.underlying2 h5
    have kth : I64 th := I64.wf wfth
    simp only [List.cons.injEq, and_true] at eh5
    obtain rfl := eh5
    obtain ⟨y6, h6⟩ := hf 6 _ rfl
    simp [show Try.prog.cellsOf 4 = 1 by kernel_rfl] at h6
    obtain ⟨he, eh6, -⟩ := DataW.trod_bool Try.underlying4 h6
    simp only [List.cons.injEq, and_true] at eh6
    obtain rfl := eh6
    exact ⟨nu, al, ro, ot, st, th, he, rfl, knu, kal, kro, kot, kst, kth⟩
theorem open_case53_v {H : Type} {enc : TypeId × Value → H} {w : World} {base b0 : Nat} {spare : Nat → Bool} {held : Bool} {r : Reach} {v : Value} {d : DataW H} {p : List MemPlace} (hv : Value.okWide Try.prog w r b0 32 v) (h : DataW.Trod enc Try.prog w base spare held 32 v d p) :
    ∃ (nu : Int) (al : Int) (ro : Int) (ot : Int) (st : Int) (th : Int) (he : Bool), v = .agg #[.int .i64 nu, .int .i64 al, .int .u8 ro, .int .u8 ot, .int .i64 st, .int .i64 th, .bool he] ∧ I64 nu ∧ I64 al ∧ U8 ro ∧ U8 ot ∧ I64 st ∧ I64 th := by
  obtain ⟨cs, rfl, _⟩ := okWide_struct Try.underlying32 hv
  obtain ⟨fuel, hf⟩ := h
  obtain ⟨nu, al, ro, ot, st, th, he, e, q0, q1, q2, q3, q4, q5⟩ := open_case53 hf
  exact ⟨nu, al, ro, ot, st, th, he, congrArg Value.agg (by apply Array.toList_inj.1; exact e), q0, q1, q2, q3, q4, q5⟩
theorem one_walk_ (nu al ro ot st th : Int) (he : Bool) (W : World) (_ : I64 nu) (_ : I64 al) (_ : U8 ro) (_ : U8 ot) (_ : I64 st) (_ : I64 th) : Calls Try.prog 5 #[.agg #[.int .i64 nu, .int .i64 al, .int .u8 ro, .int .u8 ot, .int .i64 st, .int .i64 th, .bool he]] W fun e w' => e = .returned (.bool true) ∧ Below W.heap.size W w' := one_walk nu al ro ot st th he W
theorem agreeOne_lifted (os : Os) (started : os.Started) (H : Type) (enc : TypeId × Value → H) :
    ReturnsInHanded {} Try.checked os 5 .any (Rows.agreeOneSpec.pre6 enc Try.prog Try.f5 Rows.agreeOneRow.domain false) (Rows.agreeOneSpec.post enc Try.prog Try.f5 false true false false) := by
  refine returnsInHanded_of_change (C := Try.checked) Try.own started (by kernel_rfl) Try.func5
    (ChangeSpec.witness6 (enc := enc) (C := Try.checked) false ⟨#[], #[.agg #[.int .i64 0, .int .i64 0, .int .u8 0, .int .u8 0, .int .i64 0, .int .i64 0, .bool false]], []⟩ 8 (by kernel_rfl) (by kernel_rfl) (by kernel_rfl) (by kernel_rfl)) ?_
  intro W base args ds gs before hval0 hW hcnd _
  have hval : ∀ (j : Nat) t v, Try.f5.params[j]? = some t → args[j]? = some v → Value.okWide Try.prog W .any base t v := hval0
  have hW' := hW
  obtain ⟨p, q, hA0, hV, rfl, hfz, hnd⟩ := hW
  have hA : DataW.TrodAll enc Try.prog W 0 (fun _ => true) true Try.f5.params.toList args.toList ds p := hA0
  have hA1 := hA
  rw [Try.params5] at hA hval
  obtain ⟨v0, vs0, d0, ds0, p0, q0, hargs, rfl, rfl, h0, r0⟩ := trodAll_cons hA
  obtain ⟨rfl, rfl, rfl⟩ := trodAll_nil r0
  obtain rfl : args = #[v0] := by cases args; simp_all
  obtain ⟨rfl, rfl⟩ := trodVars_none hV
  obtain ⟨a0_nu, a0_al, a0_ro, a0_ot, a0_st, a0_th, a0_he, rfl, q0_0, q0_1, q0_2, q0_3, q0_4, q0_5⟩ := open_case53_v (hval 0 32 v0 rfl rfl) h0
  simp only [List.append_nil] at hW' hA1
  refine (one_walk_ a0_nu a0_al a0_ro a0_ot a0_st a0_th a0_he W q0_0 q0_1 q0_2 q0_3 q0_4 q0_5).mono fun e W' ⟨he, hg⟩ => ?_
  subst he
  exact ⟨_, rfl, law_post Try.laidOut (by intro t ht; simp only [Try.params5] at ht; revert t; decide +kernel) rfl rfl Try.underlying4 rfl hW' hA1 hg⟩
theorem agreeOne_holds : Rows.AgreeOneSaid :=
  OpenClaim.holds_of_wide 5 Try.f5 rfl rfl rfl rfl rfl rfl rfl ⟨rfl, rfl, rfl, rfl, rfl⟩ rfl rfl rfl rfl rfl (by kernel_rfl) Try.func5 (by kernel_rfl)
    (of_decide_eq_true (by kernel_rfl)) (by unfold Func.isWrapper; first | (rw [if_pos (by decide +kernel)]; kernel_rfl) | (rw [if_neg (by decide +kernel)]; exact ⟨rfl, rfl⟩))
    (fun os started H enc _ => agreeOne_lifted os started H enc)
#print axioms agreeOne_holds
end Go.Proofs.Ytgnajpoebooafaa
