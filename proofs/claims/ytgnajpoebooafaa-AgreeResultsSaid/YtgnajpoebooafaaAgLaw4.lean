/-
AgreeResults returns true for every input. Conditions: none.
-/
import Derived.Test.YtgnajpoebooafaaFrame
import Derived.Test.YtgnajpoebooafaaAgL4
namespace Go.Proofs.Ytgnajpoebooafaa
set_option linter.unusedVariables false
set_option linter.unusedSimpArgs false
set_option maxRecDepth 100000
open Go.RowKit Go.WideShapes Go.ChangeShapes Go.ChangeAt
theorem open_targets {H : Type} {enc : TypeId × Value → H} {w : World} {base : Nat} {spare : Nat → Bool} {held : Bool} {fuel : Nat} {cs : List Value} {x : DataW H × List MemPlace} (h : DataW.trod enc Try.prog w base spare held fuel 36 cs = some x) :
    ∃ (la : Int) (ve : Int) (ph : Int) (ba : Int) (sp : Int) (al : Int) (vs : Int), cs = [.int .u8 la, .int .u8 ve, .int .u8 ph, .int .i64 ba, .int .i64 sp, .int .i64 al, .int .i64 vs] ∧ U8 la ∧ U8 ve ∧ U8 ph ∧ I64 ba ∧ I64 sp ∧ I64 al ∧ I64 vs := by
  obtain ⟨n, hlen, hf⟩ := open_field Try.underlying36 h
  rw [show Try.prog.cellsOf 36 = 7 by kernel_rfl] at hlen
  match cs, hlen with
  | [c0, c1, c2, c3, c4, c5, c6], _ =>
    obtain ⟨y0, h0⟩ := hf 0 _ rfl
    simp [show Try.prog.cellsOf 5 = 1 by kernel_rfl] at h0
    obtain ⟨la, eh0, -, wfla⟩ := DataW.trod_int Try.underlying5 h0
    have kla : U8 la := bounds_u8 wfla
    simp only [List.cons.injEq, and_true] at eh0
    obtain rfl := eh0
    obtain ⟨y1, h1⟩ := hf 1 _ rfl
    simp [show Try.prog.cellsOf 5 = 1 by kernel_rfl] at h1
    obtain ⟨ve, eh1, -, wfve⟩ := DataW.trod_int Try.underlying5 h1
    have kve : U8 ve := bounds_u8 wfve
    simp only [List.cons.injEq, and_true] at eh1
    obtain rfl := eh1
    obtain ⟨y2, h2⟩ := hf 2 _ rfl
    simp [show Try.prog.cellsOf 5 = 1 by kernel_rfl] at h2
    obtain ⟨ph, eh2, -, wfph⟩ := DataW.trod_int Try.underlying5 h2
    have kph : U8 ph := bounds_u8 wfph
    simp only [List.cons.injEq, and_true] at eh2
    obtain rfl := eh2
    obtain ⟨y3, h3⟩ := hf 3 _ rfl
    simp [show Try.prog.cellsOf 2 = 1 by kernel_rfl] at h3
    obtain ⟨ba, eh3, -, wfba⟩ := DataW.trod_int Try.underlying2 h3
    have kba : I64 ba := I64.wf wfba
    simp only [List.cons.injEq, and_true] at eh3
    obtain rfl := eh3
    obtain ⟨y4, h4⟩ := hf 4 _ rfl
    simp [show Try.prog.cellsOf 2 = 1 by kernel_rfl] at h4
    obtain ⟨sp, eh4, -, wfsp⟩ := DataW.trod_int Try.underlying2 h4
    have ksp : I64 sp := I64.wf wfsp
    simp only [List.cons.injEq, and_true] at eh4
    obtain rfl := eh4
    obtain ⟨y5, h5⟩ := hf 5 _ rfl
    simp [show Try.prog.cellsOf 2 = 1 by kernel_rfl] at h5
    obtain ⟨al, eh5, -, wfal⟩ := DataW.trod_int Try.underlying2 h5
    have kal : I64 al := I64.wf wfal
    simp only [List.cons.injEq, and_true] at eh5
    obtain rfl := eh5
    obtain ⟨y6, h6⟩ := hf 6 _ rfl
    simp [show Try.prog.cellsOf 2 = 1 by kernel_rfl] at h6
    obtain ⟨vs, eh6, -, wfvs⟩ := DataW.trod_int Try.underlying2 h6
    have kvs : I64 vs := I64.wf wfvs
    simp only [List.cons.injEq, and_true] at eh6
    obtain rfl := eh6
    exact ⟨la, ve, ph, ba, sp, al, vs, rfl, kla, kve, kph, kba, ksp, kal, kvs⟩
theorem open_targets_v {H : Type} {enc : TypeId × Value → H} {w : World} {base b0 : Nat} {spare : Nat → Bool} {held : Bool} {r : Reach} {v : Value} {d : DataW H} {p : List MemPlace} (hv : Value.okWide Try.prog w r b0 36 v) (h : DataW.Trod enc Try.prog w base spare held 36 v d p) :
    ∃ (la : Int) (ve : Int) (ph : Int) (ba : Int) (sp : Int) (al : Int) (vs : Int), v = .agg #[.int .u8 la, .int .u8 ve, .int .u8 ph, .int .i64 ba, .int .i64 sp, .int .i64 al, .int .i64 vs] ∧ U8 la ∧ U8 ve ∧ U8 ph ∧ I64 ba ∧ I64 sp ∧ I64 al ∧ I64 vs := by
  obtain ⟨cs, rfl, _⟩ := okWide_struct Try.underlying36 hv
  obtain ⟨fuel, hf⟩ := h
  obtain ⟨la, ve, ph, ba, sp, al, vs, e, q0, q1, q2, q3, q4, q5, q6⟩ := open_targets hf
  exact ⟨la, ve, ph, ba, sp, al, vs, congrArg Value.agg (by apply Array.toList_inj.1; exact e), q0, q1, q2, q3, q4, q5, q6⟩
theorem open_result1 {H : Type} {enc : TypeId × Value → H} {w : World} {base : Nat} {spare : Nat → Bool} {held : Bool} {fuel : Nat} {cs : List Value} {x : DataW H × List MemPlace} (h : DataW.trod enc Try.prog w base spare held fuel 38 cs = some x) :
    ∃ (st : Int) (tg_la : Int) (tg_ve : Int) (tg_ph : Int) (tg_ba : Int) (tg_sp : Int) (tg_al : Int) (tg_vs : Int), cs = [.int .i64 st, .int .u8 tg_la, .int .u8 tg_ve, .int .u8 tg_ph, .int .i64 tg_ba, .int .i64 tg_sp, .int .i64 tg_al, .int .i64 tg_vs] ∧ I64 st ∧ U8 tg_la ∧ U8 tg_ve ∧ U8 tg_ph ∧ I64 tg_ba ∧ I64 tg_sp ∧ I64 tg_al ∧ I64 tg_vs := by
  obtain ⟨n, hlen, hf⟩ := open_field Try.underlying38 h
  rw [show Try.prog.cellsOf 38 = 8 by kernel_rfl] at hlen
  match cs, hlen with
  | [c0, c1, c2, c3, c4, c5, c6, c7], _ =>
    obtain ⟨y0, h0⟩ := hf 0 _ rfl
    simp [show Try.prog.cellsOf 2 = 1 by kernel_rfl] at h0
    obtain ⟨st, eh0, -, wfst⟩ := DataW.trod_int Try.underlying2 h0
    have kst : I64 st := I64.wf wfst
    simp only [List.cons.injEq, and_true] at eh0
    obtain rfl := eh0
    obtain ⟨y1, h1⟩ := hf 1 _ rfl
    simp [show Try.prog.cellsOf 36 = 7 by kernel_rfl] at h1
    obtain ⟨tg_la, tg_ve, tg_ph, tg_ba, tg_sp, tg_al, tg_vs, eh1, ktg_0, ktg_1, ktg_2, ktg_3, ktg_4, ktg_5, ktg_6⟩ := open_targets h1
    simp only [List.cons.injEq, and_true] at eh1
    obtain ⟨rfl, rfl, rfl, rfl, rfl, rfl, rfl⟩ := eh1
    exact ⟨st, tg_la, tg_ve, tg_ph, tg_ba, tg_sp, tg_al, tg_vs, rfl, kst, ktg_0, ktg_1, ktg_2, ktg_3, ktg_4, ktg_5, ktg_6⟩
theorem open_result1_v {H : Type} {enc : TypeId × Value → H} {w : World} {base b0 : Nat} {spare : Nat → Bool} {held : Bool} {r : Reach} {v : Value} {d : DataW H} {p : List MemPlace} (hv : Value.okWide Try.prog w r b0 38 v) (h : DataW.Trod enc Try.prog w base spare held 38 v d p) :
    ∃ (st : Int) (tg_la : Int) (tg_ve : Int) (tg_ph : Int) (tg_ba : Int) (tg_sp : Int) (tg_al : Int) (tg_vs : Int), v = .agg #[.int .i64 st, .int .u8 tg_la, .int .u8 tg_ve, .int .u8 tg_ph, .int .i64 tg_ba, .int .i64 tg_sp, .int .i64 tg_al, .int .i64 tg_vs] ∧ I64 st ∧ U8 tg_la ∧ U8 tg_ve ∧ U8 tg_ph ∧ I64 tg_ba ∧ I64 tg_sp ∧ I64 tg_al ∧ I64 tg_vs := by
  obtain ⟨cs, rfl, _⟩ := okWide_struct Try.underlying38 hv
  obtain ⟨fuel, hf⟩ := h
  obtain ⟨st, tg_la, tg_ve, tg_ph, tg_ba, tg_sp, tg_al, tg_vs, e, q0, q1, q2, q3, q4, q5, q6, q7⟩ := open_result1 hf
  exact ⟨st, tg_la, tg_ve, tg_ph, tg_ba, tg_sp, tg_al, tg_vs, congrArg Value.agg (by apply Array.toList_inj.1; exact e), q0, q1, q2, q3, q4, q5, q6, q7⟩
theorem agreeResults_lifted (os : Os) (started : os.Started) (H : Type) (enc : TypeId × Value → H) :
    ReturnsInHanded {} Try.checked os 6 .any (Rows.agreeResultsSpec.pre6 enc Try.prog Try.f6 Rows.agreeResultsRow.domain false) (Rows.agreeResultsSpec.post enc Try.prog Try.f6 false true false false) := by
  refine returnsInHanded_of_change (C := Try.checked) Try.own started (by kernel_rfl) Try.func6
    (ChangeSpec.witness6 (enc := enc) (C := Try.checked) false ⟨#[], #[.agg #[.int .i64 0, .int .u8 0, .int .u8 0, .int .u8 0, .int .i64 0, .int .i64 0, .int .i64 0, .int .i64 0], .slice none 0 0], []⟩ 8 (by kernel_rfl) (by kernel_rfl) (by kernel_rfl) (by kernel_rfl)) ?_
  intro W base args ds gs before hval0 hW hcnd _
  have hval : ∀ (j : Nat) t v, Try.f6.params[j]? = some t → args[j]? = some v → Value.okWide Try.prog W .any base t v := hval0
  have hW' := hW
  obtain ⟨p, q, hA0, hV, rfl, hfz, hnd⟩ := hW
  have hA : DataW.TrodAll enc Try.prog W 0 (fun _ => true) true Try.f6.params.toList args.toList ds p := hA0
  have hA1 := hA
  rw [Try.params6] at hA hval
  obtain ⟨v0, vs0, d0, ds0, p0, q0, hargs, rfl, rfl, h0, r0⟩ := trodAll_cons hA
  obtain ⟨v1, vs1, d1, ds1, p1, q1, rfl, rfl, rfl, h1, r1⟩ := trodAll_cons r0
  obtain ⟨rfl, rfl, rfl⟩ := trodAll_nil r1
  obtain rfl : args = #[v0, v1] := by cases args; simp_all
  obtain ⟨rfl, rfl⟩ := trodVars_none hV
  obtain ⟨a0_st, a0_tg_la, a0_tg_ve, a0_tg_ph, a0_tg_ba, a0_tg_sp, a0_tg_al, a0_tg_vs, rfl, q0_0, q0_1, q0_2, q0_3, q0_4, q0_5, q0_6, q0_7⟩ := open_result1_v (hval 0 38 v0 rfl rfl) h0
  obtain ⟨A1, n1, c1, rfl⟩ := okWide_slice Try.underlying22 (hval 1 22 v1 rfl rfl)
  obtain ⟨f1, g1⟩ := h1
  obtain ⟨a1A, a1n, a1c, a1s, e1, q1_0⟩ := open_bytes Try.underlying22 Try.underlying5 (by kernel_rfl) g1
  obtain ⟨rfl, rfl, rfl⟩ : A1 = a1A ∧ n1 = a1n ∧ c1 = a1c := by simpa [Value.cells] using e1
  simp only [List.append_nil] at hW' hA1
  refine (results_walk a0_st a0_tg_la a0_tg_ve a0_tg_ph a0_tg_ba a0_tg_sp a0_tg_al a0_tg_vs A1 n1 c1 a1s W q0_0 q0_1 q0_2 q0_3 q0_4 q0_5 q0_6 q0_7 q1_0).mono fun e W' ⟨he, hg⟩ => ?_
  subst he
  exact ⟨_, rfl, law_post Try.laidOut (by intro t ht; simp only [Try.params6] at ht; revert t; decide +kernel) rfl rfl Try.underlying4 rfl hW' hA1 hg⟩
theorem agreeResults_holds : Rows.AgreeResultsSaid :=
  OpenClaim.holds_of_wide 6 Try.f6 rfl rfl rfl rfl rfl rfl rfl ⟨rfl, rfl, rfl, rfl, rfl⟩ rfl rfl rfl rfl rfl (by kernel_rfl) Try.func6 (by kernel_rfl)
    (of_decide_eq_true (by kernel_rfl)) (by unfold Func.isWrapper; first | (rw [if_pos (by decide +kernel)]; kernel_rfl) | (rw [if_neg (by decide +kernel)]; exact ⟨rfl, rfl⟩))
    (fun os started H enc _ => agreeResults_lifted os started H enc)
#print axioms agreeResults_holds
end Go.Proofs.Ytgnajpoebooafaa
