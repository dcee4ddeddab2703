/-
AgreeHellos returns true for every input. Conditions: none.
-/
import Derived.Test.YtgnajpoebooafaaFrame
import Derived.Test.YtgnajpoebooafaaAgL6
namespace Go.Proofs.Ytgnajpoebooafaa
set_option linter.unusedVariables false
set_option linter.unusedSimpArgs false
set_option maxRecDepth 100000
open Go.RowKit Go.WideShapes Go.ChangeShapes Go.ChangeAt
theorem open_want1 {H : Type} {enc : TypeId × Value → H} {w : World} {base : Nat} {spare : Nat → Bool} {held : Bool} {fuel : Nat} {cs : List Value} {x : DataW H × List MemPlace} (h : DataW.trod enc Try.prog w base spare held fuel 48 cs = some x) :
    ∃ (ba : Int) (hv : Int), cs = [.int .i64 ba, .int .i64 hv] ∧ I64 ba ∧ I64 hv := by
  obtain ⟨n, hlen, hf⟩ := open_field Try.underlying48 h
  rw [show Try.prog.cellsOf 48 = 2 by kernel_rfl] at hlen
  match cs, hlen with
  | [c0, c1], _ =>
    obtain ⟨y0, h0⟩ := hf 0 _ rfl
    simp [show Try.prog.cellsOf 2 = 1 by kernel_rfl] at h0
    obtain ⟨ba, eh0, -, wfba⟩ := DataW.trod_int Try.underlying2 h0
    have kba : I64 ba := I64.wf wfba
    simp only [List.cons.injEq, and_true] at eh0
    obtain rfl := eh0
    obtain ⟨y1, h1⟩ := hf 1 _ rfl
    simp [show Try.prog.cellsOf 3 = 1 by kernel_rfl] at h1
    obtain ⟨hv, eh1, -, wfhv⟩ := DataW.trod_int Try.underlying3 h1
    have khv : I64 hv := I64.wf wfhv
    simp only [List.cons.injEq, and_true] at eh1
    obtain rfl := eh1
    exact ⟨ba, hv, rfl, kba, khv⟩
theorem open_want1_v {H : Type} {enc : TypeId × Value → H} {w : World} {base b0 : Nat} {spare : Nat → Bool} {held : Bool} {r : Reach} {v : Value} {d : DataW H} {p : List MemPlace} (hv : Value.okWide Try.prog w r b0 48 v) (h : DataW.Trod enc Try.prog w base spare held 48 v d p) :
    ∃ (ba : Int) (hv : Int), v = .agg #[.int .i64 ba, .int .i64 hv] ∧ I64 ba ∧ I64 hv := by
  obtain ⟨cs, rfl, _⟩ := okWide_struct Try.underlying48 hv
  obtain ⟨fuel, hf⟩ := h
  obtain ⟨ba, hv, e, q0, q1⟩ := open_want1 hf
  exact ⟨ba, hv, congrArg Value.agg (by apply Array.toList_inj.1; exact e), q0, q1⟩
theorem open_heard1 {H : Type} {enc : TypeId × Value → H} {w : World} {base : Nat} {spare : Nat → Bool} {held : Bool} {fuel : Nat} {cs : List Value} {x : DataW H × List MemPlace} (h : DataW.trod enc Try.prog w base spare held fuel 50 cs = some x) :
    ∃ (ro : Int) (st : Int) (wa_ba : Int) (wa_hv : Int) (daA : Option Addr) (dan : Nat) (dac : Nat) (das : List UInt8), cs = [.int .u8 ro, .int .i64 st, .int .i64 wa_ba, .int .i64 wa_hv, .slice daA dan dac] ∧ U8 ro ∧ I64 st ∧ I64 wa_ba ∧ I64 wa_hv ∧ BIn w daA dan dac das := by
  obtain ⟨n, hlen, hf⟩ := open_field Try.underlying50 h
  rw [show Try.prog.cellsOf 50 = 5 by kernel_rfl] at hlen
  match cs, hlen with
  | [c0, c1, c2, c3, c4], _ =>
    obtain ⟨y0, h0⟩ := hf 0 _ rfl
    simp [show Try.prog.cellsOf 5 = 1 by kernel_rfl] at h0
    obtain ⟨ro, eh0, -, wfro⟩ := DataW.trod_int Try.underlying5 h0
    have kro : U8 ro := bounds_u8 wfro
    simp only [List.cons.injEq, and_true] at eh0
    obtain rfl := eh0
    obtain ⟨y1, h1⟩ := hf 1 _ rfl
    simp [show Try.prog.cellsOf 2 = 1 by kernel_rfl] at h1
    obtain ⟨st, eh1, -, wfst⟩ := DataW.trod_int Try.underlying2 h1
    have kst : I64 st := I64.wf wfst
    simp only [List.cons.injEq, and_true] at eh1
    obtain rfl := eh1
    obtain ⟨y2, h2⟩ := hf 2 _ rfl
    simp [show Try.prog.cellsOf 48 = 2 by kernel_rfl] at h2
    obtain ⟨wa_ba, wa_hv, eh2, kwa_0, kwa_1⟩ := open_want1 h2
    simp only [List.cons.injEq, and_true] at eh2
    obtain ⟨rfl, rfl⟩ := eh2
    obtain ⟨y3, h3⟩ := hf 3 _ rfl
    simp [show Try.prog.cellsOf 22 = 1 by kernel_rfl] at h3
    obtain ⟨daA, dan, dac, das, eh3, kda⟩ := open_bytes Try.underlying22 Try.underlying5 (by kernel_rfl) h3
    simp only [List.cons.injEq, and_true] at eh3
    obtain rfl := eh3
    exact ⟨ro, st, wa_ba, wa_hv, daA, dan, dac, das, rfl, kro, kst, kwa_0, kwa_1, kda⟩
theorem open_heard1_v {H : Type} {enc : TypeId × Value → H} {w : World} {base b0 : Nat} {spare : Nat → Bool} {held : Bool} {r : Reach} {v : Value} {d : DataW H} {p : List MemPlace} (hv : Value.okWide Try.prog w r b0 50 v) (h : DataW.Trod enc Try.prog w base spare held 50 v d p) :
    ∃ (ro : Int) (st : Int) (wa_ba : Int) (wa_hv : Int) (daA : Option Addr) (dan : Nat) (dac : Nat) (das : List UInt8), v = .agg #[.int .u8 ro, .int .i64 st, .int .i64 wa_ba, .int .i64 wa_hv, .slice daA dan dac] ∧ U8 ro ∧ I64 st ∧ I64 wa_ba ∧ I64 wa_hv ∧ BIn w daA dan dac das := by
  obtain ⟨cs, rfl, _⟩ := okWide_struct Try.underlying50 hv
  obtain ⟨fuel, hf⟩ := h
  obtain ⟨ro, st, wa_ba, wa_hv, daA, dan, dac, das, e, q0, q1, q2, q3, q4⟩ := open_heard1 hf
  exact ⟨ro, st, wa_ba, wa_hv, daA, dan, dac, das, congrArg Value.agg (by apply Array.toList_inj.1; exact e), q0, q1, q2, q3, q4⟩
theorem agreeHellos_lifted (os : Os) (started : os.Started) (H : Type) (enc : TypeId × Value → H) :
    ReturnsInHanded {} Try.checked os 7 .any (Rows.agreeHellosSpec.pre6 enc Try.prog Try.f7 Rows.agreeHellosRow.domain false) (Rows.agreeHellosSpec.post enc Try.prog Try.f7 false true false false) := by
  refine returnsInHanded_of_change (C := Try.checked) Try.own started (by kernel_rfl) Try.func7
    (ChangeSpec.witness6 (enc := enc) (C := Try.checked) false ⟨#[], #[.agg #[.int .u8 0, .int .i64 0, .int .i64 0, .int .i64 0, .slice none 0 0], .slice none 0 0], []⟩ 8 (by kernel_rfl) (by kernel_rfl) (by kernel_rfl) (by kernel_rfl)) ?_
  intro W base args ds gs before hval0 hW hcnd _
  have hval : ∀ (j : Nat) t v, Try.f7.params[j]? = some t → args[j]? = some v → Value.okWide Try.prog W .any base t v := hval0
  have hW' := hW
  obtain ⟨p, q, hA0, hV, rfl, hfz, hnd⟩ := hW
  have hA : DataW.TrodAll enc Try.prog W 0 (fun _ => true) true Try.f7.params.toList args.toList ds p := hA0
  have hA1 := hA
  rw [Try.params7] at hA hval
  obtain ⟨v0, vs0, d0, ds0, p0, q0, hargs, rfl, rfl, h0, r0⟩ := trodAll_cons hA
  obtain ⟨v1, vs1, d1, ds1, p1, q1, rfl, rfl, rfl, h1, r1⟩ := trodAll_cons r0
  obtain ⟨rfl, rfl, rfl⟩ := trodAll_nil r1
  obtain rfl : args = #[v0, v1] := by cases args; simp_all
  obtain ⟨rfl, rfl⟩ := trodVars_none hV
  obtain ⟨a0_ro, a0_st, a0_wa_ba, a0_wa_hv, a0_daA, a0_dan, a0_dac, a0_das, rfl, q0_0, q0_1, q0_2, q0_3, q0_4⟩ := open_heard1_v (hval 0 50 v0 rfl rfl) h0
  obtain ⟨A1, n1, c1, rfl⟩ := okWide_slice Try.underlying22 (hval 1 22 v1 rfl rfl)
  obtain ⟨f1, g1⟩ := h1
  obtain ⟨a1A, a1n, a1c, a1s, e1, q1_0⟩ := open_bytes Try.underlying22 Try.underlying5 (by kernel_rfl) g1
  obtain ⟨rfl, rfl, rfl⟩ : A1 = a1A ∧ n1 = a1n ∧ c1 = a1c := by simpa [Value.cells] using e1
  simp only [List.append_nil] at hW' hA1
  refine (hellos_walk a0_ro a0_st a0_wa_ba a0_wa_hv a0_daA a0_dan a0_dac a0_das A1 n1 c1 a1s W q0_0 q0_1 q0_2 q0_3 q0_4 q1_0).mono fun e W' ⟨he, hg⟩ => ?_
  subst he
  exact ⟨_, rfl, law_post Try.laidOut (by intro t ht; simp only [Try.params7] at ht; revert t; decide +kernel) rfl rfl Try.underlying4 rfl hW' hA1 hg⟩
theorem agreeHellos_holds : Rows.AgreeHellosSaid :=
  OpenClaim.holds_of_wide 7 Try.f7 rfl rfl rfl rfl rfl rfl rfl ⟨rfl, rfl, rfl, rfl, rfl⟩ rfl rfl rfl rfl rfl (by kernel_rfl) Try.func7 (by kernel_rfl)
    (of_decide_eq_true (by kernel_rfl)) (by unfold Func.isWrapper; first | (rw [if_pos (by decide +kernel)]; kernel_rfl) | (rw [if_neg (by decide +kernel)]; exact ⟨rfl, rfl⟩))
    (fun os started H enc _ => agreeHellos_lifted os started H enc)
#print axioms agreeHellos_holds
end Go.Proofs.Ytgnajpoebooafaa
