/-
AgreeNodes returns true for every input. Conditions: none.
-/
import Derived.Test.YtgnajpoebooafaaP53h
namespace Go.Proofs.Ytgnajpoebooafaa
set_option linter.unusedVariables false
set_option linter.unusedSimpArgs false
set_option maxRecDepth 100000
open Go.RowKit Go.WideShapes Go.ChangeShapes Go.ChangeAt
theorem op48 : Opens Try.prog 48 tyWant okWant := by
  intro H enc w base spare held fuel cs d pl h hw
  obtain ⟨hlen, hf⟩ := struct_fields Try.underlying48 h hw
  rw [show Try.prog.cellsOf 48 = 2 by kernel_rfl] at hlen
  match cs, hlen with
  | [c0, c1], _ =>
    obtain ⟨n0, d0, p0, h0, w0⟩ := hf 0 _ rfl
    simp [show Try.prog.cellsOf 2 = 1 by kernel_rfl] at h0
    obtain ⟨x0, r0, k0⟩ := (opens_int Try.underlying2) h0 w0
    have e0 : [c0] = [vi x0] := r0
    obtain ⟨n1, d1, p1, h1, w1⟩ := hf 1 _ rfl
    simp [show Try.prog.cellsOf 3 = 1 by kernel_rfl] at h1
    obtain ⟨x1, r1, k1⟩ := (opens_int Try.underlying3) h1 w1
    have e1 : [c1] = [vi x1] := r1
    exact ⟨⟨x0, x1⟩, (show _ = _ from (by rw [show ([c0, c1] : List Value) = [c0] ++ ([c1]) from rfl, e0, e1]; rfl)), k0, k1, trivial⟩
theorem op100 : Opens Try.prog 100 tyFrame okFrame := by
  intro H enc w base spare held fuel cs d pl h hw
  obtain ⟨hlen, hf⟩ := struct_fields Try.underlying100 h hw
  rw [show Try.prog.cellsOf 100 = 4 by kernel_rfl] at hlen
  match cs, hlen with
  | [c0, c1, c2, c3], _ =>
    obtain ⟨n0, d0, p0, h0, w0⟩ := hf 0 _ rfl
    simp [show Try.prog.cellsOf 5 = 1 by kernel_rfl] at h0
    obtain ⟨x0, r0, k0⟩ := (opens_int Try.underlying5) h0 w0
    have e0 : [c0] = [vy x0] := r0
    obtain ⟨n1, d1, p1, h1, w1⟩ := hf 1 _ rfl
    simp [show Try.prog.cellsOf 5 = 1 by kernel_rfl] at h1
    obtain ⟨x1, r1, k1⟩ := (opens_int Try.underlying5) h1 w1
    have e1 : [c1] = [vy x1] := r1
    obtain ⟨n2, d2, p2, h2, w2⟩ := hf 2 _ rfl
    simp [show Try.prog.cellsOf 2 = 1 by kernel_rfl] at h2
    obtain ⟨x2, r2, k2⟩ := (opens_int Try.underlying2) h2 w2
    have e2 : [c2] = [vi x2] := r2
    obtain ⟨n3, d3, p3, h3, w3⟩ := hf 3 _ rfl
    simp [show Try.prog.cellsOf 22 = 1 by kernel_rfl] at h3
    obtain ⟨x3, r3, k3⟩ := (opens_slice (opens_u8 Try.underlying5) Try.underlying22 (by kernel_rfl) (by kernel_rfl)) h3 w3
    obtain ⟨A_3, c_3, e3, f_3⟩ := r3
    exact ⟨⟨x0, x1, x2, x3⟩, ⟨A_3, c_3, (by rw [show ([c0, c1, c2, c3] : List Value) = [c0] ++ ([c1] ++ ([c2] ++ ([c3]))) from rfl, e0, e1, e2, e3]; rfl), f_3⟩, k0, k1, k2, k3, trivial⟩
theorem op36 : Opens Try.prog 36 tyTargets okTargets := by
  intro H enc w base spare held fuel cs d pl h hw
  obtain ⟨hlen, hf⟩ := struct_fields Try.underlying36 h hw
  rw [show Try.prog.cellsOf 36 = 7 by kernel_rfl] at hlen
  match cs, hlen with
  | [c0, c1, c2, c3, c4, c5, c6], _ =>
    obtain ⟨n0, d0, p0, h0, w0⟩ := hf 0 _ rfl
    simp [show Try.prog.cellsOf 5 = 1 by kernel_rfl] at h0
    obtain ⟨x0, r0, k0⟩ := (opens_int Try.underlying5) h0 w0
    have e0 : [c0] = [vy x0] := r0
    obtain ⟨n1, d1, p1, h1, w1⟩ := hf 1 _ rfl
    simp [show Try.prog.cellsOf 5 = 1 by kernel_rfl] at h1
    obtain ⟨x1, r1, k1⟩ := (opens_int Try.underlying5) h1 w1
    have e1 : [c1] = [vy x1] := r1
    obtain ⟨n2, d2, p2, h2, w2⟩ := hf 2 _ rfl
    simp [show Try.prog.cellsOf 5 = 1 by kernel_rfl] at h2
    obtain ⟨x2, r2, k2⟩ := (opens_int Try.underlying5) h2 w2
    have e2 : [c2] = [vy x2] := r2
    obtain ⟨n3, d3, p3, h3, w3⟩ := hf 3 _ rfl
    simp [show Try.prog.cellsOf 2 = 1 by kernel_rfl] at h3
    obtain ⟨x3, r3, k3⟩ := (opens_int Try.underlying2) h3 w3
    have e3 : [c3] = [vi x3] := r3
    obtain ⟨n4, d4, p4, h4, w4⟩ := hf 4 _ rfl
    simp [show Try.prog.cellsOf 2 = 1 by kernel_rfl] at h4
    obtain ⟨x4, r4, k4⟩ := (opens_int Try.underlying2) h4 w4
    have e4 : [c4] = [vi x4] := r4
    obtain ⟨n5, d5, p5, h5, w5⟩ := hf 5 _ rfl
    simp [show Try.prog.cellsOf 2 = 1 by kernel_rfl] at h5
    obtain ⟨x5, r5, k5⟩ := (opens_int Try.underlying2) h5 w5
    have e5 : [c5] = [vi x5] := r5
    obtain ⟨n6, d6, p6, h6, w6⟩ := hf 6 _ rfl
    simp [show Try.prog.cellsOf 2 = 1 by kernel_rfl] at h6
    obtain ⟨x6, r6, k6⟩ := (opens_int Try.underlying2) h6 w6
    have e6 : [c6] = [vi x6] := r6
    exact ⟨⟨x0, x1, x2, x3, x4, x5, x6⟩, (show _ = _ from (by rw [show ([c0, c1, c2, c3, c4, c5, c6] : List Value) = [c0] ++ ([c1] ++ ([c2] ++ ([c3] ++ ([c4] ++ ([c5] ++ ([c6])))))) from rfl, e0, e1, e2, e3, e4, e5, e6]; rfl)), k0, k1, k2, k3, k4, k5, k6, trivial⟩
theorem op102 : Opens Try.prog 102 tyCallT okCallT := by
  intro H enc w base spare held fuel cs d pl h hw
  obtain ⟨hlen, hf⟩ := struct_fields Try.underlying102 h hw
  rw [show Try.prog.cellsOf 102 = 18 by kernel_rfl] at hlen
  match cs, hlen with
  | [c0, c1, c2, c3, c4, c5, c6, c7, c8, c9, c10, c11, c12, c13, c14, c15, c16, c17], _ =>
    obtain ⟨n0, d0, p0, h0, w0⟩ := hf 0 _ rfl
    simp [show Try.prog.cellsOf 5 = 1 by kernel_rfl] at h0
    obtain ⟨x0, r0, k0⟩ := (opens_int Try.underlying5) h0 w0
    have e0 : [c0] = [vy x0] := r0
    obtain ⟨n1, d1, p1, h1, w1⟩ := hf 1 _ rfl
    simp [show Try.prog.cellsOf 4 = 1 by kernel_rfl] at h1
    obtain ⟨x1, r1, k1⟩ := (opens_bool Try.underlying4) h1 w1
    have e1 : [c1] = [vb x1] := r1
    obtain ⟨n2, d2, p2, h2, w2⟩ := hf 2 _ rfl
    simp [show Try.prog.cellsOf 2 = 1 by kernel_rfl] at h2
    obtain ⟨x2, r2, k2⟩ := (opens_int Try.underlying2) h2 w2
    have e2 : [c2] = [vi x2] := r2
    obtain ⟨n3, d3, p3, h3, w3⟩ := hf 3 _ rfl
    simp [show Try.prog.cellsOf 22 = 1 by kernel_rfl] at h3
    obtain ⟨x3, r3, k3⟩ := (opens_slice (opens_u8 Try.underlying5) Try.underlying22 (by kernel_rfl) (by kernel_rfl)) h3 w3
    obtain ⟨A_3, c_3, e3, f_3⟩ := r3
    obtain ⟨n4, d4, p4, h4, w4⟩ := hf 4 _ rfl
    simp [show Try.prog.cellsOf 48 = 2 by kernel_rfl] at h4
    obtain ⟨x4, r4, k4⟩ := op48 h4 w4
    have e4 : [c4, c5] = [vi x4.base, vi x4.have_] := r4
    obtain ⟨n5, d5, p5, h5, w5⟩ := hf 5 _ rfl
    simp [show Try.prog.cellsOf 100 = 4 by kernel_rfl] at h5
    obtain ⟨x5, r5, k5⟩ := op100 h5 w5
    obtain ⟨A_5_payload, c_5_payload, e5, f_5_payload⟩ := r5
    obtain ⟨n6, d6, p6, h6, w6⟩ := hf 6 _ rfl
    simp [show Try.prog.cellsOf 4 = 1 by kernel_rfl] at h6
    obtain ⟨x6, r6, k6⟩ := (opens_bool Try.underlying4) h6 w6
    have e6 : [c10] = [vb x6] := r6
    obtain ⟨n7, d7, p7, h7, w7⟩ := hf 7 _ rfl
    simp [show Try.prog.cellsOf 36 = 7 by kernel_rfl] at h7
    obtain ⟨x7, r7, k7⟩ := op36 h7 w7
    have e7 : [c11, c12, c13, c14, c15, c16, c17] = [vy x7.lateral, vy x7.vertical, vy x7.phase, vi x7.bank, vi x7.speed, vi x7.alt, vi x7.vs] := r7
    exact ⟨⟨x0, x1, x2, x3, x4, x5, x6, x7⟩, ⟨A_3, c_3, A_5_payload, c_5_payload, (by rw [show ([c0, c1, c2, c3, c4, c5, c6, c7, c8, c9, c10, c11, c12, c13, c14, c15, c16, c17] : List Value) = [c0] ++ ([c1] ++ ([c2] ++ ([c3] ++ ([c4, c5] ++ ([c6, c7, c8, c9] ++ ([c10] ++ ([c11, c12, c13, c14, c15, c16, c17]))))))) from rfl, e0, e1, e2, e3, e4, e5, e6, e7]; rfl), f_3, f_5_payload⟩, k0, k1, k2, k3, k4, k5, k6, k7, trivial⟩
theorem agreeNodes_lifted (os : Os) (started : os.Started) (H : Type) (enc : TypeId × Value → H) :
    ReturnsInHanded {} Try.checked os 11 .any (Rows.agreeNodesSpec.pre6 enc Try.prog Try.f11 Rows.agreeNodesRow.domain false) (Rows.agreeNodesSpec.post enc Try.prog Try.f11 false true false false) := by
  refine returnsInHanded_of_change_sized (C := Try.checked) Try.own started (by kernel_rfl) Try.func11
    (ChangeSpec.witness6 (enc := enc) (C := Try.checked) false ⟨#[], #[vi 0, .slice none 0 0], []⟩ 8 (by kernel_rfl) (by kernel_rfl) (by kernel_rfl) (by kernel_rfl)) ?_
  intro W base args ds gs before hval0 hW hcnd hsz0 _
  have hval : ∀ (j : Nat) t v, Try.f11.params[j]? = some t → args[j]? = some v → Value.okWide Try.prog W .any base t v := hval0
  have hW' := hW
  obtain ⟨p, q, hA0, hV, rfl, hfz, hnd⟩ := hW
  have hA : DataW.TrodAll enc Try.prog W 0 (fun _ => true) true Try.f11.params.toList args.toList ds p := hA0
  have hA1 := hA
  rw [Try.params11] at hA hval
  obtain ⟨v0, vs0, d0, ds0, p0, q0, hargs, rfl, rfl, h0, r0⟩ := trodAll_cons hA
  obtain ⟨v1, vs1, d1, ds1, p1, q1, rfl, rfl, rfl, h1, r1⟩ := trodAll_cons r0
  obtain ⟨rfl, rfl, rfl⟩ := trodAll_nil r1
  obtain rfl : args = #[v0, v1] := by cases args; simp_all
  obtain ⟨rfl, rfl⟩ := trodVars_none hV
  have hsz : ∀ m ∈ DataW.weightsEach Try.prog [3, 94] [d0, d1], m ≤ reachBytes := fun m hm => by
    have h9 : (DataW.weightsEach Try.prog (Try.f11.params.toList ++ []) ([d0, d1] ++ [])).all (· ≤ reachBytes) = true := hsz0
    rw [Try.params11, List.append_nil, List.append_nil] at h9
    have := List.all_eq_true.1 h9 m hm
    simpa using this
  obtain ⟨number, rfl, rfl, rfl, w0⟩ := open_int Try.underlying3 (hval 0 3 v0 rfl rfl) h0
  have k0 := lit_wf w0
  obtain ⟨B1, n1, e1, rfl⟩ := okWide_slice Try.underlying94 (hval 1 94 v1 rfl rfl)
  obtain ⟨f1, g1⟩ := h1
  obtain ⟨calls, ⟨Acalls, ccalls, z1, fcalls⟩, k1⟩ := (opens_slice op102 Try.underlying94 (by kernel_rfl) (by kernel_rfl)) g1 (fun m hm => hsz m (DataW.weights_mem_each (j := 1) rfl rfl m hm))
  obtain ⟨rfl, rfl, rfl⟩ : B1 = Acalls ∧ n1 = calls.length ∧ e1 = ccalls := by simpa [Value.cells] using z1
  simp only [List.append_nil] at hW' hA1
  refine (law_of_ctr' (c11 (gh0 W) number calls B1 e1 fcalls (agreeNodes_yes fcalls k1))).mono fun e W' ⟨he, hg⟩ => ?_
  subst he
  exact ⟨_, rfl, law_post Try.laidOut (by intro t ht; simp only [Try.params11] at ht; revert t; decide +kernel) rfl rfl Try.underlying4 rfl hW' hA1 hg⟩
theorem agreeNodes_holds : Rows.AgreeNodesSaid :=
  OpenClaim.holds_of_wide 11 Try.f11 rfl rfl rfl rfl rfl rfl rfl ⟨rfl, rfl, rfl, rfl, rfl⟩ rfl rfl rfl rfl rfl (by kernel_rfl) Try.func11 (by kernel_rfl)
    (of_decide_eq_true (by kernel_rfl)) (by unfold Func.isWrapper; first | (rw [if_pos (by decide +kernel)]; kernel_rfl) | (rw [if_neg (by decide +kernel)]; exact ⟨rfl, rfl⟩))
    (fun os started H enc _ => agreeNodes_lifted os started H enc)
#print axioms agreeNodes_holds
end Go.Proofs.Ytgnajpoebooafaa
