/-
ResyncComputers returns true for every input. Conditions: none.
-/
import Derived.Test.YtnidomdebhekiaaGreatV54e
import Derived.Test.YtnidomdebhekiaaGreatG10
namespace Go.Proofs.YtnidomdebhekiaaGreat
set_option linter.unusedVariables false
set_option linter.unusedSimpArgs false
set_option maxRecDepth 100000
open Go.RowKit Go.WideShapes Go.ChangeShapes Go.ChangeAt
theorem op49 : Opens Tryz.prog 49 tyFrame okFrame := by
  intro H enc w base spare held fuel cs d pl h hw
  obtain ⟨hlen, hf⟩ := struct_fields Tryz.underlying49 h hw
  rw [show Tryz.prog.cellsOf 49 = 4 by kernel_rfl] at hlen
  match cs, hlen with
  | [c0, c1, c2, c3], _ =>
    obtain ⟨n0, d0, p0, h0, w0⟩ := hf 0 _ rfl
    simp [show Tryz.prog.cellsOf 5 = 1 by kernel_rfl] at h0
    obtain ⟨x0, r0, k0⟩ := (opens_int Tryz.underlying5) h0 w0
    have e0 : [c0] = [vy x0] := r0
    obtain ⟨n1, d1, p1, h1, w1⟩ := hf 1 _ rfl
    simp [show Tryz.prog.cellsOf 5 = 1 by kernel_rfl] at h1
    obtain ⟨x1, r1, k1⟩ := (opens_int Tryz.underlying5) h1 w1
    have e1 : [c1] = [vy x1] := r1
    obtain ⟨n2, d2, p2, h2, w2⟩ := hf 2 _ rfl
    simp [show Tryz.prog.cellsOf 2 = 1 by kernel_rfl] at h2
    obtain ⟨x2, r2, k2⟩ := (opens_int Tryz.underlying2) h2 w2
    have e2 : [c2] = [vi x2] := r2
    obtain ⟨n3, d3, p3, h3, w3⟩ := hf 3 _ rfl
    simp [show Tryz.prog.cellsOf 28 = 1 by kernel_rfl] at h3
    obtain ⟨x3, r3, k3⟩ := (opens_slice (opens_u8 Tryz.underlying5) Tryz.underlying28 (by kernel_rfl) (by kernel_rfl)) h3 w3
    obtain ⟨A_3, c_3, e3, f_3⟩ := r3
    exact ⟨⟨x0, x1, x2, x3⟩, ⟨A_3, c_3, (by rw [show ([c0, c1, c2, c3] : List Value) = [c0] ++ ([c1] ++ ([c2] ++ ([c3]))) from rfl, e0, e1, e2, e3]; rfl), f_3⟩, k0, k1, k2, k3, trivial⟩
theorem op34 : Opens Tryz.prog 34 tyTargets okTargets := by
  intro H enc w base spare held fuel cs d pl h hw
  obtain ⟨hlen, hf⟩ := struct_fields Tryz.underlying34 h hw
  rw [show Tryz.prog.cellsOf 34 = 7 by kernel_rfl] at hlen
  match cs, hlen with
  | [c0, c1, c2, c3, c4, c5, c6], _ =>
    obtain ⟨n0, d0, p0, h0, w0⟩ := hf 0 _ rfl
    simp [show Tryz.prog.cellsOf 5 = 1 by kernel_rfl] at h0
    obtain ⟨x0, r0, k0⟩ := (opens_int Tryz.underlying5) h0 w0
    have e0 : [c0] = [vy x0] := r0
    obtain ⟨n1, d1, p1, h1, w1⟩ := hf 1 _ rfl
    simp [show Tryz.prog.cellsOf 5 = 1 by kernel_rfl] at h1
    obtain ⟨x1, r1, k1⟩ := (opens_int Tryz.underlying5) h1 w1
    have e1 : [c1] = [vy x1] := r1
    obtain ⟨n2, d2, p2, h2, w2⟩ := hf 2 _ rfl
    simp [show Tryz.prog.cellsOf 5 = 1 by kernel_rfl] at h2
    obtain ⟨x2, r2, k2⟩ := (opens_int Tryz.underlying5) h2 w2
    have e2 : [c2] = [vy x2] := r2
    obtain ⟨n3, d3, p3, h3, w3⟩ := hf 3 _ rfl
    simp [show Tryz.prog.cellsOf 2 = 1 by kernel_rfl] at h3
    obtain ⟨x3, r3, k3⟩ := (opens_int Tryz.underlying2) h3 w3
    have e3 : [c3] = [vi x3] := r3
    obtain ⟨n4, d4, p4, h4, w4⟩ := hf 4 _ rfl
    simp [show Tryz.prog.cellsOf 2 = 1 by kernel_rfl] at h4
    obtain ⟨x4, r4, k4⟩ := (opens_int Tryz.underlying2) h4 w4
    have e4 : [c4] = [vi x4] := r4
    obtain ⟨n5, d5, p5, h5, w5⟩ := hf 5 _ rfl
    simp [show Tryz.prog.cellsOf 2 = 1 by kernel_rfl] at h5
    obtain ⟨x5, r5, k5⟩ := (opens_int Tryz.underlying2) h5 w5
    have e5 : [c5] = [vi x5] := r5
    obtain ⟨n6, d6, p6, h6, w6⟩ := hf 6 _ rfl
    simp [show Tryz.prog.cellsOf 2 = 1 by kernel_rfl] at h6
    obtain ⟨x6, r6, k6⟩ := (opens_int Tryz.underlying2) h6 w6
    have e6 : [c6] = [vi x6] := r6
    exact ⟨⟨x0, x1, x2, x3, x4, x5, x6⟩, (show _ = _ from (by rw [show ([c0, c1, c2, c3, c4, c5, c6] : List Value) = [c0] ++ ([c1] ++ ([c2] ++ ([c3] ++ ([c4] ++ ([c5] ++ ([c6])))))) from rfl, e0, e1, e2, e3, e4, e5, e6]; rfl)), k0, k1, k2, k3, k4, k5, k6, trivial⟩
theorem op51 : Opens Tryz.prog 51 tyCallT okCallT := by
  intro H enc w base spare held fuel cs d pl h hw
  obtain ⟨hlen, hf⟩ := struct_fields Tryz.underlying51 h hw
  rw [show Tryz.prog.cellsOf 51 = 16 by kernel_rfl] at hlen
  match cs, hlen with
  | [c0, c1, c2, c3, c4, c5, c6, c7, c8, c9, c10, c11, c12, c13, c14, c15], _ =>
    obtain ⟨n0, d0, p0, h0, w0⟩ := hf 0 _ rfl
    simp [show Tryz.prog.cellsOf 5 = 1 by kernel_rfl] at h0
    obtain ⟨x0, r0, k0⟩ := (opens_int Tryz.underlying5) h0 w0
    have e0 : [c0] = [vy x0] := r0
    obtain ⟨n1, d1, p1, h1, w1⟩ := hf 1 _ rfl
    simp [show Tryz.prog.cellsOf 4 = 1 by kernel_rfl] at h1
    obtain ⟨x1, r1, k1⟩ := (opens_bool Tryz.underlying4) h1 w1
    have e1 : [c1] = [vb x1] := r1
    obtain ⟨n2, d2, p2, h2, w2⟩ := hf 2 _ rfl
    simp [show Tryz.prog.cellsOf 2 = 1 by kernel_rfl] at h2
    obtain ⟨x2, r2, k2⟩ := (opens_int Tryz.underlying2) h2 w2
    have e2 : [c2] = [vi x2] := r2
    obtain ⟨n3, d3, p3, h3, w3⟩ := hf 3 _ rfl
    simp [show Tryz.prog.cellsOf 28 = 1 by kernel_rfl] at h3
    obtain ⟨x3, r3, k3⟩ := (opens_slice (opens_u8 Tryz.underlying5) Tryz.underlying28 (by kernel_rfl) (by kernel_rfl)) h3 w3
    obtain ⟨A_3, c_3, e3, f_3⟩ := r3
    obtain ⟨n4, d4, p4, h4, w4⟩ := hf 4 _ rfl
    simp [show Tryz.prog.cellsOf 49 = 4 by kernel_rfl] at h4
    obtain ⟨x4, r4, k4⟩ := op49 h4 w4
    obtain ⟨A_4_payload, c_4_payload, e4, f_4_payload⟩ := r4
    obtain ⟨n5, d5, p5, h5, w5⟩ := hf 5 _ rfl
    simp [show Tryz.prog.cellsOf 4 = 1 by kernel_rfl] at h5
    obtain ⟨x5, r5, k5⟩ := (opens_bool Tryz.underlying4) h5 w5
    have e5 : [c8] = [vb x5] := r5
    obtain ⟨n6, d6, p6, h6, w6⟩ := hf 6 _ rfl
    simp [show Tryz.prog.cellsOf 34 = 7 by kernel_rfl] at h6
    obtain ⟨x6, r6, k6⟩ := op34 h6 w6
    have e6 : [c9, c10, c11, c12, c13, c14, c15] = [vy x6.lateral, vy x6.vertical, vy x6.phase, vi x6.bank, vi x6.speed, vi x6.alt, vi x6.vs] := r6
    exact ⟨⟨x0, x1, x2, x3, x4, x5, x6⟩, ⟨A_3, c_3, A_4_payload, c_4_payload, (by rw [show ([c0, c1, c2, c3, c4, c5, c6, c7, c8, c9, c10, c11, c12, c13, c14, c15] : List Value) = [c0] ++ ([c1] ++ ([c2] ++ ([c3] ++ ([c4, c5, c6, c7] ++ ([c8] ++ ([c9, c10, c11, c12, c13, c14, c15])))))) from rfl, e0, e1, e2, e3, e4, e5, e6]; rfl), f_3, f_4_payload⟩, k0, k1, k2, k3, k4, k5, k6, trivial⟩
theorem resyncComputers_lifted (os : Os) (started : os.Started) (H : Type) (enc : TypeId × Value → H) :
    ReturnsInHanded {} Tryz.checked os 3 .any (Rows.resyncComputersSpec.pre6 enc Tryz.prog Tryz.f3 Rows.resyncComputersRow.domain false) (Rows.resyncComputersSpec.post enc Tryz.prog Tryz.f3 false true false false) := by
  refine returnsInHanded_of_change_sized (C := Tryz.checked) Tryz.own started (by kernel_rfl) Tryz.func3
    (ChangeSpec.witness6 (enc := enc) (C := Tryz.checked) false ⟨#[], #[vi 0, .slice none 0 0], []⟩ 8 (by kernel_rfl) (by kernel_rfl) (by kernel_rfl) (by kernel_rfl)) ?_
  intro W base args ds gs before hval0 hW hcnd hsz0 _
  have hval : ∀ (j : Nat) t v, Tryz.f3.params[j]? = some t → args[j]? = some v → Value.okWide Tryz.prog W .any base t v := hval0
  have hW' := hW
  obtain ⟨p, q, hA0, hV, rfl, hfz, hnd⟩ := hW
  have hA : DataW.TrodAll enc Tryz.prog W 0 (fun _ => true) true Tryz.f3.params.toList args.toList ds p := hA0
  have hA1 := hA
  rw [Tryz.params3] at hA hval
  obtain ⟨v0, vs0, d0, ds0, p0, q0, hargs, rfl, rfl, h0, r0⟩ := trodAll_cons hA
  obtain ⟨v1, vs1, d1, ds1, p1, q1, rfl, rfl, rfl, h1, r1⟩ := trodAll_cons r0
  obtain ⟨rfl, rfl, rfl⟩ := trodAll_nil r1
  obtain rfl : args = #[v0, v1] := by cases args; simp_all
  obtain ⟨rfl, rfl⟩ := trodVars_none hV
  have hsz : ∀ m ∈ DataW.weightsEach Tryz.prog [3, 22] [d0, d1], m ≤ reachBytes := fun m hm => by
    have h9 : (DataW.weightsEach Tryz.prog (Tryz.f3.params.toList ++ []) ([d0, d1] ++ [])).all (· ≤ reachBytes) = true := hsz0
    rw [Tryz.params3, List.append_nil, List.append_nil] at h9
    have := List.all_eq_true.1 h9 m hm
    simpa using this
  obtain ⟨number, rfl, rfl, rfl, w0⟩ := open_int Tryz.underlying3 (hval 0 3 v0 rfl rfl) h0
  have k0 := lit_wf w0
  obtain ⟨B1, n1, e1, rfl⟩ := okWide_slice Tryz.underlying22 (hval 1 22 v1 rfl rfl)
  obtain ⟨f1, g1⟩ := h1
  obtain ⟨calls, ⟨Acalls, ccalls, z1, fcalls⟩, k1⟩ := (opens_slice op51 Tryz.underlying22 (by kernel_rfl) (by kernel_rfl)) g1 (fun m hm => hsz m (DataW.weights_mem_each (j := 1) rfl rfl m hm))
  obtain ⟨rfl, rfl, rfl⟩ : B1 = Acalls ∧ n1 = calls.length ∧ e1 = ccalls := by simpa [Value.cells] using z1
  simp only [List.append_nil] at hW' hA1
  refine (law_of_ctr' (c3 (gh0 W) number calls B1 e1 fcalls (resyncComputers_yes fcalls k1))).mono fun e W' ⟨he, hg⟩ => ?_
  subst he
  exact ⟨_, rfl, law_post Tryz.laidOut (by intro t ht; simp only [Tryz.params3] at ht; revert t; decide +kernel) rfl rfl Tryz.underlying4 rfl hW' hA1 hg⟩
theorem resyncComputers_holds : Rows.ResyncComputersSaid :=
  OpenClaim.holds_of_wide 3 Tryz.f3 rfl rfl rfl rfl rfl rfl rfl ⟨rfl, rfl, rfl, rfl, rfl⟩ rfl rfl rfl rfl rfl (by kernel_rfl) Tryz.func3 (by kernel_rfl)
    (of_decide_eq_true (by kernel_rfl)) (by unfold Func.isWrapper; first | (rw [if_pos (by decide +kernel)]; kernel_rfl) | (rw [if_neg (by decide +kernel)]; exact ⟨rfl, rfl⟩))
    (fun os started H enc _ => resyncComputers_lifted os started H enc)
end Go.Proofs.YtnidomdebhekiaaGreat
