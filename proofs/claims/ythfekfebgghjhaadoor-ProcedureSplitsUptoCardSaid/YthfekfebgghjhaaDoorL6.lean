/-
ProcedureSplits returns true for every input. Conditions: none.
-/
import Derived.Test.YthfekfebgghjhaaDoorS176
import Derived.Test.YthfekfebgghjhaaDoorU17
import Derived.Test.YthfekfebgghjhaaDoorG10
import Derived.Test.YthfekfebgghjhaaDoorTie
import Derived.Test.YthfekfebgghjhaaDoorCards
import Derived.SevenTiedAt
namespace Go.Proofs.YthfekfebgghjhaaDoor
set_option linter.unusedVariables false
set_option linter.unusedSimpArgs false
set_option maxRecDepth 100000
open Go.RowKit Go.WideShapes Go.ChangeShapes Go.ChangeAt
theorem op44 : Opens Tryd.prog 44 tyWin okWin := by
  intro H enc w base spare held fuel cs d pl h hw
  obtain ⟨hlen, hf⟩ := struct_fields Tryd.underlying44 h hw
  rw [show Tryd.prog.cellsOf 44 = 2 by kernel_rfl] at hlen
  match cs, hlen with
  | [c0, c1], _ =>
    obtain ⟨n0, d0, p0, h0, w0⟩ := hf 0 _ rfl
    simp [show Tryd.prog.cellsOf 2 = 1 by kernel_rfl] at h0
    obtain ⟨x0, r0, k0⟩ := (opens_int Tryd.underlying2) h0 w0
    have e0 : [c0] = [vi x0] := r0
    obtain ⟨n1, d1, p1, h1, w1⟩ := hf 1 _ rfl
    simp [show Tryd.prog.cellsOf 2 = 1 by kernel_rfl] at h1
    obtain ⟨x1, r1, k1⟩ := (opens_int Tryd.underlying2) h1 w1
    have e1 : [c1] = [vi x1] := r1
    exact ⟨⟨x0, x1⟩, (show _ = _ from (by rw [show ([c0, c1] : List Value) = [c0] ++ ([c1]) from rfl, e0, e1]; rfl)), k0, k1, trivial⟩
theorem op46 : Opens Tryd.prog 46 tyLeg okLeg := by
  intro H enc w base spare held fuel cs d pl h hw
  obtain ⟨hlen, hf⟩ := struct_fields Tryd.underlying46 h hw
  rw [show Tryd.prog.cellsOf 46 = 13 by kernel_rfl] at hlen
  match cs, hlen with
  | [c0, c1, c2, c3, c4, c5, c6, c7, c8, c9, c10, c11, c12], _ =>
    obtain ⟨n0, d0, p0, h0, w0⟩ := hf 0 _ rfl
    simp [show Tryd.prog.cellsOf 42 = 1 by kernel_rfl] at h0
    obtain ⟨x0, r0, k0⟩ := (opens_int Tryd.underlying42) h0 w0
    have e0 : [c0] = [vy x0] := r0
    obtain ⟨n1, d1, p1, h1, w1⟩ := hf 1 _ rfl
    simp [show Tryd.prog.cellsOf 9 = 1 by kernel_rfl] at h1
    obtain ⟨x1, r1, k1⟩ := (opens_str Tryd.underlying9) h1 w1
    have e1 : [c1] = [vt x1] := r1
    obtain ⟨n2, d2, p2, h2, w2⟩ := hf 2 _ rfl
    simp [show Tryd.prog.cellsOf 9 = 1 by kernel_rfl] at h2
    obtain ⟨x2, r2, k2⟩ := (opens_str Tryd.underlying9) h2 w2
    have e2 : [c2] = [vt x2] := r2
    obtain ⟨n3, d3, p3, h3, w3⟩ := hf 3 _ rfl
    simp [show Tryd.prog.cellsOf 5 = 1 by kernel_rfl] at h3
    obtain ⟨x3, r3, k3⟩ := (opens_int Tryd.underlying5) h3 w3
    have e3 : [c3] = [vy x3] := r3
    obtain ⟨n4, d4, p4, h4, w4⟩ := hf 4 _ rfl
    simp [show Tryd.prog.cellsOf 4 = 1 by kernel_rfl] at h4
    obtain ⟨x4, r4, k4⟩ := (opens_bool Tryd.underlying4) h4 w4
    have e4 : [c4] = [vb x4] := r4
    obtain ⟨n5, d5, p5, h5, w5⟩ := hf 5 _ rfl
    simp [show Tryd.prog.cellsOf 2 = 1 by kernel_rfl] at h5
    obtain ⟨x5, r5, k5⟩ := (opens_int Tryd.underlying2) h5 w5
    have e5 : [c5] = [vi x5] := r5
    obtain ⟨n6, d6, p6, h6, w6⟩ := hf 6 _ rfl
    simp [show Tryd.prog.cellsOf 2 = 1 by kernel_rfl] at h6
    obtain ⟨x6, r6, k6⟩ := (opens_int Tryd.underlying2) h6 w6
    have e6 : [c6] = [vi x6] := r6
    obtain ⟨n7, d7, p7, h7, w7⟩ := hf 7 _ rfl
    simp [show Tryd.prog.cellsOf 2 = 1 by kernel_rfl] at h7
    obtain ⟨x7, r7, k7⟩ := (opens_int Tryd.underlying2) h7 w7
    have e7 : [c7] = [vi x7] := r7
    obtain ⟨n8, d8, p8, h8, w8⟩ := hf 8 _ rfl
    simp [show Tryd.prog.cellsOf 2 = 1 by kernel_rfl] at h8
    obtain ⟨x8, r8, k8⟩ := (opens_int Tryd.underlying2) h8 w8
    have e8 : [c8] = [vi x8] := r8
    obtain ⟨n9, d9, p9, h9, w9⟩ := hf 9 _ rfl
    simp [show Tryd.prog.cellsOf 44 = 2 by kernel_rfl] at h9
    obtain ⟨x9, r9, k9⟩ := op44 h9 w9
    have e9 : [c9, c10] = [vi x9.lo, vi x9.hi] := r9
    obtain ⟨n10, d10, p10, h10, w10⟩ := hf 10 _ rfl
    simp [show Tryd.prog.cellsOf 2 = 1 by kernel_rfl] at h10
    obtain ⟨x10, r10, k10⟩ := (opens_int Tryd.underlying2) h10 w10
    have e10 : [c11] = [vi x10] := r10
    obtain ⟨n11, d11, p11, h11, w11⟩ := hf 11 _ rfl
    simp [show Tryd.prog.cellsOf 2 = 1 by kernel_rfl] at h11
    obtain ⟨x11, r11, k11⟩ := (opens_int Tryd.underlying2) h11 w11
    have e11 : [c12] = [vi x11] := r11
    exact ⟨⟨x0, x1, x2, x3, x4, x5, x6, x7, x8, x9, x10, x11⟩, (show _ = _ from (by rw [show ([c0, c1, c2, c3, c4, c5, c6, c7, c8, c9, c10, c11, c12] : List Value) = [c0] ++ ([c1] ++ ([c2] ++ ([c3] ++ ([c4] ++ ([c5] ++ ([c6] ++ ([c7] ++ ([c8] ++ ([c9, c10] ++ ([c11] ++ ([c12]))))))))))) from rfl, e0, e1, e2, e3, e4, e5, e6, e7, e8, e9, e10, e11]; rfl)), k0, k1, k2, k3, k4, k5, k6, k7, k8, k9, k10, k11, trivial⟩
theorem procedureSplits_lifted (os : Os) (started : os.Started) (H : Type) (enc : TypeId × Value → H) (F : Stop.Interp) :
    ReturnsInHanded {} Tryd.checked os 6 .any ((Rows.OpenSpec.upto Rows.procedureSplitsSpec).preRow enc Tryd.prog Tryd.f6 Rows.procedureSplitsUptoRow.domain false Rows.procedureSplitsUptoRow.laid) (((Rows.OpenSpec.upto Rows.procedureSplitsSpec).at F).post enc Tryd.prog Tryd.f6 false true false false) := by
  have hx : ∃ x : List (DataW H) × List (DataW H) × List MemPlace, DataW.whole enc Tryd.prog ((World.doorLaid Tryd.prog 400 os).forCall (fun _ _ => 0) ⟨#[], #[.slice none 0 0, .slice none 0 0], []⟩).memory Tryd.f6.params.toList (Rows.OpenSpec.upto Rows.procedureSplitsSpec).vars false (#[.slice none 0 0, .slice none 0 0] : Array Value).toList 8 = some x ∧ (∀ k, (Rows.OpenSpec.upto Rows.procedureSplitsSpec).cond = some k → k H (x.1 ++ x.2.1) = true) := ⟨([.nil, .nil], [], []), by kernel_rfl, fun k hk => by cases hk; kernel_rfl⟩
  obtain ⟨x, hx, hk⟩ := hx
  have hsh : ((World.doorLaid Tryd.prog 400 os).forCall (fun _ _ => 0) ⟨#[], #[.slice none 0 0, .slice none 0 0], []⟩).Shaped Tryd.checked.prog := World.shaped_of_RefB (by kernel_rfl) (by kernel_rfl)
  have hok : Input.okWideB Tryd.checked.prog ((World.doorLaid Tryd.prog 400 os).forCall (fun _ _ => 0) ⟨#[], #[.slice none 0 0, .slice none 0 0], []⟩) 6 ⟨#[], #[.slice none 0 0, .slice none 0 0], []⟩ = true := by kernel_rfl
  refine returnsInHanded_of_row (C := Tryd.checked) (s := (Rows.OpenSpec.upto Rows.procedureSplitsSpec)) Tryd.own started (by kernel_rfl) Tryd.func6
    ⟨World.doorLaid Tryd.prog 400 os, fun _ _ => 0, ⟨#[], #[.slice none 0 0, .slice none 0 0], []⟩, rfl, hsh, (Input.okWide_of_okWideB (base := 0) hok).1, (Input.okWide_of_okWideB hok).2, OpenSpec.preRow_of_cond 8 hx (by kernel_rfl) hk (by kernel_rfl) (door_met os _), by
      simp only [Assume.holds]
      exact ⟨by simp, by simp, by simp, by simp, by simp⟩⟩ ?_
  intro W base args ds gs before hval0 hW hcnd hcond hsz0 hL _ _
  have hval : ∀ (j : Nat) t v, Tryd.f6.params[j]? = some t → args[j]? = some v → Value.okWide Tryd.prog W .any base t v := hval0
  have hW' := hW
  obtain ⟨p, q, hA0, hV, rfl, hfz, hnd⟩ := hW
  have hA : DataW.TrodAll enc Tryd.prog W 0 (fun _ => true) true Tryd.f6.params.toList args.toList ds p := hA0
  have hA1 := hA
  rw [Tryd.params6] at hA hval
  obtain ⟨v0, vs0, d0, ds0, p0, q0, hargs, rfl, rfl, h0, r0⟩ := trodAll_cons hA
  obtain ⟨v1, vs1, d1, ds1, p1, q1, rfl, rfl, rfl, h1, r1⟩ := trodAll_cons r0
  obtain ⟨rfl, rfl, rfl⟩ := trodAll_nil r1
  obtain rfl : args = #[v0, v1] := by cases args; simp_all
  obtain ⟨rfl, rfl⟩ := trodVars_none hV
  have hsz : ∀ m ∈ DataW.weightsEach Tryd.prog [33, 33] [d0, d1], m ≤ reachBytes := fun m hm => by
    have h9 : (DataW.weightsEach Tryd.prog (Tryd.f6.params.toList ++ []) ([d0, d1] ++ [])).all (· ≤ reachBytes) = true := hsz0
    rw [Tryd.params6, List.append_nil, List.append_nil] at h9
    have := List.all_eq_true.1 h9 m hm
    simpa using this
  obtain ⟨B0, n0, e0, rfl⟩ := okWide_slice Tryd.underlying33 (hval 0 33 v0 rfl rfl)
  obtain ⟨f0, g0⟩ := h0
  obtain ⟨a, ⟨Aa, ca, z0, fa⟩, k0⟩ := (opens_sized 112 (by kernel_rfl) op46 Tryd.underlying33 (by kernel_rfl) (by kernel_rfl)) g0 (fun m hm => hsz m (DataW.weights_mem_each (j := 0) rfl rfl m hm))
  obtain ⟨rfl, rfl, rfl⟩ : B0 = Aa ∧ n0 = a.length ∧ e0 = ca := by simpa [Value.cells] using z0
  obtain ⟨B1, n1, e1, rfl⟩ := okWide_slice Tryd.underlying33 (hval 1 33 v1 rfl rfl)
  obtain ⟨f1, g1⟩ := h1
  obtain ⟨b, ⟨Ab, cb, z1, fb⟩, k1⟩ := (opens_sized 112 (by kernel_rfl) op46 Tryd.underlying33 (by kernel_rfl) (by kernel_rfl)) g1 (fun m hm => hsz m (DataW.weights_mem_each (j := 1) rfl rfl m hm))
  obtain ⟨rfl, rfl, rfl⟩ : B1 = Ab ∧ n1 = b.length ∧ e1 = cb := by simpa [Value.cells] using z1
  simp only [List.append_nil] at hW' hA1
  refine (law_of_ctr' (C6 (gh0 W) a B0 e0 b B1 e1 (Arr.toM fa (.refl _)) fb (of_laid hL) (procedureSplits_plain (by have q := bulk_two (hcond _ rfl); have q0 := bulk_len Tryd.underlying33 g0; have q1 := bulk_len Tryd.underlying33 g1; omega)))).mono fun e W' ⟨he, hg⟩ => ?_
  subst he
  exact ⟨_, rfl, law_post Tryd.laidOut (by intro t ht; simp only [Tryd.params6] at ht; revert t; decide +kernel) rfl rfl Tryd.underlying4 rfl hW' hA1 hg⟩
theorem procedureSplits_holds : Rows.ProcedureSplitsUptoSaid :=
  OpenClaim.holds_of_cond 6 Tryd.f6 rfl rfl rfl rfl rfl rfl rfl ⟨rfl, rfl, rfl, rfl, rfl⟩ rfl rfl rfl rfl rfl (by kernel_rfl) Tryd.func6 (by kernel_rfl)
    (of_decide_eq_true (by kernel_rfl)) (by unfold Func.isWrapper; first | (rw [if_pos (by decide +kernel)]; kernel_rfl) | (rw [if_neg (by decide +kernel)]; exact ⟨rfl, rfl⟩))
    (fun os started H enc _ F => by rw [OpenClaim.pre_eq_preRow]; exact procedureSplits_lifted os started H enc F)
theorem procedureSplits_card : Rows.ProcedureSplitsUptoCardSaid :=
  Claim7.holds_tied_plain_at .later [] [.data] true (true, "83d3d00294ddd795b2857374cdd00c9387ff01a45bef37cbecbff7c4500239ef") false
    procedureSplits_holds (fun _ h => by cases h) (by kernel_rfl) (fun _ h => by cases h) procedureSplitsUpto_row_tie rfl ⟨rfl, rfl⟩ (by kernel_rfl) rfl
    (fun f fn hf hfn => by
      obtain rfl : f = 6 := Option.some.inj ((show Tryd.prog.funcNamed "flightdeck/flightdecklaw17.ProcedureSplits" = some 6 by kernel_rfl).symm.trans hf) |>.symm
      obtain rfl : fn = Tryd.f6 := (Option.some.inj (Tryd.func6.symm.trans hfn)).symm
      exact ⟨by kernel_rfl, fun j t ht => by
        rw [Tryd.params6] at ht
        have hm : t ∈ [33, 33] := by simpa using Array.mem_of_getElem? ht
        have hall : ([33, 33].all fun u => !Tryd.prog.wantsStandIn u) = true := by kernel_rfl
        exact (show Tryd.prog.wantsStandIn t = false by simpa using List.all_eq_true.1 hall t hm)⟩)
    (by kernel_rfl)
#print axioms procedureSplits_card
end Go.Proofs.YthfekfebgghjhaaDoor
