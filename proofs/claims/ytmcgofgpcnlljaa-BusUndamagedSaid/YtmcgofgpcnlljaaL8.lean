/-
BusUndamaged returns true for every input. Conditions: none.
-/
import Derived.Test.YtmcgofgpcnlljaaP528
import Derived.Test.YtmcgofgpcnlljaaG8
namespace Go.Proofs.Ytmcgofgpcnlljaa
set_option linter.unusedVariables false
set_option linter.unusedSimpArgs false
set_option maxRecDepth 100000
open Go.RowKit Go.WideShapes Go.ChangeShapes Go.ChangeAt
theorem op24 : Opens Try.prog 24 tyFrame okFrame := by
  intro H enc w base spare held fuel cs d pl h hw
  obtain ⟨hlen, hf⟩ := struct_fields Try.underlying24 h hw
  rw [show Try.prog.cellsOf 24 = 4 by kernel_rfl] at hlen
  match cs, hlen with
  | [c0, c1, c2, c3], _ =>
    obtain ⟨n0, d0, p0, h0, w0⟩ := hf 0 _ rfl
    simp [show Try.prog.cellsOf 5 = 1 by kernel_rfl] at h0
    obtain ⟨x0, r0, k0⟩ := (opens_int Try.underlying5) h0 w0
    have e0 : [c0] = [vy x0] := r0
    obtain ⟨n1, d1, p1, h1, w1⟩ := hf 1 _ rfl
    simp [show Try.prog.cellsOf 5 = 1 by kernel_rfl] at h1
    obtain ⟨x1, r1, k1⟩ := (opens_int Try.underlying5) h1 w1
    have e1 : [c1] = [vy x1] := r1
    obtain ⟨n2, d2, p2, h2, w2⟩ := hf 2 _ rfl
    simp [show Try.prog.cellsOf 2 = 1 by kernel_rfl] at h2
    obtain ⟨x2, r2, k2⟩ := (opens_int Try.underlying2) h2 w2
    have e2 : [c2] = [vi x2] := r2
    obtain ⟨n3, d3, p3, h3, w3⟩ := hf 3 _ rfl
    simp [show Try.prog.cellsOf 22 = 1 by kernel_rfl] at h3
    obtain ⟨x3, r3, k3⟩ := (opens_slice (opens_u8 Try.underlying5) Try.underlying22 (by kernel_rfl) (by kernel_rfl)) h3 w3
    obtain ⟨A_3, c_3, e3, f_3⟩ := r3
    exact ⟨⟨x0, x1, x2, x3⟩, ⟨A_3, c_3, (by rw [show ([c0, c1, c2, c3] : List Value) = [c0] ++ ([c1] ++ ([c2] ++ ([c3]))) from rfl, e0, e1, e2, e3]; rfl), f_3⟩, k0, k1, k2, k3, trivial⟩
theorem op51 : Opens Try.prog 51 tyFate okFate := by
  intro H enc w base spare held fuel cs d pl h hw
  obtain ⟨hlen, hf⟩ := struct_fields Try.underlying51 h hw
  rw [show Try.prog.cellsOf 51 = 3 by kernel_rfl] at hlen
  match cs, hlen with
  | [c0, c1, c2], _ =>
    obtain ⟨n0, d0, p0, h0, w0⟩ := hf 0 _ rfl
    simp [show Try.prog.cellsOf 4 = 1 by kernel_rfl] at h0
    obtain ⟨x0, r0, k0⟩ := (opens_bool Try.underlying4) h0 w0
    have e0 : [c0] = [vb x0] := r0
    obtain ⟨n1, d1, p1, h1, w1⟩ := hf 1 _ rfl
    simp [show Try.prog.cellsOf 3 = 1 by kernel_rfl] at h1
    obtain ⟨x1, r1, k1⟩ := (opens_int Try.underlying3) h1 w1
    have e1 : [c1] = [vi x1] := r1
    obtain ⟨n2, d2, p2, h2, w2⟩ := hf 2 _ rfl
    simp [show Try.prog.cellsOf 49 = 1 by kernel_rfl] at h2
    obtain ⟨x2, r2, k2⟩ := (opens_int Try.underlying49) h2 w2
    have e2 : [c2] = [Value.int .u32 x2] := r2
    exact ⟨⟨x0, x1, x2⟩, (show _ = _ from (by rw [show ([c0, c1, c2] : List Value) = [c0] ++ ([c1] ++ ([c2])) from rfl, e0, e1, e2]; rfl)), k0, k1, k2, trivial⟩
theorem busUndamaged_lifted (os : Os) (started : os.Started) (H : Type) (enc : TypeId × Value → H) :
    ReturnsInHanded {} Try.checked os 8 .any (Rows.busUndamagedSpec.pre6 enc Try.prog Try.f8 Rows.busUndamagedRow.domain false) (Rows.busUndamagedSpec.post enc Try.prog Try.f8 false true false false) := by
  refine returnsInHanded_of_change_sized (C := Try.checked) Try.own started (by kernel_rfl) Try.func8
    (ChangeSpec.witness6 (enc := enc) (C := Try.checked) false ⟨#[], #[.agg #[vy 0, vy 0, vi 0, .slice none 0 0], .agg #[vb false, vi 0, .int .u32 0]], []⟩ 8 (by kernel_rfl) (by kernel_rfl) (by kernel_rfl) (by kernel_rfl)) ?_
  intro W base args ds gs before hval0 hW hcnd hsz0 _
  have hval : ∀ (j : Nat) t v, Try.f8.params[j]? = some t → args[j]? = some v → Value.okWide Try.prog W .any base t v := hval0
  have hW' := hW
  obtain ⟨p, q, hA0, hV, rfl, hfz, hnd⟩ := hW
  have hA : DataW.TrodAll enc Try.prog W 0 (fun _ => true) true Try.f8.params.toList args.toList ds p := hA0
  have hA1 := hA
  rw [Try.params8] at hA hval
  obtain ⟨v0, vs0, d0, ds0, p0, q0, hargs, rfl, rfl, h0, r0⟩ := trodAll_cons hA
  obtain ⟨v1, vs1, d1, ds1, p1, q1, rfl, rfl, rfl, h1, r1⟩ := trodAll_cons r0
  obtain ⟨rfl, rfl, rfl⟩ := trodAll_nil r1
  obtain rfl : args = #[v0, v1] := by cases args; simp_all
  obtain ⟨rfl, rfl⟩ := trodVars_none hV
  have hsz : ∀ m ∈ DataW.weightsEach Try.prog [24, 51] [d0, d1], m ≤ reachBytes := fun m hm => by
    have h9 : (DataW.weightsEach Try.prog (Try.f8.params.toList ++ []) ([d0, d1] ++ [])).all (· ≤ reachBytes) = true := hsz0
    rw [Try.params8, List.append_nil, List.append_nil] at h9
    have := List.all_eq_true.1 h9 m hm
    simpa using this
  obtain ⟨u0, rfl, _⟩ := okWide_struct Try.underlying24 (hval 0 24 v0 rfl rfl)
  obtain ⟨f0, g0⟩ := h0
  obtain ⟨x, z0, k0⟩ := op24 g0 (fun m hm => hsz m (DataW.weights_mem_each (j := 0) rfl rfl m hm))
  obtain ⟨Ax_payload, cx_payload, y0, fx_payload⟩ := z0
  obtain rfl : u0 = #[vy x.label, vy x.from_, vi x.cycle, vs Ax_payload x.payload cx_payload] := Array.toList_inj.1 y0
  obtain ⟨u1, rfl, _⟩ := okWide_struct Try.underlying51 (hval 1 51 v1 rfl rfl)
  obtain ⟨f1, g1⟩ := h1
  obtain ⟨f, z1, k1⟩ := op51 g1 (fun m hm => hsz m (DataW.weights_mem_each (j := 1) rfl rfl m hm))
  have y1 : (Value.agg u1).cells.toList = [vb f.lost, vi f.bit, Value.int .u32 f.pattern] := z1
  obtain rfl : u1 = #[vb f.lost, vi f.bit, Value.int .u32 f.pattern] := Array.toList_inj.1 y1
  simp only [List.append_nil] at hW' hA1
  refine (law_of_ctr' (c8 (gh0 W) x Ax_payload cx_payload f fx_payload (busUndamaged_plain x f (okF_of k0)))).mono fun e W' ⟨he, hg⟩ => ?_
  subst he
  exact ⟨_, rfl, law_post Try.laidOut (by intro t ht; simp only [Try.params8] at ht; revert t; decide +kernel) rfl rfl Try.underlying4 rfl hW' hA1 hg⟩
theorem busUndamaged_holds : Rows.BusUndamagedSaid :=
  OpenClaim.holds_of_wide 8 Try.f8 rfl rfl rfl rfl rfl rfl rfl ⟨rfl, rfl, rfl, rfl, rfl⟩ rfl rfl rfl rfl rfl (by kernel_rfl) Try.func8 (by kernel_rfl)
    (of_decide_eq_true (by kernel_rfl)) (by unfold Func.isWrapper; first | (rw [if_pos (by decide +kernel)]; kernel_rfl) | (rw [if_neg (by decide +kernel)]; exact ⟨rfl, rfl⟩))
    (fun os started H enc _ => busUndamaged_lifted os started H enc)
#print axioms busUndamaged_holds
end Go.Proofs.Ytmcgofgpcnlljaa
