/-
AlertKeeps in plain words. Conditions: each lemma's own.
-/
import Derived.Test.YtfhchendnfpbkaaP55bx7
namespace Go.Proofs.Ytfhchendnfpbkaa
set_option linter.unusedVariables false
set_option linter.unusedSimpArgs false
open Go.RowKit
theorem o24n_is : o24n = some 0 := by kernel_rfl
theorem o21n_is : o21n = some 0 := by kernel_rfl
theorem o20n_is : o20n = some [] := by kernel_rfl
theorem alertKeeps_plain (conds i : Int) (hc : 0 ≤ conds ∧ conds ≤ 65535) : o7 conds i = some true := by
  unfold o7
  have hsl := std_len
  have hn : std0.defs.length = 16 := hsl
  rw [o10_true, bindO_some rfl]
  simp only [Bool.not_true, cond_false]
  rw [o15_eq, bindO_some rfl, o12_std, bindO_some rfl]
  simp only [Option.isNone_some, Bool.or_false]
  rw [bindO_some rfl, neq_f rfl, cond_false]
  obtain ⟨cs, s1, s2, s3⟩ := o17_is w_std0 conds 4 (by rw [hn]; exact shr16 hc) (by decide)
  rw [s1, bindO_some rfl, bindO_some rfl]
  simp only
  rw [neq_f rfl, cond_false]
  obtain ⟨b, hb⟩ : ∃ b : Board, b = ⟨std0.defs, IntKind.i64.wrap (std0.steps + 1), 4, cs⟩ := ⟨_, rfl⟩
  rw [← hb]
  have hbd : b.defs = stdL := by rw [hb]; rfl
  have w : WB b := by subst hb; exact ⟨s2, by rw [show std0.defs.length = 16 from hn]; decide, by simp only; decide, by simp only; decide⟩
  have hbn : b.defs.length = 16 := by rw [hbd, hsl]
  obtain ⟨r, r1, r2, r3, r4, r5, r6⟩ := o19_is w
  have h20 := o20_is r1 (by omega) r4
  have hmap : (r.map (nameOf b)).length = r.length := List.length_map _
  rw [o22_is w, bindO_some rfl, r1, bindO_some rfl]
  obtain ⟨v4, e4, -⟩ := loopO_ok (f := o7_L4 stdL) (fun s => s.2 ≤ stdL.length ∧ s.1.length = stdL.length) (fun s => stdL.length - s.2) (fun _ => True) (by
    rintro ⟨x, k⟩ ⟨h1, h2⟩
    simp only at h1 h2
    unfold o7_L4
    obtain ⟨M, hM, hMb⟩ : ∃ M : Int, M = 9223372036854775807 ∧ M > 1000 := ⟨_, rfl, by decide⟩
    rw [← hM]
    simp only
    by_cases hlt : k < stdL.length
    · rw [dt (by omega), cond_true, grd_at' (by omega), grd_at' (by omega)]
      exact .inl ⟨_, rfl, ⟨by simp only; omega, by simp only [List.length_set]; exact h2⟩, by simp only; omega⟩
    · exact .inr ⟨_, cond_neg (df (by omega)), trivial⟩) fuelN (stdL, 0) ⟨Nat.zero_le _, rfl⟩ (by simp only [fuelN]; omega)
  rw [e4, bindO_some rfl]
  obtain ⟨v3, e3, -⟩ := loopO_ok (f := o7_L3 (false, b) r) (fun s => s.2 ≤ r.length ∧ s.1.length = r.length) (fun s => r.length - s.2) (fun _ => True) (by
    rintro ⟨x, k⟩ ⟨h1, h2⟩
    simp only at h1 h2
    unfold o7_L3
    obtain ⟨M, hM, hMb⟩ : ∃ M : Int, M = 9223372036854775807 ∧ M > 1000 := ⟨_, rfl, by decide⟩
    rw [← hM]
    simp only
    by_cases hlt : k < r.length
    · rw [dt (by omega), cond_true, h20, bindO_some rfl, grd_at' (by omega), grd_at' (by omega), grd_at' (by omega)]
      exact .inl ⟨_, rfl, ⟨by simp only; omega, by simp only [List.length_set]; exact h2⟩, by simp only; omega⟩
    · exact .inr ⟨_, cond_neg (df (by omega)), trivial⟩) fuelN (r, 0) ⟨Nat.zero_le _, rfl⟩ (by simp only [fuelN]; omega)
  rw [e3, bindO_some rfl, bindO_some rfl]
  have hbl : (bytesB b).length ≤ 1000 := by
    have := w.1
    unfold bytesB
    rw [List.length_append, List.length_append, bytesC_len, putB_len]
    simp only [List.length_cons, List.length_nil]
    omega
  obtain ⟨p, hp⟩ : ∃ p, bytesB b = p := ⟨_, rfl⟩
  rw [hp] at hbl ⊢
  obtain ⟨v2, e2, -⟩ := loopO_ok (f := o7_L2 p) (fun s => s.2 ≤ p.length ∧ s.1.length = p.length) (fun s => p.length - s.2) (fun _ => True) (by
    rintro ⟨x, k⟩ ⟨h1, h2⟩
    simp only at h1 h2
    unfold o7_L2
    obtain ⟨M, hM, hMb⟩ : ∃ M : Int, M = 9223372036854775807 ∧ M > 2000 := ⟨_, rfl, by decide⟩
    rw [← hM]
    simp only
    by_cases hlt : k < p.length
    · rw [dt (by omega), cond_true, grd_at' (by omega), grd_at' (by omega), grd_at' (by omega)]
      exact .inl ⟨_, rfl, ⟨by simp only; omega, by simp only [List.length_set]; exact h2⟩, by simp only; omega⟩
    · exact .inr ⟨_, cond_neg (df (by omega)), trivial⟩) fuelN (p, 0) ⟨Nat.zero_le _, rfl⟩ (by simp only [fuelN]; omega)
  rw [e2, bindO_some rfl, o23_is w, bindO_some rfl]
  have hcl : b.conds.length = 16 := by rw [w.1, hbn]
  obtain ⟨v1, e1, rfl⟩ := loopO_ok (f := o7_L1 (sel (hld b) b.conds.length)) (fun s => s ≤ (sel (hld b) b.conds.length).length) (fun s => (sel (hld b) b.conds.length).length - s) (fun v => v = Ctl.go ()) (by
    intro k h1
    unfold o7_L1
    obtain ⟨M, hM, hMb⟩ : ∃ M : Int, M = 9223372036854775807 ∧ M > 1000 := ⟨_, rfl, by decide⟩
    rw [← hM]
    have hsll := sel_len (hld b) b.conds.length
    by_cases hlt : k < (sel (hld b) b.conds.length).length
    · obtain ⟨j, j1, j2, j3⟩ := sel_at (hld b) b.conds.length k hlt
      rw [dt (by omega), cond_true, j3, df (by omega : ¬ ((j : Nat) : Int) < 0), df (by omega : ¬ ((j : Nat) : Int) > 15)]
      simp only [Bool.or_false, cond_false]
      rw [grd_at' (by omega)]
      exact .inl ⟨_, rfl, by omega, by omega⟩
    · exact .inr ⟨_, cond_neg (df (by omega)), rfl⟩) fuelN 0 (Nat.zero_le _) (by have := sel_len (hld b) b.conds.length; simp only [fuelN]; omega)
  rw [e1, joinO_go rfl, bindO_some rfl, beq_self_eq_true]
  simp only [Bool.not_true, cond_false]
  rw [h20, bindO_some rfl, bindO_some rfl, hmap, neq_f rfl, bindO_some rfl, cond_false, bindO_some rfl]
  obtain ⟨v0, e0, rfl⟩ := loopO_ok (f := o7_L0 (false, b) r) (fun s => s ≤ r.length) (fun s => r.length - s) (fun v => v = Ctl.go ()) (by
    intro k h1
    unfold o7_L0
    obtain ⟨M, hM, hMb⟩ : ∃ M : Int, M = 9223372036854775807 ∧ M > 1000 := ⟨_, rfl, by decide⟩
    rw [← hM]
    simp only
    by_cases hlt : k < r.length
    · obtain ⟨j, j1, j2, j3⟩ := r4 k hlt
      have hnm : (r.map (nameOf b)).getD k [] = (stdL.getD j default).name := by
        rw [getD_map (nameOf b) r 0 [] hlt, j3]; unfold nameOf; rw [show (((j : Nat) : Int)).toNat = j from by omega, hbd]
      rw [dt (by omega), cond_true, h20, bindO_some rfl, grd_at' (by omega), o15_eq, bindO_some rfl, j3, grd_at' (by omega), hnm, show (((j : Nat) : Int)).toNat = j from by omega, beq_self_eq_true]
      simp only [Bool.not_true, cond_false]
      rw [grd_at' (by omega)]
      exact .inl ⟨_, rfl, by omega, by omega⟩
    · exact .inr ⟨_, cond_neg (df (by omega)), rfl⟩) fuelN 0 (Nat.zero_le _) (by simp only [fuelN]; omega)
  rw [e0, joinO_go rfl, o24n_is, o21n_is, o20n_is]
  rfl
theorem u16_of {i : Int} (h : IntKind.u16.min ≤ i ∧ i ≤ IntKind.u16.max) : 0 ≤ i ∧ i ≤ 65535 := h
end Go.Proofs.Ytfhchendnfpbkaa
