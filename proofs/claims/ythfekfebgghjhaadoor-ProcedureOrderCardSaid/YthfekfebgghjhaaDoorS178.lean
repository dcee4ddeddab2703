/-
ProcedureOrder in plain words. Conditions: each lemma's own.
-/
import Derived.Test.YthfekfebgghjhaaDoorS17exp
import Derived.Test.YthfekfebgghjhaaDoorK8x0
namespace Go.Proofs.YthfekfebgghjhaaDoor
set_option linter.unusedVariables false
set_option linter.unusedSimpArgs false
open Go.RowKit
theorem o23_tot {p : Proc} (h : okProc p) (rw_ tr : List UInt8) : ∃ v, o13 p = some v ∧ ((v ≠ 0 ∧ o23 p rw_ tr = some ([], v)) ∨ (v = 0 ∧ W17.Chk p ∧ o23 p rw_ tr = some (W17.exR p rw_ tr))) := by
  obtain ⟨v, hv, hq⟩ := W17.o13_tot h
  refine ⟨v, hv, ?_⟩
  by_cases h0 : v = 0
  · subst h0
    exact .inr ⟨rfl, hq rfl, W17.o23_is h (hq rfl) hv _ _⟩
  · refine .inl ⟨h0, ?_⟩
    unfold o23
    rw [hv, bindO_some rfl, neq_t h0, cond_true]
theorem order_loop {J : List Leg} (hg : W17.GoodL J) (hl : J.length ≤ 1000) (e : Int) : loopO fuelN (o8_L0 (J, e)) 0 = some (Ctl.go ()) := by
  obtain ⟨r, hr, rfl⟩ := loopO_ok (f := o8_L0 (J, e)) (fun s => s ≤ J.length) (fun s => J.length - s) (fun r => r = Ctl.go ()) (by
    intro k hk
    unfold o8_L0
    obtain ⟨M, hM, hMb⟩ : ∃ M : Int, M = 9223372036854775807 ∧ M > 1000000000000000000 := ⟨_, rfl, by decide⟩
    rw [← hM]
    simp only
    by_cases hlt : k < J.length
    · rw [dt (by omega), cond_true, hg.ok k hlt, bindO_some rfl, neq_f rfl, cond_false]
      cases hc : (decide (((k : Nat) : Int) > 0) && ((J.getD k default).type_ != 1)) with
      | false =>
        rw [cond_false, bindO_some rfl, bindO_some rfl, cond_false, grd_at' (by omega)]
        exact .inl ⟨_, rfl, by omega, by omega⟩
      | true =>
        rw [Bool.and_eq_true, decide_eq_true_iff] at hc
        have ek : (((k : Nat) : Int) - 1).toNat = k - 1 := by omega
        rw [cond_true, grd_at' (by omega), letJ_def, ek]
        rcases hg.pair k (by omega) hlt with q | q
        · rw [q] at hc; exact absurd hc.2 (by decide)
        · rw [q, Bool.not_true, bindO_some rfl, bindO_some rfl, cond_false, grd_at' (by omega)]
          exact .inl ⟨_, rfl, by omega, by omega⟩
    · exact .inr ⟨_, cond_neg (df (by omega)), rfl⟩) fuelN 0 (Nat.zero_le _) (by simp only [fuelN]; omega)
  exact hr
theorem procedureOrder_plain {p : Proc} (h : okProc p) (rw_ tr : List UInt8) : o8 p rw_ tr = some true := by
  unfold o8
  rw [o12_true, bindO_some rfl, Bool.not_true, cond_false]
  obtain ⟨v, hv, ⟨h0, h23⟩ | ⟨rfl, hc, h23⟩⟩ := o23_tot h rw_ tr
  · rw [h23, bindO_some rfl, neq_t h0, cond_true]; rfl
  · rw [h23, bindO_some rfl]
    have hg := W17.exJ_good hc rw_ tr
    have hl := W17.exJ_len hc rw_ tr
    unfold W17.exR
    cases W17.err1 p rw_ with
    | true => rfl
    | false =>
      cases W17.err2 p tr with
      | true => rfl
      | false =>
        rw [cond_false, cond_false]
        cases he : ((((W17.exJ p rw_ tr).length : Nat) : Int) == 0) with
        | true => rfl
        | false =>
          have : ¬ (((W17.exJ p rw_ tr).length : Nat) : Int) = 0 := by simpa using he
          rw [cond_false, neq_f rfl, cond_false, order_loop hg hl, joinO_go rfl, dt (by simp only; omega)]
end Go.Proofs.YthfekfebgghjhaaDoor
