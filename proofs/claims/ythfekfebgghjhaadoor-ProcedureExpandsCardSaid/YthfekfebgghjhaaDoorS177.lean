/-
ProcedureExpands in plain words. Conditions: each lemma's own.
-/
import Derived.Test.YthfekfebgghjhaaDoorS17cx7
import Derived.Test.YthfekfebgghjhaaDoorS17dx7
import Derived.Test.YthfekfebgghjhaaDoorS17fx7
namespace Go.Proofs.YthfekfebgghjhaaDoor
set_option linter.unusedVariables false
set_option linter.unusedSimpArgs false
open Go.RowKit
theorem o16_is {p : Proc} (h : sizedP p) (k : Int) : o16 p k = some (namesP p k p.parts.length) := by
  rw [← o15_is h k]
  unfold o16 o15
  rw [show o16_L0 p k = o15_L0 p k from rfl]
theorem namesP_none {p : Proc} {k : Int} : ∀ m, (∀ j, j < m → (p.parts.getD j default).kind ≠ k) → namesP p k m = []
  | 0, _ => rfl
  | m + 1, h => by
    rw [namesP, eq_f (h m (by omega)), cond_false]
    exact namesP_none m fun j hj => h j (by omega)
theorem hasRw3 {p : Proc} (hc : W17.Chk p) (hk : p.kind = 3) : W17.hasRw p = false := by
  unfold W17.hasRw
  rw [namesP_none p.parts.length fun j hj e => by
    obtain ⟨i, i1, i2⟩ := (hc.parts j hj).kind
    rw [hk, show o36 3 = [3, 2, 4] from rfl] at i1 i2
    rw [e] at i2
    match i, i1 with
    | 0, _ => exact absurd i2 (by decide)
    | 1, _ => exact absurd i2 (by decide)
    | 2, _ => exact absurd i2 (by decide)]
  rfl
def arr4 (b1 : Bool) (r1 : Nat) (x1 : Part) (b3 : Bool) (r3 : Nat) (x3 : Part) (b2 : Bool) (x2 : Part) : List Part := cond b2 (List.set (cond b3 (List.set (cond b1 (List.set (List.replicate 4 (default : Part)) r1 x1) (List.replicate 4 (default : Part))) r3 x3) (cond b1 (List.set (List.replicate 4 (default : Part)) r1 x1) (List.replicate 4 (default : Part)))) 2 x2) (cond b3 (List.set (cond b1 (List.set (List.replicate 4 (default : Part)) r1 x1) (List.replicate 4 (default : Part))) r3 x3) (cond b1 (List.set (List.replicate 4 (default : Part)) r1 x1) (List.replicate 4 (default : Part))))
theorem o24_is {p : Proc} (h : okProc p) (hc : W17.Chk p) (h0 : o14 p = some 0) (rw_ tr : List UInt8) : o24 p rw_ tr = some (W17.exR p rw_ tr) := by
  have hs := sizedP_of h
  have k1 := W17.l1_ok hc rw_
  have k2 := W17.l2_ok hc
  have k3 := W17.l3_ok hc tr
  have f1 := k1.few
  have f2 := k2.few
  have f3 := k3.few
  have hJ := W17.exJ_len hc rw_ tr
  have b3 := (W17.part_legs hc 2 []).2.2
  unfold o24 W17.exR
  rw [h0, bindO_some rfl, neq_f rfl, cond_false, o16_is hs, bindO_some rfl, o18_is hs, o18_is hs, o18_is hs]
  simp only [bindO_some rfl, letJ_def]
  obtain ⟨r1, hr1, hr1'⟩ : ∃ r1 : Nat, o39 p.kind 1 = (r1 : Int) ∧ r1 < 4 := ⟨(o39 p.kind 1).toNat, by have := o39_in p.kind 1; omega, by have := o39_in p.kind 1; omega⟩
  obtain ⟨r3, hr3, hr3'⟩ : ∃ r3 : Nat, o39 p.kind 3 = (r3 : Int) ∧ r3 < 4 := ⟨(o39 p.kind 3).toNat, by have := o39_in p.kind 3; omega, by have := o39_in p.kind 3; omega⟩
  have e1 : (cond (decide ((((namesP p 1 p.parts.length).length : Nat) : Int) > 0)) (cond (!(partP p 1 rw_).2) (some (Ctl.done (([] : List Leg), (6 : Int)))) (grd (decide (0 ≤ o39 p.kind 1 ∧ o39 p.kind 1 < 4)) (some (Ctl.go (List.set (List.replicate 4 (default : Part)) (o39 p.kind 1).toNat (partP p 1 rw_).1))))) (some (Ctl.go (List.replicate 4 (default : Part)))) : Option (Ctl (List Part) (List Leg × Int))) = some (cond (W17.err1 p rw_) (Ctl.done ([], 6)) (Ctl.go (cond (W17.hasRw p) (List.set (List.replicate 4 (default : Part)) r1 (partP p 1 rw_).1) (List.replicate 4 (default : Part))))) := by
    rw [hr1, grd_at' (by omega), show ((r1 : Nat) : Int).toNat = r1 by omega]
    unfold W17.err1
    show cond (W17.hasRw p) _ _ = _
    cases W17.hasRw p with
    | false => rfl
    | true => cases (partP p 1 rw_).2 <;> rfl
  rw [e1]
  cases herr1 : W17.err1 p rw_ with
  | true => rfl
  | false =>
    rw [cond_false, cond_false, joinO_go rfl]
    have e2 : (cond (!(tr == [])) (cond (!(partP p 3 tr).2) (some (Ctl.done (([] : List Leg), (6 : Int)))) (grd (decide (0 ≤ o39 p.kind 3 ∧ o39 p.kind 3 < 4)) (some (Ctl.go (List.set (cond (W17.hasRw p) (List.set (List.replicate 4 (default : Part)) r1 (partP p 1 rw_).1) (List.replicate 4 (default : Part))) (o39 p.kind 3).toNat (partP p 3 tr).1))))) (some (Ctl.go (cond (W17.hasRw p) (List.set (List.replicate 4 (default : Part)) r1 (partP p 1 rw_).1) (List.replicate 4 (default : Part))))) : Option (Ctl (List Part) (List Leg × Int))) = some (cond (W17.err2 p tr) (Ctl.done ([], 6)) (Ctl.go (cond (!(tr == [])) (List.set (cond (W17.hasRw p) (List.set (List.replicate 4 (default : Part)) r1 (partP p 1 rw_).1) (List.replicate 4 (default : Part))) r3 (partP p 3 tr).1) (cond (W17.hasRw p) (List.set (List.replicate 4 (default : Part)) r1 (partP p 1 rw_).1) (List.replicate 4 (default : Part)))))) := by
      rw [hr3, grd_at' (by omega), show ((r3 : Nat) : Int).toNat = r3 by omega]
      unfold W17.err2
      cases (!(tr == [])) with
      | false => rfl
      | true => cases (partP p 3 tr).2 <;> rfl
    rw [e2]
    cases herr2 : W17.err2 p tr with
    | true => rfl
    | false =>
      rw [cond_false, cond_false, joinO_go rfl]
      have g : ((arr4 (W17.hasRw p) r1 (partP p 1 rw_).1 (!(tr == [])) r3 (partP p 3 tr).1 (partP p 2 []).2 (partP p 2 []).1).getD 1 default).legs = W17.exA p rw_ tr ∧ ((arr4 (W17.hasRw p) r1 (partP p 1 rw_).1 (!(tr == [])) r3 (partP p 3 tr).1 (partP p 2 []).2 (partP p 2 []).1).getD 2 default).legs = W17.l2 p ∧ ((arr4 (W17.hasRw p) r1 (partP p 1 rw_).1 (!(tr == [])) r3 (partP p 3 tr).1 (partP p 2 []).2 (partP p 2 []).1).getD 3 default).legs = W17.exC p rw_ tr := by
        have g2' : W17.l2 p = cond (partP p 2 []).2 (partP p 2 []).1.legs [] := by
          unfold W17.l2
          cases hq : (partP p 2 []).2 with
          | false => rw [b3 hq]; rfl
          | true => rfl
        rw [g2']
        unfold W17.exA W17.exC W17.l1 W17.l3
        rcases W17.o36_three hc.kind with ⟨e, -⟩ | ⟨e, -⟩ | ⟨e, -⟩
        · rw [e] at hr1 hr3
          obtain rfl : r1 = 1 := by have : o39 1 1 = 1 := rfl; omega
          obtain rfl : r3 = 3 := by have : o39 1 3 = 3 := rfl; omega
          rw [eq_t e]
          generalize (partP p 2 []).2 = q2
          generalize (!(tr == [])) = q3
          cases W17.hasRw p <;> cases q2 <;> cases q3 <;> exact ⟨rfl, rfl, rfl⟩
        · rw [e] at hr1 hr3
          obtain rfl : r1 = 3 := by have : o39 2 1 = 3 := rfl; omega
          obtain rfl : r3 = 1 := by have : o39 2 3 = 1 := rfl; omega
          rw [eq_f (show p.kind ≠ 1 by omega), eq_t e]
          generalize (partP p 2 []).2 = q2
          generalize (!(tr == [])) = q3
          cases W17.hasRw p <;> cases q2 <;> cases q3 <;> exact ⟨rfl, rfl, rfl⟩
        · rw [hasRw3 hc e]
          rw [e] at hr3
          obtain rfl : r3 = 1 := by have : o39 3 3 = 1 := rfl; omega
          rw [eq_f (show p.kind ≠ 1 by omega), eq_f (show p.kind ≠ 2 by omega)]
          generalize (partP p 2 []).2 = q2
          generalize (!(tr == [])) = q3
          cases q2 <;> cases q3 <;> exact ⟨rfl, rfl, rfl⟩
      show bindO (o22 ((arr4 (W17.hasRw p) r1 (partP p 1 rw_).1 (!(tr == [])) r3 (partP p 3 tr).1 (partP p 2 []).2 (partP p 2 []).1).getD 1 default).legs ((arr4 (W17.hasRw p) r1 (partP p 1 rw_).1 (!(tr == [])) r3 (partP p 3 tr).1 (partP p 2 []).2 (partP p 2 []).1).getD 2 default).legs) (fun y33 => bindO (o22 y33 ((arr4 (W17.hasRw p) r1 (partP p 1 rw_).1 (!(tr == [])) r3 (partP p 3 tr).1 (partP p 2 []).2 (partP p 2 []).1).getD 3 default).legs) fun y36 => cond (((y36.length : Nat) : Int) == 0) (some ([], 6)) (some (y36, 0))) = _
      rw [g.1, g.2.1, g.2.2]
      have j2 := W17.jn_len (W17.exA p rw_ tr) (W17.l2 p)
      have hA : (W17.exA p rw_ tr).length ≤ 24 := by unfold W17.exA; cases (p.kind == 1) <;> assumption
      have hC : (W17.exC p rw_ tr).length ≤ 24 := by
        unfold W17.exC
        cases (p.kind == 1) with
        | true => exact f3
        | false => cases (p.kind == 2) with
          | true => exact f1
          | false => exact Nat.zero_le _
      rw [o22_is (by omega), bindO_some rfl, o22_is (by omega), bindO_some rfl]
      show cond ((((W17.exJ p rw_ tr).length : Nat) : Int) == 0) _ _ = _
      cases ((((W17.exJ p rw_ tr).length : Nat) : Int) == 0) <;> rfl
theorem procedureExpands_plain {p : Proc} (h : okProc p) (rw_ tr : List UInt8) : o7 p rw_ tr = some true := by
  obtain ⟨v, hv, hq⟩ := W17.o13_tot h
  have h14 : o14 p = some v := by rw [← (check_is h).1]; exact hv
  have key : ∃ R : List Leg × Int, o23 p rw_ tr = some R ∧ o24 p rw_ tr = some R ∧ R.1.length ≤ 1000 := by
    by_cases h0 : v = 0
    · subst h0
      refine ⟨_, W17.o23_is h (hq rfl) hv rw_ tr, o24_is h (hq rfl) h14 rw_ tr, ?_⟩
      have := W17.exJ_len (hq rfl) rw_ tr
      unfold W17.exR
      cases W17.err1 p rw_ with
      | true => exact Nat.zero_le _
      | false =>
        cases W17.err2 p tr with
        | true => exact Nat.zero_le _
        | false =>
          cases ((((W17.exJ p rw_ tr).length : Nat) : Int) == 0) with
          | true => exact Nat.zero_le _
          | false => exact this
    · refine ⟨([], v), ?_, ?_, Nat.zero_le _⟩
      · unfold o23; rw [hv, bindO_some rfl, neq_t h0, cond_true]
      · unfold o24; rw [h14, bindO_some rfl, neq_t h0, cond_true]
  obtain ⟨R, r1, r2, r3⟩ := key
  unfold o7
  rw [o12_true, bindO_some rfl, Bool.not_true, cond_false, r1, r2, bindO_some rfl, bindO_some rfl, beq_self_eq_true, cond_true, o20_same (by omega), bindO_some rfl, bindO_some rfl]
end Go.Proofs.YthfekfebgghjhaaDoor
