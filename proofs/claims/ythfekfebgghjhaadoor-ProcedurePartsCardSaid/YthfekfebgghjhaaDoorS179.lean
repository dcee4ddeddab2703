/-
ProcedureParts in plain words. Conditions: each lemma's own.
-/
import Derived.Test.YthfekfebgghjhaaDoorS17exp
import Derived.Test.YthfekfebgghjhaaDoorK9x0
namespace Go.Proofs.YthfekfebgghjhaaDoor
set_option linter.unusedVariables false
set_option linter.unusedSimpArgs false
open Go.RowKit
theorem namesP_mem (p : Proc) (k : Int) : ∀ (m i : Nat), i < (namesP p k m).length → ∃ j, j < m ∧ (p.parts.getD j default).kind = k ∧ (p.parts.getD j default).name = (namesP p k m).getD i []
  | 0, i, h => by cases h
  | m + 1, i, h => by
    rw [namesP] at h ⊢
    cases hk : ((p.parts.getD m default).kind == k) with
    | false =>
      rw [hk, cond_false] at h
      obtain ⟨j, j1, j2, j3⟩ := namesP_mem p k m i h
      exact ⟨j, by omega, j2, j3⟩
    | true =>
      rw [hk, cond_true] at h
      rw [cond_true]
      by_cases q : i < (namesP p k m).length
      · obtain ⟨j, j1, j2, j3⟩ := namesP_mem p k m i q
        refine ⟨j, by omega, j2, ?_⟩
        rw [j3, List.getD_eq_getElem?_getD, List.getD_eq_getElem?_getD, List.getElem?_append_left q]
      · rw [List.length_append] at h
        simp only [List.length_cons, List.length_nil] at h
        refine ⟨m, by omega, by simpa using hk, ?_⟩
        have e : ∀ (l : List (List UInt8)) (x : List UInt8) (i : Nat), i = l.length → (l ++ [x]).getD i [] = x := by
          intro l x i hi; subst hi; simp
        rw [e _ _ _ (by omega)]
theorem namesP_none {p : Proc} {k : Int} : ∀ m, (∀ j, j < m → (p.parts.getD j default).kind ≠ k) → namesP p k m = []
  | 0, _ => rfl
  | m + 1, h => by
    rw [namesP, eq_f (h m (by omega)), cond_false]
    exact namesP_none m fun j hj => h j (by omega)
theorem hasRw3 {p : Proc} (hc : W17.Chk p) (hk : p.kind = 3) : W17.hasRw p = false := by
  unfold W17.hasRw
  rw [namesP_none p.parts.length fun j hj e => by
    obtain ⟨i, i1, i2⟩ := (hc.parts j hj).kind
    rw [hk, show o36 3 = [3, 2, 4] from rfl] at i1 i2
    rw [e] at i2
    match i, i1 with
    | 0, _ => exact absurd i2 (by decide)
    | 1, _ => exact absurd i2 (by decide)
    | 2, _ => exact absurd i2 (by decide)]
  rfl
theorem parts_core {q : Proc} (h : okProc q) (hk : q.kind = 3) (rw_ : List UInt8) {n : Int} (hn : 0 ≤ n ∧ n ≤ 1000000000000) :
    (bindO (τ := Int) (o13 q) fun y6 => (cond ((y6 != 0)) (some ((true))) (bindO (τ := Part × Bool) (o17 q (2 : Int) []) fun y10 => (bindO (τ := (List Leg) × Int) (o23 q rw_ []) fun y14 => (bindO (τ := Bool) (cond (((!y10.2) || (y14.2 != 0))) (some (true)) (bindO (τ := Bool) (o20 (y14.1 : List Leg) (y10.1.legs : List Leg)) fun y48 => (some (!y48)))) fun t18 => (cond (t18) (some ((false))) (bindO (τ := (List (List UInt8))) (o15 q (3 : Int)) fun y22 => (cond (((((y22).length : Nat) : Int) == 0)) (some ((true))) (grd (decide (0 ≤ (Int.tmod (IntKind.i64.wrap n) (((y22).length : Nat) : Int)) ∧ (Int.tmod (IntKind.i64.wrap n) (((y22).length : Nat) : Int)) < (((y22).length : Nat) : Int))) (bindO (τ := Part × Bool) (o17 q (3 : Int) (List.getD y22 ((Int.tmod (IntKind.i64.wrap n) (((y22).length : Nat) : Int))).toNat [])) fun y29 => (bindO (τ := (List Leg) × Int) (o23 q rw_ (List.getD y22 ((Int.tmod (IntKind.i64.wrap n) (((y22).length : Nat) : Int))).toNat [])) fun y33 => (bindO (τ := Bool) (cond ((y29.2 && (y33.2 == 0))) (bindO (τ := (List Leg)) (o21 (y29.1.legs : List Leg) (y10.1.legs : List Leg)) fun y41 => (bindO (τ := Bool) (o20 (y33.1 : List Leg) (y41 : List Leg)) fun y44 => (some (y44)))) (some (false))) fun t37 => (some ((t37))))))))))))))) = some true := by
  obtain ⟨v, hv, hq⟩ := W17.o13_tot h
  have hs := sizedP_of h
  rw [hv, bindO_some rfl]
  by_cases h0 : v ≠ 0
  · rw [neq_t h0, cond_true]
  replace h0 : v = 0 := by omega
  subst h0
  have hc := hq rfl
  have h2 := W17.part_legs hc 2 []
  have f2 := (W17.l2_ok hc).few
  have hm := hc.mid hk
  have hA : ∀ tr, W17.exA q rw_ tr = W17.l3 q tr := fun tr => by unfold W17.exA; rw [eq_f (show q.kind ≠ 1 by omega), cond_false]
  have hC : ∀ tr, W17.exC q rw_ tr = [] := fun tr => by unfold W17.exC; rw [eq_f (show q.kind ≠ 1 by omega), eq_f (show q.kind ≠ 2 by omega), cond_false, cond_false]
  have hE1 : W17.err1 q rw_ = false := by unfold W17.err1; rw [hasRw3 hc hk]; rfl
  have hl2 : W17.l2 q ≠ [] := (h2.2.1 hm).1
  have hl2' : (W17.l2 q).length ≠ 0 := fun e => hl2 (List.length_eq_zero_iff.1 e)
  have r1 : o23 q rw_ [] = some (W17.l2 q, 0) := by
    rw [W17.o23_is h hc hv]
    unfold W17.exR W17.exJ
    rw [hE1, hA, hC, W17.jn_end]
    have e2 : W17.err2 q [] = false := rfl
    have e3 : W17.l3 q [] = [] := rfl
    rw [e2, e3, W17.jn_nil, cond_false, cond_false, eq_f (by omega), cond_false]
  rw [neq_f rfl, cond_false, o17_is hs, bindO_some rfl, r1, bindO_some rfl, hm, neq_f rfl]
  simp only [Bool.not_true, Bool.or_self, cond_false]
  rw [show (partP q 2 []).1.legs = W17.l2 q from rfl, o20_same (by omega), bindO_some rfl, Bool.not_true, bindO_some rfl, cond_false, o15_is hs, bindO_some rfl]
  cases hz : ((((namesP q 3 q.parts.length).length : Nat) : Int) == 0) with
  | true => rfl
  | false =>
    have hz' : (namesP q 3 q.parts.length).length ≠ 0 := fun e => by rw [e] at hz; cases hz
    have hw : IntKind.i64.wrap n = n := wr64 (by omega)
    rw [cond_false, hw]
    have hl := namesP_len q 3 q.parts.length
    obtain ⟨i, hi, hi'⟩ : ∃ i : Nat, Int.tmod n (((namesP q 3 q.parts.length).length : Nat) : Int) = (i : Int) ∧ i < (namesP q 3 q.parts.length).length := by
      obtain ⟨m, rfl⟩ : ∃ m : Nat, n = (m : Int) := ⟨n.toNat, by omega⟩
      exact ⟨m % (namesP q 3 q.parts.length).length, by rw [Int.ofNat_tmod], Nat.mod_lt _ (by omega)⟩
    rw [hi, grd_at' (by omega), show ((i : Nat) : Int).toNat = i by omega]
    obtain ⟨j, j1, j2, j3⟩ := namesP_mem q 3 _ i hi'
    generalize (namesP q 3 q.parts.length).getD i [] = nm at j3 ⊢
    have hnm : nm ≠ [] := by rw [← j3]; exact (hc.parts j j1).named (.inr j2)
    have hf : (partP q 3 nm).2 = true := by
      rcases partP_in q 3 nm with ⟨q1, q2⟩ | ⟨j', q1, q2, -⟩
      · have := q2 j j1
        rw [j2, j3, beq_self_eq_true, beq_self_eq_true] at this
        cases this
      · rw [q2]
    have h3 := W17.part_legs hc 3 nm
    have e3 : W17.l3 q nm = (partP q 3 nm).1.legs := by
      unfold W17.l3
      rw [beq_eq_false_iff_ne.2 hnm]; rfl
    have f3 := h3.1.few
    have hne : (partP q 3 nm).1.legs.length ≠ 0 := fun e => (h3.2.1 hf).1 (List.length_eq_zero_iff.1 e)
    have hJl := W17.jn_len (partP q 3 nm).1.legs (W17.l2 q)
    have r3 : o23 q rw_ nm = some (W17.jn (partP q 3 nm).1.legs (W17.l2 q), 0) := by
      rw [W17.o23_is h hc hv]
      unfold W17.exR W17.exJ
      rw [hE1, hA, hC, W17.jn_end, e3]
      have e2 : W17.err2 q nm = false := by unfold W17.err2; rw [hf, Bool.not_true, Bool.and_false]
      have hne2 : (W17.jn (partP q 3 nm).1.legs (W17.l2 q)).length ≠ 0 := by
        unfold W17.jn
        rw [List.length_append]; omega
      rw [e2, cond_false, cond_false, eq_f (by omega), cond_false]
    rw [o17_is hs, bindO_some rfl, r3, bindO_some rfl, hf]
    simp only [beq_self_eq_true, Bool.and_self, cond_true]
    rw [W17.o21_is (by omega), bindO_some rfl, o20_same (by omega), bindO_some rfl, bindO_some rfl]
theorem procedureParts_plain {p : Proc} (h : okProc p) (rw_ : List UInt8) {n : Int} (hn : 0 ≤ n ∧ n ≤ 1000000000000) : o9 p rw_ n = some true := by
  unfold o9
  rw [o12_true, bindO_some rfl, Bool.not_true, cond_false]
  exact parts_core (q := { p with kind := 3 }) ⟨h.1, h.2.1, show (0 : Int) ≤ 3 ∧ (3 : Int) ≤ 255 by decide, h.2.2.2⟩ rfl rw_ hn
end Go.Proofs.YthfekfebgghjhaaDoor
