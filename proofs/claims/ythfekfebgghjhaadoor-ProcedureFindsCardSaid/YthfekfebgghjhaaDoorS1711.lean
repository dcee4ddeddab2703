/-
ProcedureFinds in plain words. Conditions: each lemma's own.
-/
import Derived.Test.YthfekfebgghjhaaDoorS17a
import Derived.Test.YthfekfebgghjhaaDoorK11x0
namespace Go.Proofs.YthfekfebgghjhaaDoor
set_option linter.unusedVariables false
set_option linter.unusedSimpArgs false
open Go.RowKit
/-! ### the order of strings -/
theorem cmp_spec : ∀ a b : List UInt8, (Lib.compareBytes a b = -1 ∧ Op.bytesLess a b = true ∧ a ≠ b ∧ Lib.compareBytes b a = 1) ∨ (Lib.compareBytes a b = 0 ∧ Op.bytesLess a b = false ∧ a = b ∧ Lib.compareBytes b a = 0) ∨ (Lib.compareBytes a b = 1 ∧ Op.bytesLess a b = false ∧ a ≠ b ∧ Lib.compareBytes b a = -1)
  | [], [] => .inr (.inl ⟨rfl, rfl, rfl, rfl⟩)
  | [], b :: y => .inl ⟨rfl, rfl, by simp, rfl⟩
  | a :: x, [] => .inr (.inr ⟨rfl, rfl, by simp, rfl⟩)
  | a :: x, b :: y => by
    unfold Lib.compareBytes Op.bytesLess
    by_cases h1 : a < b
    · have h2 : ¬ b < a := fun h => by rw [UInt8.lt_iff_toNat_lt] at h h1; omega
      refine .inl ⟨?_, ?_, fun e => ?_, ?_⟩
      · simp [h1]
      · simp [h1]
      · injection e with e _; subst e; exact h2 h1
      · simp [h1, h2]
    · by_cases h2 : b < a
      · have hne : (a == b) = false := by
          simp only [beq_eq_false_iff_ne, ne_eq]
          intro e; subst e; exact h1 h2
        refine .inr (.inr ⟨?_, ?_, fun e => ?_, ?_⟩)
        · simp [h1, h2]
        · simp [h1, hne]
        · injection e with e _; subst e; exact h1 h2
        · simp [h2]
      · have he : a = b := by
          apply UInt8.toNat_inj.1
          rw [UInt8.lt_iff_toNat_lt] at h1 h2
          omega
        subst he
        rcases cmp_spec x y with ⟨q1, q2, q3, q4⟩ | ⟨q1, q2, q3, q4⟩ | ⟨q1, q2, q3, q4⟩
        · exact .inl ⟨by simp [h1, q1], by simp [q2], by simpa using q3, by simp [h1, q4]⟩
        · exact .inr (.inl ⟨by simp [h1, q1], by simp [h1, q2], by rw [q3], by simp [h1, q4]⟩)
        · exact .inr (.inr ⟨by simp [h1, q1], by simp [h1, q2], by simpa using q3, by simp [h1, q4]⟩)
theorem o51_is (a b : List UInt8) : o51 a b = Lib.compareBytes a b := by unfold o51 o64; rw [letJ_def]
theorem o53_is (a b : List UInt8) : o53 a b = Lib.compareBytes a b := by
  unfold o53 strGt
  rw [strLt_eq, strEq_eq]
  rcases cmp_spec a b with ⟨q1, q2, q3, q4⟩ | ⟨q1, q2, q3, q4⟩ | ⟨q1, q2, q3, q4⟩
  · rw [q1, q2]; rfl
  · subst q3; rw [q1, q2, beq_self_eq_true]; rfl
  · rw [q1, q2, show (a == b) = false from beq_eq_false_iff_ne.2 q3]; rfl
def cmpK (x y : Int) : Int := if x < y then -1 else if x > y then 1 else 0
theorem o52_is (x y : Int) : o52 x y = cmpK x y := by
  have nan : ∀ z : Int, o65 z = false := fun z => by unfold o65; exact neq_f rfl
  unfold o52 cmpK
  rw [letJ_def, letJ_def, nan, nan]
  simp only [cond_false]
  by_cases h : x < y
  · rw [dt h, if_pos h]; rfl
  · rw [df h, if_neg h]
    by_cases h2 : x > y
    · rw [dt h2, if_pos h2]; rfl
    · rw [df h2, if_neg h2]; rfl
theorem o50_is (x y z : Int) : o50 [x, y, z] = some (if x ≠ 0 then x else if y ≠ 0 then y else z) := by
  unfold o50
  have hf : fuelN = ((((fuelN - 4) + 1) + 1) + 1) + 1 := by simp [fuelN]
  have s0 : o50_L0 [x, y, z] 0 = cond (x != 0) (some (Ctl.done (Ctl.done x))) (some (Ctl.go 1)) := by
    unfold o50_L0
    obtain ⟨M, hM, hb⟩ : ∃ M : Int, M = 9223372036854775807 ∧ M > 100 := ⟨_, rfl, by decide⟩
    rw [← hM, grd_at' (by omega)]; rfl
  have s1 : o50_L0 [x, y, z] 1 = cond (y != 0) (some (Ctl.done (Ctl.done y))) (some (Ctl.go 2)) := by
    unfold o50_L0
    obtain ⟨M, hM, hb⟩ : ∃ M : Int, M = 9223372036854775807 ∧ M > 100 := ⟨_, rfl, by decide⟩
    rw [← hM, grd_at' (by omega)]; rfl
  have s2 : o50_L0 [x, y, z] 2 = cond (z != 0) (some (Ctl.done (Ctl.done z))) (some (Ctl.go 3)) := by
    unfold o50_L0
    obtain ⟨M, hM, hb⟩ : ∃ M : Int, M = 9223372036854775807 ∧ M > 100 := ⟨_, rfl, by decide⟩
    rw [← hM, grd_at' (by omega)]; rfl
  have s3 : o50_L0 [x, y, z] 3 = some (Ctl.done (Ctl.go ())) := by
    unfold o50_L0
    obtain ⟨M, hM, hb⟩ : ∃ M : Int, M = 9223372036854775807 ∧ M > 100 := ⟨_, rfl, by decide⟩
    rw [← hM]; rfl
  rw [hf]
  by_cases hx : x = 0
  · rw [neq_f hx] at s0
    rw [loopO_go s0, if_neg (fun h => h hx)]
    by_cases hy : y = 0
    · rw [neq_f hy] at s1
      rw [loopO_go s1, if_neg (fun h => h hy)]
      by_cases hz : z = 0
      · rw [neq_f hz] at s2
        rw [loopO_go s2, loopO_done s3, hz]; rfl
      · rw [neq_t hz] at s2
        rw [loopO_done s2]; rfl
    · rw [neq_t hy] at s1
      rw [loopO_done s1, if_pos hy]; rfl
  · rw [neq_t hx] at s0
    rw [loopO_done s0, if_pos hx]; rfl
def cmpP (p q : Proc) : Int := if Lib.compareBytes p.airport q.airport ≠ 0 then Lib.compareBytes p.airport q.airport else if cmpK p.kind q.kind ≠ 0 then cmpK p.kind q.kind else Lib.compareBytes p.name q.name
theorem o29_is (p q : Proc) : o29 p q = some (cmpP p q) := by
  unfold o29
  rw [letJ_def, letJ_def, letJ_def, o51_is, o51_is, o52_is, o50_is, bindO_some rfl]
  rfl
theorem o30_is (p q : Proc) : o30 p q = cmpP p q := by
  unfold o30 cmpP cmpK
  rw [letJ_def, letJ_def, o53_is, o53_is]
  by_cases h : Lib.compareBytes p.airport q.airport = 0
  · rw [neq_f h, cond_false, if_neg (fun hh => hh h)]
    by_cases hk : p.kind = q.kind
    · rw [neq_f hk, cond_false, if_neg (show ¬ p.kind < q.kind by omega), if_neg (show ¬ p.kind > q.kind by omega), if_neg (fun hh => hh rfl)]
    · rw [neq_t hk, cond_true]
      by_cases hl : p.kind < q.kind
      · rw [dt hl, cond_true, if_pos hl, if_pos (by decide)]
      · rw [df hl, cond_false, if_neg hl, if_pos (show p.kind > q.kind by omega), if_pos (by decide)]
  · rw [neq_t h, cond_true, if_pos h]
theorem cmpP_anti (p q : Proc) : cmpP q p = - cmpP p q ∧ -1 ≤ cmpP p q ∧ cmpP p q ≤ 1 := by
  unfold cmpP cmpK
  have h1 := cmp_spec p.airport q.airport
  have h2 := cmp_spec p.name q.name
  have e1 : Lib.compareBytes q.airport p.airport = - Lib.compareBytes p.airport q.airport ∧ -1 ≤ Lib.compareBytes p.airport q.airport ∧ Lib.compareBytes p.airport q.airport ≤ 1 := by
    rcases h1 with ⟨a, -, -, b⟩ | ⟨a, -, -, b⟩ | ⟨a, -, -, b⟩ <;> rw [a, b] <;> decide
  have e2 : Lib.compareBytes q.name p.name = - Lib.compareBytes p.name q.name ∧ -1 ≤ Lib.compareBytes p.name q.name ∧ Lib.compareBytes p.name q.name ≤ 1 := by
    rcases h2 with ⟨a, -, -, b⟩ | ⟨a, -, -, b⟩ | ⟨a, -, -, b⟩ <;> rw [a, b] <;> decide
  generalize Lib.compareBytes q.airport p.airport = A at *
  generalize Lib.compareBytes p.airport q.airport = B at *
  generalize Lib.compareBytes q.name p.name = C at *
  generalize Lib.compareBytes p.name q.name = D at *
  repeat' split
  all_goals omega
theorem cmpP_zero {p q : Proc} (h1 : p.airport = q.airport) (h2 : p.kind = q.kind) (h3 : p.name = q.name) : cmpP p q = 0 := by
  unfold cmpP cmpK
  have e : ∀ a : List UInt8, Lib.compareBytes a a = 0 := fun a => by
    rcases cmp_spec a a with ⟨-, -, h, -⟩ | ⟨h, -⟩ | ⟨-, -, h, -⟩
    · exact absurd rfl h
    · exact h
    · exact absurd rfl h
  rw [h1, h2, h3, e, e]
  simp
/-! ### the first with a key -/
def keyE (l : List Proc) (a : List UInt8) (k : Int) (n : List UInt8) (s : Nat) : Bool := (((l.getD s default).airport == a) && ((l.getD s default).kind == k)) && ((l.getD s default).name == n)
theorem find_both {l : List Proc} (hl : l.length ≤ 140737488355328) (a : List UInt8) (k : Int) (n : List UInt8) :
    (o54f55 l a k n = some (-1) ∧ o32 l a k n = some (⟨[], [], 0, []⟩, false)) ∨ ∃ j, j < l.length ∧ keyE l a k n j = true ∧ o54f55 l a k n = some ((j : Nat) : Int) ∧ o32 l a k n = some (l.getD j default, true) := by
  have s1 : ∀ s, s < l.length → o54f55_L0 l a k n s = some (cond (keyE l a k n s) (Ctl.done (Ctl.done ((s : Nat) : Int))) (Ctl.go (s + 1))) := fun s hs => by
    unfold o54f55_L0 o55
    obtain ⟨M, hM, hMb⟩ : ∃ M : Int, M = 9223372036854775807 ∧ M > 1000000000000000000 := ⟨_, rfl, by decide⟩
    rw [← hM, dt (by omega), cond_true, letJ_def]
    show cond (keyE l a k n s) _ _ = _
    cases keyE l a k n s with
    | true => rfl
    | false => rw [cond_false, cond_false, grd_at' (by omega)]
  have s2 : ∀ s, s < l.length → o32_L0 l a k n s = some (cond (keyE l a k n s) (Ctl.done (Ctl.done (l.getD s default, true))) (Ctl.go (s + 1))) := fun s hs => by
    unfold o32_L0
    obtain ⟨M, hM, hMb⟩ : ∃ M : Int, M = 9223372036854775807 ∧ M > 1000000000000000000 := ⟨_, rfl, by decide⟩
    rw [← hM, dt (by omega), cond_true]
    show cond (keyE l a k n s) _ _ = _
    cases keyE l a k n s with
    | true => rfl
    | false => rw [cond_false, cond_false, grd_at' (by omega)]
  have t1 : o54f55_L0 l a k n l.length = some (Ctl.done (Ctl.go ())) := by unfold o54f55_L0; exact cond_neg (df (by omega))
  have t2 : o32_L0 l a k n l.length = some (Ctl.done (Ctl.go ())) := by unfold o32_L0; exact cond_neg (df (by omega))
  obtain ⟨r1, a1, a2⟩ := loop_find l.length (by omega) (keyE l a k n) (fun s => ((s : Nat) : Int)) s1 t1 l.length 0 fuelN (Nat.zero_add _) (by simp only [fuelN]; omega)
  obtain ⟨r2, b1, b2⟩ := loop_find l.length (by omega) (keyE l a k n) (fun s => (l.getD s default, true)) s2 t2 l.length 0 fuelN (Nat.zero_add _) (by simp only [fuelN]; omega)
  unfold o54f55 o32
  rw [a1, b1]
  rcases a2 with ⟨rfl, a3⟩ | ⟨j, j1, j2, j3, j4, rfl⟩
  · rcases b2 with ⟨rfl, -⟩ | ⟨i, i1, i2, i3, i4, -⟩
    · exact .inl ⟨rfl, rfl⟩
    · have := a3 i i1 i2; rw [i3] at this; cases this
  · rcases b2 with ⟨-, b3⟩ | ⟨i, i1, i2, i3, i4, rfl⟩
    · have := b3 j j1 j2; rw [j3] at this; cases this
    · have hij : i = j := by
        rcases Nat.lt_trichotomy i j with h | h | h
        · have := j4 i i1 h; rw [i3] at this; cases this
        · exact h
        · have := i4 j j1 h; rw [j3] at this; cases this
      subst hij
      exact .inr ⟨i, i2, i3, rfl, rfl⟩
theorem getD_setP (l : List Part) (i k : Nat) (v : Part) : (l.set i v).getD k default = if i = k ∧ k < l.length then v else l.getD k default := by
  rw [List.getD_eq_getElem?_getD, List.getElem?_set]
  by_cases h : i = k
  · subst h
    by_cases h2 : i < l.length
    · rw [if_pos rfl, if_pos h2, if_pos ⟨rfl, h2⟩]; rfl
    · rw [if_pos rfl, if_neg h2, if_neg (fun h => h2 h.2), List.getD_eq_getElem?_getD, List.getElem?_eq_none (by omega)]
  · rw [if_neg h, if_neg (fun h' => h h'.1), ← List.getD_eq_getElem?_getD]
theorem extP {l m : List Part} (hl : l.length = m.length) (h : ∀ k, k < l.length → l.getD k default = m.getD k default) : l = m := by
  refine List.ext_getElem hl fun k h1 h2 => ?_
  have := h k h1
  rw [List.getD_eq_getElem?_getD, List.getD_eq_getElem?_getD, List.getElem?_eq_getElem h1, List.getElem?_eq_getElem h2] at this
  exact this
theorem o31_loop {p : Proc} (h : sizedP p) : loopO fuelN (o31_L0 p.parts) (0, p.parts) = some p.parts := by
  have hb := h.1
  obtain ⟨r, hr, rfl⟩ := loopO_ok (f := o31_L0 p.parts) (fun s => s.1 ≤ p.parts.length ∧ s.2 = p.parts) (fun s => p.parts.length - s.1) (fun r => r = p.parts) (by
    rintro ⟨k, x⟩ ⟨h1, h2⟩
    simp only at h1 h2
    subst h2
    unfold o31_L0
    obtain ⟨M, hM, hMb⟩ : ∃ M : Int, M = 9223372036854775807 ∧ M > 1000000000000000000 := ⟨_, rfl, by decide⟩
    rw [← hM]
    simp only
    by_cases hlt : k < p.parts.length
    · have hl := h.2 k hlt
      rw [dt (by omega), cond_true, grd_at' hlt, o41_is (by omega), bindO_some rfl, grd_at' hlt, grd_at' (by omega)]
      refine .inl ⟨_, rfl, ⟨by simp only; omega, ?_⟩, by simp only; omega⟩
      simp only
      refine extP (List.length_set ..) fun j hj => ?_
      rw [getD_setP]
      by_cases hkj : k = j
      · subst hkj; rw [if_pos ⟨rfl, hlt⟩]
      · rw [if_neg (fun h => hkj h.1)]
    · exact .inr ⟨_, cond_neg (df (by omega)), rfl⟩) fuelN (0, p.parts) ⟨Nat.zero_le _, rfl⟩ (by simp only [fuelN]; omega)
  exact hr
theorem o33_same {p : Proc} (h : sizedP p) : o33 p p = some true := by
  have hb := h.1
  unfold o33
  rw [beq_self_eq_true, beq_self_eq_true, neq_f rfl, neq_f rfl]
  simp only [Bool.not_true, Bool.or_self, cond_false]
  obtain ⟨r, hr, rfl⟩ := loopO_ok (f := o33_L0 p p) (fun s => s ≤ p.parts.length) (fun s => p.parts.length - s) (fun r => r = Ctl.go ()) (by
    intro k hk
    unfold o33_L0
    obtain ⟨M, hM, hMb⟩ : ∃ M : Int, M = 9223372036854775807 ∧ M > 1000000000000000000 := ⟨_, rfl, by decide⟩
    rw [← hM]
    by_cases hlt : k < p.parts.length
    · have hl := h.2 k hlt
      have h19 : o19 (p.parts.getD k default) (p.parts.getD k default) = some true := by
        unfold o19
        rw [eq_t rfl, beq_self_eq_true]
        simp only [Bool.and_self, cond_true]
        rw [o20_same (by omega), bindO_some rfl, bindO_some rfl]
      rw [dt (by omega), cond_true, grd_at' hlt, h19, bindO_some rfl]
      simp only [Bool.not_true, cond_false]
      rw [grd_at' (by omega)]
      exact .inl ⟨_, rfl, by omega, by omega⟩
    · exact .inr ⟨_, cond_neg (df (by omega)), rfl⟩) fuelN 0 (Nat.zero_le _) (by simp only [fuelN]; omega)
  rw [hr, joinO_go rfl]
theorem procedureFinds_plain {l : List Proc} {p q : Proc} (hl : l.length ≤ 140737488355328) (hs : ∀ j, j < l.length → sizedP (l.getD j default)) : o11 l p q = some true := by
  obtain ⟨a1, a2, a3⟩ := cmpP_anti p q
  unfold o11
  rw [o12_true, bindO_some rfl]
  simp only [Bool.not_true, cond_false]
  rw [o29_is, bindO_some rfl, letJ_def, o30_is, neq_f rfl, cond_false, o29_is, bindO_some rfl, bindO_some rfl, wr64 (by omega), neq_f (by omega), bindO_some rfl, cond_false]
  rcases find_both hl p.airport p.kind p.name with ⟨f1, f2⟩ | ⟨j, j1, j2, f1, f2⟩
  · have h31 : o31 l p.airport p.kind p.name = some (⟨[], [], 0, []⟩, false) := by
      unfold o31
      rw [f1, bindO_some rfl]; rfl
    have hz : sizedP ⟨[], [], 0, []⟩ := ⟨by decide, fun j hj => by cases hj⟩
    rw [h31, f2, bindO_some rfl, bindO_some rfl]
    simp only
    rw [beq_self_eq_true, cond_true, o33_same hz, bindO_some rfl, bindO_some rfl, cond_true]
    simp only [Bool.not_false, cond_true]
    rw [bindO_some rfl, bindO_some rfl]
  · have hsj := hs j j1
    have hbj := hsj.1
    have h31 : o31 l p.airport p.kind p.name = some (l.getD j default, true) := by
      unfold o31
      have ej : (((j : Nat) : Int)).toNat = j := by omega
      rw [f1, bindO_some rfl, df (by omega), cond_false, grd_at' (by omega), ej]
      have h56 : o56 (l.getD j default).parts = some (l.getD j default).parts := by unfold o56; exact grd_at' (by omega)
      rw [h56, bindO_some rfl, o31_loop hsj, bindO_some rfl]
    rw [h31, f2, bindO_some rfl, bindO_some rfl]
    simp only
    unfold keyE at j2
    simp only [Bool.and_eq_true, beq_iff_eq] at j2
    rw [beq_self_eq_true, cond_true, o33_same hsj, bindO_some rfl, bindO_some rfl, cond_true]
    simp only [Bool.not_true, cond_false]
    rw [o29_is, cmpP_zero j2.1.1 j2.1.2 j2.2, bindO_some rfl, bindO_some rfl, bindO_some rfl]
    rfl
theorem sized_all {l : List Proc} (h : ∀ x, x ∈ l → okProc x) : ∀ j, j < l.length → sizedP (l.getD j default) := fun j hj => by
  rw [List.getD_eq_getElem?_getD, List.getElem?_eq_getElem hj]
  exact sizedP_of (h l[j] (List.getElem_mem hj))
end Go.Proofs.YthfekfebgghjhaaDoor
