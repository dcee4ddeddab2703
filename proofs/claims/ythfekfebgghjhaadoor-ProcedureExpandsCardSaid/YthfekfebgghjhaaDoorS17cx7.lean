/-
The check of a procedure: the law's own and the program's. Conditions: each lemma's own.
-/
import Derived.Test.YthfekfebgghjhaaDoorS17ex7
namespace Go.Proofs.YthfekfebgghjhaaDoor
set_option linter.unusedVariables false
set_option linter.unusedSimpArgs false
open Go.RowKit
/-- both sides answer, and alike -/
def Eq1 {α : Type} (X Y : Option α) : Prop := X = Y ∧ ∃ r, X = some r
theorem eq1_ok {α : Type} (r : α) : Eq1 (some r) (some r) := ⟨rfl, _, rfl⟩
theorem eq1_cond {α : Type} {b : Bool} {X Y X' Y' : Option α} (h : b = true → Eq1 X Y) (h' : b = false → Eq1 X' Y') : Eq1 (cond b X X') (cond b Y Y') := by
  cases b with
  | true => exact h rfl
  | false => exact h' rfl
theorem eq1_bind {α τ : Type} {x y : Option τ} {k k' : τ → Option α} (h : Eq1 x y) (hk : ∀ t, x = some t → Eq1 (k t) (k' t)) : Eq1 (bindO x k) (bindO y k') := by
  obtain ⟨rfl, r, hr⟩ := h
  rw [hr, bindO_some rfl, bindO_some rfl]
  exact hk r hr
/-! ### names -/
def badB (b : UInt8) : Bool := (decide (((b).toNat : Int) < 65) || decide (((b).toNat : Int) > 90)) && (decide (((b).toNat : Int) < 48) || decide (((b).toNat : Int) > 57))
theorem o35_some {s : List UInt8} (h : s.length ≤ 140737488355328) (m : Int) : ∃ b, o35 s m = some b := by
  unfold o35
  cases (((((((s).length : Nat) : Int) == 0) || decide ((((s).length : Nat) : Int) > m)) || decide ((((List.getD (s : List UInt8) 0 0)).toNat : Int) < 65)) || decide ((((List.getD (s : List UInt8) 0 0)).toNat : Int) > 90)) with
  | true => exact ⟨_, rfl⟩
  | false =>
    rw [cond_false]
    obtain ⟨r, hr, hp⟩ := loop_find (f := o35_L0 s) s.length (by omega) (fun k => badB (s.getD k 0)) (fun _ => false) (by
      intro k hk
      unfold o35_L0 badB
      obtain ⟨M, hM, hMb⟩ : ∃ M : Int, M = 9223372036854775807 ∧ M > 1000000000000000000 := ⟨_, rfl, by decide⟩
      rw [← hM, dt (by omega), cond_true, grd_at' (by omega)]
      cases ((decide ((((List.getD (s : List UInt8) k 0)).toNat : Int) < 65) || decide ((((List.getD (s : List UInt8) k 0)).toNat : Int) > 90)) && (decide ((((List.getD (s : List UInt8) k 0)).toNat : Int) < 48) || decide ((((List.getD (s : List UInt8) k 0)).toNat : Int) > 57))) <;> rfl) (by unfold o35_L0; exact cond_neg (df (by omega))) s.length 0 fuelN (by omega) (by simp only [fuelN]; omega)
    rw [hr]
    rcases hp with ⟨rfl, -⟩ | ⟨j, -, -, -, -, rfl⟩
    · exact ⟨_, rfl⟩
    · exact ⟨_, rfl⟩
theorem o38_is (s : List UInt8) (m : Int) : o38 s m = o35 s m := by
  unfold o38 o35
  rw [show o38_L0 s = o35_L0 s from rfl, show decide (((s.length : Nat) : Int) < 1) = (((s.length : Nat) : Int) == 0) by
    by_cases h : s.length = 0
    · rw [dt (by omega), eq_t (by omega)]
    · rw [df (by omega), eq_f (by omega)]]
theorem o71_loop {s : List UInt8} (h : s.length ≤ 140737488355328) : ∃ r, loopO fuelN (o71_L0 s) 0 = some r ∧ (r = Ctl.go () ∨ r = Ctl.done false) := by
  obtain ⟨r, hr, hp⟩ := loop_find (f := o71_L0 s) s.length (by omega) (fun k => badB (s.getD k 0)) (fun _ => false) (by
      intro k hk
      unfold o71_L0 badB
      obtain ⟨M, hM, hMb⟩ : ∃ M : Int, M = 9223372036854775807 ∧ M > 1000000000000000000 := ⟨_, rfl, by decide⟩
      rw [← hM, dt (by omega), cond_true, grd_at' (by omega)]
      cases ((decide ((((List.getD (s : List UInt8) k 0)).toNat : Int) < 65) || decide ((((List.getD (s : List UInt8) k 0)).toNat : Int) > 90)) && (decide ((((List.getD (s : List UInt8) k 0)).toNat : Int) < 48) || decide ((((List.getD (s : List UInt8) k 0)).toNat : Int) > 57))) <;> rfl) (by unfold o71_L0; exact cond_neg (df (by omega))) s.length 0 fuelN (by omega) (by simp only [fuelN]; omega)
  exact ⟨r, hr, by rcases hp with ⟨h, -⟩ | ⟨j, -, -, -, -, h⟩ <;> simp [h]⟩
theorem o71_some {s : List UInt8} : ∃ b, o71 s = some b := by
  unfold o71
  cases hq : (((s.length : Nat) : Int) != 2) with
  | true => exact ⟨_, rfl⟩
  | false =>
    rw [cond_false]
    have h : s.length ≤ 140737488355328 := by
      have : ((s.length : Nat) : Int) = 2 := by simpa using hq
      omega
    obtain ⟨r, hr, rfl | rfl⟩ := o71_loop h
    · rw [hr]; exact ⟨_, rfl⟩
    · rw [hr]; exact ⟨_, rfl⟩
theorem o75_is (s : List UInt8) : o75 s = o71 s := by
  unfold o75 o71
  by_cases h : s.length = 2
  · rw [neq_f (by omega), cond_false, cond_false]
    have : o75_L0 s = o71_L0 s := by funext k; unfold o75_L0 o71_L0; rw [h]; rfl
    rw [this]
  · rw [neq_t (by omega), cond_true, cond_true]
def iB_ (s : List UInt8) : Bool := (o35 s 6).getD false
def sfB (s : List UInt8) : Bool := (o71 s).getD false
theorem iB__is {s : List UInt8} (h : s.length ≤ 140737488355328) : o35 s 6 = some (iB_ s) := by
  obtain ⟨b, hb⟩ := o35_some h 6
  unfold iB_; rw [hb]; rfl
theorem sfB_is (s : List UInt8) : o71 s = some (sfB s) := by
  obtain ⟨b, hb⟩ := @o71_some s
  unfold sfB; rw [hb]; rfl
/-! ### references -/
theorem idx_spec (c : UInt8) : ∀ l : List UInt8, (Lib.indexByte l c = -1 ∧ ∀ j, j < l.length → (l.getD j 0 == c) = false) ∨ ∃ j, j < l.length ∧ Lib.indexByte l c = ((j : Nat) : Int) ∧ (l.getD j 0 == c) = true ∧ ∀ i, i < j → (l.getD i 0 == c) = false
  | [] => .inl ⟨rfl, fun j hj => by cases hj⟩
  | b :: l => by
    unfold Lib.indexByte
    cases hb : (b == c) with
    | true => exact .inr ⟨0, by simp, by simp, by simpa using hb, fun i hi => by omega⟩
    | false =>
      rcases idx_spec c l with ⟨h1, h2⟩ | ⟨j, j1, j2, j3, j4⟩
      · refine .inl ⟨by simp [h1], fun j hj => ?_⟩
        cases j with
        | zero => simpa using hb
        | succ j => simpa using h2 j (by simpa using hj)
      · refine .inr ⟨j + 1, by simpa using j1, ?_, by simpa using j3, fun i hi => ?_⟩
        · rw [j2, eq_f (show ((j : Nat) : Int) ≠ -1 by omega)]
          simp
        · cases i with
          | zero => simpa using hb
          | succ i => simpa using j4 i (by omega)
def refE (b : UInt8) : Bool := ((b.toNat : Int) == 47)
theorem refE_is (b : UInt8) : refE b = (b == 47) := by
  unfold refE
  by_cases h : b = 47
  · subst h; rfl
  · rw [eq_f (fun e => h (by apply UInt8.toNat_inj.1; have : (47 : UInt8).toNat = 47 := rfl; omega)), beq_eq_false_iff_ne.2 h]
def resP (a b : List UInt8) : List UInt8 × List UInt8 × Int := cond (!(iB_ a) || (!(iB_ b) && !(sfB b))) ([], [], 5) (a, b, 0)
theorem o76_is (s : List UInt8) : o76k47 s = Lib.indexByte s 47 := by
  unfold o76k47
  cases h : ([47] == s) with
  | true =>
    obtain rfl : [47] = s := by simpa using h
    rfl
  | false => rw [cond_false, letJ_def]; unfold o77; rfl
theorem o73_loop {s : List UInt8} (h : s.length ≤ 140737488355328) : ∃ r, loopO fuelN (o73_L0 s) 0 = some r ∧ (r = Ctl.go () ∧ (∀ j, 0 ≤ j → j < s.length → refE (s.getD j 0) = false) ∨ ∃ j, 0 ≤ j ∧ j < s.length ∧ refE (s.getD j 0) = true ∧ (∀ i, 0 ≤ i → i < j → refE (s.getD i 0) = false) ∧ r = Ctl.done (resP (s.take j) (s.drop (j + 1)))) :=
  loop_find (f := o73_L0 s) s.length (by omega) (fun k => refE (s.getD k 0)) (fun k => resP (s.take k) (s.drop (k + 1))) (by
      intro k hk
      unfold o73_L0
      obtain ⟨M, hM, hMb⟩ : ∃ M : Int, M = 9223372036854775807 ∧ M > 1000000000000000000 := ⟨_, rfl, by decide⟩
      rw [← hM, dt (by omega), cond_true, grd_at' (by omega), grd_at' (by omega), grd_at' (by omega), o38_is, o38_is, o75_is, iB__is (by simp only [List.length_take]; omega), iB__is (by simp only [List.length_drop]; omega), sfB_is]
      show cond (refE (s.getD k 0)) _ _ = _
      unfold resP
      cases refE (s.getD k 0) with
      | false => rfl
      | true => cases iB_ (s.take k) <;> cases iB_ (s.drop (k + 1)) <;> cases sfB (s.drop (k + 1)) <;> rfl) (by unfold o73_L0; exact cond_neg (df (by omega))) s.length 0 fuelN (by omega) (by simp only [fuelN]; omega)
theorem o63_is {s : List UInt8} (h : s.length ≤ 140737488355328) : Eq1 (o63 s) (o73 s) := by
  obtain ⟨r, hr, hp⟩ := o73_loop h
  unfold o73
  rw [hr]
  unfold o63 o70k47 o74k47
  rw [o76_is]
  rcases idx_spec 47 s with ⟨h1, h2⟩ | ⟨j, j1, j2, j3, j4⟩
  · rcases hp with ⟨rfl, -⟩ | ⟨j, -, j1, j2, -⟩
    · rw [h1, letJ_def, df (by omega), cond_false, bindO_some rfl, bindO_some rfl]
      exact ⟨rfl, _, rfl⟩
    · rw [refE_is, h2 j j1] at j2; cases j2
  · have ej : (((j : Nat) : Int)).toNat = j := by omega
    have ej1 : (((j : Nat) : Int) + 1).toNat = j + 1 := by omega
    have hc : r = Ctl.done (resP (s.take j) (s.drop (j + 1))) := by
      rcases hp with ⟨-, q⟩ | ⟨i, -, i1, i2, i3, rfl⟩
      · rw [← refE_is, q j (Nat.zero_le _) j1] at j3; cases j3
      · have : i = j := by
          rcases Nat.lt_trichotomy i j with q | q | q
          · have := j4 i q; rw [← refE_is, i2] at this; cases this
          · exact q
          · have := i3 j (Nat.zero_le _) q; rw [refE_is, j3] at this; cases this
        rw [this]
    obtain ⟨M, hM, hMb⟩ : ∃ M : Int, M = 9223372036854775807 ∧ M > 1000000000000000000 := ⟨_, rfl, by decide⟩
    rw [hc, j2, letJ_def, dt (by omega), cond_true, grd_at' (by omega), ← hM, grd_at' (by omega), grd_at' (by omega), ej, ej1, bindO_some rfl, bindO_some rfl]
    simp only [Bool.not_true, cond_false]
    rw [iB__is (by simp only [List.length_take]; omega), iB__is (by simp only [List.length_drop]; omega), sfB_is, joinO_done rfl]
    unfold resP
    cases iB_ (s.take j) <;> cases iB_ (s.drop (j + 1)) <;> cases sfB (s.drop (j + 1)) <;> exact ⟨rfl, _, rfl⟩
theorem o46_is {s : List UInt8} (h : s.length ≤ 140737488355328) (u : Bool) : Eq1 (o46 s u) (o67 s u) := by
  obtain ⟨h1, r, h2⟩ := o63_is h
  unfold o46 o67
  cases u with
  | true =>
    simp only [Bool.not_true, cond_true, cond_false]
    rw [← h1, h2, bindO_some rfl]
    cases (r.2.2 != 0) <;> exact ⟨rfl, _, rfl⟩
  | false =>
    simp only [Bool.not_false, cond_true, cond_false]
    cases (s == []) <;> exact ⟨rfl, _, rfl⟩
theorem o47_is (n : Int) (u : Bool) (lo hi : Int) : o47 n u lo hi = o69 n lo hi u := by
  unfold o47 o69
  cases u <;> simp only [Bool.not_true, Bool.not_false, Bool.true_and, Bool.false_and, cond_true, cond_false]
/-! ### legs -/
def hasB (s : List UInt8) (c : Int) : Bool := s.any fun b => ((b.toNat : Int) == c)
theorem o68_is (c : Int) {s : List UInt8} (h : s.length ≤ 140737488355328) : o68 s c = some (hasB s c) := by
  unfold o68
  obtain ⟨r, hr, hp⟩ := loop_find (f := o68_L0 s c) s.length (by omega) (fun k => ((((s.getD k 0)).toNat : Int) == c)) (fun _ => true) (by
    intro k hk
    unfold o68_L0
    obtain ⟨M, hM, hMb⟩ : ∃ M : Int, M = 9223372036854775807 ∧ M > 1000000000000000000 := ⟨_, rfl, by decide⟩
    rw [← hM, dt (by omega), cond_true, grd_at' (by omega)]
    cases ((((s.getD k 0)).toNat : Int) == c) <;> rfl) (by unfold o68_L0; exact cond_neg (df (by omega))) s.length 0 fuelN (by omega) (by simp only [fuelN]; omega)
  rw [hr]
  unfold hasB
  rcases hp with ⟨rfl, q⟩ | ⟨j, -, j1, j2, -, rfl⟩
  · rw [joinO_go rfl]
    congr 1
    symm
    rw [List.any_eq_false]
    intro x hx
    obtain ⟨i, hi, rfl⟩ := List.getElem_of_mem hx
    have := q i (Nat.zero_le _) hi
    rw [List.getD_eq_getElem?_getD, List.getElem?_eq_getElem hi] at this
    simpa using this
  · rw [joinO_done rfl]
    congr 1
    symm
    rw [List.any_eq_true]
    refine ⟨s[j], List.getElem_mem j1, ?_⟩
    rw [List.getD_eq_getElem?_getD, List.getElem?_eq_getElem j1] at j2
    simpa using j2
theorem flags_all : ((List.range 18).all fun t => t == 0 || ((landK .u16 (usesL.getD t 0) 1 != 0) == hasB (o66 t) 70 && (landK .u16 (usesL.getD t 0) 2 != 0) == hasB (o66 t) 67 && (landK .u16 (usesL.getD t 0) 4 != 0) == hasB (o66 t) 84 && (!(landK .u16 (usesL.getD t 0) 8 == 0)) == hasB (o66 t) 111 && (landK .u16 (usesL.getD t 0) 16 != 0) == hasB (o66 t) 75 && (landK .u16 (usesL.getD t 0) 32 != 0) == hasB (o66 t) 68 && (landK .u16 (usesL.getD t 0) 64 != 0) == hasB (o66 t) 82 && (landK .u16 (usesL.getD t 0) 128 != 0) == hasB (o66 t) 72 && hasB (o66 t) 97 == ((((t : Int) == 7) || ((t : Int) == 11)) || ((t : Int) == 14)) && !(o66 t == []) && o45 t)) = true := by kernel_rfl
theorem cond_len {b : Bool} {x y : List UInt8} (h1 : x.length ≤ 5) (h2 : y.length ≤ 5) : (cond b x y).length ≤ 5 := by cases b <;> assumption
theorem o66_len (t : Int) : (o66 t).length ≤ 5 := by
  unfold o66
  simp only [letJ_def]
  repeat (first | exact (by decide) | refine cond_len (by decide) ?_)
theorem nat_of_u8 {t : Int} (h : inK .u8 t) : ∃ n : Nat, n < 256 ∧ t = (n : Int) := by
  obtain ⟨h1, h2⟩ := (show (0 : Int) ≤ t ∧ t ≤ 255 from h)
  exact ⟨t.toNat, by omega, by omega⟩
theorem flags {t : Int} (h : 1 ≤ t ∧ t ≤ 17) : (landK .u16 (usesL.getD t.toNat 0) 1 != 0) = hasB (o66 t) 70 ∧ (landK .u16 (usesL.getD t.toNat 0) 2 != 0) = hasB (o66 t) 67 ∧ (landK .u16 (usesL.getD t.toNat 0) 4 != 0) = hasB (o66 t) 84 ∧ (landK .u16 (usesL.getD t.toNat 0) 8 == 0) = !hasB (o66 t) 111 ∧ (landK .u16 (usesL.getD t.toNat 0) 16 != 0) = hasB (o66 t) 75 ∧ (landK .u16 (usesL.getD t.toNat 0) 32 != 0) = hasB (o66 t) 68 ∧ (landK .u16 (usesL.getD t.toNat 0) 64 != 0) = hasB (o66 t) 82 ∧ (landK .u16 (usesL.getD t.toNat 0) 128 != 0) = hasB (o66 t) 72 ∧ hasB (o66 t) 97 = (((t == 7) || (t == 11)) || (t == 14)) ∧ (o66 t == []) = false ∧ o45 t = true := by
  obtain ⟨n, rfl⟩ : ∃ n : Nat, t = (n : Int) := ⟨t.toNat, by omega⟩
  have := List.all_eq_true.1 flags_all n (by simp; omega)
  rw [beq_eq_false_iff_ne.2 (show n ≠ 0 by omega), Bool.false_or] at this
  simp only [Bool.and_eq_true, beq_iff_eq (α := Bool), Int.toNat_natCast] at this ⊢
  obtain ⟨⟨⟨⟨⟨⟨⟨⟨⟨⟨a1, a2⟩, a3⟩, a4⟩, a5⟩, a6⟩, a7⟩, a8⟩, a9⟩, b1⟩, b2⟩ := this
  exact ⟨a1, a2, a3, by rw [← a4, Bool.not_not], a5, a6, a7, a8, a9, by simpa using b1, b2⟩
theorem turnL (T : Bool) (n : Int) : cond T (cond ((n != 1) && (n != 2)) (some (Ctl.done (1 : Int))) (some (Ctl.go ()))) (cond (n != 0) (some (Ctl.done (1 : Int))) (some (Ctl.go ()))) = some (cond (cond T ((n != 1) && (n != 2)) (n != 0)) (Ctl.done (1 : Int)) (Ctl.go ())) := by
  cases T with
  | true => cases ((n != 1) && (n != 2)) <;> rfl
  | false => cases (n != 0) <;> rfl
theorem turnR (T : Bool) (n : Int) : cond (!(T == ((n == 1) || (n == 2)))) (some true) (some ((!T) && (n != 0))) = some (cond T ((n != 1) && (n != 2)) (n != 0)) := by
  by_cases h1 : n = 1
  · subst h1; cases T <;> rfl
  · by_cases h2 : n = 2
    · subst h2; cases T <;> rfl
    · rw [eq_f h1, eq_f h2, neq_t h1, neq_t h2]; cases T <;> rfl
theorem eq1_join {α : Type} {b : Bool} {v : α} {k : Unit → Option α} {Y : Option α} (h : b = false → Eq1 (k ()) Y) : Eq1 (joinO (Option.some (cond b (Ctl.done v) (Ctl.go ()))) k) (cond b (Option.some v) Y) := by
  cases b with
  | true => exact ⟨rfl, _, rfl⟩
  | false => exact h rfl
theorem overR (a b : Bool) : cond a (some (!b)) (some false) = some (a && !b) := by cases a <;> rfl
theorem altR (a b : Bool) : cond a (some true) (some b) = some (a || b) := by cases a <;> rfl
theorem altE {α : Type} {a b c : Bool} {x y z : α} : Eq1 (cond a (some x) (cond b (some x) (cond c (some y) (some z)))) (cond (a || b) (some x) (cond c (some y) (some z))) := by cases a <;> cases b <;> cases c <;> exact ⟨rfl, _, rfl⟩
theorem o25_is {l : Leg} (hl : okLeg l) : Eq1 (o25 l) (o59 l) := by
  obtain ⟨k0, k1, k2, -⟩ := hl
  unfold o25 o59
  by_cases h : 1 ≤ l.type_ ∧ l.type_ ≤ 17
  · obtain ⟨f1, f2, f3, f4, f5, f6, f7, f8, f9, f10, f11⟩ := flags h
    have hle : (o66 l.type_).length ≤ 140737488355328 := by have := o66_len l.type_; omega
    simp only [letJ_def]
    rw [f11, f10, grd_at' (by omega), f1, f2, f3, f4, f5, f6, f7, f8]
    simp only [Bool.not_true, cond_false]
    rw [o68_is 70 hle, bindO_some rfl]
    refine eq1_bind (o46_is k1 _) fun x _ => eq1_cond (fun _ => eq1_ok _) fun _ => ?_
    rw [o68_is 67 hle, bindO_some rfl]
    refine eq1_bind (o46_is k2 _) fun y _ => eq1_cond (fun _ => eq1_ok _) fun _ => ?_
    rw [o68_is 84 hle, bindO_some rfl, bindO_some rfl, o68_is 111 hle, bindO_some rfl, o68_is 75 hle, bindO_some rfl, o68_is 68 hle, bindO_some rfl, o68_is 82 hle, bindO_some rfl, o68_is 72 hle, bindO_some rfl, o68_is 97 hle, bindO_some rfl, f9]
    simp only [o47_is]
    rw [turnL, turnR, bindO_some rfl]
    refine eq1_join fun _ => ?_
    rw [overR, bindO_some rfl]
    refine eq1_cond (fun _ => eq1_ok _) fun _ => ?_
    refine eq1_cond (fun _ => eq1_ok _) fun _ => ?_
    refine eq1_cond (fun _ => eq1_ok _) fun _ => ?_
    refine eq1_cond (fun _ => eq1_ok _) fun _ => ?_
    refine eq1_cond (fun _ => eq1_ok _) fun _ => ?_
    rw [altR, bindO_some rfl]
    exact altE
  · obtain ⟨q1, q2⟩ := type_out h
    rw [q1, q2]
    exact eq1_ok _
/-! ### parts -/
def EqP {α : Type} (Q : α → Prop) (X Y : Option α) : Prop := X = Y ∧ ∃ r, X = some r ∧ Q r
theorem eqP_ok {α : Type} {Q : α → Prop} (r : α) (h : Q r) : EqP Q (some r) (some r) := ⟨rfl, _, rfl, h⟩
theorem eqP_cond {α : Type} {Q : α → Prop} {b : Bool} {X Y X' Y' : Option α} (h : b = true → EqP Q X Y) (h' : b = false → EqP Q X' Y') : EqP Q (cond b X X') (cond b Y Y') := by
  cases b with
  | true => exact h rfl
  | false => exact h' rfl
theorem eqP_bind {α τ : Type} {Q : α → Prop} {x y : Option τ} {k k' : τ → Option α} (h : Eq1 x y) (hk : ∀ t, x = some t → EqP Q (k t) (k' t)) : EqP Q (bindO x k) (bindO y k') := by
  obtain ⟨rfl, r, hr⟩ := h
  rw [hr, bindO_some rfl, bindO_some rfl]
  exact hk r hr
def stepQ {ρ : Type} (j : Nat) (r : Ctl Nat ρ) : Prop := r = Ctl.go (j + 1) ∨ ∃ v, r = Ctl.done v
theorem o58_is (p : Proc) (k t : Int) : o58 p k t = o60 p.kind k t := by
  unfold o58 o60
  simp only [letJ_def]
  cases (p.kind == 1) <;> cases (k == 1) <;> cases (k == 4) <;> cases (t == 1) <;> cases (t == 3) <;> cases (t == 4) <;> cases (t == 7) <;> cases (t == 8) <;> cases (t == 10) <;> rfl
theorem legs_loop {p : Proc} {i : Nat} (hp : okPart (p.parts.getD i default)) : Eq1 (loopO fuelN (o37_L0 p i) 0) (loopO fuelN (o40_L0 p.kind (p.parts.getD i default)) 0) := by
  obtain ⟨-, -, ⟨hb, hl⟩, -⟩ := hp
  have ok : ∀ j, j < (p.parts.getD i default).legs.length → okLeg ((p.parts.getD i default).legs.getD j default) := fun j hj => by
    rw [List.getD_eq_getElem?_getD, List.getElem?_eq_getElem hj]
    exact hl _ (List.getElem_mem hj)
  have hs : ∀ j, j < (p.parts.getD i default).legs.length → EqP (stepQ j) (o37_L0 p i j) (o40_L0 p.kind (p.parts.getD i default) j) := by
    intro j hj
    unfold o37_L0 o40_L0
    obtain ⟨M, hM, hMb⟩ : ∃ M : Int, M = 9223372036854775807 ∧ M > 1000000000000000000 := ⟨_, rfl, by decide⟩
    rw [← hM, show (((i : Nat) : Int)).toNat = i by omega, dt (by omega), cond_true, cond_true]
    refine eqP_bind (o25_is (ok j hj)) fun v _ => ?_
    refine eqP_cond (fun _ => eqP_ok _ (.inr ⟨_, rfl⟩)) fun _ => ?_
    rw [o58_is, letJ_def, letJ_def, letJ_def, letJ_def, grd_at' (p := ((j : Nat) : Int) + 1 ≤ M) (by omega)]
    by_cases h0 : j = 0
    · rw [df (show ¬ ((j : Nat) : Int) > 0 by omega)]
      simp only [cond_false]
      rw [bindO_some rfl, bindO_some rfl]
      generalize cond (((j : Nat) : Int) == 0) (!o60 p.kind (p.parts.getD i default).kind ((p.parts.getD i default).legs.getD j default).type_) false = q
      cases q
      · exact ⟨rfl, _, rfl, .inl rfl⟩
      · exact ⟨rfl, _, rfl, .inr ⟨_, rfl⟩⟩
    · have ej : (((j : Nat) : Int) - 1).toNat = j - 1 := by omega
      rw [dt (show ((j : Nat) : Int) > 0 by omega), eq_f (show ((j : Nat) : Int) ≠ 0 by omega), ]
      simp only [cond_true, cond_false]
      rw [grd_at' (by omega), grd_at' (by omega), ej, o26_is]
      rw [bindO_some rfl, bindO_some rfl, letJ_def, bindO_some rfl]
      generalize o44 ((p.parts.getD i default).legs.getD (j - 1) default) ((p.parts.getD i default).legs.getD j default) = q
      cases q
      · exact ⟨rfl, _, rfl, .inr ⟨_, rfl⟩⟩
      · exact ⟨rfl, _, rfl, .inl rfl⟩
  have hE : o37_L0 p i = o40_L0 p.kind (p.parts.getD i default) := by
    funext j
    by_cases hj : j < (p.parts.getD i default).legs.length
    · exact (hs j hj).1
    · unfold o37_L0 o40_L0
      rw [show (((i : Nat) : Int)).toNat = i by omega, df (by omega)]; rfl
  rw [hE]
  obtain ⟨r, hr, -⟩ := loopO_ok (f := o40_L0 p.kind (p.parts.getD i default)) (fun s => s ≤ (p.parts.getD i default).legs.length) (fun s => (p.parts.getD i default).legs.length - s) (fun _ => True) (by
    intro j hj
    by_cases hlt : j < (p.parts.getD i default).legs.length
    · obtain ⟨h1, r, h2, h3⟩ := hs j hlt
      rw [← h1, h2]
      rcases h3 with rfl | ⟨v, rfl⟩
      · exact .inl ⟨_, rfl, by omega, by omega⟩
      · exact .inr ⟨_, rfl, trivial⟩
    · refine .inr ⟨Ctl.go (), ?_, trivial⟩
      unfold o40_L0
      exact cond_neg (df (by omega))) fuelN 0 (Nat.zero_le _) (by simp only [fuelN]; omega)
  exact ⟨rfl, r, hr⟩
/-! ### kinds of parts -/
theorem o57_three (a b c : UInt8) (v : Int) : o57 [a, b, c] v = some (cond (v == (a.toNat : Int)) 0 (cond (v == (b.toNat : Int)) 1 (cond (v == (c.toNat : Int)) 2 (-1)))) := by
  obtain ⟨r, hr, hp⟩ := loop_find (f := o57_L0 [a, b, c] v) 3 (by omega) (fun k => v == (([a, b, c].getD k 0).toNat : Int)) (fun k => ((k : Nat) : Int)) (by
    intro k hk
    unfold o57_L0
    obtain ⟨M, hM, hMb⟩ : ∃ M : Int, M = 9223372036854775807 ∧ M > 1000000000000000000 := ⟨_, rfl, by decide⟩
    rw [← hM, dt (by simp only [List.length_cons, List.length_nil]; omega), cond_true, grd_at' (by omega)]
    cases (v == (([a, b, c].getD k 0).toNat : Int)) <;> rfl) (by unfold o57_L0; exact cond_neg (df (by simp only [List.length_cons, List.length_nil]; omega))) 3 0 fuelN (by omega) (by simp only [fuelN]; omega)
  unfold o57
  rw [hr]
  rcases hp with ⟨rfl, q⟩ | ⟨j, -, j1, j2, j3, rfl⟩
  · have q0 := q 0 (by omega) (by omega)
    have q1 := q 1 (by omega) (by omega)
    have q2 := q 2 (by omega) (by omega)
    simp only [List.getD_cons_zero, List.getD_cons_succ] at q0 q1 q2
    rw [joinO_go rfl, q0, q1, q2]; rfl
  · rw [joinO_done rfl]
    match j, j1 with
    | 0, _ =>
      simp only [List.getD_cons_zero] at j2
      rw [j2]; rfl
    | 1, _ =>
      have q0 := j3 0 (by omega) (by omega)
      simp only [List.getD_cons_zero, List.getD_cons_succ] at q0 j2
      rw [q0, j2]; rfl
    | 2, _ =>
      have q0 := j3 0 (by omega) (by omega)
      have q1 := j3 1 (by omega) (by omega)
      simp only [List.getD_cons_zero, List.getD_cons_succ] at q0 q1 j2
      rw [q0, q1, j2]; rfl
theorem beq_swap (a b : Int) : (a == b) = (b == a) := by
  by_cases h : a = b
  · rw [eq_t h, eq_t h.symm]
  · rw [eq_f h, eq_f (Ne.symm h)]
theorem o57_is {k : Int} (h : 1 ≤ k ∧ k ≤ 3) (v : Int) : o57 (o36 k) v = some (o39 k v - 1) := by
  obtain rfl | rfl | rfl : k = 1 ∨ k = 2 ∨ k = 3 := by omega
  · rw [show o36 1 = [u8 1, u8 2, u8 3] from rfl, o57_three]
    unfold o39
    rw [show ((u8 1).toNat : Int) = 1 from rfl, show ((u8 2).toNat : Int) = 2 from rfl, show ((u8 3).toNat : Int) = 3 from rfl, beq_swap v 1, beq_swap v 2, beq_swap v 3]
    show _ = some ((joinI (cond ((1 : Int) == v) (Ctl.done 1) (cond ((2 : Int) == v) (Ctl.done 2) (cond ((3 : Int) == v) (Ctl.done 3) (Ctl.go ())))) fun _ => 0) - 1)
    cases ((1 : Int) == v) <;> cases ((2 : Int) == v) <;> cases ((3 : Int) == v) <;> rfl
  · rw [show o36 2 = [u8 3, u8 2, u8 1] from rfl, o57_three]
    unfold o39
    rw [show ((u8 1).toNat : Int) = 1 from rfl, show ((u8 2).toNat : Int) = 2 from rfl, show ((u8 3).toNat : Int) = 3 from rfl, beq_swap v 1, beq_swap v 2, beq_swap v 3]
    show _ = some ((joinI (cond ((3 : Int) == v) (Ctl.done 1) (cond ((2 : Int) == v) (Ctl.done 2) (cond ((1 : Int) == v) (Ctl.done 3) (Ctl.go ())))) fun _ => 0) - 1)
    cases ((1 : Int) == v) <;> cases ((2 : Int) == v) <;> cases ((3 : Int) == v) <;> rfl
  · rw [show o36 3 = [u8 3, u8 2, u8 4] from rfl, o57_three]
    unfold o39
    rw [show ((u8 4).toNat : Int) = 4 from rfl, show ((u8 2).toNat : Int) = 2 from rfl, show ((u8 3).toNat : Int) = 3 from rfl, beq_swap v 4, beq_swap v 2, beq_swap v 3]
    show _ = some ((joinI (cond ((3 : Int) == v) (Ctl.done 1) (cond ((2 : Int) == v) (Ctl.done 2) (cond ((4 : Int) == v) (Ctl.done 3) (Ctl.go ())))) fun _ => 0) - 1)
    cases ((4 : Int) == v) <;> cases ((2 : Int) == v) <;> cases ((3 : Int) == v) <;> rfl
theorem o36_nil {k : Int} (h : ¬ (1 ≤ k ∧ k ≤ 3)) : List.isEmpty (o36 k) = true := by
  unfold o36
  rw [eq_f (by omega), eq_f (by omega), eq_f (by omega)]; rfl
theorem o36_not {k : Int} (h : 1 ≤ k ∧ k ≤ 3) : List.isEmpty (o36 k) = false := by
  obtain rfl | rfl | rfl : k = 1 ∨ k = 2 ∨ k = 3 := by omega
  all_goals rfl
theorem o39_in (k v : Int) : 0 ≤ o39 k v ∧ o39 k v ≤ 3 := by
  unfold o39
  simp only [letJ_def]
  generalize (cond (k == 3) (3, 4) ((cond (k == 2) ((3, 1) : Nat × Nat) (1, 3)).1, (cond (k == 2) ((3, 1) : Nat × Nat) (1, 3)).2) : Nat × Nat) = q
  cases (((q.1 : Nat) : Int) == v) <;> cases ((2 : Int) == v) <;> cases (((q.2 : Nat) : Int) == v) <;> decide
theorem part_tail {p : Proc} {i : Nat} (hp : okPart (p.parts.getD i default)) (hi : i < p.parts.length) (hi' : p.parts.length ≤ 140737488355328) (b : Bool) :
    ∃ v : Int, (bindO (τ := Bool) (cond ((((List.getD p.parts i default).kind == 1) || ((List.getD p.parts i default).kind == 3))) (bindO (τ := Bool) (o35 (List.getD p.parts i default).name (8 : Int)) fun y65 => (some (!y65))) (some (false))) fun t17 => (cond ((t17 || ((!(((List.getD p.parts i default).kind == 1) || ((List.getD p.parts i default).kind == 3))) && (!((List.getD p.parts i default).name == []))))) (some ((5 : Int))) (cond ((((((List.getD p.parts i default).legs).length : Nat) : Int) == 0)) (some ((1 : Int))) (cond (decide (((((List.getD p.parts i default).legs).length : Nat) : Int) > 24)) (some ((3 : Int))) (joinO (τ := Unit) (ρ := Int) (loopO (σ := Nat) (ρ := Ctl (Unit) (Int)) fuelN (o37_L0 p i) (0)) fun t25 => (some ((0 : Int)))))))) = some v ∧
    ((bindO (τ := Bool) (cond ((((List.getD p.parts i default).kind == 1) || ((List.getD p.parts i default).kind == 3))) (bindO (τ := Bool) (o38 (List.getD p.parts i default).name (8 : Int)) fun y48 => (some (!y48))) (some (false))) fun t35 => (cond ((t35 || ((!(((List.getD p.parts i default).kind == 1) || ((List.getD p.parts i default).kind == 3))) && (!((List.getD p.parts i default).name == []))))) (some (Ctl.done (Ctl.done ((5 : Int))))) (bindO (τ := Int) (o40 (p.kind : Int) (List.getD p.parts i default)) fun y41 => (cond ((y41 != 0)) (some (Ctl.done (Ctl.done ((y41 : Int))))) (grd (decide (((i : Nat) : Int) + 1 ≤ 9223372036854775807)) (some (Ctl.go ((b || ((List.getD p.parts i default).kind == 2)), (i + 1))))))))) : Option (Ctl (Bool × Nat) (Ctl Bool Int)))
      = some (cond (v != 0) (Ctl.done (Ctl.done v)) (Ctl.go ((b || ((List.getD p.parts i default).kind == 2)), (i + 1)))) ∧ (v = 0 → (List.getD p.parts i default).kind = 2 → (List.getD p.parts i default).name = []) := by
  obtain ⟨hl, r, hr⟩ := legs_loop (p := p) (i := i) hp
  obtain ⟨nb, hnb⟩ := o35_some hp.2.1 8
  rw [hl] at hr
  unfold o40
  rw [hl, hr, o38_is, hnb, grd_at' (by omega)]
  cases hk : (((List.getD p.parts i default).kind == 1) || ((List.getD p.parts i default).kind == 3)) with
  | true =>
    have h2 : (List.getD p.parts i default).kind ≠ 2 := by
      rw [Bool.or_eq_true] at hk
      rcases hk with hk | hk <;> (have := beq_iff_eq.1 hk; omega)
    simp only [cond_true, Bool.not_true, Bool.false_and, Bool.or_false]
    rw [bindO_some rfl, bindO_some rfl]
    cases nb with
    | false => exact ⟨5, rfl, rfl, fun h => by cases h⟩
    | true =>
      simp only [Bool.not_true, cond_false]
      cases ((((List.getD p.parts i default).legs).length : Int) == 0) with
      | true => exact ⟨1, rfl, rfl, fun h => by cases h⟩
      | false =>
        cases decide ((((List.getD p.parts i default).legs).length : Int) > 24) with
        | true => exact ⟨3, rfl, rfl, fun h => by cases h⟩
        | false =>
          cases r with
          | go u => exact ⟨0, rfl, rfl, fun _ h => absurd h h2⟩
          | done v => exact ⟨v, rfl, by cases hv : (v != 0) <;> simp only [cond_false, joinO_done rfl, bindO_some rfl, hv, cond_true], fun _ h => absurd h h2⟩
  | false =>
    simp only [cond_false, Bool.not_false, Bool.true_and, Bool.false_or]
    rw [bindO_some rfl, bindO_some rfl]
    simp only [Bool.false_or]
    cases hn : ((List.getD p.parts i default).name == []) with
    | false => exact ⟨5, rfl, rfl, fun h => by cases h⟩
    | true =>
      have hn' : (List.getD p.parts i default).name = [] := by simpa using hn
      simp only [Bool.not_true, cond_false]
      cases ((((List.getD p.parts i default).legs).length : Int) == 0) with
      | true => exact ⟨1, rfl, rfl, fun h => by cases h⟩
      | false =>
        cases decide ((((List.getD p.parts i default).legs).length : Int) > 24) with
        | true => exact ⟨3, rfl, rfl, fun h => by cases h⟩
        | false =>
          cases r with
          | go u => exact ⟨0, rfl, rfl, fun _ _ => hn'⟩
          | done v => exact ⟨v, rfl, by cases hv : (v != 0) <;> simp only [cond_false, joinO_done rfl, bindO_some rfl, hv, cond_true], fun _ _ => hn'⟩
theorem lt_pred (x y : Int) : decide (x - 1 < y - 1) = decide (x < y) := by
  by_cases h : x < y
  · rw [dt h, dt (by omega)]
  · rw [df h, df (by omega)]
theorem eq_pred (x y : Int) : ((x - 1) == (y - 1)) = (x == y) := by
  by_cases h : x = y
  · rw [eq_t h, eq_t (by omega)]
  · rw [eq_f h, eq_f (by omega)]
theorem part_step {p : Proc} {i : Nat} (hp : okPart (p.parts.getD i default)) (hk : 1 ≤ p.kind ∧ p.kind ≤ 3) (hi : i < p.parts.length) (hi' : p.parts.length ≤ 140737488355328) (b : Bool) :
    ∃ v : Int, o37 p i = some v ∧ o14_L0 p (b, i) = some (cond (v != 0) (Ctl.done (Ctl.done v)) (Ctl.go ((b || ((List.getD p.parts i default).kind == 2)), (i + 1)))) ∧ (v = 0 → (List.getD p.parts i default).kind = 2 → (List.getD p.parts i default).name = []) := by
  obtain ⟨v, t1, t2, t3⟩ := part_tail hp hi hi' b
  have ei : (((i : Nat) : Int)).toNat = i := by omega
  have hx := o39_in p.kind (p.parts.getD i default).kind
  unfold o37 o14_L0
  simp only
  rw [letJ_def, grd_at' (by omega), ei, o57_is hk, bindO_some rfl, dt (show ((i : Nat) : Int) < ((p.parts.length : Nat) : Int) by omega), cond_true, letJ_def]
  generalize o39 p.kind (p.parts.getD i default).kind = x at hx ⊢
  by_cases hx0 : x = 0
  · subst hx0
    exact ⟨17, rfl, rfl, fun h => by cases h⟩
  rw [df (by omega), cond_false, eq_f hx0, cond_false]
  by_cases h0 : i = 0
  · rw [df (show ¬ ((i : Nat) : Int) > 0 by omega)]
    simp only [cond_false]
    rw [joinO_go rfl, joinO_go rfl]
    exact ⟨v, t1, t2, t3⟩
  · have ej : (((i : Nat) : Int) - 1).toNat = i - 1 := by omega
    have hy := o39_in p.kind (p.parts.getD (i - 1) default).kind
    rw [dt (show ((i : Nat) : Int) > 0 by omega)]
    simp only [cond_true]
    obtain ⟨M, hM, hMb⟩ : ∃ M : Int, M = 9223372036854775807 ∧ M > 1000000000000000000 := ⟨_, rfl, by decide⟩
    obtain ⟨M', hM', hMb'⟩ : ∃ M : Int, M = -9223372036854775808 ∧ M < -1000000000000000000 := ⟨_, rfl, by decide⟩
    rw [grd_at' (p := -9223372036854775808 ≤ ((i : Nat) : Int) - 1 ∧ ((i : Nat) : Int) - 1 ≤ 9223372036854775807) (by omega), grd_at' (p := 0 ≤ ((i : Nat) : Int) - 1 ∧ ((i : Nat) : Int) - 1 < ((p.parts.length : Nat) : Int)) (by omega), grd_at' (p := 0 ≤ ((i : Nat) : Int) - 1 ∧ ((i : Nat) : Int) - 1 < ((p.parts.length : Nat) : Int)) (by omega), ej, o57_is hk, bindO_some rfl, letJ_def]
    generalize o39 p.kind (p.parts.getD (i - 1) default).kind = y at hy ⊢
    rw [lt_pred, eq_pred]
    generalize (decide (x < y) || ((x == y) && strLt (p.parts.getD i default).name (p.parts.getD (i - 1) default).name)) = c1
    generalize ((x == y) && ((p.parts.getD i default).name == (p.parts.getD (i - 1) default).name)) = c2
    cases c1 with
    | true => exact ⟨9, rfl, rfl, fun h => by cases h⟩
    | false =>
      cases c2 with
      | true => exact ⟨7, rfl, rfl, fun h => by cases h⟩
      | false =>
        simp only [cond_false]
        rw [joinO_go rfl, joinO_go rfl]
        exact ⟨v, t1, t2, t3⟩
/-! ### the whole check -/
def valP (p : Proc) (i : Nat) : Int := (o37 p i).getD 0
def scanP (p : Proc) : Nat → Nat → Bool → Ctl Bool Int
  | _, 0, b => Ctl.go b
  | m, c + 1, b => cond (valP p m != 0) (Ctl.done (valP p m)) (scanP p (m + 1) c (b || ((List.getD p.parts m default).kind == 2)))
def dropP : Ctl Bool Int → Ctl Unit Int
  | .go _ => .go ()
  | .done v => .done v
theorem scanP_go (p : Proc) : ∀ c m b t, scanP p m c b = Ctl.go t → (∀ j, m ≤ j → j < m + c → valP p j = 0) ∧ (t = true ↔ b = true ∨ ∃ j, m ≤ j ∧ j < m + c ∧ (List.getD p.parts j default).kind = 2)
  | 0, m, b, t, h => by
    rw [scanP] at h
    injection h with h
    subst h
    exact ⟨fun j _ _ => by omega, fun h => .inl h, fun h => h.elim id fun ⟨j, _, _, _⟩ => by omega⟩
  | c + 1, m, b, t, h => by
    rw [scanP] at h
    cases hv : (valP p m != 0) with
    | true => rw [hv, cond_true] at h; cases h
    | false =>
      rw [hv, cond_false] at h
      have h0 : valP p m = 0 := by simpa using hv
      obtain ⟨h1, h2⟩ := scanP_go p c (m + 1) _ t h
      refine ⟨fun j q1 q2 => ?_, h2.trans ?_⟩
      · by_cases hj : j = m
        · rw [hj]; exact h0
        · exact h1 j (by omega) (by omega)
      · rw [Bool.or_eq_true]
        constructor
        · rintro ((q | q) | ⟨j, q1, q2, q3⟩)
          · exact .inl q
          · exact .inr ⟨m, Nat.le_refl _, by omega, by simpa using q⟩
          · exact .inr ⟨j, by omega, by omega, q3⟩
        · rintro (q | ⟨j, q1, q2, q3⟩)
          · exact .inl (.inl q)
          · by_cases hj : j = m
            · subst hj; exact .inl (.inr (by simpa using q3))
            · exact .inr ⟨j, by omega, by omega, q3⟩
theorem partsOk {p : Proc} (h : okProc p) {i : Nat} (hi : i < p.parts.length) : okPart (p.parts.getD i default) := by
  rw [List.getD_eq_getElem?_getD, List.getElem?_eq_getElem hi]
  exact h.2.2.2.1.2 _ (List.getElem_mem hi)
theorem val_is {p : Proc} (h : okProc p) (hk : 1 ≤ p.kind ∧ p.kind ≤ 3) {i : Nat} (hi : i < p.parts.length) : o37 p i = some (valP p i) ∧ (∀ b, o14_L0 p (b, i) = some (cond (valP p i != 0) (Ctl.done (Ctl.done (valP p i))) (Ctl.go ((b || ((List.getD p.parts i default).kind == 2)), (i + 1))))) ∧ (valP p i = 0 → (List.getD p.parts i default).kind = 2 → (List.getD p.parts i default).name = []) := by
  have hl : p.parts.length ≤ 140737488355328 := by have := (sizedP_of h).1; omega
  obtain ⟨v, h1, -, h3⟩ := part_step (partsOk h hi) hk hi hl true
  have e : valP p i = v := by unfold valP; rw [h1]; rfl
  rw [e]
  refine ⟨h1, fun b => ?_, h3⟩
  obtain ⟨v', h1', h2', -⟩ := part_step (partsOk h hi) hk hi hl b
  rw [h1] at h1'
  injection h1' with h1'
  subst h1'
  exact h2'
theorem loop14 {p : Proc} (h : okProc p) (hk : 1 ≤ p.kind ∧ p.kind ≤ 3) : ∀ c m b N, m + c = p.parts.length → c < N → loopO N (o14_L0 p) (b, m) = some (scanP p m c b)
  | 0, m, b, N + 1, hm, hN => by
    rw [loopO_done (show o14_L0 p (b, m) = some (Ctl.done (Ctl.go b)) by unfold o14_L0; exact cond_neg (df (by simp only; omega)))]; rfl
  | c + 1, m, b, N + 1, hm, hN => by
    have hs := (val_is h hk (i := m) (by omega)).2.1 b
    rw [scanP]
    cases hv : (valP p m != 0) with
    | true => rw [hv] at hs; rw [loopO_done hs]; rfl
    | false => rw [hv] at hs; rw [loopO_go hs, loop14 h hk c (m + 1) _ N (by omega) (by omega)]; rfl
theorem loop13 {p : Proc} (h : okProc p) (hk : 1 ≤ p.kind ∧ p.kind ≤ 3) : ∀ c m b N, m + c = p.parts.length → c < N → loopO N (o13_L0 p) m = some (dropP (scanP p m c b))
  | 0, m, b, N + 1, hm, hN => by
    rw [loopO_done (show o13_L0 p m = some (Ctl.done (Ctl.go ())) by unfold o13_L0; exact cond_neg (df (by omega)))]; rfl
  | c + 1, m, b, N + 1, hm, hN => by
    have hl : p.parts.length ≤ 140737488355328 := by have := (sizedP_of h).1; omega
    have hs : o13_L0 p m = some (cond (valP p m != 0) (Ctl.done (Ctl.done (valP p m))) (Ctl.go (m + 1))) := by
      unfold o13_L0
      obtain ⟨M, hM, hMb⟩ : ∃ M : Int, M = 9223372036854775807 ∧ M > 1000000000000000000 := ⟨_, rfl, by decide⟩
      rw [← hM, dt (by omega), cond_true, (val_is h hk (i := m) (by omega)).1, bindO_some rfl, grd_at' (by omega)]
      cases (valP p m != 0) <;> rfl
    rw [scanP]
    cases hv : (valP p m != 0) with
    | true => rw [hv] at hs; rw [loopO_done hs]; rfl
    | false => rw [hv] at hs; rw [loopO_go hs, loop13 h hk c (m + 1) (b || ((List.getD p.parts m default).kind == 2)) N (by omega) (by omega)]; rfl
theorem check_is {p : Proc} (h : okProc p) : Eq1 (o13 p) (o14 p) := by
  obtain ⟨n1, hn1⟩ := o35_some h.1 6
  obtain ⟨n2, hn2⟩ := o35_some h.2.1 8
  unfold o13 o14
  rw [o38_is, o38_is, hn1, hn2, bindO_some rfl, bindO_some rfl, bindO_some rfl]
  have e : (cond (!n1) (some true) (some (!n2)) : Option Bool) = some (!n1 || !n2) := by cases n1 <;> rfl
  rw [e, bindO_some rfl, bindO_some rfl]
  refine eq1_cond (fun _ => eq1_ok _) fun _ => ?_
  rw [letJ_def]
  by_cases hk : 1 ≤ p.kind ∧ p.kind ≤ 3
  · rw [o36_not hk, cond_false, df (show ¬ p.kind < 1 by omega), df (show ¬ p.kind > 3 by omega), Bool.or_self, cond_false]
    refine eq1_cond (fun _ => eq1_ok _) fun _ => ?_
    have hl : p.parts.length ≤ 140737488355328 := by have := (sizedP_of h).1; omega
    rw [loop13 h hk p.parts.length 0 false fuelN (by omega) (by simp only [fuelN]; omega), loop14 h hk p.parts.length 0 false fuelN (by omega) (by simp only [fuelN]; omega)]
    cases hsc : scanP p 0 p.parts.length false with
    | done v => exact ⟨rfl, v, rfl⟩
    | go t =>
      rw [show dropP (Ctl.go t) = Ctl.go () from rfl, joinO_go rfl, joinO_go rfl, o17_is (sizedP_of h), bindO_some rfl]
      obtain ⟨z1, z2⟩ := scanP_go p _ _ _ _ hsc
      have ht : (partP p 2 []).2 = t := by
        rcases partP_in p 2 [] with ⟨h1, h2⟩ | ⟨j, j1, h1, j2, j3⟩
        · rw [h1]
          cases t with
          | false => rfl
          | true =>
            obtain q | ⟨j, -, q2, q3⟩ := z2.1 rfl
            · cases q
            · have hj : j < p.parts.length := by omega
              have hn := (val_is h hk hj).2.2 (z1 j (Nat.zero_le _) (by omega)) q3
              have := h2 j hj
              rw [q3, hn] at this
              cases this
        · rw [h1]
          exact (z2.2 (.inr ⟨j, Nat.zero_le _, by omega, j2⟩)).symm
      rw [ht]
      cases (((p.parts.length : Nat) : Int) == 0) <;> cases ((p.kind == 3) && !t) <;> exact ⟨rfl, _, rfl⟩
  · rw [o36_nil hk, cond_true, show (decide (p.kind < 1) || decide (p.kind > 3)) = true by
      rw [Bool.or_eq_true, decide_eq_true_iff, decide_eq_true_iff]; omega, cond_true]
    exact eq1_ok _
end Go.Proofs.YthfekfebgghjhaaDoor
