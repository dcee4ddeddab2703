/-
A board in plain words: which alerts are shown, in which order. Conditions: each lemma's own.
-/
import Derived.Test.YtfhchendnfpbkaaQ8
import Derived.Test.YtfhchendnfpbkaaQ1g55
namespace Go.Proofs.Ytfhchendnfpbkaa
set_option linter.unusedVariables false
set_option linter.unusedSimpArgs false
open Go.RowKit
def sel (p : Nat → Bool) : Nat → List Int
  | 0 => []
  | k + 1 => cond (p k) (sel p k ++ [((k : Nat) : Int)]) (sel p k)
theorem sel_len (p : Nat → Bool) : ∀ k, (sel p k).length ≤ k
  | 0 => Nat.le_refl _
  | k + 1 => by
    have := sel_len p k
    rw [sel]
    cases p k <;> simp only [cond_true, cond_false, List.length_append, List.length_cons, List.length_nil] <;> omega
theorem getD_app (l : List Int) (x : Int) (q : Nat) : (l ++ [x]).getD q 0 = if q < l.length then l.getD q 0 else if q = l.length then x else 0 := by
  rw [List.getD_eq_getElem?_getD]
  by_cases h : q < l.length
  · rw [List.getElem?_append_left h, if_pos h, ← List.getD_eq_getElem?_getD]
  · rw [List.getElem?_append_right (by omega), if_neg h]
    by_cases h2 : q = l.length
    · rw [if_pos h2, h2, Nat.sub_self]; rfl
    · rw [if_neg h2, List.getElem?_eq_none (by simp only [List.length_cons, List.length_nil]; omega)]; rfl
theorem sel_at (p : Nat → Bool) : ∀ k q, q < (sel p k).length → ∃ i, i < k ∧ p i = true ∧ (sel p k).getD q 0 = ((i : Nat) : Int)
  | 0, q, h => by cases h
  | k + 1, q, h => by
    rw [sel] at h ⊢
    cases hp : p k with
    | false =>
      rw [hp] at h
      obtain ⟨i, h1, h2, h3⟩ := sel_at p k q h
      exact ⟨i, by omega, h2, h3⟩
    | true =>
      rw [hp] at h
      simp only [cond_true, List.length_append, List.length_cons, List.length_nil] at h ⊢
      rw [getD_app]
      by_cases hq : q < (sel p k).length
      · obtain ⟨i, h1, h2, h3⟩ := sel_at p k q hq
        rw [if_pos hq]
        exact ⟨i, by omega, h2, h3⟩
      · rw [if_neg hq, if_pos (by omega)]
        exact ⟨k, by omega, hp, rfl⟩
theorem sel_has (p : Nat → Bool) : ∀ k i, i < k → p i = true → ∃ q, q < (sel p k).length ∧ (sel p k).getD q 0 = ((i : Nat) : Int)
  | 0, i, h, _ => by omega
  | k + 1, i, h, hi => by
    rw [sel]
    by_cases hik : i = k
    · subst hik
      rw [hi, cond_true]
      exact ⟨(sel p i).length, by simp, by rw [getD_app, if_neg (by omega), if_pos rfl]⟩
    · obtain ⟨q, h1, h2⟩ := sel_has p k i (by omega) hi
      cases hp : p k with
      | false => exact ⟨q, h1, h2⟩
      | true =>
        rw [cond_true]
        exact ⟨q, by simp only [List.length_append, List.length_cons, List.length_nil]; omega, by rw [getD_app, if_pos h1, h2]⟩
theorem sel_up (p : Nat → Bool) : ∀ k q r, q < r → r < (sel p k).length → (sel p k).getD q 0 < (sel p k).getD r 0
  | 0, q, r, _, h => by cases h
  | k + 1, q, r, h, hr => by
    rw [sel] at hr ⊢
    cases hp : p k with
    | false => rw [hp] at hr; exact sel_up p k q r h hr
    | true =>
      rw [hp] at hr
      simp only [cond_true, List.length_append, List.length_cons, List.length_nil] at hr ⊢
      rw [getD_app, getD_app, if_pos (by omega)]
      by_cases h2 : r < (sel p k).length
      · rw [if_pos h2]; exact sel_up p k q r h h2
      · rw [if_neg h2, if_pos (by omega)]
        obtain ⟨i, h1, h3, h4⟩ := sel_at p k q (by omega)
        omega
def shn (b : Board) (i : Nat) : Bool := cond ((((b.conds.getD i default).onset != 0) && (!(b.conds.getD i default).acked))) ((landK .u16 (shrK .u16 (b.defs.getD i default).inhibit b.phase) 1) == 0) false
def WB (b : Board) : Prop := b.conds.length = b.defs.length ∧ b.defs.length ≤ 18 ∧ 0 ≤ b.phase ∧ b.phase ≤ 255
theorem o40_is {b : Board} (w : WB b) {i : Nat} (hi : i < b.defs.length) : o40 b ((i : Nat) : Int) = some (shn b i) := by
  have h1 := w.1
  have hp := w.2.2.1
  unfold o40 shn
  have e : (((i : Nat) : Int)).toNat = i := by omega
  rw [grd_at' (by omega), e]
  cases ((((b.conds.getD i default).onset != 0) && (!(b.conds.getD i default).acked))) with
  | true => rw [cond_true, cond_true, grd_at' (by omega), grd_at' hp, bindO_some rfl]
  | false => rfl
def ltB (b : Board) (i j : Int) : Prop := (b.defs.getD i.toNat default).level < (b.defs.getD j.toNat default).level ∨ ((b.defs.getD i.toNat default).level = (b.defs.getD j.toNat default).level ∧ ((b.conds.getD i.toNat default).onset > (b.conds.getD j.toNat default).onset ∨ ((b.conds.getD i.toNat default).onset = (b.conds.getD j.toNat default).onset ∧ i < j)))
def inB (b : Board) (i : Int) : Prop := 0 ≤ i ∧ i < ((b.defs.length : Nat) : Int)
theorem o44_is (x y : Int) : o44 x y = if x < y then -1 else if x > y then 1 else 0 := by
  have nan : ∀ z : Int, o61 z = false := fun z => by unfold o61; exact neq_f rfl
  unfold o44
  rw [letJ_def, letJ_def, nan, nan]
  simp only [cond_false]
  by_cases h : x < y
  · rw [dt h, if_pos h]; rfl
  · rw [df h, if_neg h]
    by_cases h2 : x > y
    · rw [dt h2, if_pos h2]; rfl
    · rw [df h2, if_neg h2]; rfl
theorem o45_is (x y : Int) : o45 x y = if x < y then -1 else if x > y then 1 else 0 := by
  have : o45 x y = o44 x y := by unfold o45 o44; rw [show o62 = o61 from rfl]
  rw [this, o44_is]
theorem o46_is (x y : Int) : o46 x y = if x < y then -1 else if x > y then 1 else 0 := by
  have : o46 x y = o44 x y := by unfold o46 o44; rw [show o63 = o61 from rfl]
  rw [this, o44_is]
theorem o43_is (x y z : Int) : o43 [x, y, z] = some (if x ≠ 0 then x else if y ≠ 0 then y else z) := by
  unfold o43
  have hf : fuelN = ((((fuelN - 4) + 1) + 1) + 1) + 1 := by simp [fuelN]
  have s0 : o43_L0 [x, y, z] 0 = cond (x != 0) (some (Ctl.done (Ctl.done x))) (some (Ctl.go 1)) := by
    unfold o43_L0
    obtain ⟨M, hM, hb⟩ : ∃ M : Int, M = 9223372036854775807 ∧ M > 100 := ⟨_, rfl, by decide⟩
    rw [← hM, grd_at' (by omega)]; rfl
  have s1 : o43_L0 [x, y, z] 1 = cond (y != 0) (some (Ctl.done (Ctl.done y))) (some (Ctl.go 2)) := by
    unfold o43_L0
    obtain ⟨M, hM, hb⟩ : ∃ M : Int, M = 9223372036854775807 ∧ M > 100 := ⟨_, rfl, by decide⟩
    rw [← hM, grd_at' (by omega)]; rfl
  have s2 : o43_L0 [x, y, z] 2 = cond (z != 0) (some (Ctl.done (Ctl.done z))) (some (Ctl.go 3)) := by
    unfold o43_L0
    obtain ⟨M, hM, hb⟩ : ∃ M : Int, M = 9223372036854775807 ∧ M > 100 := ⟨_, rfl, by decide⟩
    rw [← hM, grd_at' (by omega)]; rfl
  have s3 : o43_L0 [x, y, z] 3 = some (Ctl.done (Ctl.go ())) := by
    unfold o43_L0
    obtain ⟨M, hM, hb⟩ : ∃ M : Int, M = 9223372036854775807 ∧ M > 100 := ⟨_, rfl, by decide⟩
    rw [← hM]; rfl
  rw [hf]
  by_cases hx : x = 0
  · rw [neq_f hx] at s0
    rw [loopO_go s0, if_neg (fun h => h hx)]
    by_cases hy : y = 0
    · rw [neq_f hy] at s1
      rw [loopO_go s1, if_neg (fun h => h hy)]
      by_cases hz : z = 0
      · rw [neq_f hz] at s2
        rw [loopO_go s2, loopO_done s3, hz]; rfl
      · rw [neq_t hz] at s2
        rw [loopO_done s2]; rfl
    · rw [neq_t hy] at s1
      rw [loopO_done s1, if_pos hy]; rfl
  · rw [neq_t hx] at s0
    rw [loopO_done s0, if_pos hx]; rfl
theorem ordB {b : Board} (w : WB b) : OrdC (cmpB b) (inB b) (ltB b) := by
  have h1 := w.1
  constructor
  · intro x y hx hy
    unfold cmpB o42
    have hx' : 0 ≤ x ∧ x < ((b.defs.length : Nat) : Int) := hx
    have hy' : 0 ≤ y ∧ y < ((b.defs.length : Nat) : Int) := hy
    rw [grd_at' hx', grd_at' hy', grd_at' (by omega), grd_at' (by omega), letJ_def, letJ_def, letJ_def, o43_is, o44_is, o45_is, o46_is, bindO_some rfl]
    refine ⟨_, rfl, ?_⟩
    unfold ltB
    repeat' split
    all_goals omega
  · intro x hx h
    unfold ltB at h
    omega
  · intro x y z hx hy hz h1 h2
    unfold ltB at *
    omega
  · intro x y hx hy hne
    unfold ltB
    omega
theorem o19_is {b : Board} (w : WB b) : ∃ r, o19 b = some r ∧ r.length ≤ b.defs.length ∧ Inj r ∧ (∀ q, q < r.length → ∃ i : Nat, i < b.defs.length ∧ shn b i = true ∧ r.getD q 0 = ((i : Nat) : Int)) ∧ (∀ i, i < b.defs.length → shn b i = true → ∃ q, q < r.length ∧ r.getD q 0 = ((i : Nat) : Int)) ∧ Srt (ltB b) r 0 r.length := by
  have hl := w.2.1
  unfold o19
  obtain ⟨l, h, rfl⟩ := loopO_ok (f := o19_L0 b) (fun s => s.2 ≤ b.defs.length ∧ s.1 = sel (shn b) s.2) (fun s => b.defs.length - s.2) (fun r => r = sel (shn b) b.defs.length) (by
    rintro ⟨x, k⟩ ⟨hk, hx⟩
    simp only at hk hx
    subst hx
    unfold o19_L0
    obtain ⟨M, hM⟩ : ∃ M : Int, M = 9223372036854775807 := ⟨_, rfl⟩
    rw [← hM]
    simp only
    by_cases hlt : k < b.defs.length
    · have := sel_len (shn b) k
      rw [dt (by omega), cond_true, o40_is w hlt, bindO_some rfl]
      cases hs : shn b k with
      | true =>
        rw [cond_true, grd_at' (by simp only [List.length_cons, List.length_nil]; omega), bindO_some rfl, grd_at' (by omega)]
        exact .inl ⟨_, rfl, ⟨by simp only; omega, by simp only; rw [sel, hs]; rfl⟩, by simp only; omega⟩
      | false =>
        rw [cond_false, bindO_some rfl, grd_at' (by omega)]
        exact .inl ⟨_, rfl, ⟨by simp only; omega, by simp only; rw [sel, hs]; rfl⟩, by simp only; omega⟩
    · obtain rfl : k = b.defs.length := by omega
      exact .inr ⟨_, cond_neg (df (by omega)), rfl⟩) fuelN ([], 0) ⟨Nat.zero_le _, rfl⟩ (by simp only [fuelN]; omega)
  rw [h, bindO_some rfl, sort_g]
  have hlen := sel_len (shn b) b.defs.length
  have g : Gd (inB b) (sel (shn b) b.defs.length) := ⟨fun p q hp hq e => by
      rcases Nat.lt_trichotomy p q with h | h | h
      · have := sel_up (shn b) b.defs.length p q h hq; omega
      · exact h
      · have := sel_up (shn b) b.defs.length q p h hp; omega, fun k hk => by
      obtain ⟨i, h1, h2, h3⟩ := sel_at (shn b) b.defs.length k hk
      rw [h3]; unfold inB; omega, by omega⟩
  obtain ⟨r, r1, r2, r3⟩ := gSort_ok (ordB w) g
  have gr := g.go r2 (Nat.le_refl _)
  rw [r1, bindO_some rfl]
  have hrl := r2.1
  refine ⟨r, rfl, by omega, gr.1, fun q hq => ?_, fun i hi hs => ?_, by rw [hrl]; exact r3⟩
  · obtain ⟨j, j1, j2, j3⟩ := r2.2.2.1 q (Nat.zero_le _) (by omega)
    obtain ⟨i, i1, i2, i3⟩ := sel_at (shn b) b.defs.length j j2
    exact ⟨i, i1, i2, by rw [j3, i3]⟩
  · obtain ⟨q, q1, q2⟩ := sel_has (shn b) b.defs.length i hi hs
    obtain ⟨j, j1, j2, j3⟩ := r2.2.2.2.1 q (Nat.zero_le _) q1
    exact ⟨j, by omega, by rw [← j3]; exact q2⟩
def hld (b : Board) (i : Nat) : Bool := (b.conds.getD i default).onset != 0
theorem o23_is {b : Board} (w : WB b) : o23 b = some (sel (hld b) b.conds.length) := by
  have hl := w.2.1
  have hl1 := w.1
  unfold o23
  obtain ⟨l, h, rfl⟩ := loopO_ok (f := o23_L0 b) (fun s => s.2 ≤ b.conds.length ∧ s.1 = sel (hld b) s.2) (fun s => b.conds.length - s.2) (fun r => r = sel (hld b) b.conds.length) (by
    rintro ⟨x, k⟩ ⟨hk, hx⟩
    simp only at hk hx
    subst hx
    unfold o23_L0
    obtain ⟨M, hM⟩ : ∃ M : Int, M = 9223372036854775807 := ⟨_, rfl⟩
    rw [← hM]
    simp only
    by_cases hlt : k < b.conds.length
    · have := sel_len (hld b) k
      rw [dt (by omega), cond_true]
      cases hs : ((b.conds.getD k default).onset != 0) with
      | true =>
        rw [cond_true, grd_at' (by simp only [List.length_cons, List.length_nil]; omega), bindO_some rfl, grd_at' (by omega)]
        exact .inl ⟨_, rfl, ⟨by simp only; omega, by simp only; rw [sel, show hld b k = true from hs]; rfl⟩, by simp only; omega⟩
      | false =>
        rw [cond_false, bindO_some rfl, grd_at' (by omega)]
        exact .inl ⟨_, rfl, ⟨by simp only; omega, by simp only; rw [sel, show hld b k = false from hs]; rfl⟩, by simp only; omega⟩
    · obtain rfl : k = b.conds.length := by omega
      exact .inr ⟨_, cond_neg (df (by omega)), rfl⟩) fuelN ([], 0) ⟨Nat.zero_le _, rfl⟩ (by simp only [fuelN]; omega)
  rw [h, bindO_some rfl]
theorem o21_is {b : Board} {r : List Int} (h : o19 b = some r) (hr : ∀ q, q < r.length → ∃ i : Nat, i < b.defs.length ∧ shn b i = true ∧ r.getD q 0 = ((i : Nat) : Int)) : o21 b = some (if r.length = 0 then 0 else (b.defs.getD (r.getD 0 0).toNat default).level) := by
  unfold o21
  rw [h, bindO_some rfl]
  by_cases h0 : r.length = 0
  · rw [if_pos h0, eq_t (by omega), cond_true]
  · rw [if_neg h0, eq_f (by omega), cond_false]
    obtain ⟨i, h1, h2, h3⟩ := hr 0 (by omega)
    rw [grd_at' (by omega)]
theorem getD_setC (l : List Cnd) (i k : Nat) (v : Cnd) : (l.set i v).getD k default = if i = k ∧ k < l.length then v else l.getD k default := by
  rw [List.getD_eq_getElem?_getD, List.getElem?_set]
  by_cases h : i = k
  · subst h
    by_cases h2 : i < l.length
    · rw [if_pos rfl, if_pos h2, if_pos ⟨rfl, h2⟩]; rfl
    · rw [if_pos rfl, if_neg h2, if_neg (fun h => h2 h.2), List.getD_eq_getElem?_getD, List.getElem?_eq_none (by omega)]
  · rw [if_neg h, if_neg (fun h' => h h'.1), ← List.getD_eq_getElem?_getD]
theorem o10_true : o10 = some true := by kernel_rfl
end Go.Proofs.Ytfhchendnfpbkaa
