/-
The bytes of a board. Conditions: each lemma's own.
-/
import Derived.Test.YtfhchendnfpbkaaP55nx8
namespace Go.Proofs.Ytfhchendnfpbkaa
set_option linter.unusedVariables false
set_option linter.unusedSimpArgs false
open Go.RowKit
theorem getD_set8 (l : List UInt8) (i k : Nat) (v : UInt8) : (l.set i v).getD k 0 = if i = k ∧ k < l.length then v else l.getD k 0 := by
  rw [List.getD_eq_getElem?_getD, List.getElem?_set]
  by_cases h : i = k
  · subst h
    by_cases h2 : i < l.length
    · rw [if_pos rfl, if_pos h2, if_pos ⟨rfl, h2⟩]; rfl
    · rw [if_pos rfl, if_neg h2, if_neg (fun h => h2 h.2), List.getD_eq_getElem?_getD, List.getElem?_eq_none (by omega)]
  · rw [if_neg h, if_neg (fun h' => h h'.1), ← List.getD_eq_getElem?_getD]
theorem ext8 {l m : List UInt8} (hl : l.length = m.length) (h : ∀ k, k < l.length → l.getD k 0 = m.getD k 0) : l = m := by
  refine List.ext_getElem hl fun k h1 h2 => ?_
  have := h k h1
  rw [List.getD_eq_getElem?_getD, List.getD_eq_getElem?_getD, List.getElem?_eq_getElem h1, List.getElem?_eq_getElem h2] at this
  exact this
theorem putB_at (n : Int) {k j : Nat} (h : j < k) : (putB n k).getD j 0 = byteAt n j := by
  rw [List.getD_eq_getElem?_getD]
  simp [putB, List.getElem?_range h]
theorem o47_is (n : Int) : o47 n = some (putB n 8) := by
  unfold o47
  obtain ⟨r, h, h1, h2⟩ := loopO_ok (f := o47_L0 n) (fun s => s.2 ≤ 8 ∧ s.1.length = 8 ∧ ∀ j, j < s.2 → s.1.getD j 0 = byteAt n j) (fun s => 8 - s.2) (fun r => r.length = 8 ∧ ∀ j, j < 8 → r.getD j 0 = byteAt n j) (by
    rintro ⟨x, k⟩ ⟨h1, h2, h3⟩
    simp only at h1 h2 h3
    unfold o47_L0
    obtain ⟨M, hM, hMb⟩ : ∃ M : Int, M = 9223372036854775807 ∧ M > 1000 := ⟨_, rfl, by decide⟩
    rw [← hM, List.length_replicate]
    simp only
    by_cases hlt : k < 8
    · rw [dt (by omega), cond_true, w8 (by omega), grd_at' (by omega), grd_at' (by omega), grd_at' (by omega)]
      refine .inl ⟨_, rfl, ⟨by simp only; omega, by simp only [List.length_set]; exact h2, fun j hj => ?_⟩, by simp only; omega⟩
      simp only at hj ⊢
      rw [getD_set8]
      by_cases hkj : k = j
      · subst hkj
        rw [if_pos (show k = k ∧ k < x.length from ⟨rfl, by omega⟩)]; rfl
      · rw [if_neg (fun h => hkj h.1)]
        exact h3 j (by omega)
    · rw [df (by omega), cond_false]
      exact .inr ⟨_, rfl, h2, fun j hj => h3 j (by omega)⟩) fuelN (List.replicate 8 0, 0) ⟨Nat.zero_le _, List.length_replicate, fun j hj => by simp only at hj; omega⟩ (by simp only [fuelN]; omega)
  rw [h, bindO_some rfl, ext8 (by rw [h1, putB_len]) (fun k hk => by rw [h2 k (by omega), putB_at n (by omega)] : ∀ k, k < r.length → r.getD k 0 = (putB n 8).getD k 0)]
def flagsC (c : Cnd) : Int := cond c.acked (lorK .u8 (((cond (c.onset != 0) 1 0 : Nat) : Nat) : Int) 2) (((cond (c.onset != 0) 1 0 : Nat) : Nat) : Int)
def bytesC (cs : List Cnd) : Nat → List UInt8
  | 0 => []
  | k + 1 => bytesC cs k ++ [u8 (flagsC (cs.getD k default))] ++ putB (cs.getD k default).onset 8
theorem bytesC_len (cs : List Cnd) : ∀ k, (bytesC cs k).length = 9 * k
  | 0 => rfl
  | k + 1 => by
    rw [bytesC, List.length_append, List.length_append, bytesC_len cs k, putB_len]
    simp only [List.length_cons, List.length_nil]
    omega
def bytesB (b : Board) : List UInt8 := putB b.steps 8 ++ [u8 b.phase] ++ bytesC b.conds b.conds.length
theorem o22_is {b : Board} (w : WB b) : o22 b = some (bytesB b) := by
  have hl := w.2.1
  have hl1 := w.1
  have hp := w.2.2
  unfold o22
  rw [o47_is, bindO_some rfl, grd_at' hp, grd_at' (by rw [putB_len]; simp only [List.length_cons, List.length_nil]; omega)]
  obtain ⟨r, h, rfl⟩ := loopO_ok (f := o22_L0 b) (fun s => s.2 ≤ b.conds.length ∧ s.1 = putB b.steps 8 ++ [u8 b.phase] ++ bytesC b.conds s.2) (fun s => b.conds.length - s.2) (fun r => r = bytesB b) (by
    rintro ⟨x, k⟩ ⟨hk, hx⟩
    simp only at hk hx
    unfold o22_L0
    obtain ⟨M, hM, hMb⟩ : ∃ M : Int, M = 9223372036854775807 ∧ M > 1000 := ⟨_, rfl, by decide⟩
    rw [← hM]
    simp only
    by_cases hlt : k < b.conds.length
    · have hxl : x.length = 9 + 9 * k := by
        rw [hx, List.length_append, List.length_append, bytesC_len, putB_len]
        simp only [List.length_cons, List.length_nil]
      rw [dt (by omega), cond_true, letJ_def, letJ_def, o47_is, grd_at' (by simp only [List.length_cons, List.length_nil]; omega), bindO_some rfl, grd_at' (by rw [List.length_append, putB_len]; simp only [List.length_cons, List.length_nil]; omega), grd_at' (by omega)]
      refine .inl ⟨_, rfl, ⟨by simp only; omega, ?_⟩, by simp only; omega⟩
      simp only
      rw [hx, bytesC, List.append_assoc, List.append_assoc, List.append_assoc, List.append_assoc]
      simp only [List.append_assoc]
      rfl
    · obtain rfl : k = b.conds.length := by omega
      exact .inr ⟨_, cond_neg (df (by omega)), hx⟩) fuelN (putB b.steps 8 ++ [u8 b.phase], 0) ⟨Nat.zero_le _, by simp only [bytesC, List.append_nil]⟩ (by simp only [fuelN]; omega)
  rw [h, bindO_some rfl]
end Go.Proofs.Ytfhchendnfpbkaa
