/-
Plain lemmas of the collector's functions. Conditions: each lemma's own.
-/
import Derived.Test.YtolppdcaaoghgaaP54
namespace Go.Proofs.Ytolppdcaaoghgaa
set_option linter.unusedVariables false
set_option linter.unusedSimpArgs false
open Go.RowKit
def lowK (x : Int) (k : Nat) : List UInt8 := (List.range k).map fun (i : Nat) => u8 (IntKind.u8.wrap (shrK .u64 (IntKind.u64.wrap x) (8 * (i : Int))))
def lowS (x n : Int) : List UInt8 := lowK x n.toNat
theorem lowK_succ (x : Int) (k : Nat) : lowK x (k + 1) = lowK x k ++ [u8 (IntKind.u8.wrap (shrK .u64 (IntKind.u64.wrap x) (8 * (k : Int))))] := by
  simp [lowK, List.range_succ]
theorem lowK_len (x : Int) (k : Nat) : (lowK x k).length = k := by simp [lowK]
theorem lowS_len (x n : Int) : (lowS x n).length = n.toNat := lowK_len x _
def concatS (l : List (List UInt8)) : List UInt8 := l.flatten
def sumLen (l : List (List UInt8)) : Nat := (l.map List.length).sum
theorem flat_succ {l : List (List UInt8)} {k : Nat} (h : k < l.length) : (l.take (k + 1)).flatten = (l.take k).flatten ++ l.getD k [] := by
  rw [List.take_succ_eq_append_getElem h, List.flatten_append, List.getD_eq_getElem?_getD, List.getElem?_eq_getElem h]
  simp
theorem take_succ_getD {α : Type} {l : List α} {k : Nat} {d : α} (h : k < l.length) : l.take (k + 1) = l.take k ++ [l.getD k d] := by
  rw [List.take_succ_eq_append_getElem h, List.getD_eq_getElem?_getD, List.getElem?_eq_getElem h]
  rfl
theorem flat_le (l : List (List UInt8)) (k : Nat) : (l.take k).flatten.length ≤ l.flatten.length := by
  conv => rhs; rw [← List.take_append_drop k l]
  rw [List.flatten_append, List.length_append]; omega
theorem set_getD_same {α : Type} {l : List α} {k : Nat} {d : α} : l.set k (l.getD k d) = l := by
  apply List.ext_getElem?
  intro j
  rw [List.getElem?_set]
  split
  · rename_i e; subst e
    split
    · rename_i h; rw [List.getD_eq_getElem?_getD, List.getElem?_eq_getElem h]; rfl
    · rename_i h; rw [List.getElem?_eq_none (by omega)]
  · rfl
def growS (n : Int) : List UInt8 := []
def putK (n : Int) (k : Nat) : List UInt8 := (List.range k).map fun (i : Nat) => u8 (IntKind.u8.wrap (shrK .i64 n (8 * (i : Int))))
def putS (out : List UInt8) (n size : Int) : List UInt8 := out ++ putK n size.toNat
theorem putK_nil (out : List UInt8) (n : Int) : out = out ++ putK n 0 := by simp [putK]
theorem putK_succ (n : Int) (k : Nat) : putK n (k + 1) = putK n k ++ [u8 (IntKind.u8.wrap (shrK .i64 n (8 * (k : Int))))] := by simp [putK, List.range_succ]
theorem putS_len (out : List UInt8) (n size : Int) : (putS out n size).length = out.length + size.toNat := by simp [putS, putK]
def jobS (c : Coll) : Job × Bool := cond ((((c.parts.length : Nat) : Int) == 0) || (((c.parts.length : Nat) : Int) != c.count)) (⟨0, [], []⟩, false) (⟨c.base, concatS c.parts, c.sets⟩, true)
theorem jobS_end {c : Coll} {b : Int} {p : List UInt8} {sets : List Sett} (he : sets = c.sets) : ((⟨b, p, c.sets⟩, true) : Job × Bool) = (⟨b, p, sets⟩, true) := by rw [he]
def readyS (c : Coll) : Job × Bool := cond ((((c.parts.length : Nat) : Int) == 0) || decide (((c.parts.length : Nat) : Int) < c.count)) (⟨0, [], []⟩, false) (⟨c.base, c.parts.flatten, c.sets⟩, true)
theorem readyS_end {c : Coll} {out : List UInt8} {k : Nat} (hk : c.parts.length ≤ k) (ho : out = (c.parts.take k).flatten) : ((⟨c.base, c.parts.flatten, c.sets⟩, true) : Job × Bool) = (⟨c.base, out, c.sets⟩, true) := by
  rw [ho, List.take_of_length_le hk]
end Go.Proofs.Ytolppdcaaoghgaa
