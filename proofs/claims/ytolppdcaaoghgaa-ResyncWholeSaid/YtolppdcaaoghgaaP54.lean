/-
Plain laws of the seat. Conditions: each lemma's own.
-/
import Derived.Test.YtolppdcaaoghgaaED
namespace Go.Proofs.Ytolppdcaaoghgaa
set_option linter.unusedVariables false
set_option linter.unusedSimpArgs false
open Go.RowKit
def cutS (p : List UInt8) (n : Int) : List UInt8 := List.take ((minI (((p).length : Nat) : Int) n)).toNat p
theorem cut_arr {q : Psi} {A : Option Addr} {c : Nat} {p : List UInt8} {n : Int} (h : Arr q tyU8 A c p) (hn : 0 ≤ n) : Arr q tyU8 (offA A c 0 1) (c - 0) (cutS p n) := by
  have := minI_spec ((p.length : Nat) : Int) n
  exact h.cut_to _ (by omega)
theorem cutS_len (p : List UInt8) (n : Int) (hn : 0 ≤ n) : ((cutS p n).length : Int) ≤ n ∧ (cutS p n).length ≤ p.length := by
  have := minI_spec ((p.length : Nat) : Int) n
  unfold cutS
  rw [List.length_take]
  omega
def idL (s : List UInt8) : List UInt8 := s
def chunkN (d : List UInt8) (i : Nat) : List UInt8 := (d.drop (i * 600)).take 600
def piecesTo (base : Int) (n : Int) (d : List UInt8) (k : Nat) : List Piece := (List.range k).map fun (i : Nat) => (⟨base, ((i : Nat) : Int), n, chunkN d i⟩ : Piece)
theorem chunk_eq (d : List UInt8) (k : Nat) (m : Int) (h1 : m ≤ ((k : Int) + 1) * 600) (h2 : m ≤ (d.length : Int)) (h3 : m = ((k : Int) + 1) * 600 ∨ m = (d.length : Int)) : List.take (m.toNat - k * 600) (List.drop (k * 600) d) = chunkN d k := by
  unfold chunkN
  rcases h3 with h3 | h3
  · rw [show m.toNat - k * 600 = 600 by omega]
  · rw [List.take_of_length_le (by rw [List.length_drop]; omega), List.take_of_length_le (by rw [List.length_drop]; omega)]
theorem piecesTo_step {base n : Int} {d : List UInt8} {k : Nat} {out : List Piece} (h : out = piecesTo base n d k) : out ++ [⟨base, (k : Int), n, idL (List.take ((minI (((k : Int) + 1) * 600) ((d.length : Nat) : Int)).toNat - k * 600) (List.drop (k * 600) d))⟩] = piecesTo base n d (k + 1) := by
  have := minI_spec (((k : Int) + 1) * 600) ((d.length : Nat) : Int)
  subst h
  unfold idL
  rw [chunk_eq d k _ this.1 this.2.1 this.2.2]
  simp [piecesTo, List.range_succ]
theorem piecesTo_len (base n : Int) (d : List UInt8) (k : Nat) : (piecesTo base n d k).length = k := by simp [piecesTo]
def splitN (d : List UInt8) : Int := maxI (((((d.length : Nat) : Int) + 600) - 1) / 600) 1
def splitS (base : Int) (d : List UInt8) : List Piece × Int :=
  cond (decide (base < 1) || decide (base > 2305843009213693952)) ([], 1) (cond (decide (((d.length : Nat) : Int) > 524288)) ([], 3) (piecesTo base (splitN d) d (splitN d).toNat, 0))
theorem splitS_0 {base : Int} {d : List UInt8} (h : (decide (base < 1) || decide (base > 2305843009213693952)) = true) : splitS base d = ([], 1) := by unfold splitS; rw [h]; rfl
theorem splitS_1 {base : Int} {d : List UInt8} (h : (decide (base < 1) || decide (base > 2305843009213693952)) = false) (h1 : decide (((d.length : Nat) : Int) > 524288) = true) : splitS base d = ([], 3) := by unfold splitS; rw [h, h1]; rfl
theorem splitS_2 {base : Int} {d : List UInt8} {k : Nat} {out : List Piece} (h : (decide (base < 1) || decide (base > 2305843009213693952)) = false) (h1 : decide (((d.length : Nat) : Int) > 524288) = false) (hk : (k : Int) ≤ splitN d) (hn : ¬ (k : Int) < splitN d) (ho : out = piecesTo base (splitN d) d k) : splitS base d = (out, 0) := by
  unfold splitS; rw [h, h1]
  show (_, _) = _
  rw [show (splitN d).toNat = k by omega, ← ho]
theorem piecesTo_step2 {base n m : Int} {d : List UInt8} {k : Nat} {out : List Piece} (h : out = piecesTo base n d k) (e : m = cond (decide (((k : Int) + 1) * 600 > ((d.length : Nat) : Int))) ((d.length : Nat) : Int) (((k : Int) + 1) * 600)) (hd : ((k : Int) + 1) * 600 > ((d.length : Nat) : Int) ∧ m = ((d.length : Nat) : Int) ∨ ¬ ((k : Int) + 1) * 600 > ((d.length : Nat) : Int) ∧ m = ((k : Int) + 1) * 600) : out ++ [⟨base, (k : Int), n, (List.take (m.toNat - k * 600) (List.drop (k * 600) d))⟩] = piecesTo base n d (k + 1) := by
  subst h
  rw [chunk_eq d k _ (by omega) (by omega) (by omega)]
  simp [piecesTo, List.range_succ]
theorem splitN_2 {d : List UInt8} {x : Int} (h : ((((d.length : Nat) : Int) + 600) - 1) / 600 = 0 ∧ x = 1 ∨ ¬ ((((d.length : Nat) : Int) + 600) - 1) / 600 = 0 ∧ x = ((((d.length : Nat) : Int) + 600) - 1) / 600) : x = splitN d := by
  have := maxI_spec (((((d.length : Nat) : Int) + 600) - 1) / 600) 1
  unfold splitN
  omega
theorem splitS_ne {base : Int} {d : List UInt8} (h : (splitS base d).2 = 0) : 0 < (splitS base d).1.length := by
  cases h0 : (decide (base < 1) || decide (base > 2305843009213693952)) with
  | true => rw [splitS_0 h0] at h; cases h
  | false =>
    cases h1 : decide (((d.length : Nat) : Int) > 524288) with
    | true => rw [splitS_1 h0 h1] at h; cases h
    | false =>
      have e : splitS base d = (piecesTo base (splitN d) d (splitN d).toNat, 0) := by unfold splitS; rw [h0, h1]; rfl
      rw [e]
      simp only [piecesTo_len]
      have := maxI_spec (((((d.length : Nat) : Int) + 600) - 1) / 600) 1
      unfold splitN; omega
end Go.Proofs.Ytolppdcaaoghgaa
