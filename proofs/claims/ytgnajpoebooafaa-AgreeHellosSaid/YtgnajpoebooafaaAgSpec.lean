/-
What the exchange's payloads are, in plain Lean: packed inputs, hellos, sets, results, roles. No program in sight. Conditions: each lemma's own.
-/
import Derived.Test.YtgnajpoebooafaaNum
import Derived.Test.YtgnajpoebooafaaOpen
namespace Go.Proofs.Ytgnajpoebooafaa
set_option linter.unusedVariables false
set_option linter.unusedSimpArgs false
open Go.RowKit
theorem at8_cons0 (f : UInt8) (l : List UInt8) : at8 (f :: l) 0 = f.toNat := rfl
/-- the bytes of one input -/
def inB (l : List UInt8) (is : Bool) : List UInt8 := if is then lowB l.length 2 ++ l else []
def flagB (ia ib : Bool) : UInt8 := (if ia then 1 else 0) + (if ib then 2 else 0)
def packBad (la : Nat) (ia : Bool) (lb : Nat) (ib : Bool) : Bool := (ia && decide (400 < la)) || (ib && decide (400 < lb))
def packD (a : List UInt8) (ia : Bool) (b : List UInt8) (ib : Bool) : List UInt8 := if packBad a.length ia b.length ib then [] else flagB ia ib :: (inB a ia ++ inB b ib)
def packE (la : Nat) (ia : Bool) (lb : Nat) (ib : Bool) : Int := if packBad la ia lb ib then 3 else 0
theorem inB_length (l : List UInt8) (is : Bool) : (inB l is).length = if is then 2 + l.length else 0 := by unfold inB; split <;> simp [lowB_length]
/-- the length that two bytes tell -/
def len2 (r : List UInt8) : Nat := numN (r.take 2)
/-- one input from the front of bytes -/
def inOk (r : List UInt8) (is : Bool) : Bool := !is || (decide (2 ≤ r.length) && decide (len2 r ≤ 400) && decide (len2 r + 2 ≤ r.length))
def inA (r : List UInt8) (is : Bool) : List UInt8 := if is then (r.drop 2).take (len2 r) else []
def inR (r : List UInt8) (is : Bool) : List UInt8 := if is then r.drop (2 + len2 r) else r
def bit0 (l : List UInt8) : Bool := decide (at8 l 0 % 2 = 1)
def bit1 (l : List UInt8) : Bool := decide (at8 l 0 / 2 % 2 = 1)
/-- bytes are packed inputs -/
def unOk (l : List UInt8) : Bool :=
  decide (1 ≤ l.length) && decide (at8 l 0 ≤ 3) && inOk (l.drop 1) (bit0 l) && inOk (inR (l.drop 1) (bit0 l)) (bit1 l) && decide ((inR (inR (l.drop 1) (bit0 l)) (bit1 l)).length = 0)
def unA (l : List UInt8) : List UInt8 := if unOk l then inA (l.drop 1) (bit0 l) else []
def unB (l : List UInt8) : List UInt8 := if unOk l then inA (inR (l.drop 1) (bit0 l)) (bit1 l) else []
def unIA (l : List UInt8) : Bool := unOk l && bit0 l
def unIB (l : List UInt8) : Bool := unOk l && bit1 l
def unE (l : List UInt8) : Int := if unOk l then 0 else 4
theorem len2_low (n : Nat) (h : n ≤ 65535) (r : List UInt8) : len2 (lowB n 2 ++ r) = n := by
  unfold len2
  rw [List.take_append_of_le_length (by rw [lowB_length]; omega), List.take_of_length_le (by rw [lowB_length]; omega)]
  have := numN_lowB (n : Int) 2
  rw [IntKind.wrap_u64] at this
  simp only [Nat.reduceMul, Int.reducePow] at this
  omega
theorem in_inB (a : List UInt8) (is : Bool) (r : List UInt8) (h : is = true → a.length ≤ 400) :
    inOk (inB a is ++ r) is = true ∧ inA (inB a is ++ r) is = (if is then a else []) ∧ inR (inB a is ++ r) is = r := by
  cases is with
  | false => simp [inOk, inA, inR, inB]
  | true =>
    have h4 := h rfl
    have e : inB a true ++ r = lowB a.length 2 ++ (a ++ r) := by simp [inB]
    have hl := len2_low a.length (by omega) (a ++ r)
    rw [e]
    simp only [inOk, inA, inR, hl, if_true, Bool.not_true, Bool.false_or]
    refine ⟨by simp [lowB_length]; omega, ?_, ?_⟩
    · rw [List.drop_append, List.drop_of_length_le (by rw [lowB_length]; omega), lowB_length]; simp
    · rw [List.drop_append, List.drop_of_length_le (by rw [lowB_length]; omega), lowB_length]; simp
theorem bit0_flag (ia ib : Bool) (r : List UInt8) : bit0 (flagB ia ib :: r) = ia := by
  unfold bit0; rw [at8_cons0]; clear r; revert ia ib; decide
theorem bit1_flag (ia ib : Bool) (r : List UInt8) : bit1 (flagB ia ib :: r) = ib := by
  unfold bit1; rw [at8_cons0]; clear r; revert ia ib; decide
theorem flag_le (ia ib : Bool) (r : List UInt8) : at8 (flagB ia ib :: r) 0 ≤ 3 := by
  rw [at8_cons0]; clear r; revert ia ib; decide
theorem un_pack (a : List UInt8) (ia : Bool) (b : List UInt8) (ib : Bool) (h : packBad a.length ia b.length ib = false) :
    unA (packD a ia b ib) = (if ia then a else []) ∧ unIA (packD a ia b ib) = ia ∧ unB (packD a ia b ib) = (if ib then b else []) ∧ unIB (packD a ia b ib) = ib ∧ unE (packD a ia b ib) = 0 := by
  have h1 : ia = true → a.length ≤ 400 := by rintro rfl; simp [packBad] at h; omega
  have h2 : ib = true → b.length ≤ 400 := by rintro rfl; simp [packBad] at h; omega
  have e : packD a ia b ib = flagB ia ib :: (inB a ia ++ inB b ib) := by simp [packD, h]
  rw [e]
  obtain ⟨p1, p2, p3⟩ := in_inB a ia (inB b ib) h1
  obtain ⟨q1, q2, q3⟩ := in_inB b ib [] h2
  rw [List.append_nil] at q1 q2 q3
  have b0 := bit0_flag ia ib (inB a ia ++ inB b ib)
  have b1 := bit1_flag ia ib (inB a ia ++ inB b ib)
  have f3 := flag_le ia ib (inB a ia ++ inB b ib)
  have ok : unOk (flagB ia ib :: (inB a ia ++ inB b ib)) = true := by
    unfold unOk
    rw [b0, b1, List.drop_succ_cons, List.drop_zero, p1, p3, q1, q3]
    simp [f3]
  unfold unA unIA unB unIB unE
  rw [ok, b0, b1, List.drop_succ_cons, List.drop_zero, p2, p3, q2]
  simp
theorem packE_ok {la : Nat} {ia : Bool} {lb : Nat} {ib : Bool} (h : packE la ia lb ib = 0) : packBad la ia lb ib = false := by
  unfold packE at h
  split at h
  · exact absurd h (by decide)
  · rename_i h2; simpa using h2
/-- the role of a computer -/
def decideI (number role steps alone : Int) (heard : Bool) (other theirs : Int) : Int :=
  if role = 2 then (if heard = true ∧ other = 2 ∧ (steps < theirs ∨ theirs = steps ∧ number = 2) then 1 else 2)
  else if role = 3 then
    (if heard = false ∨ (other ≠ 2 ∧ other ≠ 3) then 2 else if other = 2 then (if theirs = steps then 3 else 1) else if steps < theirs then 1 else if theirs < steps ∨ number = 1 then 2 else 3)
  else if (heard = false ∧ 3 ≤ alone) ∨ (heard = true ∧ other ≠ 2 ∧ other ≠ 3 ∧ number = 1) then 2 else 1
end Go.Proofs.Ytgnajpoebooafaa
