/-
Plain lemmas on the bytes of numbers, lowest first: what they are, and that they are read back. No program in sight. Conditions: each lemma's own.
-/
import Derived.Test.YtgnajpoebooafaaWords
namespace Go.Proofs.Ytgnajpoebooafaa
set_option linter.unusedVariables false
set_option linter.unusedSimpArgs false
open Go.RowKit

/-- byte j of a number, the lowest first -/
def byteOf (x : Int) (j : Nat) : UInt8 := UInt8.ofNat (IntKind.u64.wrap x / 2 ^ (8 * j) % 256).toNat
theorem byteOf_toNat (x : Int) (j : Nat) : ((byteOf x j).toNat : Int) = IntKind.u64.wrap x / 2 ^ (8 * j) % 256 := by
  unfold byteOf
  generalize IntKind.u64.wrap x / 2 ^ (8 * j) = y
  rw [UInt8.toNat_ofNat']
  omega
def lowB (x : Int) (k : Nat) : List UInt8 := (List.range k).map (byteOf x)
theorem lowB_zero (x : Int) : lowB x 0 = [] := rfl
theorem lowB_succ (x : Int) (k : Nat) : lowB x (k + 1) = lowB x k ++ [byteOf x k] := by simp [lowB, List.range_succ]
theorem lowB_length (x : Int) (k : Nat) : (lowB x k).length = k := by simp [lowB]
theorem pow8 (j : Nat) : (2 : Int) ^ (8 * (j + 1)) = 256 * 2 ^ (8 * j) := by
  rw [Nat.mul_add, Int.pow_add]
  generalize (2 : Int) ^ (8 * j) = y
  omega
theorem pow8N (j : Nat) : (2 : Nat) ^ (8 * (j + 1)) = 256 * 2 ^ (8 * j) := by
  rw [Nat.mul_add, Nat.pow_add]
  generalize (2 : Nat) ^ (8 * j) = y
  omega
/-- the arithmetic shift of an int64 has the same lowest eight bits -/
theorem sar_byte (x : Int) (j : Nat) (hj : j < 8) : (x / 2 ^ (8 * j)) % 256 = IntKind.u64.wrap x / 2 ^ (8 * j) % 256 := by
  rw [IntKind.wrap_u64]
  have h : j = 0 ∨ j = 1 ∨ j = 2 ∨ j = 3 ∨ j = 4 ∨ j = 5 ∨ j = 6 ∨ j = 7 := by omega
  rcases h with rfl | rfl | rfl | rfl | rfl | rfl | rfl | rfl <;> simp only [Nat.mul_zero, Nat.reduceMul, Int.reducePow] <;> omega

def numN : List UInt8 → Nat
  | [] => 0
  | b :: l => b.toNat + 256 * numN l
theorem numN_lt : ∀ l : List UInt8, numN l < 2 ^ (8 * l.length)
  | [] => by simp [numN]
  | b :: l => by
    have := numN_lt l
    have hb := b.toNat_lt
    rw [List.length_cons, pow8N, numN]
    omega
theorem numN_snoc (b : UInt8) : ∀ l : List UInt8, numN (l ++ [b]) = numN l + b.toNat * 2 ^ (8 * l.length)
  | [] => by simp [numN]
  | c :: l => by
    have := numN_snoc b l
    rw [List.cons_append, numN, this, numN, List.length_cons, pow8N]
    have e : b.toNat * (256 * 2 ^ (8 * l.length)) = 256 * (b.toNat * 2 ^ (8 * l.length)) := by
      rw [← Nat.mul_assoc, Nat.mul_comm b.toNat 256, Nat.mul_assoc]
    rw [e]
    omega
theorem numN_take_succ (l : List UInt8) (k : Nat) (hk : k < l.length) : (numN (l.take (k + 1)) : Int) = numN (l.take k) + at8 l k * 2 ^ (8 * k) := by
  rw [List.take_succ_eq_append_getElem hk, numN_snoc, List.length_take, Nat.min_eq_left (by omega)]
  simp [at8, List.getD, List.getElem?_eq_getElem hk]
theorem numN_lowB (x : Int) : ∀ k : Nat, (numN (lowB x k) : Int) = IntKind.u64.wrap x % 2 ^ (8 * k)
  | 0 => by simp [lowB, numN]
  | k + 1 => by
    have ih := numN_lowB x k
    rw [lowB_succ, numN_snoc, lowB_length]
    rw [Int.natCast_add, ih, Int.natCast_mul, byteOf_toNat, pow8]
    have hp : (0 : Int) < 2 ^ (8 * k) := Int.pow_pos (by omega)
    have hc : ((2 ^ (8 * k) : Nat) : Int) = (2 : Int) ^ (8 * k) := by simp
    rw [hc]
    generalize (2 : Int) ^ (8 * k) = p at *
    generalize IntKind.u64.wrap x = y
    have h1 := Int.emod_add_mul_ediv y p
    have h2 := Int.emod_add_mul_ediv (y / p) 256
    have h3 := Int.emod_nonneg (y / p) (show (256 : Int) ≠ 0 by omega)
    have h4 := Int.emod_lt_of_pos (y / p) (show (0 : Int) < 256 by omega)
    have h5 := Int.emod_nonneg y (show p ≠ 0 by omega)
    have h6 := Int.emod_lt_of_pos y hp
    generalize y % p = s at *
    generalize y / p % 256 = r at *
    generalize y / p / 256 = q at *
    have e : y = (s + r * p) + (256 * p) * q := by
      rw [← h1, ← h2, Int.mul_add, Int.mul_comm r p, ← Int.mul_assoc p 256 q, Int.mul_comm p 256]
      omega
    have hr0 : 0 ≤ r * p := Int.mul_nonneg h3 (by omega)
    have hr1 : r * p ≤ 255 * p := Int.mul_le_mul_of_nonneg_right (by omega) (by omega)
    rw [e, Int.add_mul_emod_self_left, Int.emod_eq_of_lt (by omega) (by omega)]

/-- the number that int64 makes of the bytes -/
def numI (l : List UInt8) : Int := wrap64 (numN l)
theorem numI_lowB8 (x : Int) (h0 : -9223372036854775808 ≤ x) (h1 : x ≤ 9223372036854775807) : numI (lowB x 8) = x := by
  unfold numI wrap64
  rw [numN_lowB, IntKind.wrap_u64]
  simp only [Nat.reduceMul, Int.reducePow]
  omega
theorem numI_lowB2 (x : Int) (h0 : 0 ≤ x) (h1 : x ≤ 65535) : numI (lowB x 2) = x := by
  unfold numI wrap64
  rw [numN_lowB, IntKind.wrap_u64]
  simp only [Nat.reduceMul, Int.reducePow]
  omega
theorem numI_small (l : List UInt8) (h : l.length ≤ 7) : numI l = numN l ∧ (numN l : Int) < 2 ^ (8 * l.length) := by
  have hl := numN_lt l
  have h7 : (2 : Nat) ^ (8 * l.length) ≤ 2 ^ 56 := Nat.pow_le_pow_right (by omega) (by omega)
  constructor
  · unfold numI wrap64
    have : (2 : Nat) ^ 56 = 72057594037927936 := by decide
    omega
  · have hc : ((2 ^ (8 * l.length) : Nat) : Int) = (2 : Int) ^ (8 * l.length) := by simp
    rw [← hc]
    exact Int.ofNat_lt.2 hl

/-- one round of the reading loop: '|' of a number below 2^(8k) with a byte shifted by 8k is their sum -/
theorem or_step (l : List UInt8) (k : Nat) (hk : k < l.length) (h8 : l.length ≤ 8) :
    bits .or .u64 (numN (l.take k) : Int) (IntKind.u64.wrap (at8 l k * 2 ^ (8 * k))) = numN (l.take (k + 1)) := by
  have hlt := numN_lt (l.take k)
  rw [List.length_take, Nat.min_eq_left (by omega)] at hlt
  have hb : (l.getD k 0).toNat < 256 := (l.getD k 0).toNat_lt
  have hlt2 := numN_lt (l.take (k + 1))
  rw [List.length_take, Nat.min_eq_left (by omega)] at hlt2
  have hsum := numN_take_succ l k hk
  have h64 : (2 : Nat) ^ (8 * (k + 1)) ≤ 2 ^ 64 := Nat.pow_le_pow_right (by omega) (by omega)
  have e64 : (2 : Nat) ^ 64 = 18446744073709551616 := by decide
  have hc : at8 l k * 2 ^ (8 * k) = (((l.getD k 0).toNat * 2 ^ (8 * k) : Nat) : Int) := by
    unfold at8
    rw [Int.natCast_mul]
    simp
  rw [hc] at hsum ⊢
  have hle : (l.getD k 0).toNat * 2 ^ (8 * k) < 2 ^ 64 := by omega
  rw [IntKind.wrap_u64, Int.emod_eq_of_lt (by omega) (by omega), u64_or_nat _ _ (by omega) (by omega), Nat.or_comm,
    nat_join (8 * k) _ _ (Nat.mul_mod_left _ _) hlt]
  omega
end Go.Proofs.Ytgnajpoebooafaa
