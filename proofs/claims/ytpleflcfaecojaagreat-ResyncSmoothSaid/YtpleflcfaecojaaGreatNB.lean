/-
Numbers as bytes, the lowest first, in the words of the printed functions. Conditions: each lemma's own.
-/
import Derived.Test.YtpleflcfaecojaaGreatG6
namespace Go.Proofs.YtpleflcfaecojaaGreat
set_option linter.unusedVariables false
set_option linter.unusedSimpArgs false
open Go.RowKit
def byteAt (n : Int) (i : Nat) : UInt8 := u8 (IntKind.u8.wrap (shrK .i64 n (8 * (i : Int))))
def putB (n : Int) (k : Nat) : List UInt8 := (List.range k).map (byteAt n)
theorem putB_len (n : Int) (k : Nat) : (putB n k).length = k := by simp [putB]
theorem putB_zero (n : Int) : putB n 0 = [] := rfl
theorem putB_succ (n : Int) (k : Nat) : putB n (k + 1) = putB n k ++ [byteAt n k] := by simp [putB, List.range_succ]
theorem u8_toNat {z : Int} (h : 0 ≤ z ∧ z ≤ 255) : ((u8 z).toNat : Int) = z := by
  unfold u8
  rw [UInt8.toNat_ofNat']
  omega
theorem u8_of_toNat (b : UInt8) : u8 ((b.toNat : Nat) : Int) = b := by
  unfold u8
  simp
theorem pow8 (i : Nat) (h : i < 8) : (2 : Int) ^ (min (8 * (i : Int)).toNat 64) = 256 ^ i := by
  have : min (8 * (i : Int)).toNat 64 = 8 * i := by omega
  rw [this, Int.pow_mul]
  rfl
theorem shr_i64 (n : Int) (i : Nat) (h : i < 8) : shrK .i64 n (8 * (i : Int)) = n / 256 ^ i := by
  unfold shrK
  rw [show IntKind.i64.bits = 64 from rfl, pow8 i h, Int.fdiv_eq_ediv_of_nonneg]
  exact Int.pow_nonneg (by decide)
theorem shr_u64 (n : Int) (i : Nat) (h : i < 8) : shrK .u64 n (8 * (i : Int)) = n / 256 ^ i := by
  unfold shrK
  rw [show IntKind.u64.bits = 64 from rfl, pow8 i h, Int.fdiv_eq_ediv_of_nonneg]
  exact Int.pow_nonneg (by decide)
theorem byte_u64 (n : Int) (i : Nat) (h : i < 8) : u8 (IntKind.u8.wrap (shrK .u64 (IntKind.u64.wrap n) (8 * (i : Int)))) = byteAt n i := by
  unfold byteAt
  rw [shr_u64 _ i h, shr_i64 n i h, IntKind.wrap_u8, IntKind.wrap_u8, IntKind.wrap_u64]
  congr 1
  have h8 : i = 0 ∨ i = 1 ∨ i = 2 ∨ i = 3 ∨ i = 4 ∨ i = 5 ∨ i = 6 ∨ i = 7 := by omega
  rcases h8 with rfl | rfl | rfl | rfl | rfl | rfl | rfl | rfl <;> simp only [Int.reducePow] <;> omega
def natL (p : List UInt8) : Nat → Nat
  | 0 => 0
  | k + 1 => natL p k + (p.getD k 0).toNat * 256 ^ k
theorem natL_lt (p : List UInt8) : ∀ k, natL p k < 256 ^ k
  | 0 => by simp [natL]
  | k + 1 => by
    have := natL_lt p k
    have h := UInt8.toNat_lt (p.getD k 0)
    rw [natL, Nat.pow_succ]
    have : (p.getD k 0).toNat * 256 ^ k ≤ 255 * 256 ^ k := Nat.mul_le_mul_right _ (by omega)
    omega
def getK (p : List UInt8) : Nat → Int
  | 0 => 0
  | k + 1 => lorK .u64 (getK p k) (shlK .u64 ((p.getD k 0).toNat : Int) (8 * (k : Int)))
theorem lor_u64 {a b : Nat} (ha : a < 2 ^ 64) (hb : b < 2 ^ 64) : lorK .u64 (a : Int) (b : Int) = ((a ||| b : Nat) : Int) := by
  unfold lorK
  have h1 : (BitVec.ofInt IntKind.u64.bits (a : Int) ||| BitVec.ofInt IntKind.u64.bits (b : Int)).toNat = a ||| b := by
    rw [BitVec.toNat_or]
    have e : ∀ x : Nat, x < 2 ^ 64 → (BitVec.ofInt IntKind.u64.bits (x : Int)).toNat = x := fun x hx => by
      rw [BitVec.toNat_ofInt]
      show ((x : Int) % ((2 ^ 64 : Nat) : Int)).toNat = x
      omega
    rw [e a ha, e b hb]
  rw [h1]
  have : a ||| b < 2 ^ 64 := Nat.or_lt_two_pow ha hb
  exact wr_u64 (by omega)
theorem shl_u64 {b k : Nat} (hb : b < 256) (hk : k < 8) : shlK .u64 (b : Int) (8 * (k : Int)) = ((b * 256 ^ k : Nat) : Int) := by
  unfold shlK
  rw [show IntKind.u64.bits = 64 from rfl, pow8 k hk]
  have : b * 256 ^ k < 2 ^ 64 := by
    have h8 : k = 0 ∨ k = 1 ∨ k = 2 ∨ k = 3 ∨ k = 4 ∨ k = 5 ∨ k = 6 ∨ k = 7 := by omega
    rcases h8 with rfl | rfl | rfl | rfl | rfl | rfl | rfl | rfl <;> simp only [Nat.reducePow] <;> omega
  have e : (b : Int) * 256 ^ k = ((b * 256 ^ k : Nat) : Int) := by simp
  rw [e]
  exact wr_u64 (by omega)
theorem getK_eq (p : List UInt8) : ∀ k, k ≤ 8 → getK p k = (natL p k : Int)
  | 0, _ => rfl
  | k + 1, h => by
    have ih := getK_eq p k (by omega)
    have hb := UInt8.toNat_lt (p.getD k 0)
    have hlt := natL_lt p k
    have hp : (256 : Nat) ^ k = 2 ^ (8 * k) := by rw [Nat.pow_mul]
    have h64 : 256 ^ (k + 1) ≤ 2 ^ 64 := by
      have : (256 : Nat) ^ (k + 1) ≤ 256 ^ 8 := Nat.pow_le_pow_right (by decide) h
      exact this
    have hs := natL_lt p (k + 1)
    rw [natL] at hs
    rw [getK, ih, shl_u64 hb (by omega), lor_u64 (by omega) (by omega), natL]
    congr 1
    have := Nat.two_pow_add_eq_or_of_lt (i := 8 * k) (b := natL p k) (by rw [← hp]; exact hlt) (p.getD k 0).toNat
    rw [← hp] at this
    rw [Nat.or_comm, Nat.mul_comm ((p.getD k 0).toNat), ← this, Nat.add_comm]
def getI (p : List UInt8) (k : Nat) : Int := IntKind.i64.wrap (natL p k : Int)
theorem getI_small (p : List UInt8) (k : Nat) (h : k ≤ 7) : getI p k = (natL p k : Int) := by
  unfold getI
  have := natL_lt p k
  have h2 : (256 : Nat) ^ k ≤ 256 ^ 7 := Nat.pow_le_pow_right (by decide) h
  exact wr64 (by omega)
end Go.Proofs.YtpleflcfaecojaaGreat
