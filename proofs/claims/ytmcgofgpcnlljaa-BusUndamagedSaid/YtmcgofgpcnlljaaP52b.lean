/-
Frames of seat 52, read again. Conditions: each lemma's own.
-/
import Derived.Test.YtmcgofgpcnlljaaP52a
namespace Go.Proofs.Ytmcgofgpcnlljaa
set_option linter.unusedVariables false
set_option linter.unusedSimpArgs false
open Go.RowKit
theorem body_len (f : Frame) : (bodyC f).length = 12 + f.payload.length := by simp [bodyC, putB_len]; omega
theorem body_d2 (f : Frame) : (bodyC f).drop 2 = putB f.cycle 8 ++ (putB ((f.payload.length : Nat) : Int) 2 ++ f.payload) := by
  unfold bodyC
  rw [List.append_assoc, List.append_assoc]
  exact dropL rfl
theorem body_d10 (f : Frame) : (bodyC f).drop 10 = putB ((f.payload.length : Nat) : Int) 2 ++ f.payload := by
  have : (bodyC f).drop 10 = ((bodyC f).drop 2).drop 8 := by rw [List.drop_drop]
  rw [this, body_d2]
  exact dropL (putB_len _ _)
theorem body_d12 (f : Frame) : (bodyC f).drop 12 = f.payload := by
  have : (bodyC f).drop 12 = ((bodyC f).drop 10).drop 2 := by rw [List.drop_drop]
  rw [this, body_d10]
  exact dropL (putB_len _ _)
theorem dec_enc (f : Frame) (hf : okF f) (hl : f.payload.length ≤ 1000) : decC (sealC (bodyC f)) = (f, 0) := by
  unfold decC
  rw [open_seal]
  have hb : badB (bodyC f) = false := by
    unfold badB
    rw [body_len, body_d10, natL2 _ _ (by omega), df (by omega), df (by omega)]
    simp
  have hfr : frameB (bodyC f) = f := by
    unfold frameB
    rw [body_d2, body_d12, getI_putB _ _ hf.2.2]
    have g0 : (bodyC f).getD 0 0 = u8 f.label := rfl
    have g1 : (bodyC f).getD 1 0 = u8 f.from_ := rfl
    rw [g0, g1, u8r hf.1, u8r hf.2.1]
  simp only [hb, cond_false, show ((0 : Int) != 0) = false from rfl]
  rw [hfr]
theorem seal_len (b : List UInt8) : (sealC b).length = b.length + 4 := by unfold sealC; rw [List.length_append, four_len]
theorem same_frame (f : Frame) : ((((f.label == f.label) && (f.from_ == f.from_)) && (f.cycle == f.cycle)) && (f.payload == f.payload)) = true := by simp
/-! bytes of a number that bytes are -/
theorem natL_at (q : List UInt8) : ∀ (m i : Nat), i < m → natL q m / 256 ^ i % 256 = (q.getD i 0).toNat
  | 0, i, h => by omega
  | m + 1, i, h => by
    have hq := UInt8.toNat_lt (q.getD m 0)
    have hlt := natL_lt q m
    by_cases e : i = m
    · subst e
      have hpos : 0 < 256 ^ i := Nat.pow_pos (by decide)
      rw [natL, Nat.add_mul_div_right _ _ hpos, Nat.div_eq_of_lt hlt]
      omega
    · have ih := natL_at q m i (by omega)
      have e2 : 256 ^ m = 256 ^ (m - i - 1) * 256 * 256 ^ i := by
        rw [Nat.mul_assoc, Nat.mul_comm 256, ← Nat.mul_assoc, ← Nat.pow_add, ← Nat.pow_succ]
        congr 1; omega
      have hpos : 0 < 256 ^ i := Nat.pow_pos (by decide)
      rw [natL, e2, ← Nat.mul_assoc, Nat.add_mul_div_right _ _ hpos, ← Nat.mul_assoc, Nat.add_mul_mod_self_right]
      exact ih
theorem byteAt_natL (q : List UInt8) (m i : Nat) (h : i < m) (h8 : m ≤ 8) : byteAt ((natL q m : Nat) : Int) i = q.getD i 0 := by
  have e := byteAt_toNat ((natL q m : Nat) : Int) i (by omega)
  have e2 := natL_at q m i h
  have e3 : ((natL q m : Nat) : Int) / 256 ^ i % 256 = ((natL q m / 256 ^ i % 256 : Nat) : Int) := by simp
  rw [e3, e2] at e
  have e4 : (byteAt ((natL q m : Nat) : Int) i).toNat = (q.getD i 0).toNat := by omega
  exact UInt8.toNat_inj.1 e4
theorem byteAt_wrap (x : Int) (i : Nat) (h : i < 8) : byteAt (IntKind.i64.wrap x) i = byteAt x i := by
  have e1 := byteAt_toNat (IntKind.i64.wrap x) i h
  have e2 := byteAt_toNat x i h
  apply UInt8.toNat_inj.1
  have : IntKind.i64.wrap x / 256 ^ i % 256 = x / 256 ^ i % 256 := by
    rw [IntKind.wrap_i64]
    have h8 : i = 0 ∨ i = 1 ∨ i = 2 ∨ i = 3 ∨ i = 4 ∨ i = 5 ∨ i = 6 ∨ i = 7 := by omega
    rcases h8 with rfl | rfl | rfl | rfl | rfl | rfl | rfl | rfl <;> simp only [Int.reducePow] <;> omega
  omega
theorem map_take (q : List UInt8) : ∀ k, k ≤ q.length → (List.range k).map (fun i => q.getD i 0) = q.take k
  | 0, _ => rfl
  | k + 1, h => by
    rw [List.range_succ, List.map_append, map_take q k (by omega), take_one (by omega)]
    rfl
theorem putB_natL (q : List UInt8) (k : Nat) (h : k ≤ q.length) (h8 : k ≤ 8) : putB ((natL q k : Nat) : Int) k = q.take k := by
  unfold putB
  rw [← map_take q k h]
  apply List.map_congr_left
  intro i hi
  exact byteAt_natL q k i (List.mem_range.1 hi) h8
theorem putB_getI (q : List UInt8) (h : 8 ≤ q.length) : putB (getI q 8) 8 = q.take 8 := by
  rw [← putB_natL q 8 h (by decide)]
  unfold putB
  apply List.map_congr_left
  intro i hi
  exact byteAt_wrap _ i (List.mem_range.1 hi)
theorem getI_in (q : List UInt8) : -9223372036854775808 ≤ getI q 8 ∧ getI q 8 ≤ 9223372036854775807 := i64_in_ _
theorem okF_frame (b : List UInt8) : okF (frameB b) := by
  have h0 := UInt8.toNat_lt (b.getD 0 0)
  have h1 := UInt8.toNat_lt (b.getD 1 0)
  exact ⟨⟨by unfold frameB; simp only; omega, by unfold frameB; simp only; omega⟩, ⟨by unfold frameB; simp only; omega, by unfold frameB; simp only; omega⟩, getI_in _⟩
theorem badB_false {b : List UInt8} (h : badB b = false) : 12 ≤ b.length ∧ b.length ≤ 1012 ∧ natL (b.drop 10) 2 = b.length - 12 := by
  unfold badB at h
  simp only [Bool.or_eq_false_iff, decide_eq_false_iff_not, bne_eq_false_iff_eq] at h
  omega
theorem body_frame {b : List UInt8} (h : badB b = false) : bodyC (frameB b) = b := by
  obtain ⟨h1, h2, h3⟩ := badB_false h
  have hp : (frameB b).payload.length = b.length - 12 := by unfold frameB; simp
  unfold bodyC
  rw [hp, ← h3, putB_natL _ 2 (by simp; omega) (by decide)]
  unfold frameB
  simp only
  rw [putB_getI _ (by simp; omega), u8_of_toNat, u8_of_toNat]
  have e2 : ([b.getD 0 0, b.getD 1 0] : List UInt8) = b.take 2 := (map_take b 2 (by omega)).symm ▸ rfl
  rw [e2]
  have s1 : b.take 2 ++ (b.drop 2).take 8 = b.take 10 := by rw [← List.take_add]
  have s2 : b.take 10 ++ (b.drop 10).take 2 = b.take 12 := by rw [← List.take_add]
  rw [s1, s2, List.take_append_drop]
/-- what is read is written again as it was -/
theorem enc_dec {p : List UInt8} (h : (decC p).2 = 0) : okF (decC p).1 ∧ encC (decC p).1 = (p, 0) := by
  unfold decC at h ⊢
  cases e : ((openC p).2 != 0) with
  | true =>
    rw [e] at h
    have : (openC p).2 = 0 := h
    rw [this] at e; cases e
  | false =>
    rw [e] at h
    simp only [cond_false] at h ⊢
    cases e2 : badB (openC p).1 with
    | true => rw [e2] at h; cases h
    | false =>
      simp only [cond_false]
      refine ⟨okF_frame _, ?_⟩
      obtain ⟨h1, h2, h3⟩ := badB_false e2
      unfold encC
      have hp : (frameB (openC p).1).payload.length = (openC p).1.length - 12 := by unfold frameB; simp
      rw [hp, df (by omega), body_frame e2, ← open_ok (by simpa using e)]
      rfl
end Go.Proofs.Ytmcgofgpcnlljaa
