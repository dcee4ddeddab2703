/-
BusStale in plain words. Conditions: each lemma's own.
-/
import Derived.Test.YtmcgofgpcnlljaaP52gx9
namespace Go.Proofs.Ytmcgofgpcnlljaa
set_option linter.unusedVariables false
set_option linter.unusedSimpArgs false
open Go.RowKit
theorem shr0 (k : Int) : shrK .u32 0 k = 0 := by unfold shrK; simp
theorem carN_quiet (p : List UInt8) : ∀ k, carN p ⟨false, 0, 0⟩ k = p
  | 0 => rfl
  | k + 1 => by
    simp only [carN]
    have : hitC p.length ⟨false, 0, 0⟩ k = false := by
      unfold hitC
      rw [shr0]
      rfl
    rw [this]
    exact carN_quiet p k
theorem lxor_ne (c : Int) : lxorK .i64 c 1 ≠ c := by
  intro h
  unfold lxorK at h
  have h2 := congrArg (BitVec.ofInt 64) h
  rw [ofInt_i64] at h2
  have e : BitVec.ofInt 64 (((BitVec.ofInt IntKind.i64.bits c ^^^ BitVec.ofInt IntKind.i64.bits 1).toNat : Nat) : Int) = BitVec.ofInt 64 c ^^^ BitVec.ofInt 64 1 := by
    show BitVec.ofInt 64 (((BitVec.ofInt 64 c ^^^ BitVec.ofInt 64 1).toNat : Nat) : Int) = _
    generalize BitVec.ofInt 64 c ^^^ BitVec.ofInt 64 1 = X
    apply BitVec.eq_of_toNat_eq
    rw [BitVec.toNat_ofInt]
    have h1 := X.isLt
    have h2 : ((2 ^ 64 : Nat) : Int) = 18446744073709551616 := by decide
    rw [h2]
    omega
  rw [e] at h2
  have h3 : BitVec.ofInt 64 c ^^^ (BitVec.ofInt 64 c ^^^ BitVec.ofInt 64 1) = BitVec.ofInt 64 c ^^^ BitVec.ofInt 64 c := by rw [h2]
  rw [← BitVec.xor_assoc, BitVec.xor_self, BitVec.zero_xor] at h3
  revert h3
  decide
theorem busStale_plain (x : Frame) (label from_ : Int) (hf : okF x) : o9 x label from_ = some true := by
  unfold o9
  rw [o12_true, bindO_some rfl]
  simp only [Bool.not_true, cond_false]
  have hw : (List.take ((minI (((x.payload).length : Nat) : Int) 50)).toNat x.payload).length ≤ 50 := by
    have : minI ((x.payload.length : Nat) : Int) 50 ≤ 50 := by unfold minI; split <;> omega
    rw [List.length_take]; omega
  generalize List.take ((minI (((x.payload).length : Nat) : Int) 50)).toNat x.payload = w at hw ⊢
  obtain ⟨F, hF⟩ : ∃ F : Frame, F = { x with payload := w } := ⟨_, rfl⟩
  have ok : okF F := by subst hF; exact hf
  have hp : F.payload = w := by subst hF; rfl
  have hlab : F.label = x.label := by subst hF; rfl
  have hfrom : F.from_ = x.from_ := by subst hF; rfl
  have hcyc : F.cycle = x.cycle := by subst hF; rfl
  have he : encC F = (sealC (bodyC F), 0) := by unfold encC; rw [hp, df (by omega)]; rfl
  have hlen : (sealC (bodyC F)).length ≤ 1000000000 := by rw [seal_len, body_len, hp]; omega
  show (bindO (τ := (List UInt8) × Int) (o14 { x with payload := w }) fun y7 => _) = _
  rw [← hF, o14_eq F ok, bindO_some rfl, he]
  simp only
  rw [o26_eq _ hlen, bindO_some rfl, open_seal]
  have hb : ((((0 : Int) != 0) || ((0 : Int) != 0)) || ((((bodyC F).length : Nat) : Int) != 12 + ((w.length : Nat) : Int))) = false := by
    rw [body_len, hp, neq_f (by omega : (((12 + w.length : Nat)) : Int) = 12 + ((w.length : Nat) : Int))]; rfl
  simp only
  rw [hb]
  simp only [cond_false]
  have hcar : carC (sealC (bodyC F)) ⟨false, 0, 0⟩ = (sealC (bodyC F), true) := by unfold carC; simp only [cond_false]; rw [carN_quiet]
  have hrec : ∀ l f c, recC (sealC (bodyC F)) ⟨false, 0, 0⟩ l f c = cond (((F.label != l) || (F.from_ != f)) || (F.cycle != c)) (noF, false) (F, true) := by
    intro l f c
    unfold recC
    rw [hcar]
    simp only [Bool.not_true, cond_false]
    rw [dec_enc F ok (by rw [hp]; omega)]
    rfl
  rw [o24_eq _ _ _ _ _ hlen, bindO_some rfl, o24_eq _ _ _ _ _ hlen, bindO_some rfl, hrec, hrec, hlab, hfrom, hcyc]
  have hc : (x.cycle != lxorK .i64 x.cycle 1) = true := neq_t (fun h => lxor_ne x.cycle h.symm)
  rw [hc, neq_f (rfl : x.cycle = x.cycle)]
  simp only [Bool.or_true, cond_true, Bool.or_false, Bool.not_false, Bool.and_true]
  by_cases h1 : label = x.label
  · by_cases h2 : from_ = x.from_
    · subst h1; subst h2; simp
    · rw [neq_t (fun h => h2 h.symm : x.from_ ≠ from_), eq_f h2]; simp
  · rw [neq_t (fun h => h1 h.symm : x.label ≠ label), eq_f h1]; simp
theorem okF_of {f : Frame} (h : okFrame f) : okF f := by
  obtain ⟨⟨a1, a2⟩, ⟨b1, b2⟩, ⟨c1, c2⟩, -⟩ := h
  have e1 : IntKind.u8.min = 0 := rfl
  have e2 : IntKind.u8.max = 255 := rfl
  have e3 : IntKind.i64.min = -9223372036854775808 := rfl
  have e4 : IntKind.i64.max = 9223372036854775807 := rfl
  rw [e1] at a1 b1; rw [e2] at a2 b2; rw [e3] at c1; rw [e4] at c2
  exact ⟨⟨a1, a2⟩, ⟨b1, b2⟩, ⟨c1, c2⟩⟩
end Go.Proofs.Ytmcgofgpcnlljaa
