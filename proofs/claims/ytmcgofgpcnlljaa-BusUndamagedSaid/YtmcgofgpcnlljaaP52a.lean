/-
The checksum, sealed bytes and frames of seat 52: what the program computes, in plain words. Conditions: each lemma's own.
-/
import Derived.Test.YtmcgofgpcnlljaaPB
import Derived.Test.YtmcgofgpcnlljaaB3
namespace Go.Proofs.Ytmcgofgpcnlljaa
set_option linter.unusedVariables false
set_option linter.unusedSimpArgs false
open Go.RowKit
theorem o12_true : o12 = some true := by kernel_rfl
theorem cond_or_some (c d : Bool) : cond c (some true) (some d) = some (c || d) := by cases c <;> rfl
theorem u8r {z : Int} (h : 0 ≤ z ∧ z ≤ 255) : ((u8 z).toNat : Int) = z := u8_toNat h
/-! the checksum -/
def crc1 (x : Int) : Int := cond (landK .u32 x 1 == 1) (lxorK .u32 (shrK .u32 x 1) 3988292384) (shrK .u32 x 1)
def crcN : Nat → Int → Int
  | 0, x => x
  | k + 1, x => crc1 (crcN k x)
def crcB (r : Int) (b : UInt8) : Int := crcN 8 (lxorK .u32 r (IntKind.u32.wrap (b.toNat : Int)))
theorem o68_eq (r b : Int) : o68 r b = some (crcN 8 (lxorK .u32 r (IntKind.u32.wrap b))) := by
  unfold o68
  generalize lxorK .u32 r (IntKind.u32.wrap b) = x0
  obtain ⟨x, h, rfl⟩ := loopO_ok (f := o68_L0) (fun s => s.1 = crcN s.2 x0 ∧ s.2 ≤ 8) (fun s => 8 - s.2) (fun r => r = crcN 8 x0) (by
    rintro ⟨x, k⟩ ⟨h1, h2⟩
    simp only at h1 h2
    subst h1
    by_cases hk : ((k : Nat) : Int) < 8
    · refine .inl ⟨(crcN (k + 1) x0, k + 1), ?_, ⟨rfl, by simp only; omega⟩, by simp only; omega⟩
      unfold o68_L0
      refine (cond_pos (dt hk)).trans ?_
      rw [letJ_def]
      exact grd_pos (dt (by simp only; omega))
    · refine .inr ⟨crcN k x0, cond_neg (df hk), by rw [show k = 8 by omega]⟩) fuelN (x0, 0) ⟨rfl, by simp⟩ (by simp [fuelN])
  rw [h]
  rfl
def crcF (sum : Int) (p : List UInt8) : Int := lxorK .u32 4294967295 (p.foldl crcB (lxorK .u32 4294967295 sum))
theorem take_one {p : List UInt8} {k : Nat} (h : k < p.length) : p.take (k + 1) = p.take k ++ [p.getD k 0] := by
  rw [List.take_add_one, List.getD_eq_getElem?_getD, List.getElem?_eq_getElem h]; rfl
theorem o56_eq (sum : Int) (p : List UInt8) (hp : p.length ≤ 1000000000) : o56 sum p = some (crcF sum p) := by
  unfold o56 crcF
  generalize lxorK .u32 4294967295 sum = x0
  obtain ⟨x, h, rfl⟩ := loopO_ok (f := o56_L0 p) (fun s => s.1 = (p.take s.2).foldl crcB x0 ∧ s.2 ≤ p.length) (fun s => p.length - s.2) (fun r => r = p.foldl crcB x0) (by
    rintro ⟨x, k⟩ ⟨h1, h2⟩
    simp only at h1 h2
    subst h1
    by_cases hk : ((k : Nat) : Int) < ((p.length : Nat) : Int)
    · refine .inl ⟨((p.take (k + 1)).foldl crcB x0, k + 1), ?_, ⟨rfl, by simp only; omega⟩, by simp only; omega⟩
      unfold o56_L0
      refine (cond_pos (dt hk)).trans ?_
      rw [o68_eq, bindO_some rfl, grd_pos (dt (by simp only; omega)), take_one (by omega), List.foldl_append]
      rfl
    · refine .inr ⟨(p.take k).foldl crcB x0, cond_neg (df hk), by rw [List.take_of_length_le (by omega)]⟩) fuelN (x0, 0) ⟨rfl, by simp⟩ (by simp only [fuelN]; omega)
  rw [h]
  rfl
def crcU (p : List UInt8) : Int := crcF 0 p
theorem o48_eq (p : List UInt8) (hp : p.length ≤ 1000000000) : o48 p = some (crcU p) := by unfold o48; rw [o56_eq 0 p hp]; rfl
def four (x : Int) : List UInt8 := [u8 (IntKind.u8.wrap x), u8 (IntKind.u8.wrap (shrK .u32 x 8)), u8 (IntKind.u8.wrap (shrK .u32 x 16)), u8 (IntKind.u8.wrap (shrK .u32 x 24))]
def sealC (p : List UInt8) : List UInt8 := p ++ four (crcU p)
theorem o32_eq (p : List UInt8) (hp : p.length ≤ 1000000000) : o32 p = some (sealC p) := by
  unfold o32
  rw [o48_eq p hp, bindO_some rfl, letJ_def]
  exact grd_pos (dt (by unfold o47; simp; omega))
theorem byte_ne (b : UInt8) {z : Int} (h : 0 ≤ z ∧ z ≤ 255) : (((b.toNat : Nat) : Int) != z) = !(b == u8 z) := by
  have hz := u8r h
  cases e : b == u8 z with
  | true =>
    have := eq_of_beq e
    subst this
    rw [hz]; simp
  | false =>
    have hne : b ≠ u8 z := by intro h; rw [h] at e; simp at e
    have : ((b.toNat : Nat) : Int) ≠ z := by
      intro h2
      apply hne
      rw [← h2]; exact (u8_of_toNat b).symm
    simpa using this
/-! sealed bytes -/
def openC (p : List UInt8) : List UInt8 × Int := cond (decide (p.length < 4)) ([], 4) (cond (p.drop (p.length - 4) == four (crcU (p.take (p.length - 4)))) (p.take (p.length - 4), 0) ([], 12))
theorem last4 (p : List UInt8) (h : 4 ≤ p.length) : p.drop (p.length - 4) = [p.getD (p.length - 4) 0, p.getD (p.length - 4 + 1) 0, p.getD (p.length - 4 + 2) 0, p.getD (p.length - 4 + 3) 0] := by
  have d0 := List.drop_eq_getElem_cons (l := p) (i := p.length - 4) (by omega)
  have d1 := List.drop_eq_getElem_cons (l := p) (i := p.length - 4 + 1) (by omega)
  have d2 := List.drop_eq_getElem_cons (l := p) (i := p.length - 4 + 1 + 1) (by omega)
  have d3 := List.drop_eq_getElem_cons (l := p) (i := p.length - 4 + 1 + 1 + 1) (by omega)
  have d4 : p.drop (p.length - 4 + 1 + 1 + 1 + 1) = [] := List.drop_eq_nil_of_le (by omega)
  rw [d0, d1, d2, d3, d4]
  have g : ∀ j (hj : j < p.length), p.getD j 0 = p[j] := fun j hj => by rw [List.getD_eq_getElem?_getD, List.getElem?_eq_getElem hj]; rfl
  rw [g (p.length - 4) (by omega), g (p.length - 4 + 1) (by omega), g (p.length - 4 + 2) (by omega), g (p.length - 4 + 3) (by omega)]
theorem beq4 (a b c d a' b' c' d' : UInt8) : (([a, b, c, d] : List UInt8) == [a', b', c', d']) = ((a == a') && ((b == b') && ((c == c') && ((d == d') && true)))) := rfl
theorem o26_eq (p : List UInt8) (hp : p.length ≤ 1000000000) : o26 p = some (openC p) := by
  unfold o26 openC
  by_cases h4 : p.length < 4
  · rw [dt (by omega : ((p.length : Nat) : Int) - 4 < 0), dt h4]; rfl
  rw [df (by omega : ¬ ((p.length : Nat) : Int) - 4 < 0), df h4]
  have e0 : (((p.length : Nat) : Int) - 4).toNat = p.length - 4 := by omega
  have e1 : (((p.length : Nat) : Int) - 4 + 1).toNat = p.length - 4 + 1 := by omega
  have e2 : (((p.length : Nat) : Int) - 4 + 2).toNat = p.length - 4 + 2 := by omega
  have e3 : (((p.length : Nat) : Int) - 4 + 3).toNat = p.length - 4 + 3 := by omega
  simp only [cond_false]
  rw [grd_pos (dt (by omega)), e0, o48_eq _ (by rw [List.length_take]; omega), bindO_some rfl, grd_pos (dt (by omega)), e1, grd_pos (dt (by omega)), cond_or_some, bindO_some rfl, e2, grd_pos (dt (by omega)), cond_or_some, bindO_some rfl, e3, grd_pos (dt (by omega)), cond_or_some, bindO_some rfl]
  generalize crcU (p.take (p.length - 4)) = y
  rw [last4 p (by omega)]
  unfold four
  rw [beq4, byte_ne _ (u8_in_ y), byte_ne _ (u8_in_ (shrK .u32 y 8)), byte_ne _ (u8_in_ (shrK .u32 y 16)), byte_ne _ (u8_in_ (shrK .u32 y 24))]
  cases (p.getD (p.length - 4) 0 == u8 (IntKind.u8.wrap y)) <;> cases (p.getD (p.length - 4 + 1) 0 == u8 (IntKind.u8.wrap (shrK .u32 y 8))) <;> cases (p.getD (p.length - 4 + 2) 0 == u8 (IntKind.u8.wrap (shrK .u32 y 16))) <;> cases (p.getD (p.length - 4 + 3) 0 == u8 (IntKind.u8.wrap (shrK .u32 y 24))) <;>
    first
    | rfl
    | (simp only [Bool.not_true, Bool.or_self, cond_false, Bool.and_self, cond_true]; rw [grd_pos (dt (by omega)), letJ_def]; rfl)
theorem four_len (x : Int) : (four x).length = 4 := rfl
theorem open_seal (b : List UInt8) : openC (sealC b) = (b, 0) := by
  unfold openC sealC
  have hl : (b ++ four (crcU b)).length - 4 = b.length := by rw [List.length_append, four_len]; omega
  rw [hl, df (by rw [List.length_append, four_len]; omega), List.drop_left, List.take_left]
  simp
theorem open_ok {p : List UInt8} (h : (openC p).2 = 0) : p = sealC (openC p).1 := by
  unfold openC at h ⊢
  by_cases h4 : p.length < 4
  · rw [dt h4] at h; cases h
  · rw [df h4] at h ⊢
    simp only [cond_false] at h ⊢
    cases e : p.drop (p.length - 4) == four (crcU (p.take (p.length - 4))) with
    | false => rw [e] at h; cases h
    | true =>
      unfold sealC
      simp only [cond_true]
      rw [← eq_of_beq e, List.take_append_drop]
/-! frames -/
def bodyC (f : Frame) : List UInt8 := [u8 f.label, u8 f.from_] ++ putB f.cycle 8 ++ putB ((f.payload.length : Nat) : Int) 2 ++ f.payload
theorem two_bytes (n : Int) : ([u8 (IntKind.u8.wrap n), u8 (IntKind.u8.wrap (shrK .i64 n 8))] : List UInt8) = putB n 2 := by
  have h0 := shr_i64 n 0 (by decide)
  have e0 : byteAt n 0 = u8 (IntKind.u8.wrap n) := by
    unfold byteAt; rw [h0]; simp
  show _ = [byteAt n 0, byteAt n 1]
  rw [e0]
  rfl
def okF (f : Frame) : Prop := (0 ≤ f.label ∧ f.label ≤ 255) ∧ (0 ≤ f.from_ ∧ f.from_ ≤ 255) ∧ (-9223372036854775808 ≤ f.cycle ∧ f.cycle ≤ 9223372036854775807)
def encC (f : Frame) : List UInt8 × Int := cond (decide (((f.payload.length : Nat) : Int) > 1000)) ([], 3) (sealC (bodyC f), 0)
theorem o14_loop (f : Frame) : loopO fuelN (o14_L0 f) (([u8 f.label, u8 f.from_] : List UInt8), 0) = some ([u8 f.label, u8 f.from_] ++ putB f.cycle 8) := by
  obtain ⟨x, h, rfl⟩ := loopO_ok (f := o14_L0 f) (fun s => s.1 = [u8 f.label, u8 f.from_] ++ putB f.cycle s.2 ∧ s.2 ≤ 8) (fun s => 8 - s.2) (fun r => r = [u8 f.label, u8 f.from_] ++ putB f.cycle 8) (by
    rintro ⟨x, k⟩ ⟨h1, h2⟩
    simp only at h1 h2
    subst h1
    by_cases hk : ((k : Nat) : Int) < 8
    · refine .inl ⟨([u8 f.label, u8 f.from_] ++ putB f.cycle (k + 1), k + 1), ?_, ⟨rfl, by simp only; omega⟩, by simp only; omega⟩
      unfold o14_L0
      refine (cond_pos (dt hk)).trans ?_
      rw [w8 (by omega), grd_pos (dt (by omega)), grd_pos (dt (by simp [putB_len]; omega)), grd_pos (dt (by simp only; omega)), putB_succ, ← List.append_assoc]
      rfl
    · refine .inr ⟨_, cond_neg (df hk), by rw [show k = 8 by omega]⟩) fuelN ([u8 f.label, u8 f.from_], 0) ⟨by simp [putB_zero], by simp⟩ (by simp [fuelN])
  exact h
theorem o14_eq (f : Frame) (hf : okF f) : o14 f = some (encC f) := by
  unfold o14 encC
  by_cases h : ((f.payload.length : Nat) : Int) > 1000
  · rw [dt h]; rfl
  rw [df h]
  simp only [cond_false]
  rw [grd_pos (dt hf.1), grd_pos (dt hf.2.1), o14_loop, bindO_some rfl, two_bytes, grd_pos (dt (by simp [putB_len])), grd_pos (dt (by simp [putB_len]; omega)), o32_eq _ (by simp [putB_len]; omega)]
  rfl
/-- the number of eight bytes, as the program folds them -/
theorem ofInt_i64 (x : Int) : BitVec.ofInt 64 (IntKind.i64.wrap x) = BitVec.ofInt 64 x := by
  apply BitVec.eq_of_toNat_eq
  rw [BitVec.toNat_ofInt, BitVec.toNat_ofInt, IntKind.wrap_i64]
  congr 1
  have : ((2 ^ 64 : Nat) : Int) = 18446744073709551616 := by decide
  rw [this]
  omega
theorem lor_i64 (x y : Int) : lorK .i64 (IntKind.i64.wrap x) (IntKind.i64.wrap y) = IntKind.i64.wrap (lorK .u64 x y) := by
  unfold lorK
  have e1 : BitVec.ofInt IntKind.i64.bits (IntKind.i64.wrap x) = BitVec.ofInt IntKind.u64.bits x := ofInt_i64 x
  have e2 : BitVec.ofInt IntKind.i64.bits (IntKind.i64.wrap y) = BitVec.ofInt IntKind.u64.bits y := ofInt_i64 y
  rw [e1, e2]
  have hlt : (BitVec.ofInt IntKind.u64.bits x ||| BitVec.ofInt IntKind.u64.bits y).toNat < 2 ^ 64 := BitVec.isLt _
  have : IntKind.u64.wrap (((BitVec.ofInt IntKind.u64.bits x ||| BitVec.ofInt IntKind.u64.bits y).toNat : Nat) : Int) = (((BitVec.ofInt IntKind.u64.bits x ||| BitVec.ofInt IntKind.u64.bits y).toNat : Nat) : Int) := wr_u64 (by omega)
  rw [this]
  rfl
theorem getD_drop (q : List UInt8) (a i : Nat) : (q.drop a).getD i 0 = q.getD (a + i) 0 := by simp [List.getD_eq_getElem?_getD, List.getElem?_drop]
def noF : Frame := ⟨0, 0, 0, []⟩
def badB (b : List UInt8) : Bool := decide (b.length < 12) || (decide (b.length > 1012) || (natL (b.drop 10) 2 != b.length - 12))
def frameB (b : List UInt8) : Frame := ⟨((b.getD 0 0).toNat : Int), ((b.getD 1 0).toNat : Int), getI (b.drop 2) 8, b.drop 12⟩
def decC (p : List UInt8) : Frame × Int := cond ((openC p).2 != 0) (noF, (openC p).2) (cond (badB (openC p).1) (noF, 4) (frameB (openC p).1, 0))
theorem o16_loop (y : List UInt8 × Int) (h : 12 ≤ y.1.length) : loopO fuelN (o16_L0 y) (0, 0) = some (getI (y.1.drop 2) 8) := by
  obtain ⟨x, h, rfl⟩ := loopO_ok (f := o16_L0 y) (fun s => s.2 = IntKind.i64.wrap (getK (y.1.drop 2) s.1) ∧ s.1 ≤ 8) (fun s => 8 - s.1) (fun r => r = getI (y.1.drop 2) 8) (by
    rintro ⟨k, x⟩ ⟨h1, h2⟩
    simp only at h1 h2
    subst h1
    by_cases hk : ((k : Nat) : Int) < 8
    · refine .inl ⟨(k + 1, IntKind.i64.wrap (getK (y.1.drop 2) (k + 1))), ?_, ⟨rfl, by simp only; omega⟩, by simp only; omega⟩
      unfold o16_L0
      refine (cond_pos (dt hk)).trans ?_
      rw [grd_pos (dt (by omega)), grd_pos (dt (by omega)), w8 (by omega), grd_pos (dt (by omega)), grd_pos (dt (by omega)), lor_i64, ← getD_drop]
      rfl
    · refine .inr ⟨_, cond_neg (df hk), ?_⟩
      rw [show k = 8 by omega, getK_eq _ 8 (by decide)]
      rfl) fuelN (0, 0) ⟨rfl, by simp⟩ (by simp [fuelN])
  exact h
theorem natL_two (q : List UInt8) : ((natL q 2 : Nat) : Int) = ((q.getD 0 0).toNat : Int) + 256 * ((q.getD 1 0).toNat : Int) := by
  simp only [natL, Nat.reducePow]
  omega
theorem num2 (b : List UInt8) : IntKind.i64.wrap (((b.getD 10 0).toNat : Int) + shlK .i64 ((b.getD 11 0).toNat : Int) 8) = ((natL (b.drop 10) 2 : Nat) : Int) := by
  have h0 := UInt8.toNat_lt (b.getD 10 0)
  have h1 := UInt8.toNat_lt (b.getD 11 0)
  have e : shlK .i64 ((b.getD 11 0).toNat : Int) 8 = ((b.getD 11 0).toNat : Int) * 256 := by
    unfold shlK
    have : (2 : Int) ^ min (8 : Int).toNat IntKind.i64.bits = 256 := by decide
    rw [this]
    exact wr64 (by omega)
  rw [e, wr64 (by omega), natL_two, getD_drop, getD_drop]
  show _ = ((b.getD 10 0).toNat : Int) + 256 * ((b.getD 11 0).toNat : Int)
  omega
theorem o16_eq (p : List UInt8) (hp : p.length ≤ 1000000000) : o16 p = some (decC p) := by
  unfold o16 decC
  rw [o26_eq p hp, bindO_some rfl]
  cases e : ((openC p).2 != 0) with
  | true => rfl
  | false =>
    simp only [cond_false]
    have hn2 := natL_lt ((openC p).1.drop 10) 2
    simp only [Nat.reducePow] at hn2
    unfold badB
    by_cases h12 : (openC p).1.length < 12
    · rw [dt (by omega : (((openC p).1.length : Nat) : Int) < 12), dt h12]; rfl
    rw [df (by omega : ¬ (((openC p).1.length : Nat) : Int) < 12), df h12]
    simp only [cond_false, Bool.false_or]
    rw [num2]
    generalize hm : natL ((openC p).1.drop 10) 2 = m at *
    have hl : (openC p).1.length ≤ 1000000000 := by
      unfold openC
      by_cases h4 : p.length < 4
      · rw [dt h4]; simp
      · rw [df h4]
        cases (p.drop (p.length - 4) == four (crcU (p.take (p.length - 4)))) <;> simp <;> omega
    rw [grd_pos (dt (by omega)), cond_or_some, bindO_some rfl]
    have hb : (decide ((m : Int) > 1000) || ((((openC p).1.length : Nat) : Int) != 12 + (m : Int))) = (decide ((openC p).1.length > 1012) || (m != (openC p).1.length - 12)) := by
      by_cases a : (openC p).1.length = 12 + m
      · rw [neq_f (by omega : (((openC p).1.length : Nat) : Int) = 12 + (m : Int))]
        have : (m != (openC p).1.length - 12) = false := by simp; omega
        rw [this, Bool.or_false, Bool.or_false]
        by_cases q : (m : Int) > 1000
        · rw [dt q, dt (by omega)]
        · rw [df q, df (by omega)]
      · rw [neq_t (by omega : (((openC p).1.length : Nat) : Int) ≠ 12 + (m : Int))]
        have : (m != (openC p).1.length - 12) = true := by simp; omega
        rw [this, Bool.or_true, Bool.or_true]
    rw [hb]
    cases (decide ((openC p).1.length > 1012) || (m != (openC p).1.length - 12)) with
    | true => rfl
    | false =>
      simp only [cond_false]
      rw [o16_loop _ (by omega), bindO_some rfl]
      rfl
end Go.Proofs.Ytmcgofgpcnlljaa
