/-
ResyncPieces: what Decode makes of Encode's bytes; both Decode in two cases. Conditions: lengths of at most 1000000.
-/
import Derived.Test.YtolppdcaaoghgaaRsDec2
import Derived.Test.YtolppdcaaoghgaaRsAwake
namespace Go.Proofs.Ytolppdcaaoghgaa
set_option linter.unusedVariables false
set_option linter.unusedSimpArgs false
set_option maxRecDepth 100000
open Go.RowKit
theorem encP_take (b i c : Int) (l : List UInt8) : (encP b i c l).take 8 = lowB b 8 := by
  unfold encP; rw [List.append_assoc, List.take_append_of_le_length (by rw [lowB_length]; omega), List.take_of_length_le (by rw [lowB_length]; omega)]
theorem encP_i (b i c : Int) (l : List UInt8) : ((encP b i c l).drop 8).take 2 = lowB i 2 := by
  unfold encP
  rw [List.append_assoc, List.append_assoc, List.drop_append, List.drop_of_length_le (by rw [lowB_length]; omega), lowB_length, Nat.sub_self, List.drop_zero, List.nil_append,
    List.take_append_of_le_length (by rw [lowB_length]; omega), List.take_of_length_le (by rw [lowB_length]; omega)]
theorem encP_c (b i c : Int) (l : List UInt8) : ((encP b i c l).drop 10).take 2 = lowB c 2 := by
  have e : encP b i c l = (lowB b 8 ++ lowB i 2) ++ (lowB c 2 ++ l) := by simp [encP]
  have hl : (lowB b 8 ++ lowB i 2).length = 10 := by simp [lowB_length]
  rw [e, List.drop_append, List.drop_of_length_le (by omega), hl, Nat.sub_self, List.drop_zero, List.nil_append,
    List.take_append_of_le_length (by rw [lowB_length]; omega), List.take_of_length_le (by rw [lowB_length]; omega)]
theorem encP_d (b i c : Int) (l : List UInt8) : (encP b i c l).drop 12 = l := by
  have hl : (lowB b 8 ++ (lowB i 2 ++ lowB c 2)).length = 12 := by simp [lowB_length]
  unfold encP
  rw [List.drop_append, List.drop_of_length_le (by omega), hl, Nat.sub_self, List.drop_zero, List.nil_append]
theorem encP_nums (b i c : Int) (l : List UInt8) (n : Nat) (hb : I64 b) (hv : vP b i c n = true) :
    numI ((encP b i c l).take 8) = b ∧ at8 (encP b i c l) 8 + at8 (encP b i c l) 9 * 256 = i ∧ at8 (encP b i c l) 10 + at8 (encP b i c l) 11 * 256 = c := by
  obtain ⟨v1, v2, v3, v4, v5, v6, v7⟩ := vP_yes hv
  refine ⟨by rw [encP_take]; exact numI_lowB8 b hb.1 hb.2, ?_, ?_⟩
  · rw [← numI2 _ 8 (by rw [encP_length]; omega), encP_i]; exact numI_lowB2 i (by omega) (by omega)
  · rw [← numI2 _ 10 (by rw [encP_length]; omega), encP_c]; exact numI_lowB2 c (by omega) (by omega)
/-- bytes are the payload of a piece -/
def dP (l : List UInt8) (n : Nat) : Bool := decide (12 ≤ n) && vP (numI (l.take 8)) (at8 l 8 + at8 l 9 * 256) (at8 l 10 + at8 l 11 * 256) (n - 12)
theorem dP_enc (b i c : Int) (l : List UInt8) (hb : I64 b) (hv : vP b i c l.length = true) : dP (encP b i c l) (12 + l.length) = true := by
  obtain ⟨e1, e2, e3⟩ := encP_nums b i c l _ hb hv
  unfold dP
  rw [e1, e2, e3, show 12 + l.length - 12 = l.length by omega, hv]
  simp
def DecYes (w : World) (l : List UInt8) (n : Nat) (e : Ending) (w' : World) : Prop :=
  ∃ A c, e = .returned (.tuple #[.agg #[.int .i64 (numI (l.take 8)), .int .i64 (at8 l 8 + at8 l 9 * 256), .int .i64 (at8 l 10 + at8 l 11 * 256), .slice A (n - 12) c], .int .i64 0]) ∧ Reads w' w'.heap.size 1 A (n - 12) (bvs (l.drop 12)) ∧ Below w.heap.size w w'
def DecNo (w : World) (e : Ending) (w' : World) : Prop := e = .returned (.tuple #[.agg #[.int .i64 0, .int .i64 0, .int .i64 0, .slice none 0 0], .int .i64 4]) ∧ Below w.heap.size w w'
theorem dec_yes {w w' : World} {l : List UInt8} {n : Nat} {e : Ending} (h : DecPost w l n e w') (hv : dP l n = true) : DecYes w l n e w' := by
  unfold dP at hv
  simp only [Bool.and_eq_true, decide_eq_true_eq] at hv
  obtain ⟨A, c, he, ho⟩ := h.1 hv.2
  exact ⟨A, c, he, Reads.of_own ho, h.2.2⟩
theorem dec_no {w w' : World} {l : List UInt8} {n : Nat} {e : Ending} (h : DecPost w l n e w') (hn : 12 ≤ n) (hv : dP l n = false) : DecNo w e w' := by
  unfold dP at hv
  simp only [show decide (12 ≤ n) = true by simpa using hn, Bool.true_and] at hv
  exact ⟨h.2.1 hv, h.2.2⟩
theorem dP_le {l : List UInt8} {n : Nat} (hv : dP l n = true) : 12 ≤ n := by
  unfold dP at hv; simp only [Bool.and_eq_true, decide_eq_true_eq] at hv; exact hv.1
section
variable (A : Option Addr) (n c : Nat) (l : List UInt8) (w : World) (hn2 : n ≤ 1000000) (hc : n ≤ c) (hr : Reads w w.heap.size 1 A n (bvs l))
include hn2 hc hr
theorem decode1_yes (hv : dP l n = true) : Calls Try.prog 26 #[.slice A n c] w (DecYes w l n) :=
  (decode1_long A n c l w (dP_le hv) hn2 hc hr).mono fun e w' h => dec_yes h hv
theorem decode2_yes (hv : dP l n = true) : Calls Try.prog 27 #[.slice A n c] w (DecYes w l n) :=
  (decode2_long A n c l w (dP_le hv) hn2 hc hr).mono fun e w' h => dec_yes h hv
theorem decode1_no (hv : dP l n = false) : Calls Try.prog 26 #[.slice A n c] w (DecNo w) := by
  by_cases h12 : 12 ≤ n
  · exact (decode1_long A n c l w h12 hn2 hc hr).mono fun e w' h => dec_no h h12 hv
  · exact decode1_short A n c w (by omega)
theorem decode2_no (hv : dP l n = false) : Calls Try.prog 27 #[.slice A n c] w (DecNo w) := by
  by_cases h12 : 12 ≤ n
  · exact (decode2_long A n c l w h12 hn2 hc hr).mono fun e w' h => dec_no h h12 hv
  · exact decode2_short A n c w (by omega)
end

/-! ### both functions without a case: what they give, behind names -/
def encE (b i c : Int) (n : Nat) : Int := if vP b i c n = true then 0 else 1
def encD (b i c : Int) (n : Nat) (l : List UInt8) : List UInt8 := if vP b i c n = true then encP b i c l else []
def EncGives (w : World) (b i c : Int) (n : Nat) (l : List UInt8) (e : Ending) (w' : World) : Prop :=
  ∃ A' n' c', e = .returned (.tuple #[.slice A' n' c', .int .i64 (encE b i c n)]) ∧ Reads w' w'.heap.size 1 A' n' (bvs (encD b i c n l)) ∧ n' ≤ c' ∧ n' ≤ 1000 ∧ Below w.heap.size w w'
theorem encode1_any (b i c : Int) (A : Option Addr) (n k : Nat) (l : List UInt8) (w : World) (hb : I64 b) (hn : n ≤ 1000000) (hr : Reads w w.heap.size 1 A n (bvs l)) :
    Calls Try.prog 24 #[.agg #[.int .i64 b, .int .i64 i, .int .i64 c, .slice A n k]] w (EncGives w b i c n l) := by
  cases hv : vP b i c n with
  | false => exact (encode1_no b i c A n k w (by omega) hv).mono fun e w' ⟨he, hb⟩ => ⟨none, 0, 0, by rw [he]; simp [encE, hv], by simpa [encD, hv, bvs] using Reads.none_, by omega, by omega, hb⟩
  | true =>
    have h6 := (vP_yes hv).2.2.2.2.2.2
    exact (encode1_yes b i c A n k l w hb hr hv).mono fun e w' ⟨A', c', he, ho, hb⟩ => ⟨A', 12 + n, c', by rw [he]; simp [encE, hv], by simpa [encD, hv] using Reads.of_own ho, own_le ho, by omega, hb⟩
theorem encode2_any (b i c : Int) (A : Option Addr) (n k : Nat) (l : List UInt8) (w : World) (hn : n ≤ 1000000) (hr : Reads w w.heap.size 1 A n (bvs l)) :
    Calls Try.prog 25 #[.agg #[.int .i64 b, .int .i64 i, .int .i64 c, .slice A n k]] w (EncGives w b i c n l) := by
  cases hv : vP b i c n with
  | false => exact (encode2_no b i c A n k w (by omega) hv).mono fun e w' ⟨he, hb⟩ => ⟨none, 0, 0, by rw [he]; simp [encE, hv], by simpa [encD, hv, bvs] using Reads.none_, by omega, by omega, hb⟩
  | true =>
    have h6 := (vP_yes hv).2.2.2.2.2.2
    exact (encode2_yes b i c A n k l w hr hv).mono fun e w' ⟨A', c', he, ho, hb⟩ => ⟨A', 12 + n, c', by rw [he]; simp [encE, hv], by simpa [encD, hv] using Reads.of_own ho, own_le ho, by omega, hb⟩
def decB (l : List UInt8) (n : Nat) : Int := if dP l n = true then numI (l.take 8) else 0
def decI (l : List UInt8) (n : Nat) : Int := if dP l n = true then at8 l 8 + at8 l 9 * 256 else 0
def decC (l : List UInt8) (n : Nat) : Int := if dP l n = true then at8 l 10 + at8 l 11 * 256 else 0
def decD (l : List UInt8) (n : Nat) : List UInt8 := if dP l n = true then l.drop 12 else []
def decE (l : List UInt8) (n : Nat) : Int := if dP l n = true then 0 else 4
def DecGives (w : World) (l : List UInt8) (n : Nat) (e : Ending) (w' : World) : Prop :=
  ∃ A m c, e = .returned (.tuple #[.agg #[.int .i64 (decB l n), .int .i64 (decI l n), .int .i64 (decC l n), .slice A m c], .int .i64 (decE l n)]) ∧ Reads w' w'.heap.size 1 A m (bvs (decD l n)) ∧ Below w.heap.size w w'
theorem dec_gives {w : World} {l : List UInt8} {n : Nat} {f : FuncId} {args : Array Value} (hy : dP l n = true → Calls Try.prog f args w (DecYes w l n)) (hn : dP l n = false → Calls Try.prog f args w (DecNo w)) :
    Calls Try.prog f args w (DecGives w l n) := by
  cases hv : dP l n with
  | false => exact (hn hv).mono fun e w' ⟨he, hb⟩ => ⟨none, 0, 0, by rw [he]; simp [decB, decI, decC, decE, hv], by simpa [decD, hv, bvs] using Reads.none_, hb⟩
  | true => exact (hy hv).mono fun e w' ⟨A, c, he, hr, hb⟩ => ⟨A, n - 12, c, by rw [he]; simp [decB, decI, decC, decE, hv], by simpa [decD, hv] using hr, hb⟩
theorem decode1_any (A : Option Addr) (n c : Nat) (l : List UInt8) (w : World) (hn2 : n ≤ 1000000) (hc : n ≤ c) (hr : Reads w w.heap.size 1 A n (bvs l)) : Calls Try.prog 26 #[.slice A n c] w (DecGives w l n) :=
  dec_gives (decode1_yes A n c l w hn2 hc hr) (decode1_no A n c l w hn2 hc hr)
theorem decode2_any (A : Option Addr) (n c : Nat) (l : List UInt8) (w : World) (hn2 : n ≤ 1000000) (hc : n ≤ c) (hr : Reads w w.heap.size 1 A n (bvs l)) : Calls Try.prog 27 #[.slice A n c] w (DecGives w l n) :=
  dec_gives (decode2_yes A n c l w hn2 hc hr) (decode2_no A n c l w hn2 hc hr)
theorem enc_dec (b i c : Int) (l : List UInt8) (n n' : Nat) (hb : I64 b) (hv : vP b i c n = true) (hn : l.length = n) (hn' : (encD b i c n l).length = n') :
    decB (encD b i c n l) n' = b ∧ decI (encD b i c n l) n' = i ∧ decC (encD b i c n l) n' = c ∧ decD (encD b i c n l) n' = l ∧ decE (encD b i c n l) n' = 0 := by
  subst hn
  have e : encD b i c l.length l = encP b i c l := by simp [encD, hv]
  rw [e, encP_length] at hn'
  subst hn'
  rw [e]
  obtain ⟨e1, e2, e3⟩ := encP_nums b i c l _ hb hv
  have hd := dP_enc b i c l hb hv
  simp only [decB, decI, decC, decD, decE, hd, e1, e2, e3, encP_d, if_true]
  exact ⟨trivial, trivial, trivial, trivial, trivial⟩
theorem encE_ok {b i c : Int} {n : Nat} (h : encE b i c n = 0) : vP b i c n = true := by
  unfold encE at h
  split at h
  · assumption
  · exact absurd h (by decide)
end Go.Proofs.Ytolppdcaaoghgaa
