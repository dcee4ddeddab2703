/-
The two inputs out of the packed bytes: the contracts of both Unpack. Conditions: lengths of at most 1000000.
-/
import Derived.Test.YtgnajpoebooafaaAgPut
import Derived.Test.YtgnajpoebooafaaAgSpec
namespace Go.Proofs.Ytgnajpoebooafaa
set_option linter.unusedVariables false
set_option linter.unusedSimpArgs false
set_option maxRecDepth 100000
open Go.RowKit
theorem num_len2 (l : List UInt8) : numI (l.take 2) = (len2 l : Int) ∧ (len2 l : Int) ≤ 65535 := by
  have h1 := numI_small (l.take 2) (by rw [List.length_take]; omega)
  have h2 := numN_lt (l.take 2)
  have h3 : (2 : Nat) ^ (8 * (l.take 2).length) ≤ 2 ^ 16 := Nat.pow_le_pow_right (by omega) (by rw [List.length_take]; omega)
  unfold len2
  have e : (2 : Nat) ^ 16 = 65536 := by decide
  refine ⟨h1.1, ?_⟩
  omega
def InGives (w : World) (l : List UInt8) (is : Bool) (e : Ending) (w' : World) : Prop :=
  ∃ A1 n1 c1 A2 n2 c2, e = .returned (.tuple #[.slice A1 n1 c1, .slice A2 n2 c2, .bool (inOk l is)]) ∧ Reads w' w'.heap.size 1 A1 n1 (bvs (if inOk l is then inA l is else [])) ∧
    Reads w' w'.heap.size 1 A2 n2 (bvs (if inOk l is then inR l is else [])) ∧ n2 ≤ c2 ∧ Below w.heap.size w w'
theorem inGives_no {w w' : World} {l : List UInt8} {is : Bool} {e : Ending} (h : inOk l is = false) (he : e = .returned (.tuple #[.slice none 0 0, .slice none 0 0, .bool false])) (hb : Below w.heap.size w w') : InGives w l is e w' :=
  ⟨none, 0, 0, none, 0, 0, by rw [he, h], by simpa [h, bvs] using Reads.none_, by simpa [h, bvs] using Reads.none_, by omega, hb⟩
theorem inGives_yes {w w' : World} {l : List UInt8} {is : Bool} {e : Ending} {A1 A2 : Option Addr} {n1 c1 n2 c2 : Nat} (h : inOk l is = true) (he : e = .returned (.tuple #[.slice A1 n1 c1, .slice A2 n2 c2, .bool true]))
    (h1 : Reads w' w'.heap.size 1 A1 n1 (bvs (inA l is))) (h2 : Reads w' w'.heap.size 1 A2 n2 (bvs (inR l is))) (hc : n2 ≤ c2) (hb : Below w.heap.size w w') : InGives w l is e w' :=
  ⟨A1, n1, c1, A2, n2, c2, by rw [he, h], by simpa [h] using h1, by simpa [h] using h2, hc, hb⟩
theorem input_off (A : Option Addr) (n c : Nat) (l : List UInt8) (w : World) (hc : n ≤ c) (hr : Reads w w.heap.size 1 A n (bvs l)) :
    Calls Try.prog 57 #[.slice A n c, .bool false] w (InGives w l false) := by
  have H := Lib.hid hr
  clear hr
  go_enter Try.func57, Try.ntmps57
  go_wp2
  go_ret3
  exact ⟨none, 0, 0, A, n, c, by simp [inOk], by simpa [inOk, inA, bvs] using Reads.none_, by simpa [inOk, inR] using H.out, hc, Below.refl _ _⟩
theorem input_on (A : Option Addr) (n c : Nat) (l : List UInt8) (w : World) (hn : n ≤ 1000000) (hc : n ≤ c) (hr : Reads w w.heap.size 1 A n (bvs l)) :
    Calls Try.prog 57 #[.slice A n c, .bool true] w (InGives w l true) := by
  have hl : l.length = n := by have := hr.1; rw [bvs_length] at this; omega
  by_cases h2 : n < 2
  · have hno : inOk l true = false := by simp [inOk, hl]; omega
    have HN := Lib.hid hno
    clear hno hl hr
    go_enter Try.func57, Try.ntmps57
    go_wp2
    go_ret3
    exact inGives_no HN.out rfl (Below.refl _ _)
  · obtain ⟨q1, q2⟩ := num_len2 l
    have r2 := hr.take (k := 2) (by omega)
    rw [Nat.mul_one, ← bvs_take] at r2
    obtain ⟨q, hq⟩ : ∃ q, q = len2 l := ⟨_, rfl⟩
    rw [← hq] at q1 q2
    have Q1 := Lib.hid q1
    have R2 := Lib.hid r2
    have HR := Lib.hid hr
    have HQ := Lib.hid hq
    have HL := Lib.hid hl
    clear q1 r2 hr hq hl
    have s0 : ∀ W, (Instr.sliceAt 22 (.slice A n c) none (some (.int .i64 2)) none).run Try.prog W = .ok (.slice A 2 c) W := fun W => toB A n c 2 (by omega) (by omega) W
    by_cases hok : q ≤ 400 ∧ q + 2 ≤ n
    · obtain ⟨h4, h5⟩ := hok
      have hyes : inOk l true = true := by simp [inOk, HL.out, ← HQ.out]; omega
      have HY := Lib.hid hyes
      clear hyes
      have s1 : ∀ W, (Instr.sliceAt 22 (.slice A n c) (some (.int .i64 2)) (some (.int .i64 (2 + (q : Int)))) none).run Try.prog W = .ok (.slice (cutA A 2 c 1) q (c - 2)) W := fun W => by
        have := midB A n c 2 (2 + (q : Int)) (by omega) (by omega) (by omega) W
        rw [show (2 + (q : Int)).toNat - (2 : Int).toNat = q by omega] at this
        exact this
      have s2 : ∀ W, (Instr.sliceAt 22 (.slice A n c) (some (.int .i64 (2 + (q : Int)))) none none).run Try.prog W = .ok (.slice (cutA A (2 + q) c 1) (n - (2 + q)) (c - (2 + q))) W := fun W => by
        have := fromB A n c (2 + (q : Int)) (by omega) (by omega) W
        rw [show (2 + (q : Int)).toNat = 2 + q by omega] at this
        exact this
      have ew : IntKind.i64.wrap (2 + (q : Int)) = 2 + (q : Int) := IntWalk.i64_in _ (by omega)
      have r3 := HR.out.midA (k := 2) (m := 2 + q) (cap := c) (by omega) (by omega) hc
      have r4 := HR.out.midA (k := 2 + q) (m := n) (cap := c) (by omega) (by omega) hc
      rw [← bvs_drop, ← bvs_take, show 2 + q - 2 = q by omega] at r3
      rw [← bvs_drop, ← bvs_take, List.take_of_length_le (by rw [List.length_drop, HL.out]; omega)] at r4
      have R3 := Lib.hid r3
      have R4 := Lib.hid r4
      have EW := Lib.hid ew
      clear r3 r4 ew
      go_enter Try.func57, Try.ntmps57
      go_wp2_with fail
      refine (num_any _ _ _ _ _ (by omega) R2.out).mono ?_
      rintro e w1 ⟨rfl, rfl⟩
      rw [Q1.out]
      go_upto_region 8 with fail
      have ew := EW.out
      have hd : Below w.heap.size w w.drew := (Below.refl _ _).drew
      go_region_held3 (fun w' => Below w.heap.size w w')
        (repeat (first | assumption | exact Below.refl _ _ | refine Below.drew ?_ | refine Ba ?_))
        (first
          | (refine stepB0 (base := w.heap.size) rfl (.tmp 26) (.tmp 30) (by rfl) (by rfl) (by repeat (first | with_reducible refine own_dr ?_ | with_reducible exact own_nil' (by simp) (by simp) | with_reducible refine own_al ?_)) (by rfl) (R3.out.go (by assumption)) (bvs_one _) (by omega) (Below.size (by assumption)) ?_; intro A' c' w5 hown hb hg; have hb5 : Below w.heap.size w w5 := Below.trans (by assumption) hb; have HO5 := Lib.hid hown; clear hown hb hg)
          | fail)
      have hb6 : Below w.heap.size w w5 := by assumption
      go_wp2_with fail
      go_ret3
      exact inGives_yes HY.out rfl (by simp only [if_true, inA, ← HQ.out]; exact Reads.of_own HO5.out) (by simp only [if_true, inR, ← HQ.out]; exact R4.out.go hb6) (by omega) hb6
    · have hno : inOk l true = false := by simp [inOk, HL.out, ← HQ.out]; omega
      have HN := Lib.hid hno
      clear hno
      go_enter Try.func57, Try.ntmps57
      go_wp2_with fail
      refine (num_any _ _ _ _ _ (by omega) R2.out).mono ?_
      rintro e w1 ⟨rfl, rfl⟩
      rw [Q1.out]
      by_cases h4 : q ≤ 400
      · have h5 : ¬ q + 2 ≤ n := fun h => hok ⟨h4, h⟩
        clear hok
        go_wp2
        go_ret3
        exact inGives_no HN.out rfl (Below.refl _ _)
      · clear hok
        go_wp2
        go_ret3
        exact inGives_no HN.out rfl (Below.refl _ _)
theorem input_any (A : Option Addr) (n c : Nat) (l : List UInt8) (is : Bool) (w : World) (hn : n ≤ 1000000) (hc : n ≤ c) (hr : Reads w w.heap.size 1 A n (bvs l)) :
    Calls Try.prog 57 #[.slice A n c, .bool is] w (InGives w l is) := by
  cases is with
  | false => exact input_off A n c l w hc hr
  | true => exact input_on A n c l w hn hc hr
end Go.Proofs.Ytgnajpoebooafaa
