/-
The two inputs out of the packed bytes: the contract of the reference's Unpack. Conditions: lengths of at most 1000000.
-/
import Derived.Test.YtgnajpoebooafaaAgUn
namespace Go.Proofs.Ytgnajpoebooafaa
set_option linter.unusedVariables false
set_option linter.unusedSimpArgs false
set_option maxRecDepth 100000
open Go.RowKit
def UnGives (w : World) (l : List UInt8) (e : Ending) (w' : World) : Prop :=
  ∃ A n c B m d, e = .returned (.tuple #[.slice A n c, .bool (unIA l), .slice B m d, .bool (unIB l), .int .i64 (unE l)]) ∧ Reads w' w'.heap.size 1 A n (bvs (unA l)) ∧ Reads w' w'.heap.size 1 B m (bvs (unB l)) ∧ Below w.heap.size w w'
theorem unGives_no {w w' : World} {l : List UInt8} {e : Ending} (h : unOk l = false) (he : e = .returned (.tuple #[.slice none 0 0, .bool false, .slice none 0 0, .bool false, .int .i64 4])) (hb : Below w.heap.size w w') : UnGives w l e w' :=
  ⟨none, 0, 0, none, 0, 0, by simp [he, unIA, unIB, unE, h], by simpa [unA, h, bvs] using Reads.none_, by simpa [unB, h, bvs] using Reads.none_, hb⟩
theorem unGives_yes {w w' : World} {l : List UInt8} {e : Ending} {A B : Option Addr} {n c m d : Nat} (h : unOk l = true) (he : e = .returned (.tuple #[.slice A n c, .bool (bit0 l), .slice B m d, .bool (bit1 l), .int .i64 0]))
    (h1 : Reads w' w'.heap.size 1 A n (bvs (inA (l.drop 1) (bit0 l)))) (h2 : Reads w' w'.heap.size 1 B m (bvs (inA (inR (l.drop 1) (bit0 l)) (bit1 l)))) (hb : Below w.heap.size w w') : UnGives w l e w' :=
  ⟨A, n, c, B, m, d, by simp [he, unIA, unIB, unE, h], by simpa [unA, h] using h1, by simpa [unB, h] using h2, hb⟩
theorem bits_bit0 (l : List UInt8) (h : at8 l 0 ≤ 3) : (bits .and .u8 (at8 l 0) 1 == 1) = bit0 l := by
  have h0 := (at8_lt l 0).1
  unfold bit0
  generalize at8 l 0 = x at *
  have : x = 0 ∨ x = 1 ∨ x = 2 ∨ x = 3 := by omega
  rcases this with rfl | rfl | rfl | rfl <;> decide
theorem bits_bit1 (l : List UInt8) (h : at8 l 0 ≤ 3) : (bits .and .u8 (at8 l 0) 2 == 2) = bit1 l := by
  have h0 := (at8_lt l 0).1
  unfold bit1
  generalize at8 l 0 = x at *
  have : x = 0 ∨ x = 1 ∨ x = 2 ∨ x = 3 := by omega
  rcases this with rfl | rfl | rfl | rfl <;> decide
theorem input_yes (A : Option Addr) (n c : Nat) (l : List UInt8) (is : Bool) (w : World) (hn : n ≤ 1000000) (hc : n ≤ c) (hr : Reads w w.heap.size 1 A n (bvs l)) (h : inOk l is = true) :
    Calls Try.prog 57 #[.slice A n c, .bool is] w fun e w' => ∃ A1 n1 c1 A2 n2 c2, e = .returned (.tuple #[.slice A1 n1 c1, .slice A2 n2 c2, .bool true]) ∧ Reads w' w'.heap.size 1 A1 n1 (bvs (inA l is)) ∧ Reads w' w'.heap.size 1 A2 n2 (bvs (inR l is)) ∧ n2 ≤ c2 ∧ Below w.heap.size w w' :=
  (input_any A n c l is w hn hc hr).mono fun e w' ⟨A1, n1, c1, A2, n2, c2, he, h1, h2, h3, h4⟩ => ⟨A1, n1, c1, A2, n2, c2, by rw [he, h], by simpa [h] using h1, by simpa [h] using h2, h3, h4⟩
theorem input_no (A : Option Addr) (n c : Nat) (l : List UInt8) (is : Bool) (w : World) (hn : n ≤ 1000000) (hc : n ≤ c) (hr : Reads w w.heap.size 1 A n (bvs l)) (h : inOk l is = false) :
    Calls Try.prog 57 #[.slice A n c, .bool is] w fun e w' => ∃ A1 n1 c1 A2 n2 c2, e = .returned (.tuple #[.slice A1 n1 c1, .slice A2 n2 c2, .bool false]) ∧ Below w.heap.size w w' :=
  (input_any A n c l is w hn hc hr).mono fun e w' ⟨A1, n1, c1, A2, n2, c2, he, h1, h2, h3, h4⟩ => ⟨A1, n1, c1, A2, n2, c2, by rw [he, h], h4⟩
theorem inR_le (r : List UInt8) (is : Bool) : (inR r is).length ≤ r.length := by unfold inR; split <;> simp
set_option maxHeartbeats 1000000 in
theorem unpack2_any (A : Option Addr) (n c : Nat) (l : List UInt8) (w : World) (hn : n ≤ 1000000) (hc : n ≤ c) (hr : Reads w w.heap.size 1 A n (bvs l)) :
    Calls Try.prog 18 #[.slice A n c] w (UnGives w l) := by
  have hl : l.length = n := by have := hr.1; rw [bvs_length] at this; omega
  by_cases h0 : n = 0
  · subst h0
    have HN := Lib.hid (show unOk l = false by simp [unOk, hl])
    clear hl hr
    go_enter Try.func18, Try.ntmps18
    go_wp2
    refine bodyPost_ret (v := .tuple #[.slice none 0 0, .bool false, .slice none 0 0, .bool false, .int .i64 4]) (by simp [results, Try.results18, go_sem]) rfl ?_
    exact unGives_no HN.out rfl (Below.refl _ _)
  · have hpos : 0 < n := by omega
    have hn0 : ((n : Int) == 0) = false := by rw [beq_eq_false_iff_ne]; omega
    obtain ⟨ad, rfl, hbl, hcell⟩ := hr.byte (k := 0) hpos
    have hcell : w.cell? ad = some (.int .u8 (at8 l 0)) := by simpa [Addr.add] using hcell
    have hat := at8_lt l 0
    have HR := Lib.hid hr
    have HL := Lib.hid hl
    clear hr hl h0
    by_cases h3 : at8 l 0 ≤ 3
    · have b0 := bits_bit0 l h3
      have b1 := bits_bit1 l h3
      have s1 : ∀ W, (Instr.sliceAt 22 (.slice (some ad) n c) (some (.int .i64 1)) none none).run Try.prog W = .ok (.slice (cutA (some ad) 1 c 1) (n - 1) (c - 1)) W := fun W => fromB (some ad) n c 1 (by omega) (by omega) W
      have r1 := HR.out.midA (k := 1) (m := n) (cap := c) (by omega) (by omega) hc
      rw [← bvs_drop, ← bvs_take, List.take_of_length_le (by rw [List.length_drop, HL.out]; omega)] at r1
      have R1 := Lib.hid r1
      have H3 := Lib.hid h3
      have hlen1 : (l.drop 1).length ≤ 1000000 := by rw [List.length_drop, HL.out]; omega
      clear r1
      have HLE := Lib.hid (inR_le (l.drop 1) (bit0 l))
      cases k1 : inOk (l.drop 1) (bit0 l) with
      | false =>
        have K1 := Lib.hid k1
        have HN := Lib.hid (show unOk l = false by unfold unOk; rw [k1]; simp)
        clear k1
        go_enter Try.func18, Try.ntmps18
        go_wp2
        go_quiet (fail)
        go_wp2_with fail
        refine (input_no _ _ _ _ _ _ (by omega) (by omega) (R1.out.go (below_drewN (Below.refl _ _) _)) K1.out).mono ?_
        rintro e w1 ⟨A1, n1, c1, A2, n2, c2, rfl, hb1⟩
        go_wp2
        refine bodyPost_ret (v := .tuple #[.slice none 0 0, .bool false, .slice none 0 0, .bool false, .int .i64 4]) (by simp [results, Try.results18, go_sem]) rfl ?_
        exact unGives_no HN.out rfl (Bt (below_drewN (Below.refl _ _) _) hb1)
      | true =>
        have K1 := Lib.hid k1
        cases k2 : inOk (inR (l.drop 1) (bit0 l)) (bit1 l) with
        | false =>
          have K2 := Lib.hid k2
          have HN := Lib.hid (show unOk l = false by unfold unOk; rw [k2]; simp)
          clear k1 k2
          go_enter Try.func18, Try.ntmps18
          go_wp2
          go_quiet (fail)
          go_wp2_with fail
          refine (input_yes _ _ _ _ _ _ (by omega) (by omega) (R1.out.go (below_drewN (Below.refl _ _) _)) K1.out).mono ?_
          rintro e w1 ⟨A1, n1, c1, A2, n2, c2, rfl, hr1, hr2, hc2, hb1⟩
          have HR2 := Lib.hid hr2
          have hn2 : n2 ≤ 1000000 := by have := hr2.1; rw [bvs_length] at this; have := HLE.out; omega
          clear hr1 hr2
          go_wp2_with fail
          refine (input_no _ _ _ _ _ _ hn2 hc2 HR2.out K2.out).mono ?_
          rintro e w2 ⟨A3, n3, c3, A4, n4, c4, rfl, hb2⟩
          go_wp2
          refine bodyPost_ret (v := .tuple #[.slice none 0 0, .bool false, .slice none 0 0, .bool false, .int .i64 4]) (by simp [results, Try.results18, go_sem]) rfl ?_
          exact unGives_no HN.out rfl (Bt (Bt (below_drewN (Below.refl _ _) _) hb1) hb2)
        | true =>
          have K2 := Lib.hid k2
          have U := Lib.hid (show ∀ b : Bool, decide ((inR (inR (l.drop 1) (bit0 l)) (bit1 l)).length = 0) = b → unOk l = b by intro b hb; unfold unOk; rw [k1, k2, hb, HL.out, decide_eq_true h3, decide_eq_true (show 1 ≤ n from hpos)]; cases b <;> rfl)
          clear k1 k2
          go_enter Try.func18, Try.ntmps18
          go_wp2
          go_quiet (fail)
          go_wp2_with fail
          refine (input_yes _ _ _ _ _ _ (by omega) (by omega) (R1.out.go (below_drewN (Below.refl _ _) _)) K1.out).mono ?_
          rintro e w1 ⟨A1, n1, c1, A2, n2, c2, rfl, hr1, hr2, hc2, hb1⟩
          have HR1 := Lib.hid hr1
          have HR2 := Lib.hid hr2
          have hn2 : n2 ≤ 1000000 := by have := hr2.1; rw [bvs_length] at this; have := HLE.out; omega
          clear hr1 hr2
          go_wp2_with fail
          refine (input_yes _ _ _ _ _ _ hn2 hc2 HR2.out K2.out).mono ?_
          rintro e w2 ⟨A3, n3, c3, A4, n4, c4, rfl, hr3, hr4, hc4, hb2⟩
          have h4l : (inR (inR (l.drop 1) (bit0 l)) (bit1 l)).length = n4 := by have := hr4.1; rw [bvs_length] at this; omega
          have H4L := Lib.hid h4l
          have HR3 := Lib.hid hr3
          clear hr3 hr4 h4l
          by_cases hz : n4 = 0
          · have HY := Lib.hid (U.out true (by rw [H4L.out]; simpa using hz))
            have hz1 : (n4 : Int) ≤ 0 := by omega
            clear hz
            go_wp2
            refine bodyPost_ret (v := .tuple #[.slice A1 n1 c1, .bool (bit0 l), .slice A3 n3 c3, .bool (bit1 l), .int .i64 0]) (by simp [results, Try.results18, go_sem]) rfl ?_
            exact unGives_yes HY.out rfl (HR1.out.go hb2) HR3.out (Bt (Bt (below_drewN (Below.refl _ _) _) hb1) hb2)
          · have HN := Lib.hid (U.out false (by rw [H4L.out]; simpa using hz))
            have hz1 : (0 : Int) < (n4 : Int) := by omega
            clear hz
            go_wp2
            refine bodyPost_ret (v := .tuple #[.slice none 0 0, .bool false, .slice none 0 0, .bool false, .int .i64 4]) (by simp [results, Try.results18, go_sem]) rfl ?_
            exact unGives_no HN.out rfl (Bt (Bt (below_drewN (Below.refl _ _) _) hb1) hb2)
    · have HN := Lib.hid (show unOk l = false by simp [unOk, h3])
      have h4 : 3 < at8 l 0 := by omega
      go_enter Try.func18, Try.ntmps18
      go_wp2
      refine bodyPost_ret (v := .tuple #[.slice none 0 0, .bool false, .slice none 0 0, .bool false, .int .i64 4]) (by simp [results, Try.results18, go_sem]) rfl ?_
      exact unGives_no HN.out rfl (Below.refl _ _)
end Go.Proofs.Ytgnajpoebooafaa
