/-
The payload of a piece: the contracts of both Encode and of valid. Conditions: the numbers lie in int64.
-/
import Derived.Test.YtolppdcaaoghgaaRsSplit2
import Derived.Test.YtolppdcaaoghgaaOpen
namespace Go.Proofs.Ytolppdcaaoghgaa
set_option linter.unusedVariables false
set_option linter.unusedSimpArgs false
set_option maxRecDepth 100000
open Go.RowKit
def vP (b i c : Int) (n : Nat) : Bool := decide (1 ≤ b ∧ b ≤ 2305843009213693952 ∧ 1 ≤ c ∧ c ≤ 874 ∧ 0 ≤ i ∧ i < c ∧ n ≤ 600)
theorem vP_yes {b i c : Int} {n : Nat} (h : vP b i c n = true) : 1 ≤ b ∧ b ≤ 2305843009213693952 ∧ 1 ≤ c ∧ c ≤ 874 ∧ 0 ≤ i ∧ i < c ∧ n ≤ 600 := by simpa [vP] using h
theorem vP_no {b i c : Int} {n : Nat} (h : vP b i c n = false) : ¬ (1 ≤ b ∧ b ≤ 2305843009213693952 ∧ 1 ≤ c ∧ c ≤ 874 ∧ 0 ≤ i ∧ i < c ∧ n ≤ 600) := by simpa [vP] using h

set_option maxHeartbeats 1000000 in
theorem valid_any (b i c : Int) (A : Option Addr) (n k : Nat) (w : World) (hn : n ≤ 9223372036854775807) :
    Calls Try.prog 46 #[.agg #[.int .i64 b, .int .i64 i, .int .i64 c, .slice A n k]] w fun e w' => e = .returned (.bool (vP b i c n)) ∧ Below w.heap.size w w' := by
  have F := Lib.hid (show ∀ r : Bool, vP b i c n = r → Ending.returned (.bool r) = .returned (.bool (vP b i c n)) from fun r h => by rw [h])
  go_enter Try.func46, Try.ntmps46
  go_wp2
  all_goals
    go_ret
    refine ⟨F.out _ ?_, by go_grown⟩
    simp only [vP]
    first | (rw [decide_eq_true_eq]; omega) | (rw [decide_eq_false_iff_not]; omega) | (rw [decide_eq_decide]; omega)

theorem low2 (x : Int) (h0 : 0 ≤ x) (h1 : x < 65536) : bvs (lowB x 2) = [.int .u8 (x % 256), .int .u8 (x / 256)] := by
  have e0 := byteOf_toNat x 0
  have e1 := byteOf_toNat x 1
  rw [IntKind.wrap_u64] at e0 e1
  simp only [Nat.mul_zero, Nat.mul_one, Int.reducePow] at e0 e1
  have f0 : ((byteOf x 0).toNat : Int) = x % 256 := by omega
  have f1 : ((byteOf x 1).toNat : Int) = x / 256 := by omega
  simp [lowB, bvs, List.range_succ, f0, f1]
def encP (b i c : Int) (l : List UInt8) : List UInt8 := lowB b 8 ++ (lowB i 2 ++ lowB c 2) ++ l
theorem encP_length (b i c : Int) (l : List UInt8) : (encP b i c l).length = 12 + l.length := by simp [encP, lowB_length]; omega

theorem encode1_no (b i c : Int) (A : Option Addr) (n k : Nat) (w : World) (hn : n ≤ 9223372036854775807) (hv : vP b i c n = false) :
    Calls Try.prog 24 #[.agg #[.int .i64 b, .int .i64 i, .int .i64 c, .slice A n k]] w fun e w' => e = .returned (.tuple #[.slice none 0 0, .int .i64 1]) ∧ Below w.heap.size w w' := by
  go_enter Try.func24, Try.ntmps24
  go_wp2_with (go_at_call 46; refine (valid_any _ _ _ _ _ _ _ hn).mono ?_; rintro e w1 ⟨rfl, hb1⟩)
  go_ret2
  refine ⟨rfl, ?_⟩
  repeat (first | exact Below.refl _ _ | assumption | refine Ba ?_ | refine Bd ?_ | refine Bt ?_ (by assumption))

set_option maxHeartbeats 1000000 in
theorem encode1_yes (b i c : Int) (A : Option Addr) (n k : Nat) (l : List UInt8) (w : World) (hb : I64 b) (hr : Reads w w.heap.size 1 A n (bvs l)) (hv : vP b i c n = true) :
    Calls Try.prog 24 #[.agg #[.int .i64 b, .int .i64 i, .int .i64 c, .slice A n k]] w fun e w' => ∃ A' c', e = .returned (.tuple #[.slice A' (12 + n) c', .int .i64 0]) ∧ w'.ownsRow w.heap.size 5 1 (.slice A' (12 + n) c') (12 + n) (bvs (encP b i c l)) ∧ Below w.heap.size w w' := by
  obtain ⟨v1, v2, v3, v4, v5, v6, v7⟩ := vP_yes hv
  have HR := Lib.hid hr
  clear hr
  go_enter Try.func24, Try.ntmps24
  go_wp2_with (go_at_call 46; refine (valid_any _ _ _ _ _ _ _ (by omega)).mono ?_; rintro e w1 ⟨rfl, hb1⟩; obtain ⟨hc1, hf1, hz1⟩ := bcell hb1; try simp at hz1)
  have k0 : ∀ o, w1.cell? ⟨w.heap.size, o, none⟩ = (#[.int .i64 b, .int .i64 i, .int .i64 c, .slice A n k] : Array Value)[o]? := by
    intro o; rw [hc1 _ _ (by simp only [World.size_alloc]; omega)]; go_simp
  have hB1 : Below w.heap.size w w1 := Bt (Ba (Below.refl _ _)) hb1
  clear hc1 hf1 hb1
  go_loopw [4, 9] (fun v q wr => ∃ (j : Nat) (A' : Option Addr) (c' : Nat), j ≤ 8 ∧ q = .int .i64 (j : Int) ∧ v = .slice A' j c' ∧ wr.ownsRow w1.heap.size 5 1 (.slice A' j c') j (bvs (lowB b j)) ∧ Below w1.heap.size w1 wr) (fun _ q _ => 8 - (intOf q).toNat)
  case atStart => exact ⟨0, none, 0, by omega, rfl, rfl, World.ownsRow_nil _ _ _ _, Below.refl _ _⟩
  case round =>
    obtain ⟨j, A', c', hj, rfl, rfl, hown, hbw⟩ := hrel
    have HO := Lib.hid hown
    clear hown
    have k1 := rowKeep hbw k0 (by omega)
    by_cases hlt : j < 8
    · go_wp2_with (at_builtin; refine stopHere ?_)
      refine goOn ?_
      refine appB rfl (.tmp 12) (.tmp 19) rfl rfl (HO.out.alloc _) rfl (reads_new _ _ _ 1 1 rfl) (by simp [Value.oneCell']) (by omega) (by have := hbw.size; simp; omega) ?_
      intro A3 c3 w3 hown3 hb3 hg3 hat3
      have hbw3 := (hbw.alloc hbw.size _).trans hb3
      rw [sar_byte b j hlt, lowB_step] at hown3
      have HO3 := Lib.hid hown3
      clear hown3 hb3 hg3 hat3
      go_wp2
      go_roundw
      case rel => exact ⟨j + 1, A3, c3, by omega, by go_num, rfl, HO3.out, hbw3⟩
      case measure => simp [intOf]; omega
    · obtain rfl : j = 8 := by omega
      go_wp2_with (at_builtin; refine stopHere ?_)
      refine goOn ?_
      refine appB rfl (.tmp 22) (.tmp 37) rfl rfl (HO.out.alloc _) rfl (reads_new _ _ _ 1 4 rfl) (by simp [Value.oneCell']) (by omega) (by have := hbw.size; simp; omega) ?_
      intro A3 c3 w3 hown3 hb3 hg3 hat3
      have hbw3 := (hbw.alloc hbw.size _).trans hb3
      have e4 : bvs (lowB b 8) ++ [.int .u8 (i % 256), .int .u8 (i / 256), .int .u8 (c % 256), .int .u8 (c / 256)] = bvs (lowB b 8 ++ (lowB i 2 ++ lowB c 2)) := by
        rw [bvs_append, bvs_append, low2 i (by omega) (by omega), low2 c (by omega) (by omega)]
        rfl
      rw [e4] at hown3
      have HO3 := Lib.hid hown3
      have k3 := rowKeep hbw3 k0 (by omega)
      have hB3 : Below w.heap.size w w3 := hB1.trans (hbw3.mono (by omega))
      have HR3 := Lib.hid ((HR.out.below hB3).more hB3.size)
      clear hown3 hb3 hg3 hat3 e4 k1 hlt
      go_wp2_with (at_builtin; refine stopHere ?_)
      refine goOn ?_
      refine appB rfl (.tmp 39) (.tmp 41) rfl rfl HO3.out rfl HR3.out (bvs_one _) (by omega) hbw3.size ?_
      intro A5 c5 w5 hown5 hb5 hg5 hat5
      rw [← bvs_append] at hown5
      have HO5 := Lib.hid (ownsRow_mono hown5 (show w.heap.size ≤ w1.heap.size by omega))
      have hB5 : Below w.heap.size w w5 := hB3.trans (hb5.mono (by omega))
      clear hown5 hb5 hg5 hat5 k3 hbw3 hB3
      go_wp2
      go_ret2
      exact ⟨A5, c5, rfl, HO5.out, hB5⟩

theorem encode2_no (b i c : Int) (A : Option Addr) (n k : Nat) (w : World) (hn : n ≤ 9223372036854775807) (hv : vP b i c n = false) :
    Calls Try.prog 25 #[.agg #[.int .i64 b, .int .i64 i, .int .i64 c, .slice A n k]] w fun e w' => e = .returned (.tuple #[.slice none 0 0, .int .i64 1]) ∧ Below w.heap.size w w' := by
  have hv' := vP_no hv
  have HV := Lib.hid hv'
  clear hv hv'
  go_enter Try.func25, Try.ntmps25
  go_wp2
  all_goals first
    | (exfalso; have := HV.out; omega)
    | (go_ret2; exact ⟨rfl, by go_grown⟩)

set_option maxHeartbeats 1000000 in
theorem encode2_yes (b i c : Int) (A : Option Addr) (n k : Nat) (l : List UInt8) (w : World) (hr : Reads w w.heap.size 1 A n (bvs l)) (hv : vP b i c n = true) :
    Calls Try.prog 25 #[.agg #[.int .i64 b, .int .i64 i, .int .i64 c, .slice A n k]] w fun e w' => ∃ A' c', e = .returned (.tuple #[.slice A' (12 + n) c', .int .i64 0]) ∧ w'.ownsRow w.heap.size 5 1 (.slice A' (12 + n) c') (12 + n) (bvs (encP b i c l)) ∧ Below w.heap.size w w' := by
  obtain ⟨v1, v2, v3, v4, v5, v6, v7⟩ := vP_yes hv
  have HR := Lib.hid hr
  clear hr hv
  go_enter Try.func25, Try.ntmps25
  go_wp2_with fail
  refine (low_any b 8 _ (by omega)).mono ?_
  rintro e w1 ⟨A1, c1, rfl, hown1, hb1⟩
  obtain ⟨hc1, hf1, hz1⟩ := bcell hb1
  simp at hz1
  have k1 : ∀ o, w1.cell? ⟨w.heap.size, o, none⟩ = (#[.int .i64 b, .int .i64 i, .int .i64 c, .slice A n k] : Array Value)[o]? := by
    intro o; rw [hc1 _ _ (by simp only [World.size_alloc]; omega)]; go_simp
  have hB1 : Below w.heap.size w w1 := Bt (Ba (Below.refl _ _)) hb1
  have HO1 := Lib.hid hown1
  clear hc1 hf1 hb1 hown1
  go_wp2_with fail
  refine (low_any i 2 _ (by omega)).mono ?_
  rintro e w2 ⟨A2, c2, rfl, hown2, hb2⟩
  have k2 := rowKeep hb2 k1 (by omega)
  have HO2 := Lib.hid hown2
  clear hown2 k1
  go_wp2_with (at_builtin; refine stopHere ?_)
  refine goOn ?_
  refine appB rfl (.tmp 44) (.tmp 47) rfl rfl (ownsRow_below HO1.out hb2 (Nat.le_refl _)) rfl (Reads.of_own HO2.out) (bvs_one _) (by omega) (by have := hb2.size; simp; omega) ?_
  intro A3 c3 w3 hown3 hb3 hg3 hat3
  rw [← bvs_append] at hown3
  have k3 : ∀ o, w3.cell? ⟨w.heap.size, o, none⟩ = (#[.int .i64 b, .int .i64 i, .int .i64 c, .slice A n k] : Array Value)[o]? := fun o => (hb3.cell (p := ⟨w.heap.size, o, none⟩) (by simp)).trans (k2 o)
  have hB3 : Below w.heap.size w w3 := (Bt hB1 hb2).trans (hb3.mono (by simp))
  have hz3 := hB3.size
  have hz4 : w.heap.size + 1 ≤ w3.heap.size := by have := hb3.size; have := hb2.size; omega
  have HO3 := Lib.hid (ownsRow_mono hown3 (show w.heap.size + 1 ≤ _ by simp))
  clear hown3 hb3 hg3 hat3 k2 hb2
  go_wp2_with fail
  refine (low_any c 2 _ (by omega)).mono ?_
  rintro e w4 ⟨A4, c4, rfl, hown4, hb4⟩
  have k4 := rowKeep hb4 k3 (by omega)
  have HO4 := Lib.hid hown4
  clear hown4 k3
  go_wp2_with (at_builtin; refine stopHere ?_)
  refine goOn ?_
  refine appB rfl (.tmp 49) (.tmp 52) rfl rfl (ownsRow_below HO3.out hb4 (Nat.le_refl _)) rfl (Reads.of_own HO4.out) (bvs_one _) (by omega) (by have := hb4.size; omega) ?_
  intro A5 c5 w5 hown5 hb5 hg5 hat5
  rw [← bvs_append] at hown5
  have hB4 := Bt hB3 hb4
  have hB5 : Below w.heap.size w w5 := hB4.trans (hb5.mono (by omega))
  have hz5 : w.heap.size + 1 ≤ w5.heap.size := by have := hb5.size; have := hb4.size; omega
  have k5 : ∀ o, w5.cell? ⟨w.heap.size, o, none⟩ = (#[.int .i64 b, .int .i64 i, .int .i64 c, .slice A n k] : Array Value)[o]? := fun o => (hb5.cell (p := ⟨w.heap.size, o, none⟩) (by simp)).trans (k4 o)
  have HO5 := Lib.hid hown5
  have HR5 := Lib.hid ((HR.out.below hB5).more hB5.size)
  clear hown5 hb5 hg5 hat5 k4 hb4 hB4
  go_wp2_with (at_builtin; refine stopHere ?_)
  refine goOn ?_
  refine appB rfl (.tmp 54) (.tmp 56) rfl rfl HO5.out rfl HR5.out (bvs_one _) (by omega) hz5 ?_
  intro A6 c6 w6 hown6 hb6 hg6 hat6
  rw [← bvs_append] at hown6
  have e6 : lowB b 8 ++ lowB i 2 ++ lowB c 2 ++ l = encP b i c l := by simp [encP]
  have en : 8 + 2 + 2 + n = 12 + n := by omega
  rw [e6] at hown6
  have hO6 := ownsRow_mono hown6 (show w.heap.size ≤ w.heap.size + 1 by omega)
  rw [en] at hO6 ⊢
  have HO6 := Lib.hid hO6
  have hB6 : Below w.heap.size w w6 := hB5.trans (hb6.mono (by omega))
  clear hown6 hb6 hg6 hat6 k5 e6 en hO6
  go_wp2
  go_ret2
  exact ⟨A6, c6, rfl, HO6.out, hB6⟩
end Go.Proofs.Ytolppdcaaoghgaa
