/-
Contracts of the reference's Low and Number: the bytes of a number, lowest first, and the number of at most eight bytes. Conditions: at most eight bytes.
-/
import Derived.Test.YtgnajpoebooafaaBytes
import Derived.Test.YtgnajpoebooafaaNum
namespace Go.Proofs.Ytgnajpoebooafaa
set_option linter.unusedVariables false
set_option linter.unusedSimpArgs false
open Go.RowKit
theorem lowB_step (x : Int) (j : Nat) : bvs (lowB x j) ++ [.int .u8 (IntKind.u64.wrap x / 2 ^ (8 * j) % 256)] = bvs (lowB x (j + 1)) := by
  rw [lowB_succ, bvs_append]
  simp [bvs, byteOf_toNat]

set_option maxHeartbeats 400000 in
theorem low_any (x : Int) (k : Nat) (w : World) (hk : k ≤ 8) :
    Calls Try.prog 54 #[.int .i64 x, .int .i64 (k : Int)] w fun e w' => ∃ A' c', e = .returned (.slice A' k c') ∧ w'.ownsRow w.heap.size 5 1 (.slice A' k c') k (bvs (lowB x k)) ∧ Below w.heap.size w w' := by
  go_enter Try.func54, Try.ntmps54
  go_wp2
  go_loopw [5, 6] (fun v i wr => ∃ (j : Nat) (A : Option Addr) (c : Nat), j ≤ k ∧ i = .int .i64 (j : Int) ∧ v = .slice A j c ∧ wr.ownsRow w.heap.size 5 1 (.slice A j c) j (bvs (lowB x j)) ∧ Below w.heap.size w wr) (fun _ i _ => k - (intOf i).toNat)
  case atStart => exact ⟨0, none, 0, Nat.zero_le _, rfl, rfl, World.ownsRow_nil _ _ _ _, Below.refl _ _⟩
  case round =>
    obtain ⟨j, A, c, hj, rfl, rfl, hown, hb⟩ := hrel
    by_cases hlt : j < k
    · go_wp2_with (at_builtin; refine stopHere ?_)
      refine goOn ?_
      refine appB rfl (.tmp 12) (.tmp 19) rfl rfl (hown.alloc _) rfl (reads_new _ _ _ 1 1 rfl) (by simp [Value.oneCell']) (by omega) (by have := hb.size; simp; omega) ?_
      intro A' c' w1 hown1 hb1 hg hat
      clear hg hat
      have hb2 := (hb.alloc hb.size _).trans hb1
      have hown2 := lowB_step x j ▸ hown1
      clear hown1 hb1 hown hb
      go_wp2
      go_roundw
      case rel => exact ⟨j + 1, A', c', by omega, by go_num, rfl, hown2, hb2⟩
      case measure => simp [intOf]; omega
    · obtain rfl : j = k := by omega
      go_wp2
      go_ret
      exact ⟨A, c, rfl, hown, hb⟩

set_option maxHeartbeats 400000 in
theorem num_any (A : Option Addr) (k c : Nat) (bs : List UInt8) (w : World) (hk : k ≤ 8) (hr : Reads w w.heap.size 1 A k (bvs bs)) :
    Calls Try.prog 58 #[.slice A k c] w fun e w' => e = .returned (.int .i64 (numI bs)) ∧ w = w' := by
  have hl : bs.length = k := by have := hr.1; rw [bvs_length] at this; omega
  have HL := Lib.hid hl
  have H := Lib.hid hr
  clear hr hl
  go_enter Try.func58, Try.ntmps58
  go_wp2
  go_loop [3, 8] (fun x i => ∃ (j : Nat), j ≤ k ∧ i = .int .i64 (j : Int) ∧ x = .int .u64 (numN (bs.take j) : Int)) (fun _ i => k - (intOf i).toNat)
  case atStart => exact ⟨0, Nat.zero_le _, rfl, rfl⟩
  case round =>
    obtain ⟨j, hj, rfl, rfl⟩ := hrel
    by_cases hlt : j < k
    · obtain ⟨ad, rfl, hbl, hcell⟩ := H.out.byte hlt
      have hat := at8_lt bs j
      have hor := or_step bs j (by have := HL.out; omega) (by have := HL.out; omega)
      go_wp2
      go_round
      case rel => exact ⟨j + 1, by omega, by go_num, rfl⟩
      case measure => simp [intOf]; omega
    · obtain rfl : j = k := by omega
      go_wp2
      go_ret
      have e : bs.take j = bs := List.take_of_length_le (by have := HL.out; omega)
      rw [e]
      exact ⟨rfl, rfl⟩
end Go.Proofs.Ytgnajpoebooafaa
