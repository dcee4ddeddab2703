/-
Numbers put into bytes and got out of them: the contracts of the program's put and get. Conditions: at most eight bytes.
-/
import Derived.Test.YtgnajpoebooafaaWords3
namespace Go.Proofs.Ytgnajpoebooafaa
set_option linter.unusedVariables false
set_option linter.unusedSimpArgs false
set_option maxRecDepth 100000
open Go.RowKit
/-- A' begins in A's block, or in one that is not older than N -/
def OkRow (N : Nat) (A A' : Option Addr) : Prop := A'.map (·.block) = A.map (·.block) ∨ ∃ g, A'.map (·.block) = some g ∧ N ≤ g
theorem OkRow.refl (N : Nat) (A : Option Addr) : OkRow N A A := .inl rfl
theorem OkRow.step {N M : Nat} {A A1 A2 : Option Addr} (h : OkRow N A A1) (h2 : A2.map (·.block) = A1.map (·.block) ∨ A2.map (·.block) = some M) (hM : N ≤ M) : OkRow N A A2 := by
  rcases h2 with h2 | h2
  · unfold OkRow at *; rw [h2]; exact h
  · exact .inr ⟨M, h2, hM⟩
theorem OkRow.trans {N M : Nat} {A A1 A2 : Option Addr} (h : OkRow N A A1) (h2 : OkRow M A1 A2) (hM : N ≤ M) : OkRow N A A2 := by
  rcases h2 with h2 | ⟨g, h2, h3⟩
  · unfold OkRow at *; rw [h2]; exact h
  · exact .inr ⟨g, h2, by omega⟩
/-- chains of worlds that grow by one row -/
theorem grown_chain {w w1 w2 : World} {A A1 : Option Addr} (h1 : w.grownBy w1 (A.map (·.block))) (h2 : w1.grownBy w2 (A1.map (·.block))) (hr : OkRow w.heap.size A A1) : w.grownBy w2 (A.map (·.block)) :=
  ⟨h2.os.trans h1.os, h2.tape.trans h1.tape, h2.output.trans h1.output, Nat.le_trans h1.size h2.size, fun i hi hne => (h2.block i (Nat.lt_of_lt_of_le hi h1.size) (by
    rcases hr with hr | ⟨g, hr, hg⟩
    · rw [hr]; exact hne
    · rw [hr]; intro e; injection e with e; omega)).trans (h1.block i hi hne)⟩
theorem grown_below {w w' : World} {base : Nat} {e : TypeId} {size n c : Nat} {V : Option Addr} {xs : List Value} (hown : w.ownsRow base e size (.slice V n c) n xs) (hb : base ≤ w.heap.size) (hg : w.grownBy w' (V.map (·.block))) : Below base w w' := by
  refine (Below.refl _ _).grown hg hb ?_
  intro k hk
  exact (hown.lt k (by rw [ownBlock_slice]; exact hk)).1
set_option maxHeartbeats 400000 in
theorem put_any (base : Nat) (A : Option Addr) (n c : Nat) (xs : List Value) (x : Int) (k : Nat) (w : World) (hx : I64 x) (hk : k ≤ 8) (hn : n ≤ 1000000) (hbase : base ≤ w.heap.size) (hown : w.ownsRow base 5 1 (.slice A n c) n xs) :
    Calls Try.prog 53 #[.slice A n c, .int .i64 x, .int .i64 (k : Int)] w fun e w' => ∃ A' c', e = .returned (.slice A' (n + k) c') ∧ w'.ownsRow base 5 1 (.slice A' (n + k) c') (n + k) (xs ++ bvs (lowB x k)) ∧ w.grownBy w' (A.map (·.block)) ∧ OkRow w.heap.size A A' := by
  unfold I64 at hx
  obtain ⟨hx0, hx1⟩ := hx
  have HO := Lib.hid hown
  clear hown
  go_enter Try.func53, Try.ntmps53
  go_wp2
  go_loopw [0, 9] (fun v i wr => ∃ (j : Nat) (A1 : Option Addr) (c1 : Nat), j ≤ k ∧ i = .int .i64 (j : Int) ∧ v = .slice A1 (n + j) c1 ∧ wr.ownsRow base 5 1 (.slice A1 (n + j) c1) (n + j) (xs ++ bvs (lowB x j)) ∧ w.grownBy wr (A.map (·.block)) ∧ OkRow w.heap.size A A1) (fun _ i _ => k - (intOf i).toNat)
  case atStart => exact ⟨0, A, c, Nat.zero_le _, rfl, rfl, by simpa [lowB, bvs] using HO.out, World.grownBy.refl w _, OkRow.refl _ _⟩
  case round =>
    obtain ⟨j, A1, c1, hj, rfl, rfl, hown, hg, hat⟩ := hrel
    have HO1 := Lib.hid hown
    have HA1 := Lib.hid hat
    clear hown hat
    by_cases hlt : j < k
    · go_wp2_with (at_builtin; refine stopHere ?_)
      refine goOn ?_
      refine appB rfl (.tmp 12) (.tmp 18) rfl rfl (HO1.out.alloc _) rfl (reads_new _ _ _ 1 1 rfl) (by simp [Value.oneCell']) (by omega) (by have := hg.size; simp; omega) ?_
      intro A' c' w1 hown1 hb1 hg1 hat1
      rw [sar_byte x j (by omega), List.append_assoc, lowB_step] at hown1
      have HO2 := Lib.hid hown1
      have HG2 := Lib.hid (grown_chain (only_alloc hg _) hg1 HA1.out)
      have HA2 := Lib.hid (HA1.out.step hat1 (by have := hg.size; simp; omega))
      clear hown1 hb1 hg1 hat1 HO1
      go_wp2
      go_roundw
      case rel => exact ⟨j + 1, A', c', by omega, by go_num, rfl, HO2.out, HG2.out, HA2.out⟩
      case measure => simp [intOf]; omega
    · obtain rfl : j = k := by omega
      go_wp2
      go_ret
      exact ⟨A1, c1, rfl, HO1.out, hg, HA1.out⟩
set_option maxHeartbeats 400000 in
theorem get_any (A : Option Addr) (n k c : Nat) (bs : List UInt8) (w : World) (hk : k ≤ 8) (hkn : k ≤ n) (hn : n ≤ 1000000) (hr : Reads w w.heap.size 1 A n (bvs bs)) :
    Calls Try.prog 55 #[.slice A n c, .int .i64 (k : Int)] w fun e w' => e = .returned (.int .i64 (numI (bs.take k))) ∧ w = w' := by
  have hl : bs.length = n := by have := hr.1; rw [bvs_length] at this; omega
  have HL := Lib.hid hl
  have H := Lib.hid hr
  clear hr hl
  go_enter Try.func55, Try.ntmps55
  go_wp2
  go_loop [5, 8] (fun x i => ∃ (j : Nat), j ≤ k ∧ i = .int .i64 (j : Int) ∧ x = .int .u64 (numN (bs.take j) : Int)) (fun _ i => k - (intOf i).toNat)
  case atStart => exact ⟨0, Nat.zero_le _, rfl, rfl⟩
  case round =>
    obtain ⟨j, hj, rfl, rfl⟩ := hrel
    by_cases hlt : j < k
    · obtain ⟨ad, rfl, hbl, hcell⟩ := H.out.byte (show j < n by omega)
      have hjn : (j : Int) < (n : Int) := by omega
      have hat := at8_lt bs j
      have hor := or_step (bs.take k) j (by rw [List.length_take]; have := HL.out; omega) (by rw [List.length_take]; omega)
      have e1 : at8 (bs.take k) j = at8 bs j := by simp [at8, List.getD, List.getElem?_take, hlt]
      rw [e1, List.take_take, List.take_take, Nat.min_eq_left (by omega), Nat.min_eq_left (by omega)] at hor
      clear e1
      go_wp2
      go_round
      case rel => exact ⟨j + 1, by omega, by go_num, rfl⟩
      case measure => simp [intOf]; omega
    · obtain rfl : j = k := by omega
      go_wp2
      go_ret
      exact ⟨rfl, rfl⟩
end Go.Proofs.Ytgnajpoebooafaa
