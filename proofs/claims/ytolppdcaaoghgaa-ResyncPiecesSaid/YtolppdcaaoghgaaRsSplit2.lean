/-
The pieces of a snapshot: the contract of the reference's Split, and both functions' errors. Conditions: lengths of at most 2^19.
-/
import Derived.Test.YtolppdcaaoghgaaRsSplit
namespace Go.Proofs.Ytolppdcaaoghgaa
set_option linter.unusedVariables false
set_option linter.unusedSimpArgs false
set_option maxRecDepth 100000
open Go.RowKit
theorem Try.infoP2 : (Try.prog.info? 35).map (fun i => (i.zero, i.size, i.bytes)) = some (some (.agg #[.int .i64 0, .int .i64 0, .int .i64 0, .slice none 0 0]), 4, 48) := by kernel_rfl
theorem appP2 {w : World} {ops : Array Oper} {rest : List Oper} {o : Oper} {a : Act} {Q : Exit → Act → World → Prop}
    (hgd : o.guard = none) (s x : Operand) (ho : o.op = .call { callee := .builtin .append, args := #[s, x], argTypes := #[30, 30] })
    {base : Nat} {V : Option Addr} {n cv : Nat} {xs : List Value} (hs : a.eval s = .slice V n cv) (hown : w.ownsRow base 35 4 (.slice V n cv) n xs)
    {B : Nat} {A : Option Addr} {m c : Nat} {news : List Value} (hx : a.eval x = .slice A m c) (hr : Reads w B 4 A m news) (h1 : ∀ u ∈ news, u.oneCell' = true)
    (hlen : n + m ≤ 1000000) (hbase : base ≤ w.heap.size)
    (h : ∀ A' c' w', w'.ownsRow base 35 4 (.slice A' (n + m) c') (n + m) (xs ++ news) → Below base w w' → w.grownBy w' (V.map (·.block)) → (A'.map (·.block) = V.map (·.block) ∨ A'.map (·.block) = some w.heap.size) → wpList Try.prog ops Q rest (a.put o.dst (.slice A' (n + m) c')) w') :
    wpList Try.prog ops Q (o :: rest) a w := by
  obtain ⟨i0, hi0, hz0, hz1, hz2⟩ := info_parts Try.infoP2
  exact wpList_app 4 48 Try.underlying30 hi0 hz0 hz1 hz2 rfl (by omega) hgd s x ho hs hown hx hr h1 (by omega) (by omega) hbase h

theorem chunk_readsA {w : World} {B n c : Nat} {A : Option Addr} {bs : List UInt8} (h : Reads w B 1 A n (bvs bs)) (hc : n ≤ c) (j m : Nat) (hj : j * 600 ≤ m) (hm : m ≤ n) (hm2 : m = n ∨ m = (j + 1) * 600) (hm3 : m ≤ (j + 1) * 600) :
    Reads w B 1 (cutA A (j * 600) c 1) (m - j * 600) (bvs (chunk bs j)) ∧ m - j * 600 = (chunk bs j).length := by
  have := chunk_reads h hc j m hj hm hm2 hm3
  unfold cutA
  simpa using this

set_option maxHeartbeats 1000000 in
theorem split2_yes (base : Int) (A : Option Addr) (n c k : Nat) (bs : List UInt8) (w : World) (hb0 : 1 ≤ base) (hb1 : base ≤ 2305843009213693952) (hn : n ≤ 524288) (hk : k = if n = 0 then 1 else (n + 599) / 600)
    (hc : n ≤ c) (hr : Reads w w.heap.size 1 A n (bvs bs)) :
    Calls Try.prog 13 #[.int .i64 base, .slice A n c] w fun e w' => ∃ A' c' xs, e = .returned (.tuple #[.slice A' k c', .int .i64 0]) ∧
      w'.ownsRow w.heap.size 35 4 (.slice A' k c') k xs ∧ Each k 4 xs (PieceR w' w.heap.size 5 base k (chunk bs)) ∧ Below w.heap.size w w' := by
  have hk2 : k ≤ 875 := by split at hk <;> omega
  have hkn : ∀ j, j < k → j * 600 ≤ n := by intro j hj; split at hk <;> omega
  have HK := Lib.hid hk
  have HKN := Lib.hid hkn
  have HR := Lib.hid hr
  clear hk hr hkn
  go_enter Try.func13, Try.ntmps13
  go_upto_region 5 with fail
  go_cut [6] (fun v wx => v = .int .i64 (((n + 599) / 600 : Nat) : Int) ∧ w = wx)
  case first =>
    go_wp2_with fail
    all_goals
      go_meet
      refine ⟨?_, rfl⟩
      congr 1
      omega
  case rest =>
    obtain ⟨rfl, rfl⟩ := hcut
    go_upto_if 26 with fail
    go_cut [6] (fun v wx => v = .int .i64 (k : Int) ∧ w = wx)
    case first =>
      by_cases h0 : n = 0
      · have t0 : (((((n + 599) / 600 : Nat) : Int)) == 0) = true := by rw [beq_iff_eq]; omega
        go_wp2_with fail
        all_goals
          go_meet
          refine ⟨?_, rfl⟩
          have := HK.out
          congr 1
          split at this <;> omega
      · have t0 : (((((n + 599) / 600 : Nat) : Int)) == 0) = false := by rw [beq_eq_false_iff_ne]; omega
        go_wp2_with fail
        all_goals
          go_meet
          refine ⟨?_, rfl⟩
          have := HK.out
          congr 1
          split at this <;> omega
    case rest =>
      obtain ⟨rfl, rfl⟩ := hcut
      go_wp2
      go_loopw [7, 8] (fun v i wr => ∃ (j : Nat) (A' : Option Addr) (c' : Nat) (xs : List Value), j ≤ k ∧ i = .int .i64 (j : Int) ∧ v = .slice A' j c' ∧ wr.ownsRow w.heap.size 35 4 (.slice A' j c') j xs ∧
        Each j 4 xs (PieceR wr w.heap.size 5 base k (chunk bs)) ∧ Below w.heap.size w wr) (fun _ i _ => k - (intOf i).toNat)
      case atStart => exact ⟨0, none, 0, [], Nat.zero_le _, rfl, rfl, World.ownsRow_nil _ _ _ _, Each.nil _ _, Below.refl _ _⟩
      case round =>
        obtain ⟨j, A', c', xs, hj, rfl, rfl, hown, heach, hb⟩ := hrel
        have HO := Lib.hid hown
        have HE := Lib.hid heach
        clear hown heach
        by_cases hlt : j < k
        · have hjn := HKN.out j hlt
          go_upto_if 40 with fail
          go_cut [10] (fun v wx => ∃ m : Nat, v = .int .i64 (m : Int) ∧ m ≤ n ∧ j * 600 ≤ m ∧ Hid (m = n ∨ m = (j + 1) * 600) ∧ m ≤ (j + 1) * 600 ∧ wr = wx)
          case first =>
            go_wp2_with fail
            · go_meet
              exact ⟨n, rfl, by omega, by omega, .inl rfl, by omega, rfl⟩
            · go_meet
              exact ⟨(j + 1) * 600, by congr 1, by omega, by omega, .inr rfl, by omega, rfl⟩
          case rest =>
            obtain ⟨m, rfl, hm1, hm2, hm3, hm4, rfl⟩ := hcut
            have hr2 := chunk_readsA ((HR.out.below hb).more hb.size) hc j m hm2 hm1 hm3.out hm4
            have HR2 := Lib.hid hr2
            clear hr2
            have hsl := fun W => midB A n c ((j : Int) * 600) m (by omega) (by omega) (by omega) W
            have e1 : ((j : Int) * 600).toNat = j * 600 := by omega
            simp only [e1, Int.toNat_natCast] at hsl
            clear e1
            go_wp2_with (at_builtin; refine stopHere ?_)
            refine goOn ?_
            refine appB rfl (.tmp 47) (.tmp 51) rfl rfl (World.ownsRow_lit wr #[] 0 (Nat.le_refl _) (Nat.zero_le _) rfl) rfl (HR2.out.1.alloc (Nat.le_refl _) _) (bvs_one _) (by omega) (by simp) ?_
            intro A3 c3 w1 hown3 hb1 hg1 hat1
            have hb1' := ((Below.refl _ _).alloc (Nat.le_refl _) _).trans hb1
            simp only [Nat.zero_add, List.nil_append] at hown3 ⊢
            have HO3 := Lib.hid hown3
            clear hown3 hg1 hat1 hb1 hsl
            go_wp2_with (at_builtin; refine stopHere ?_)
            refine goOn ?_
            have hbw1 : Below w.heap.size w w1 := hb.trans (hb1'.mono hb.size)
            have hrow := ownsRow_below HO.out hb1' (Nat.le_refl _)
            refine appP2 rfl (.tmp 43) (.tmp 54) rfl rfl (hrow.alloc _) rfl (reads_new _ _ _ 4 1 rfl) (by simp [Value.oneCell']) (by omega) (by have := hbw1.size; simp; omega) ?_
            intro A4 c4 w2 hown4 hb2 hg hat
            have hbw2 : Below w.heap.size w w2 := (hbw1.alloc hbw1.size _).trans hb2
            have heach2 : Each (j + 1) 4 (xs ++ [.int .i64 base, .int .i64 (j : Int), .int .i64 (k : Int), .slice A3 (m - j * 600) c3]) (PieceR w2 w.heap.size 5 base k (chunk bs)) := by
              refine (HE.out.mono ?_).snoc rfl ?_
              · intro i ys _ hp
                exact ((hp.below hb1' (Nat.le_refl _)).below ((Below.refl w1.heap.size _).alloc (Nat.le_refl _) (Obj.cells #[Value.int IntKind.i64 base, Value.int IntKind.i64 ↑j, Value.int IntKind.i64 ↑k, Value.slice A3 (m - j * 600) c3] 35)) (Nat.le_refl _)).other (hrow.alloc _) (by decide) hg
              · have h3 := own_other ((ownsRow_mono HO3.out hb.size).alloc (Obj.cells #[Value.int IntKind.i64 base, Value.int IntKind.i64 ↑j, Value.int IntKind.i64 ↑k, Value.slice A3 (m - j * 600) c3] 35)) (hrow.alloc _) (by decide) hg
                rw [HR2.out.2] at h3 ⊢
                exact ⟨A3, c3, rfl, h3⟩
            have HE2 := Lib.hid heach2
            have HO4 := Lib.hid hown4
            clear heach2 hb2 hg hat hown4 hrow hb1' hbw1
            go_wp2
            go_roundw
            case rel => exact ⟨j + 1, A4, c4, _, by omega, by go_num, rfl, HO4.out, HE2.out, hbw2⟩
            case measure => simp [intOf]; omega
        · obtain rfl : j = k := by omega
          go_wp2
          go_ret2
          exact ⟨A', c', xs, rfl, HO.out, HE.out, hb⟩

/-- both functions' errors -/
def splitErr (base : Int) (n : Nat) : Int := if base < 1 ∨ 2305843009213693952 < base then 1 else if 524288 < n then 3 else 0
theorem split1_no (base : Int) (A : Option Addr) (n c : Nat) (w : World) (hn : n ≤ 9223372036854775807) (h : ¬ (1 ≤ base ∧ base ≤ 2305843009213693952 ∧ n ≤ 524288)) :
    Calls Try.prog 12 #[.int .i64 base, .slice A n c] w fun e w' => e = .returned (.tuple #[.slice none 0 0, .int .i64 (splitErr base n)]) ∧ w = w' := by
  by_cases h1 : 1 ≤ base ∧ base ≤ 2305843009213693952
  · have h2 : 524288 < n := by omega
    have e : splitErr base n = 3 := by unfold splitErr; rw [if_neg (by omega), if_pos h2]
    rw [e]
    clear e
    go_enter Try.func12, Try.ntmps12
    go_wp2
    all_goals
      go_ret2
      exact ⟨rfl, rfl⟩
  · have e : splitErr base n = 1 := by unfold splitErr; rw [if_pos (by omega)]
    rw [e]
    clear e
    go_enter Try.func12, Try.ntmps12
    go_wp2
    all_goals
      go_ret2
      exact ⟨rfl, rfl⟩
theorem split2_no (base : Int) (A : Option Addr) (n c : Nat) (w : World) (hn : n ≤ 9223372036854775807) (h : ¬ (1 ≤ base ∧ base ≤ 2305843009213693952 ∧ n ≤ 524288)) :
    Calls Try.prog 13 #[.int .i64 base, .slice A n c] w fun e w' => e = .returned (.tuple #[.slice none 0 0, .int .i64 (splitErr base n)]) ∧ w = w' := by
  by_cases h1 : 1 ≤ base ∧ base ≤ 2305843009213693952
  · have h2 : 524288 < n := by omega
    have e : splitErr base n = 3 := by unfold splitErr; rw [if_neg (by omega), if_pos h2]
    rw [e]
    clear e
    go_enter Try.func13, Try.ntmps13
    go_wp2
    all_goals
      go_ret2
      exact ⟨rfl, rfl⟩
  · have e : splitErr base n = 1 := by unfold splitErr; rw [if_pos (by omega)]
    rw [e]
    clear e
    go_enter Try.func13, Try.ntmps13
    go_wp2
    all_goals
      go_ret2
      exact ⟨rfl, rfl⟩
end Go.Proofs.Ytolppdcaaoghgaa
