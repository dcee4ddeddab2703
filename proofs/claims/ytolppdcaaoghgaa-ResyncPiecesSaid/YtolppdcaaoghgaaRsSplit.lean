/-
The pieces of a snapshot: the contract of the program's Split. Conditions: lengths of at most 2^19.
-/
import Derived.Test.YtolppdcaaoghgaaLow
namespace Go.Proofs.Ytolppdcaaoghgaa
set_option linter.unusedVariables false
set_option linter.unusedSimpArgs false
set_option maxRecDepth 100000
open Go.RowKit
def PieceR (w : World) (b0 e : Nat) (base count : Int) (D : Nat → List UInt8) (i : Nat) (ys : List Value) : Prop :=
  ∃ A c, ys = [.int .i64 base, .int .i64 (i : Int), .int .i64 count, .slice A (D i).length c] ∧ w.ownsRow b0 e 1 (.slice A (D i).length c) (D i).length (bvs (D i))
theorem own_other {w w' : World} {b b' : Nat} {e e' : TypeId} {s s' n n' : Nat} {v : Value} {V : Option Addr} {c' : Nat} {xs xs' : List Value} (h : w.ownsRow b e s v n xs)
    (h2 : w.ownsRow b' e' s' (.slice V n' c') n' xs') (hne : e ≠ e') (hg : w.grownBy w' (V.map (·.block))) : w'.ownsRow b e s v n xs := by
  refine h.kept hg ?_
  rcases h2.2 with ⟨h3, _⟩ | ⟨g, cap, cur, h3, _, hh, _⟩
  · injection h3 with h3
    subst h3
    cases hv : v.ownBlock with
    | none => exact .inl rfl
    | some k => exact .inr (by simp)
  · injection h3 with h3
    subst h3
    exact .inr (own_blk_ne h (g := g) hh hne)
theorem PieceR.below {w w' : World} {b0 e B : Nat} {base count : Int} {D : Nat → List UInt8} {i : Nat} {ys : List Value} (h : PieceR w b0 e base count D i ys) (hb : Below B w w') (hB : w.heap.size ≤ B) : PieceR w' b0 e base count D i ys := by
  obtain ⟨A, c, rfl, h2⟩ := h
  exact ⟨A, c, rfl, ownsRow_below h2 hb hB⟩
theorem PieceR.other {w w' : World} {b0 e b' e' s' n' c' : Nat} {V : Option Addr} {xs' : List Value} {base count : Int} {D : Nat → List UInt8} {i : Nat} {ys : List Value} (h : PieceR w b0 e base count D i ys)
    (h2 : w.ownsRow b' e' s' (.slice V n' c') n' xs') (hne : e ≠ e') (hg : w.grownBy w' (V.map (·.block))) : PieceR w' b0 e base count D i ys := by
  obtain ⟨A, c, rfl, h3⟩ := h
  exact ⟨A, c, rfl, own_other h3 h2 hne hg⟩
theorem Try.infoP : (Try.prog.info? 37).map (fun i => (i.zero, i.size, i.bytes)) = some (some (.agg #[.int .i64 0, .int .i64 0, .int .i64 0, .slice none 0 0]), 4, 48) := by kernel_rfl
theorem appP {w : World} {ops : Array Oper} {rest : List Oper} {o : Oper} {a : Act} {Q : Exit → Act → World → Prop}
    (hgd : o.guard = none) (s x : Operand) (ho : o.op = .call { callee := .builtin .append, args := #[s, x], argTypes := #[26, 26] })
    {base : Nat} {V : Option Addr} {n cv : Nat} {xs : List Value} (hs : a.eval s = .slice V n cv) (hown : w.ownsRow base 37 4 (.slice V n cv) n xs)
    {B : Nat} {A : Option Addr} {m c : Nat} {news : List Value} (hx : a.eval x = .slice A m c) (hr : Reads w B 4 A m news) (h1 : ∀ u ∈ news, u.oneCell' = true)
    (hlen : n + m ≤ 1000000) (hbase : base ≤ w.heap.size)
    (h : ∀ A' c' w', w'.ownsRow base 37 4 (.slice A' (n + m) c') (n + m) (xs ++ news) → Below base w w' → w.grownBy w' (V.map (·.block)) → (A'.map (·.block) = V.map (·.block) ∨ A'.map (·.block) = some w.heap.size) → wpList Try.prog ops Q rest (a.put o.dst (.slice A' (n + m) c')) w') :
    wpList Try.prog ops Q (o :: rest) a w := by
  obtain ⟨i0, hi0, hz0, hz1, hz2⟩ := info_parts Try.infoP
  exact wpList_app 4 48 Try.underlying26 hi0 hz0 hz1 hz2 rfl (by omega) hgd s x ho hs hown hx hr h1 (by omega) (by omega) hbase h
def chunk (bs : List UInt8) (i : Nat) : List UInt8 := (bs.drop (600 * i)).take 600
theorem chunk_length (bs : List UInt8) (j : Nat) : (chunk bs j).length = min 600 (bs.length - 600 * j) := by simp [chunk]
theorem chunk_reads {w : World} {B n c : Nat} {A : Option Addr} {bs : List UInt8} (h : Reads w B 1 A n (bvs bs)) (hc : n ≤ c) (j m : Nat) (hj : j * 600 ≤ m) (hm : m ≤ n) (hm2 : m = n ∨ m = (j + 1) * 600) (hm3 : m ≤ (j + 1) * 600) :
    Reads w B 1 (if c = j * 600 then A else A.map (·.add (j * 600))) (m - j * 600) (bvs (chunk bs j)) ∧ m - j * 600 = (chunk bs j).length := by
  have hl : bs.length = n := by have := h.1; rw [bvs_length] at this; omega
  have h1 := h.mid hj hm hc
  have e : ((bvs bs).drop (j * 600)).take (m - j * 600) = bvs (chunk bs j) := by
    unfold chunk
    rw [bvs_take, bvs_drop, Nat.mul_comm 600 j]
    rcases hm2 with rfl | rfl
    · rw [List.take_of_length_le (by simp [bvs_length]; omega), List.take_of_length_le (by simp [bvs_length]; omega)]
    · congr 1; omega
  rw [e] at h1
  exact ⟨h1, by rw [chunk_length]; omega⟩
set_option maxHeartbeats 1000000 in
theorem split1_yes (base : Int) (A : Option Addr) (n c k : Nat) (bs : List UInt8) (w : World) (hb0 : 1 ≤ base) (hb1 : base ≤ 2305843009213693952) (hn : n ≤ 524288) (hk : k = if n = 0 then 1 else (n + 599) / 600)
    (hc : n ≤ c) (hr : Reads w w.heap.size 1 A n (bvs bs)) :
    Calls Try.prog 12 #[.int .i64 base, .slice A n c] w fun e w' => ∃ A' c' xs, e = .returned (.tuple #[.slice A' k c', .int .i64 0]) ∧
      w'.ownsRow w.heap.size 37 4 (.slice A' k c') k xs ∧ Each k 4 xs (PieceR w' w.heap.size 5 base k (chunk bs)) ∧ Below w.heap.size w w' := by
  have h1 : (k : Int) = if (n : Int) + 599 < 1200 then 1 else ((n : Int) + 599) / 600 := by
    subst hk
    split <;> split <;> omega
  have hk2 : k ≤ 875 := by omega
  have hkn : ∀ j, j < k → 600 * j ≤ n := by intro j hj; split at hk <;> omega
  have HK := Lib.hid hk
  have HKN := Lib.hid hkn
  have H1 := Lib.hid h1
  have HR := Lib.hid hr
  clear hk hr h1 hkn
  go_enter Try.func12, Try.ntmps12
  go_upto_region 5 with fail
  go_cut [6] (fun v wx => v = .int .i64 (k : Int) ∧ w = wx)
  case first =>
    go_wp2_with fail
    all_goals
      go_meet
      refine ⟨?_, rfl⟩
      have := HK.out
      congr 1
      split at this <;> omega
  case rest =>
    obtain ⟨rfl, rfl⟩ := hcut
    go_wp2
    go_loopw [7, 26] (fun v i wr => ∃ (j : Nat) (A' : Option Addr) (c' : Nat) (xs : List Value), j ≤ k ∧ i = .int .i64 (j : Int) ∧ v = .slice A' j c' ∧ wr.ownsRow w.heap.size 37 4 (.slice A' j c') j xs ∧
      Each j 4 xs (PieceR wr w.heap.size 5 base k (chunk bs)) ∧ Below w.heap.size w wr) (fun _ i _ => k - (intOf i).toNat)
    case atStart => exact ⟨0, none, 0, [], Nat.zero_le _, rfl, rfl, World.ownsRow_nil _ _ _ _, Each.nil _ _, Below.refl _ _⟩
    case round =>
      obtain ⟨j, A', c', xs, hj, rfl, rfl, hown, heach, hb⟩ := hrel
      by_cases hlt : j < k
      · have hjn := HKN.out j hlt
        have HO := Lib.hid hown
        have HE := Lib.hid heach
        clear hown heach
        go_upto_region 10 with fail
        go_cut [9] (fun v wx => wr = wx ∧ ∃ (A2 : Option Addr) (m c2 : Nat), v = .slice A2 m c2 ∧ Reads wr wr.heap.size 1 A2 m (bvs (chunk bs j)) ∧ m = (chunk bs j).length)
        case first =>
          have hrr := (HR.out.below hb).more hb.size
          have HRR := Lib.hid hrr
          clear hrr
          by_cases hcj : c = j * 600
          · subst hcj
            go_wp2_with fail
            all_goals
              go_meet
              obtain ⟨h1, h2⟩ := chunk_reads HRR.out hc j n (by omega) (by omega) (by omega) (by omega)
              rw [if_pos (by omega)] at h1
              exact ⟨rfl, _, _, _, rfl, h1, h2⟩
          · go_wp2_with fail
            all_goals
              go_meet
            · obtain ⟨h1, h2⟩ := chunk_reads HRR.out hc j n (by omega) (by omega) (by omega) (by omega)
              rw [if_neg (by omega)] at h1
              exact ⟨rfl, _, _, _, rfl, h1, h2⟩
            · have e : (((j : Int) + 1) * 600).toNat = (j + 1) * 600 := by omega
              rw [e]
              obtain ⟨h1, h2⟩ := chunk_reads HRR.out hc j ((j + 1) * 600) (by omega) (by omega) (by omega) (by omega)
              rw [if_neg (by omega)] at h1
              exact ⟨rfl, _, _, _, rfl, h1, h2⟩
        case rest =>
          obtain ⟨rfl, A2, m, c2, rfl, hr2, hm2⟩ := hcut
          have HM := Lib.hid hm2
          have HR2 := Lib.hid hr2
          have hm3 : m ≤ 600 := by rw [hm2, chunk_length]; omega
          clear hm2 hr2
          go_wp2_with fail
          refine (clone_any A2 m c2 _ _ (bvs_one _) (by omega) HR2.out).mono ?_
          rintro e w1 ⟨A3, c3, rfl, hown3, hb1⟩
          have HO3 := Lib.hid hown3
          clear hown3
          go_wp2_with (at_builtin; refine stopHere ?_)
          refine goOn ?_
          have hbw1 : Below w.heap.size w w1 := hb.trans (hb1.mono hb.size)
          have hrow := ownsRow_below HO.out hb1 (Nat.le_refl _)
          refine appP rfl (.tmp 39) (.tmp 46) rfl rfl (hrow.alloc _) rfl (reads_new _ _ _ 4 1 rfl) (by simp [Value.oneCell']) (by omega) (by have := hbw1.size; simp; omega) ?_
          intro A4 c4 w2 hown4 hb2 hg hat
          have hbw2 : Below w.heap.size w w2 := (hbw1.alloc hbw1.size _).trans hb2
          have heach2 : Each (j + 1) 4 (xs ++ [.int .i64 base, .int .i64 (j : Int), .int .i64 (k : Int), .slice A3 m c3]) (PieceR w2 w.heap.size 5 base k (chunk bs)) := by
            refine (HE.out.mono ?_).snoc rfl ?_
            · intro i ys _ hp
              exact ((hp.below hb1 (Nat.le_refl _)).below ((Below.refl w1.heap.size _).alloc (Nat.le_refl _) (Obj.cells #[Value.int IntKind.i64 base, Value.int IntKind.i64 ↑j, Value.int IntKind.i64 ↑k, Value.slice A3 m c3] 37)) (Nat.le_refl _)).other (hrow.alloc _) (by decide) hg
            · refine ⟨A3, c3, by rw [HM.out], ?_⟩
              have := HM.out
              subst this
              exact own_other ((ownsRow_mono HO3.out hb.size).alloc _) (hrow.alloc _) (by decide) hg
          have HE2 := Lib.hid heach2
          have HO4 := Lib.hid hown4
          clear hown4 heach2 hb2 hg hat hrow hb1 hbw1
          go_wp2
          go_roundw
          case rel => exact ⟨j + 1, A4, c4, _, by omega, by go_num, rfl, HO4.out, HE2.out, hbw2⟩
          case measure => simp [intOf]; omega
      · obtain rfl : j = k := by omega
        have HO := Lib.hid hown
        have HE := Lib.hid heach
        clear hown heach
        go_wp2
        go_ret2
        exact ⟨A', c', xs, rfl, HO.out, HE.out, hb⟩
end Go.Proofs.Ytolppdcaaoghgaa
