/-
The payload of a piece, read: the contracts of both Decode. Conditions: lengths of at most 2^46.
-/
import Derived.Test.YtolppdcaaoghgaaRsCode
import Derived.Test.YtolppdcaaoghgaaWords3
namespace Go.Proofs.Ytolppdcaaoghgaa
set_option linter.unusedVariables false
set_option linter.unusedSimpArgs false
set_option maxRecDepth 100000
open Go.RowKit
theorem decode1_short (A : Option Addr) (n c : Nat) (w : World) (hn : n < 12) :
    Calls Try.prog 26 #[.slice A n c] w fun e w' => e = .returned (.tuple #[.agg #[.int .i64 0, .int .i64 0, .int .i64 0, .slice none 0 0], .int .i64 4]) ∧ Below w.heap.size w w' := by
  go_enter Try.func26, Try.ntmps26
  go_wp2
  refine bodyPost_ret (v := .tuple #[.agg #[.int .i64 0, .int .i64 0, .int .i64 0, .slice none 0 0], .int .i64 4]) (by simp [results, Try.results26, go_sem]) rfl ⟨rfl, by go_grown⟩
theorem decode2_short (A : Option Addr) (n c : Nat) (w : World) (hn : n < 12) :
    Calls Try.prog 27 #[.slice A n c] w fun e w' => e = .returned (.tuple #[.agg #[.int .i64 0, .int .i64 0, .int .i64 0, .slice none 0 0], .int .i64 4]) ∧ Below w.heap.size w w' := by
  go_enter Try.func27, Try.ntmps27
  go_wp2
  refine bodyPost_ret (v := .tuple #[.agg #[.int .i64 0, .int .i64 0, .int .i64 0, .slice none 0 0], .int .i64 4]) (by simp [results, Try.results27, go_sem]) rfl ⟨rfl, by go_grown⟩

/-- the numbers and the bytes of a payload -/
def dB (l : List UInt8) : Int := numI (l.take 8)
def dI (l : List UInt8) : Int := at8 l 8 + at8 l 9 * 256
def DecPost (w : World) (l : List UInt8) (n : Nat) (e : Ending) (w' : World) : Prop :=
  (vP (numI (l.take 8)) (at8 l 8 + at8 l 9 * 256) (at8 l 10 + at8 l 11 * 256) (n - 12) = true → ∃ A c, e = .returned (.tuple #[.agg #[.int .i64 (numI (l.take 8)), .int .i64 (at8 l 8 + at8 l 9 * 256), .int .i64 (at8 l 10 + at8 l 11 * 256), .slice A (n - 12) c], .int .i64 0]) ∧ w'.ownsRow w.heap.size 5 1 (.slice A (n - 12) c) (n - 12) (bvs (l.drop 12))) ∧
  (vP (numI (l.take 8)) (at8 l 8 + at8 l 9 * 256) (at8 l 10 + at8 l 11 * 256) (n - 12) = false → e = .returned (.tuple #[.agg #[.int .i64 0, .int .i64 0, .int .i64 0, .slice none 0 0], .int .i64 4])) ∧ Below w.heap.size w w'
def dC (l : List UInt8) : Int := at8 l 10 + at8 l 11 * 256

theorem set4 {W0 w : World} {a b c d : Value} (h : Below W0.heap.size W0 w) : Below W0.heap.size W0 ((((w.setCell ⟨W0.heap.size, 0, none⟩ a).setCell ⟨W0.heap.size, 1, none⟩ b).setCell ⟨W0.heap.size, 2, none⟩ c).setCell ⟨W0.heap.size, 3, none⟩ d) :=
  (((h.setCell (Nat.le_refl _) _).setCell (Nat.le_refl _) _).setCell (Nat.le_refl _) _).setCell (Nat.le_refl _) _
theorem ofInt_wrap64 (a : Int) : BitVec.ofInt 64 (wrap64 a) = BitVec.ofInt 64 a := by
  apply BitVec.eq_of_toNat_eq
  rw [BitVec.toNat_ofInt, BitVec.toNat_ofInt]
  congr 1
  unfold wrap64
  omega
theorem bits_or_i64 (a b : Int) : bits .or .i64 (wrap64 a) (wrap64 b) = wrap64 (bits .or .u64 a b) := by
  show IntKind.i64.wrap ((BitVec.ofInt 64 (wrap64 a) ||| BitVec.ofInt 64 (wrap64 b)).toNat : Int) = wrap64 (IntKind.u64.wrap ((BitVec.ofInt 64 a ||| BitVec.ofInt 64 b).toNat : Int))
  rw [ofInt_wrap64, ofInt_wrap64, IntWalk.i64_left, IntKind.wrap_u64]
  have := (BitVec.ofInt 64 a ||| BitVec.ofInt 64 b).isLt
  rw [Int.emod_eq_of_lt (by omega) (by omega)]
theorem or_step_i64 (l : List UInt8) (j : Nat) (hj : j < 8) (h8 : 8 ≤ l.length) :
    bits .or .i64 (numI (l.take j)) (wrap64 (IntKind.u64.wrap (at8 l j * 2 ^ (8 * j)))) = numI (l.take (j + 1)) := by
  unfold numI
  rw [bits_or_i64]
  have h := or_step (l.take 8) j (by rw [List.length_take]; omega) (by rw [List.length_take]; omega)
  rw [List.take_take, List.take_take, Nat.min_eq_left (by omega), Nat.min_eq_left (by omega)] at h
  have e : at8 (l.take 8) j = at8 l j := by simp [at8, List.getD, List.getElem?_take, hj]
  rw [e] at h
  rw [h]
theorem wrap2 (a b : Int) (h0 : 0 ≤ a) (h1 : a < 256) (h2 : 0 ≤ b) (h3 : b < 256) : IntKind.i64.wrap (IntKind.i64.wrap a + IntKind.i64.wrap (IntKind.i64.wrap b * 256)) = a + b * 256 := by
  rw [IntWalk.i64_in a (by omega), IntWalk.i64_in b (by omega), IntWalk.i64_in (b * 256) (by omega), IntWalk.i64_in (a + b * 256) (by omega)]

set_option maxHeartbeats 2000000 in
theorem decode1_long (A : Option Addr) (n c : Nat) (l : List UInt8) (w : World) (hn : 12 ≤ n) (hn2 : n ≤ 1000000) (hc : n ≤ c) (hr : Reads w w.heap.size 1 A n (bvs l)) :
    Calls Try.prog 26 #[.slice A n c] w (DecPost w l n) := by
  obtain ⟨ad, rfl, hbl, q8⟩ := hr.byte (k := 8) (by omega)
  obtain ⟨_, e9, -, q9⟩ := hr.byte (k := 9) (by omega)
  obtain ⟨_, e10, -, q10⟩ := hr.byte (k := 10) (by omega)
  obtain ⟨_, e11, -, q11⟩ := hr.byte (k := 11) (by omega)
  injection e9 with e9
  injection e10 with e10
  injection e11 with e11
  subst e9 e10 e11
  have t8 := at8_lt l 8
  have t9 := at8_lt l 9
  have t10 := at8_lt l 10
  have t11 := at8_lt l 11
  have HR := Lib.hid hr
  clear hr
  have hsl : ∀ W, (Instr.sliceAt 22 (.slice (some ad) n c) (some (.int .i64 12)) none none).run Try.prog W = .ok (.slice (cutA (some ad) 12 c 1) (n - 12) (c - 12)) W := fun W => fromB (some ad) n c 12 (by omega) (by omega) W
  go_enter Try.func26, Try.ntmps26
  go_upto_region 3 with fail
  have z1 : Blk (w.alloc (.cells #[.int .i64 0, .int .i64 0, .int .i64 0, .slice none 0 0] 37)) w.heap.size 37 #[.int .i64 0, .int .i64 0, .int .i64 0, .slice none 0 0] := Blk.new _ _ _
  have hB0 : Below w.heap.size w (w.alloc (.cells #[.int .i64 0, .int .i64 0, .int .i64 0, .slice none 0 0] 37)) := Ba (Below.refl _ _)
  have hz0 : (w.alloc (.cells #[.int .i64 0, .int .i64 0, .int .i64 0, .slice none 0 0] 37)).heap.size = w.heap.size + 1 := by simp
  generalize w.alloc (.cells #[.int .i64 0, .int .i64 0, .int .i64 0, .slice none 0 0] 37) = W0 at *
  have p8 : W0.cell? ⟨ad.block, ad.off + 8, none⟩ = some (.int .u8 (at8 l 8)) := (hB0.cell (p := ad.add 8) (by rw [block_of_add]; exact hbl)).trans q8
  have i8 : (8 : Int) < (n : Int) := by omega
  have p9 : W0.cell? ⟨ad.block, ad.off + 9, none⟩ = some (.int .u8 (at8 l 9)) := (hB0.cell (p := ad.add 9) (by rw [block_of_add]; exact hbl)).trans q9
  have i9 : (9 : Int) < (n : Int) := by omega
  have p10 : W0.cell? ⟨ad.block, ad.off + 10, none⟩ = some (.int .u8 (at8 l 10)) := (hB0.cell (p := ad.add 10) (by rw [block_of_add]; exact hbl)).trans q10
  have i10 : (10 : Int) < (n : Int) := by omega
  have p11 : W0.cell? ⟨ad.block, ad.off + 11, none⟩ = some (.int .u8 (at8 l 11)) := (hB0.cell (p := ad.add 11) (by rw [block_of_add]; exact hbl)).trans q11
  have i11 : (11 : Int) < (n : Int) := by omega
  have HR0 := Lib.hid ((HR.out.below hB0).more hB0.size)
  have HZ0 := Lib.hid hz0
  have hll : l.length = n := by have := HR0.out.1; rw [bvs_length] at this; omega
  have hA := Reads.midA HR0.out (k := 12) (m := n) (cap := c) (by omega) (by omega) (by omega)
  rw [← bvs_drop, ← bvs_take, List.take_of_length_le (by rw [List.length_drop]; omega)] at hA
  have HA := Lib.hid hA
  have HLL := Lib.hid hll
  clear hA hll
  clear q8 q9 q10 q11 hz0
  have hd : Below W0.heap.size W0 W0.drew := (Below.refl _ _).drew
  have hblt : ad.block < W0.heap.size := by have := hB0.size; omega
  have mk : ∀ w' : World, Below W0.heap.size W0 w' → (w'.cell? ⟨ad.block, ad.off + 8, none⟩ = some (.int .u8 (at8 l 8)) ∧ w'.cell? ⟨ad.block, ad.off + 9, none⟩ = some (.int .u8 (at8 l 9)) ∧ w'.cell? ⟨ad.block, ad.off + 10, none⟩ = some (.int .u8 (at8 l 10)) ∧ w'.cell? ⟨ad.block, ad.off + 11, none⟩ = some (.int .u8 (at8 l 11))) ∧ Below W0.heap.size W0 w' :=
    fun w' h => ⟨⟨(h.cell (p := ⟨ad.block, ad.off + 8, none⟩) hblt).trans p8, (h.cell (p := ⟨ad.block, ad.off + 9, none⟩) hblt).trans p9, (h.cell (p := ⟨ad.block, ad.off + 10, none⟩) hblt).trans p10, (h.cell (p := ⟨ad.block, ad.off + 11, none⟩) hblt).trans p11⟩, h⟩
  have MK := Lib.hid mk
  clear mk
  have eI : IntKind.i64.wrap (IntKind.i64.wrap (at8 l 8) + IntKind.i64.wrap (IntKind.i64.wrap (at8 l 9) * 256)) = dI l := wrap2 _ _ t8.1 t8.2 t9.1 t9.2
  have eC : IntKind.i64.wrap (IntKind.i64.wrap (at8 l 10) + IntKind.i64.wrap (IntKind.i64.wrap (at8 l 11) * 256)) = dC l := wrap2 _ _ t10.1 t10.2 t11.1 t11.2
  have EI := Lib.hid eI
  have EC := Lib.hid eC
  clear eI eC
  go_cut [4] (fun v wx => ∃ (g : Nat) (A3 : Option Addr) (c3 : Nat), v = .pointer (some ⟨g, 0, none⟩) ∧ Blk wx g 37 #[.int .i64 0, .int .i64 (dI l), .int .i64 (dC l), .slice A3 (n - 12) c3] ∧ W0.heap.size ≤ g ∧
    wx.ownsRow W0.heap.size 5 1 (.slice A3 (n - 12) c3) (n - 12) (bvs (l.drop 12)) ∧ Below W0.heap.size W0 wx)
  case first =>
    go_region_held3 (fun w' => (w'.cell? ⟨ad.block, ad.off + 8, none⟩ = some (.int .u8 (at8 l 8)) ∧ w'.cell? ⟨ad.block, ad.off + 9, none⟩ = some (.int .u8 (at8 l 9)) ∧ w'.cell? ⟨ad.block, ad.off + 10, none⟩ = some (.int .u8 (at8 l 10)) ∧ w'.cell? ⟨ad.block, ad.off + 11, none⟩ = some (.int .u8 (at8 l 11))) ∧ Below W0.heap.size W0 w')
      (first
        | with_reducible exact MK.out _ hd
        | with_reducible exact MK.out _ (Bt (And.right ‹(_ ∧ _) ∧ Below _ _ _›) hb3)
        | with_reducible exact MK.out _ (Ba (And.right ‹(_ ∧ _) ∧ Below _ _ _›))
        | exact MK.out _ (set4 (And.right ‹(_ ∧ _) ∧ Below _ _ _›))
        | with_reducible exact MK.out _ (swapA (And.right ‹(_ ∧ _) ∧ Below _ _ _›) hz4))
      (first
        | (go_at_call 42; rcases ‹(_ ∧ _) ∧ _› with ⟨⟨s0, s1, s2, s3⟩, sB⟩; refine (clone_any _ _ _ _ _ (bvs_one _) (by omega) ((HA.out.below sB).more sB.size)).mono ?_; rintro e w3 ⟨A3, c3, rfl, hown3, hb3⟩; have hz4 : W0.heap.size ≤ w3.heap.size := Nat.le_trans sB.size hb3.size; obtain ⟨hc3, hf3, hz3⟩ := bcell hb3; have HO3 := Lib.hid hown3; clear hown3; try simp at hz3))
    all_goals
      go_wp2_with fail
      go_meet
    · have hB3 := And.right ‹(_ ∧ _) ∧ Below _ _ (w3.alloc _)›
      rw [EI.out, EC.out] at hB3 ⊢
      exact ⟨w3.heap.size, A3, c3, rfl, Blk.new _ _ _, hz3, HO3.out.alloc _, hB3⟩
    · have hB3 := And.right ‹(_ ∧ _) ∧ Below _ _ (World.setCell _ _ _)›
      rw [EI.out, EC.out] at hB3 ⊢
      have b1 : Blk w3 W0.heap.size 37 #[.int .i64 0, .int .i64 0, .int .i64 0, .slice none 0 0] := Blk.below (Blk.new W0.drew _ _) hb3 (by simp)
      exact ⟨W0.heap.size, A3, c3, rfl, (((b1.set_ 0 _).set_ 1 _).set_ 2 _).set_ 3 _, Nat.le_refl _,
        own_setCell (own_setCell (own_setCell (own_setCell (ownsRow_mono HO3.out (by simp)) b1 (by decide) 0 _) (b1.set_ 0 _) (by decide) 1 _) ((b1.set_ 0 _).set_ 1 _) (by decide) 2 _) (((b1.set_ 0 _).set_ 1 _).set_ 2 _) (by decide) 3 _, hB3⟩
  case rest =>
    obtain ⟨g, A3, c3, rfl, hblk, hg0, hown, hB⟩ := hcut
    have HO := Lib.hid hown
    clear hown EI EC hsl MK
    go_wp2
    go_loopw [34] (fun q wr => ∃ j : Nat, j ≤ 8 ∧ q = .int .i64 (j : Int) ∧ Blk wr g 37 #[.int .i64 (numI (l.take j)), .int .i64 (dI l), .int .i64 (dC l), .slice A3 (n - 12) c3] ∧ wr.ownsRow W0.heap.size 5 1 (.slice A3 (n - 12) c3) (n - 12) (bvs (l.drop 12)) ∧ Below W0.heap.size W0 wr) (fun q _ => 8 - (intOf q).toNat)
    case atStart => exact ⟨0, by omega, rfl, by simpa [numI, numN, wrap64] using hblk, HO.out, hB⟩
    case round =>
      obtain ⟨j, hj, rfl, hbk, hown, hbw⟩ := hrel
      have HO3 := Lib.hid hown
      clear hown HO hblk hB
      have hglt := hbk.lt
      have kc := hbk.cell
      have kf := hbk.frozen
      have hat := at8_lt l j
      by_cases hlt : j < 8
      · obtain ⟨_, e1, -, kb⟩ := ((HR0.out.below hbw).more hbw.size).byte (k := j) (by omega)
        injection e1 with e1
        subst e1
        have hj1 : (j : Int) < (n : Int) := by omega
        have hor := or_step_i64 l j hlt (by have := HLL.out; omega)
        go_wp2
        go_region
        go_wp2
        go_roundw
        case rel =>
          refine ⟨j + 1, by omega, by go_num, ?_, own_setCell HO3.out hbk (by decide) 0 _, Below.drew (Below.setCell hbw (p := ⟨g, 0, none⟩) hg0 _)⟩
          have hset := hbk.set_ 0 (.int .i64 (numI (l.take (j + 1))))
          simp at hset
          exact hset
        case measure => simp [intOf]; omega
      · obtain rfl : j = 8 := by omega
        have k0 := hbk.cell 0
        have k1 := hbk.cell 1
        have k2 := hbk.cell 2
        have k3 := hbk.cell 3
        go_wp2_with fail
        refine (valid_any _ _ _ _ _ _ _ (by omega)).mono ?_
        rintro e w4 ⟨rfl, hb4⟩
        have hbk4 := hbk.below hb4 hglt
        have HO4 := Lib.hid (ownsRow_below HO3.out hb4 (Nat.le_refl _))
        have hz4 : w.heap.size < w4.heap.size := by have := hb4.size; have := HZ0.out; have := hbw.size; omega
        have z4 := (z1.below (hbw.trans (hb4.mono hbw.size)) (by have := HZ0.out; omega))
        have hB4 := Lib.hid (Bt (Bt hB0 hbw) hb4)
        have c4 := hbk4.cell
        have d4 := z4.cell
        have f4 := z4.frozen
        have FIN := Lib.hid (show ∀ b : Bool, vP (numI (l.take 8)) (dI l) (dC l) (n - 12) = b → vP (numI (l.take 8)) (at8 l 8 + at8 l 9 * 256) (at8 l 10 + at8 l 11 * 256) (n - 12) = b from fun b h => h)
        clear k0 k1 k2 k3 kc kf hb4 hbk
        cases hv : vP (numI (l.take 8)) (dI l) (dC l) (n - 12) with
        | false =>
          have F1 := Lib.hid (FIN.out _ hv)
          go_wp2
          have s0 : _ = some (Value.int .i64 0) := ((z4.set_ 0 (.int .i64 0)).cell 0).trans (by simp)
          have s1 : _ = some (Value.int .i64 0) := (((z4.set_ 0 (.int .i64 0)).set_ 1 (.int .i64 0)).cell 1).trans (by simp)
          have s2 : _ = some (Value.int .i64 0) := ((((z4.set_ 0 (.int .i64 0)).set_ 1 (.int .i64 0)).set_ 2 (.int .i64 0)).cell 2).trans (by simp)
          have s3 : _ = some (Value.slice none 0 0) := (((((z4.set_ 0 (.int .i64 0)).set_ 1 (.int .i64 0)).set_ 2 (.int .i64 0)).set_ 3 (.slice none 0 0)).cell 3).trans (by simp)
          refine bodyPost_ret (v := .tuple #[.agg #[.int .i64 0, .int .i64 0, .int .i64 0, .slice none 0 0], .int .i64 4]) (by simp [results, Try.results26, go_sem, s0, s1, s2, s3]) rfl ?_
          refine ⟨fun h => absurd (h.symm.trans F1.out) (by decide), fun _ => rfl, ?_⟩
          exact set4 hB4.out
        | true =>
          have F1 := Lib.hid (FIN.out _ hv)
          go_wp2
          have s0 : _ = some (Value.int .i64 (numI (l.take 8))) := ((z4.set_ 0 (.int .i64 (numI (l.take 8)))).cell 0).trans (by simp)
          have s1 : _ = some (Value.int .i64 (dI l)) := (((z4.set_ 0 (.int .i64 (numI (l.take 8)))).set_ 1 (.int .i64 (dI l))).cell 1).trans (by simp)
          have s2 : _ = some (Value.int .i64 (dC l)) := ((((z4.set_ 0 (.int .i64 (numI (l.take 8)))).set_ 1 (.int .i64 (dI l))).set_ 2 (.int .i64 (dC l))).cell 2).trans (by simp)
          have s3 : _ = some (Value.slice A3 (n - 12) c3) := (((((z4.set_ 0 (.int .i64 (numI (l.take 8)))).set_ 1 (.int .i64 (dI l))).set_ 2 (.int .i64 (dC l))).set_ 3 (.slice A3 (n - 12) c3)).cell 3).trans (by simp)
          refine bodyPost_ret (v := .tuple #[.agg #[.int .i64 (numI (l.take 8)), .int .i64 (dI l), .int .i64 (dC l), .slice A3 (n - 12) c3], .int .i64 0]) (by simp [results, Try.results26, go_sem, s0, s1, s2, s3]) rfl ?_
          refine ⟨fun _ => ⟨A3, c3, rfl, ?_⟩, fun h => absurd (h.symm.trans F1.out) (by decide), ?_⟩
          · have o1 := ownsRow_mono HO4.out (show w.heap.size ≤ W0.heap.size by have := HZ0.out; omega)
            exact own_setCell (own_setCell (own_setCell (own_setCell o1 z4 (by decide) 0 _) (z4.set_ 0 _) (by decide) 1 _) ((z4.set_ 0 _).set_ 1 _) (by decide) 2 _) (((z4.set_ 0 _).set_ 1 _).set_ 2 _) (by decide) 3 _
          · exact set4 hB4.out
end Go.Proofs.Ytolppdcaaoghgaa
