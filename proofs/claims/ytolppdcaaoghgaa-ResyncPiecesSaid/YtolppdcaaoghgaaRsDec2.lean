/-
The payload of a piece, read by the reference: the contract of its Decode. Conditions: lengths of at most 1000000.
-/
import Derived.Test.YtolppdcaaoghgaaRsDec
import Derived.Test.YtolppdcaaoghgaaWords3
import Derived.Deep.DrawnRows
namespace Go.Proofs.Ytolppdcaaoghgaa
set_option linter.unusedVariables false
set_option linter.unusedSimpArgs false
set_option maxRecDepth 100000
open Go.RowKit
attribute [local go_sem ↓] Go.wp_at_zero Go.wp_at_succ
theorem numI2 (l : List UInt8) (k : Nat) (h : k + 2 ≤ l.length) : numI ((l.drop k).take 2) = at8 l k + at8 l (k + 1) * 256 := by
  have h0 : (l.drop k).take 2 = [l[k], l[k+1]] := by
    rw [List.drop_eq_getElem_cons (by omega), List.drop_eq_getElem_cons (by omega)]; rfl
  rw [h0]
  unfold numI numN numN numN at8
  simp only [List.getD, List.getElem?_eq_getElem (show k < l.length by omega), List.getElem?_eq_getElem (show k + 1 < l.length by omega), Option.getD_some]
  have := (l[k]).toNat_lt
  have := (l[k+1]).toNat_lt
  unfold wrap64
  omega
set_option maxHeartbeats 16000000 in
theorem decode2_long (A : Option Addr) (n c : Nat) (l : List UInt8) (w : World) (hn : 12 ≤ n) (hn2 : n ≤ 1000000) (hc : n ≤ c) (hr : Reads w w.heap.size 1 A n (bvs l)) :
    Calls Try.prog 27 #[.slice A n c] w (DecPost w l n) := by
  have hll : l.length = n := by have := hr.1; rw [bvs_length] at this; omega
  have r0 := hr.take (k := 8) (by omega)
  have r1 := hr.midA (k := 8) (m := 10) (cap := c) (by omega) (by omega) hc
  have r2 := hr.midA (k := 10) (m := 12) (cap := c) (by omega) (by omega) hc
  have r3 := hr.midA (k := 12) (m := n) (cap := c) (by omega) (by omega) hc
  rw [Nat.mul_one, ← bvs_take] at r0
  rw [← bvs_drop, ← bvs_take] at r1 r2 r3
  rw [List.take_of_length_le (by rw [List.length_drop]; omega)] at r3
  have e1 := numI2 l 8 (by omega)
  have e2 := numI2 l 10 (by omega)
  have R0 := Lib.hid r0
  have R1 := Lib.hid (p := Reads w w.heap.size 1 (cutA A 8 c 1) 2 (bvs ((l.drop 8).take 2))) r1
  have R2 := Lib.hid (p := Reads w w.heap.size 1 (cutA A 10 c 1) 2 (bvs ((l.drop 10).take 2))) r2
  have R3 := Lib.hid r3
  have E1 := Lib.hid e1
  have E2 := Lib.hid e2
  have HL := Lib.hid hll
  clear r0 r1 r2 r3 e1 e2 hr hll
  have s0 : ∀ W, (Instr.sliceAt 22 (.slice A n c) none (some (.int .i64 8)) none).run Try.prog W = .ok (.slice A 8 c) W := fun W => toB A n c 8 (by omega) (by omega) W
  have s1 : ∀ W, (Instr.sliceAt 22 (.slice A n c) (some (.int .i64 8)) (some (.int .i64 10)) none).run Try.prog W = .ok (.slice (cutA A 8 c 1) 2 (c - 8)) W := fun W => midB A n c 8 10 (by omega) (by omega) (by omega) W
  have s2 : ∀ W, (Instr.sliceAt 22 (.slice A n c) (some (.int .i64 10)) (some (.int .i64 12)) none).run Try.prog W = .ok (.slice (cutA A 10 c 1) 2 (c - 10)) W := fun W => midB A n c 10 12 (by omega) (by omega) (by omega) W
  have s3 : ∀ W, (Instr.sliceAt 22 (.slice A n c) (some (.int .i64 12)) none none).run Try.prog W = .ok (.slice (cutA A 12 c 1) (n - 12) (c - 12)) W := fun W => fromB A n c 12 (by omega) (by omega) W
  go_enter Try.func27, Try.ntmps27
  go_upto_region 3 with fail
  have hB0 : Below w.heap.size w (w.alloc (.cells #[.int .i64 0, .int .i64 0, .int .i64 0, .slice none 0 0] 35)) := Ba (Below.refl _ _)
  have hz0 : (w.alloc (.cells #[.int .i64 0, .int .i64 0, .int .i64 0, .slice none 0 0] 35)).heap.size = w.heap.size + 1 := by simp
  have z1 : Blk (w.alloc (.cells #[.int .i64 0, .int .i64 0, .int .i64 0, .slice none 0 0] 35)) w.heap.size 35 #[.int .i64 0, .int .i64 0, .int .i64 0, .slice none 0 0] := Blk.new _ _ _
  generalize w.alloc (.cells #[.int .i64 0, .int .i64 0, .int .i64 0, .slice none 0 0] 35) = W0 at *
  have HZ := Lib.hid hz0
  clear hz0
  go_cut [4] (fun v wx => ∃ (g : Nat) (A3 : Option Addr) (c3 : Nat), v = .pointer (some ⟨g, 0, none⟩) ∧ Blk wx g 35 #[.int .i64 (numI (l.take 8)), .int .i64 (numI ((l.drop 8).take 2)), .int .i64 (numI ((l.drop 10).take 2)), .slice A3 (n - 12) c3] ∧ W0.heap.size ≤ g ∧
    wx.ownsRow W0.heap.size 5 1 (.slice A3 (n - 12) c3) (n - 12) (bvs (l.drop 12)) ∧ Below W0.heap.size W0 wx)
  case first =>
    have hd : Below W0.heap.size W0 W0.drew := (Below.refl _ _).drew
    go_region_held3 (fun w' => Below W0.heap.size W0 w')
      (first
        | (repeat (first | assumption | exact Below.refl _ _ | refine Below.drew ?_ | refine Ba ?_ | refine Below.setCell ?_ (by simp) _)))
      (first
        | (go_at_call 48; first
          | ((with_reducible refine (num_any _ _ _ _ _ (by omega) (R0.out.go (Bt hB0 (by assumption)))).mono ?_); rintro e w3 ⟨rfl, rfl⟩)
          | ((with_reducible refine (num_any _ _ _ _ _ (by omega) (R1.out.go (Bt hB0 (by assumption)))).mono ?_); rintro e w3 ⟨rfl, rfl⟩)
          | ((with_reducible refine (num_any _ _ _ _ _ (by omega) (R2.out.go (Bt hB0 (by assumption)))).mono ?_); rintro e w3 ⟨rfl, rfl⟩))
        | (refine stepB0 (base := W0.heap.size) rfl (.tmp 20) (.tmp 22) (by rfl) (by rfl) (by repeat (first | with_reducible refine own_dr ?_ | with_reducible exact own_nil' (by simp) (by simp) | with_reducible refine own_al ?_)) (by rfl) (R3.out.go (Bt hB0 (by assumption))) (bvs_one _) (by omega) (Below.size (by assumption)) ?_; intro A' c' w5 hown hb hg; have hb5 : Below W0.heap.size W0 w5 := Below.trans (by assumption) hb; have HO5 := Lib.hid hown; have HG5 := Lib.hid hg; obtain ⟨hc5, hf5, hz5⟩ := gcell hg; (try simp at hz5); clear hown hb hg)
        | fail)
    all_goals
      go_wp2_with fail
      go_meet
      first
        | (refine ⟨w5.heap.size, A', c', by with_reducible rfl, ?_⟩; exact ⟨Blk.new _ _ _, (by omega), own_al HO5.out, Ba (by assumption)⟩)
        | (refine ⟨W0.heap.size + 1, A', c', by with_reducible rfl, ?_⟩
           have b1 : Blk w5 (W0.heap.size + 1) 35 #[.int .i64 0, .int .i64 0, .int .i64 0, .slice none 0 0] := Blk.grown (Blk.drew (Blk.new' (by simp))) HG5.out (by simp)
           exact ⟨(((b1.set_ 0 _).set_ 1 _).set_ 2 _).set_ 3 _, (by simp), own_setCell (own_setCell (own_setCell (own_setCell HO5.out b1 (by decide) 0 _) (b1.set_ 0 _) (by decide) 1 _) ((b1.set_ 0 _).set_ 1 _) (by decide) 2 _) (((b1.set_ 0 _).set_ 1 _).set_ 2 _) (by decide) 3 _, (by assumption)⟩)
        | (refine ⟨W0.heap.size, A', c', by with_reducible rfl, ?_⟩
           have b1 : Blk w5 (W0.heap.size) 35 #[.int .i64 0, .int .i64 0, .int .i64 0, .slice none 0 0] := Blk.grown (Blk.drew (Blk.alloc (Blk.new' rfl) _)) HG5.out (by simp)
           exact ⟨(((b1.set_ 0 _).set_ 1 _).set_ 2 _).set_ 3 _, (by simp), own_setCell (own_setCell (own_setCell (own_setCell HO5.out b1 (by decide) 0 _) (b1.set_ 0 _) (by decide) 1 _) ((b1.set_ 0 _).set_ 1 _) (by decide) 2 _) (((b1.set_ 0 _).set_ 1 _).set_ 2 _) (by decide) 3 _, (by assumption)⟩)
        | trace_state
  case rest =>
    obtain ⟨g, A3, c3, rfl, hblk, hg0, hown, hB⟩ := hcut
    have HO := Lib.hid hown
    clear hown s0 s1 s2 s3
    have hglt := hblk.lt
    have kc := hblk.cell
    have e1 := E1.out
    have e2 := E2.out
    have V := Lib.hid (show ∀ b : Bool, vP (numI (l.take 8)) (numI ((l.drop 8).take 2)) (numI ((l.drop 10).take 2)) (n - 12) = b → vP (numI (l.take 8)) (at8 l 8 + at8 l 9 * 256) (at8 l 10 + at8 l 11 * 256) (n - 12) = b from fun b h => by rw [e1, e2] at h; exact h)
    clear e1 e2
    cases hv : vP (numI (l.take 8)) (numI ((l.drop 8).take 2)) (numI ((l.drop 10).take 2)) (n - 12) with
    | false =>
      have F1 := Lib.hid (V.out _ hv)
      have HV := Lib.hid hv
      clear hv
      go_wp2_with fail
      refine (encode2_no _ _ _ _ _ _ _ (by omega) HV.out).mono ?_
      rintro e w4 ⟨rfl, hb4⟩
      have z4 := z1.below (hB.trans (hb4.mono hB.size)) (by have := HZ.out; omega)
      have hB4 := Lib.hid (Bt (Bt hB0 hB) hb4)
      have d4 := z4.cell
      have f4 := z4.frozen
      clear kc hblk hb4 HO
      go_wp2
      have s0 : _ = some (Value.int .i64 0) := ((z4.set_ 0 (.int .i64 0)).cell 0).trans (by simp)
      have s1 : _ = some (Value.int .i64 0) := (((z4.set_ 0 (.int .i64 0)).set_ 1 (.int .i64 0)).cell 1).trans (by simp)
      have s2 : _ = some (Value.int .i64 0) := ((((z4.set_ 0 (.int .i64 0)).set_ 1 (.int .i64 0)).set_ 2 (.int .i64 0)).cell 2).trans (by simp)
      have s3 : _ = some (Value.slice none 0 0) := (((((z4.set_ 0 (.int .i64 0)).set_ 1 (.int .i64 0)).set_ 2 (.int .i64 0)).set_ 3 (.slice none 0 0)).cell 3).trans (by simp)
      refine bodyPost_ret (v := .tuple #[.agg #[.int .i64 0, .int .i64 0, .int .i64 0, .slice none 0 0], .int .i64 4]) (by simp [results, Try.results27, go_sem, s0, s1, s2, s3]) rfl ?_
      refine ⟨fun h => absurd (h.symm.trans F1.out) (by decide), fun _ => rfl, ?_⟩
      exact set4 hB4.out
    | true =>
      have F1 := Lib.hid (V.out _ hv)
      have HV := Lib.hid hv
      have F2 := Lib.hid (show Ending.returned (.tuple #[.agg #[.int .i64 (numI (l.take 8)), .int .i64 (numI ((l.drop 8).take 2)), .int .i64 (numI ((l.drop 10).take 2)), .slice A3 (n - 12) c3], .int .i64 0]) = .returned (.tuple #[.agg #[.int .i64 (numI (l.take 8)), .int .i64 (at8 l 8 + at8 l 9 * 256), .int .i64 (at8 l 10 + at8 l 11 * 256), .slice A3 (n - 12) c3], .int .i64 0]) by rw [E1.out, E2.out])
      clear hv
      go_wp2_with fail
      refine (encode2_yes _ _ _ _ _ _ _ _ (Reads.of_own HO.out) HV.out).mono ?_
      rintro e w4 ⟨A4, c4, rfl, _, hb4⟩
      have hbk4 := hblk.below hb4 hglt
      have HO4 := Lib.hid (ownsRow_below HO.out hb4 (Nat.le_refl _))
      have z4 := z1.below (hB.trans (hb4.mono hB.size)) (by have := HZ.out; omega)
      have hB4 := Lib.hid (Bt (Bt hB0 hB) hb4)
      have c4 := hbk4.cell
      have d4 := z4.cell
      have f4 := z4.frozen
      have f5 := hbk4.frozen
      clear kc hblk hb4 HO
      go_wp2
      have s0 : _ = some (Value.int .i64 (numI (l.take 8))) := ((z4.set_ 0 (.int .i64 (numI (l.take 8)))).cell 0).trans (by simp)
      have s1 : _ = some (Value.int .i64 (numI ((l.drop 8).take 2))) := (((z4.set_ 0 (.int .i64 (numI (l.take 8)))).set_ 1 (.int .i64 (numI ((l.drop 8).take 2)))).cell 1).trans (by simp)
      have s2 : _ = some (Value.int .i64 (numI ((l.drop 10).take 2))) := ((((z4.set_ 0 (.int .i64 (numI (l.take 8)))).set_ 1 (.int .i64 (numI ((l.drop 8).take 2)))).set_ 2 (.int .i64 (numI ((l.drop 10).take 2)))).cell 2).trans (by simp)
      have s3 : _ = some (Value.slice A3 (n - 12) c3) := (((((z4.set_ 0 (.int .i64 (numI (l.take 8)))).set_ 1 (.int .i64 (numI ((l.drop 8).take 2)))).set_ 2 (.int .i64 (numI ((l.drop 10).take 2)))).set_ 3 (.slice A3 (n - 12) c3)).cell 3).trans (by simp)
      refine bodyPost_ret (v := .tuple #[.agg #[.int .i64 (numI (l.take 8)), .int .i64 (numI ((l.drop 8).take 2)), .int .i64 (numI ((l.drop 10).take 2)), .slice A3 (n - 12) c3], .int .i64 0]) (by simp [results, Try.results27, go_sem, s0, s1, s2, s3]) rfl ?_
      refine ⟨fun _ => ⟨A3, c3, F2.out, ?_⟩, fun h => absurd (h.symm.trans F1.out) (by decide), ?_⟩
      · have o1 := ownsRow_mono HO4.out (show w.heap.size ≤ W0.heap.size by have := HZ.out; omega)
        exact own_setCell (own_setCell (own_setCell (own_setCell o1 z4 (by decide) 0 _) (z4.set_ 0 _) (by decide) 1 _) ((z4.set_ 0 _).set_ 1 _) (by decide) 2 _) (((z4.set_ 0 _).set_ 1 _).set_ 2 _) (by decide) 3 _
      · exact set4 hB4.out
end Go.Proofs.Ytolppdcaaoghgaa
