/-
The walk of ResyncSplits. Conditions: none.
-/
import Derived.Test.YtolppdcaaoghgaaFrame
import Derived.Test.YtolppdcaaoghgaaRsAwake
namespace Go.Proofs.Ytolppdcaaoghgaa
set_option linter.unusedVariables false
set_option linter.unusedSimpArgs false
set_option maxRecDepth 100000
open Go.RowKit Go.WideShapes Go.ChangeShapes Go.ChangeAt
theorem take_chunk (bs : List UInt8) (j : Nat) : bvs (bs.take (600 * j)) ++ bvs (chunk bs j) = bvs (bs.take (600 * (j + 1))) := by
  rw [← bvs_append, Nat.mul_add, Nat.mul_one, List.take_add]
  rfl
theorem sameP_self (a b d : Int) (l : List UInt8) : sameP a b d a b d l l = true := by simp [sameP]
set_option maxHeartbeats 2000000 in
theorem splits_walk (base : Int) (A0 : Option Addr) (n0 c0 : Nat) (bs0 : List UInt8) (n : Int) (w : World) (hbase : I64 base) (hin : BIn w A0 n0 c0 bs0) (hn : U16 n) :
    Calls Try.prog 3 #[.int .i64 base, .slice A0 n0 c0, .int .u16 n] w fun e w' => e = .returned (.bool true) ∧ Below w.heap.size w w' := by
  unfold U16 at hn
  obtain ⟨hn0, hn1⟩ := hn
  unfold BIn at hin
  obtain ⟨hr0, hnc, hcm⟩ := hin
  unfold maxLen at hcm
  have HR := Lib.hid hr0
  clear hr0
  go_enter Try.func3, Try.ntmps3
  go_upto_if 19 with (first
    | (go_at_call 10; refine (awake54 _).mono ?_; rintro e w1 ⟨rfl, hb1⟩; have hr1 := Lib.hid ((HR.out.below hb1).more hb1.size))
    | (go_at_call 11; refine (cut54 _ _ _ 3000 _ (by omega) (by omega) (by omega)).mono ?_; rintro e w2 ⟨rfl, rfl⟩))
  go_cut [1] (fun v wx => ∃ A m c bs, v = .slice A m c ∧ Reads wx wx.heap.size 1 A m (bvs bs) ∧ m ≤ c ∧ m ≤ 600000 ∧ Below w.heap.size w wx)
  case first =>
    obtain ⟨k, hk⟩ : ∃ k : Nat, wrap64 (524287 + (wrap64 (IntKind.u16.wrap (n.tdiv 64))).tmod 3) = (k : Int) ∧ k ≤ 524289 := by
      refine ⟨(524287 + n / 64 % 3).toNat, ?_, by omega⟩
      rw [Int.tdiv_eq_ediv_of_nonneg hn0, IntKind.wrap_u16]
      have e : wrap64 (n / 64 % 65536) = n / 64 := by unfold wrap64; omega
      rw [e, Int.tmod_eq_emod_of_nonneg (by omega)]
      unfold wrap64
      omega
    obtain ⟨hk, hkb⟩ := hk
    have hmk := fun W => makeB k (by omega) W
    go_wp2_with fail
    · go_meet
      exact ⟨_, k, k, List.replicate k 0, rfl, (reads_zero _ _ _).more (by simp), Nat.le_refl _, by omega, Ba hb1⟩
    · go_meet
      refine ⟨A0, min n0 3000, c0, bs0.take (min n0 3000), rfl, ?_, by omega, by omega, hb1⟩
      have := hr1.out.take (k := min n0 3000) (by omega)
      rw [bvs_take]
      simpa using this
  case rest =>
    obtain ⟨A, m, c, bs, rfl, hr, hmc, hm, hbx⟩ := hcut
    have HX := Lib.hid hr
    clear hr
    by_cases hv : 1 ≤ base ∧ base ≤ 2305843009213693952 ∧ m ≤ 524288
    · obtain ⟨hv1, hv2, hv3⟩ := hv
      obtain ⟨k, hk⟩ : ∃ k, k = if m = 0 then 1 else (m + 599) / 600 := ⟨_, rfl⟩
      have hk1 : 0 < k := by split at hk <;> omega
      have hk3 : k ≤ 875 := by split at hk <;> omega
      have HK := Lib.hid hk
      clear hk
      go_wp2_with (first
        | (go_at_call 12; refine (split1_yes base A m c k bs _ hv1 hv2 hv3 HK.out hmc HX.out).mono ?_; rintro e w1 ⟨A1, c1, xs1, rfl, ho1, he1, hb1⟩)
        | (go_at_call 13; refine (split2_yes base A m c k bs _ hv1 hv2 hv3 HK.out hmc ((HX.out.below (by assumption)).more (Below.size (by assumption)))).mono ?_; rintro e w2 ⟨A2, c2, xs2, rfl, ho2, he2, hb2⟩))
      obtain ⟨g1, rfl, hg1, hg1', hc1⟩ := ownsRow_cells ho1 (by omega)
      obtain ⟨g2, rfl, hg2, hg2', hc2⟩ := ownsRow_cells ho2 (by omega)
      have hml : bs.length = m := by have := HX.out.1; rw [bvs_length] at this; omega
      go_loopw [11, 50] (fun v i wr => ∃ (j q : Nat) (A3 : Option Addr) (c3 : Nat), j ≤ k ∧ i = .int .i64 (j : Int) ∧ v = .slice A3 q c3 ∧ wr.ownsRow w2.heap.size 5 1 (.slice A3 q c3) q (bvs (bs.take (600 * j))) ∧ Below w2.heap.size w2 wr) (fun _ i _ => k - (intOf i).toNat)
      case atStart => exact ⟨0, 0, none, 0, Nat.zero_le _, rfl, rfl, by simpa [bvs] using World.ownsRow_nil _ _ _ _, Below.refl _ _⟩
      case round =>
        obtain ⟨j, q, A3, c3, hj, rfl, rfl, hown, hb⟩ := hrel
        have HO := Lib.hid hown
        clear hown
        by_cases hlt : j < k
        · obtain ⟨ys1, ⟨B1, d1, rfl, hd1⟩, hl1, hy1⟩ := he1.at_ hlt
          obtain ⟨ys2, ⟨B2, d2, rfl, hd2⟩, hl2, hy2⟩ := he2.at_ hlt
          have hbw1 : Below w1.heap.size w1 wr := hb2.trans (hb.mono hb2.size)
          have hz1 : w1.heap.size ≤ wr.heap.size := hbw1.size
          have hz2 : w2.heap.size ≤ wr.heap.size := hb.size
          have a0 : wr.cell? ⟨g1, j * 4, none⟩ = some (.int .i64 base) := by rw [hbw1.cell (p := ⟨g1, j * 4, none⟩) hg1', hc1 _ (by omega)]; exact hy1 0 (by omega)
          have a1 : wr.cell? ⟨g1, j * 4 + 1, none⟩ = some (.int .i64 (j : Int)) := by rw [hbw1.cell (p := ⟨g1, j * 4 + 1, none⟩) hg1', hc1 _ (by omega)]; exact hy1 1 (by omega)
          have a2 : wr.cell? ⟨g1, j * 4 + 2, none⟩ = some (.int .i64 (k : Int)) := by rw [hbw1.cell (p := ⟨g1, j * 4 + 2, none⟩) hg1', hc1 _ (by omega)]; exact hy1 2 (by omega)
          have a3 : wr.cell? ⟨g1, j * 4 + 3, none⟩ = some (.slice B1 (chunk bs j).length d1) := by rw [hbw1.cell (p := ⟨g1, j * 4 + 3, none⟩) hg1', hc1 _ (by omega)]; exact hy1 3 (by omega)
          have b0 : wr.cell? ⟨g2, j * 4, none⟩ = some (.int .i64 base) := by rw [hb.cell (p := ⟨g2, j * 4, none⟩) hg2', hc2 _ (by omega)]; exact hy2 0 (by omega)
          have b1 : wr.cell? ⟨g2, j * 4 + 1, none⟩ = some (.int .i64 (j : Int)) := by rw [hb.cell (p := ⟨g2, j * 4 + 1, none⟩) hg2', hc2 _ (by omega)]; exact hy2 1 (by omega)
          have b2 : wr.cell? ⟨g2, j * 4 + 2, none⟩ = some (.int .i64 (k : Int)) := by rw [hb.cell (p := ⟨g2, j * 4 + 2, none⟩) hg2', hc2 _ (by omega)]; exact hy2 2 (by omega)
          have b3 : wr.cell? ⟨g2, j * 4 + 3, none⟩ = some (.slice B2 (chunk bs j).length d2) := by rw [hb.cell (p := ⟨g2, j * 4 + 3, none⟩) hg2', hc2 _ (by omega)]; exact hy2 3 (by omega)
          have R1 := Lib.hid (((Reads.of_own hd1).below hbw1).more hz1)
          have R2 := Lib.hid (((Reads.of_own hd2).below hb).more hz2)
          clear hd1 hd2 hy1 hy2 hl1 hl2
          go_wp2
          have hd : Below wr.heap.size wr wr.drew := (Below.refl _ _).drew
          have hsame := sameP_self base j k (chunk bs j)
          go_region_held3 (fun w' => (w'.cell? ⟨g1, j * 4, none⟩ = some (.int .i64 base) ∧ w'.cell? ⟨g1, j * 4 + 1, none⟩ = some (.int .i64 (j : Int)) ∧ w'.cell? ⟨g1, j * 4 + 2, none⟩ = some (.int .i64 (k : Int)) ∧ w'.cell? ⟨g1, j * 4 + 3, none⟩ = some (.slice B1 (chunk bs j).length d1)) ∧ (w'.cell? ⟨g2, j * 4, none⟩ = some (.int .i64 base) ∧ w'.cell? ⟨g2, j * 4 + 1, none⟩ = some (.int .i64 (j : Int)) ∧ w'.cell? ⟨g2, j * 4 + 2, none⟩ = some (.int .i64 (k : Int)) ∧ w'.cell? ⟨g2, j * 4 + 3, none⟩ = some (.slice B2 (chunk bs j).length d2)) ∧ Below wr.heap.size wr w')
            (first
              | exact ⟨⟨a0, a1, a2, a3⟩, ⟨b0, b1, b2, b3⟩, hd⟩
              | (rcases ‹(_ ∧ _) ∧ _› with ⟨⟨s0, s1, s2, s3⟩, ⟨t0, t1, t2, t3⟩, sB⟩; exact ⟨⟨cellKeep (by assumption) s0, cellKeep (by assumption) s1, cellKeep (by assumption) s2, cellKeep (by assumption) s3⟩, ⟨cellKeep (by assumption) t0, cellKeep (by assumption) t1, cellKeep (by assumption) t2, cellKeep (by assumption) t3⟩, Bt sB (by assumption)⟩))
            (first
              | (go_at_call 15; refine (own54 _ _ _ _ _ _ _).mono ?_; rintro e w3 ⟨rfl, hb3⟩)
              | (go_at_call 14; rcases ‹(_ ∧ _) ∧ _› with ⟨⟨s0, s1, s2, s3⟩, ⟨t0, t1, t2, t3⟩, sB⟩; refine (samepiece _ _ _ _ _ _ _ _ _ _ _ _ 0 _ _ _ ((R1.out.below sB).more sB.size) ((R2.out.below sB).more sB.size)).mono ?_; rintro e w4 ⟨rfl, hb4⟩))
          obtain ⟨⟨s0, s1, s2, s3⟩, ⟨t0, t1, t2, t3⟩, sB⟩ := ‹(w4.cell? _ = _ ∧ _) ∧ _›
          clear a0 a1 a2 a3 b0 b1 b2 b3 hd s0 s1 s2 t0 t1 t2 t3
          go_wp2_with (at_builtin; refine stopHere ?_)
          refine goOn ?_
          refine appB rfl (.tmp 64) (.tmp 69) rfl rfl (ownsRow_below HO.out sB (Nat.le_refl _)) rfl ((R1.out.below sB).more sB.size) (bvs_one _) ?hq (by have := sB.size; omega) ?_
          case hq =>
            have h1 := HO.out.1
            rw [bvs_length, List.length_take] at h1
            rw [chunk_length]
            omega
          intro A5 c5 w5 hown5 hb5 hg5 hat5
          rw [take_chunk] at hown5
          have hbw5 : Below w2.heap.size w2 w5 := (hb.trans (sB.mono hz2)).trans hb5
          have HO5 := Lib.hid hown5
          clear hown5 hb5 hg5 hat5 s3
          go_wp2
          go_roundw
          case rel => exact ⟨j + 1, q + (chunk bs j).length, A5, c5, by omega, by go_num, rfl, HO5.out, hbw5⟩
          case measure => simp [intOf]; omega
        · obtain rfl : j = k := by omega
          have hall : bs.take (600 * j) = bs := List.take_of_length_le (by rw [hml]; have := HK.out; split at this <;> omega)
          have hown := HO.out
          rw [hall] at hown
          have s1 := run_string (P := Try.prog) (c := c3) (Reads.of_own hown) 22 9 5 Try.underlying22 Try.underlying5 Try.underlying9
          have hbx1 : Below wc.heap.size wc wr := (hb1.trans (hb2.mono hb1.size)).trans (hb.mono (Nat.le_trans hb1.size hb2.size))
          have s2 := run_string (P := Try.prog) (c := c) ((HX.out.below hbx1).more hbx1.size) 22 9 5 Try.underlying22 Try.underlying5 Try.underlying9
          have HB := Lib.hid (hbx.trans (hbx1.mono hbx.size))
          clear hall hown hbx1
          go_wp2
          go_ret
          exact ⟨ret_bool (by simp), HB.out⟩
    · have e1 : (splitErr base m == 0) = false := by rw [beq_eq_false_iff_ne]; unfold splitErr; split <;> (try split) <;> omega
      have e2 : (splitErr base m != 0) = true := by rw [bne_iff_ne]; unfold splitErr; split <;> (try split) <;> omega
      go_wp2_with (first
        | (go_at_call 12; refine (split1_no base A m c _ (by omega) hv).mono ?_; rintro e w1 ⟨rfl, rfl⟩)
        | (go_at_call 13; refine (split2_no base A m c _ (by omega) hv).mono ?_; rintro e w2 ⟨rfl, rfl⟩))
      refine wp_loop_rounds 1 ?_
      rw [rounds_succ]
      go_wp2
      go_ret
      exact ⟨rfl, hbx⟩
theorem splits_walk_ (base : Int) (A0 : Option Addr) (n0 c0 : Nat) (bs0 : List UInt8) (n : Int) (W : World) (hbase : I64 base) (hin : BIn W A0 n0 c0 bs0) (hn : U16 n) :
    Calls Try.prog 3 #[.int .i64 base, .slice A0 n0 c0, .int .u16 n] W fun e w' => e = .returned (.bool true) ∧ Below W.heap.size W w' := splits_walk base A0 n0 c0 bs0 n W hbase hin hn
end Go.Proofs.Ytolppdcaaoghgaa
