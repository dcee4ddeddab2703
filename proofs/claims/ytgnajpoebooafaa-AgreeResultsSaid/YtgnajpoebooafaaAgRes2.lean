/-
The payload of a result: the contract of the reference's PutResult. Conditions: the numbers lie in their types.
-/
import Derived.Test.YtgnajpoebooafaaAgRes
namespace Go.Proofs.Ytgnajpoebooafaa
set_option linter.unusedVariables false
set_option linter.unusedSimpArgs false
set_option maxRecDepth 100000
open Go.RowKit
set_option maxHeartbeats 2000000 in
theorem putres2_any (st la ve ph ba sp al vs : Int) (w : World) (hst : I64 st) (hla : U8 la) (hve : U8 ve) (hph : U8 ph) (hba : I64 ba) (hsp : I64 sp) (hal : I64 al) (hvs : I64 vs) :
    Calls Try.prog 23 #[.agg #[.int .i64 st, .int .u8 la, .int .u8 ve, .int .u8 ph, .int .i64 ba, .int .i64 sp, .int .i64 al, .int .i64 vs]] w (ResGives w (resB st la ve ph ba sp al vs)) := by
  have B3 := Lib.hid (bvs3 hla hve hph)
  go_enter Try.func23, Try.ntmps23
  go_upto_region 2 with fail
  have kb : ∀ o, ((w.alloc (.cells #[.int .i64 st, .int .u8 la, .int .u8 ve, .int .u8 ph, .int .i64 ba, .int .i64 sp, .int .i64 al, .int .i64 vs] 43)).alloc (.cells #[.int .u8 la, .int .u8 ve, .int .u8 ph, .int .i64 ba, .int .i64 sp, .int .i64 al, .int .i64 vs] 36)).cell? ⟨w.heap.size, o, none⟩ = (#[.int .i64 st, .int .u8 la, .int .u8 ve, .int .u8 ph, .int .i64 ba, .int .i64 sp, .int .i64 al, .int .i64 vs] : Array Value)[o]? := ((Blk.new w 43 #[.int .i64 st, .int .u8 la, .int .u8 ve, .int .u8 ph, .int .i64 ba, .int .i64 sp, .int .i64 al, .int .i64 vs]).alloc _).cell
  have kt : ∀ o, ((w.alloc (.cells #[.int .i64 st, .int .u8 la, .int .u8 ve, .int .u8 ph, .int .i64 ba, .int .i64 sp, .int .i64 al, .int .i64 vs] 43)).alloc (.cells #[.int .u8 la, .int .u8 ve, .int .u8 ph, .int .i64 ba, .int .i64 sp, .int .i64 al, .int .i64 vs] 36)).cell? ⟨w.heap.size + 1, o, none⟩ = (#[.int .u8 la, .int .u8 ve, .int .u8 ph, .int .i64 ba, .int .i64 sp, .int .i64 al, .int .i64 vs] : Array Value)[o]? := (Blk.new' (g := w.heap.size + 1) (by simp)).cell
  have hB1 : Below w.heap.size w ((w.alloc (.cells #[.int .i64 st, .int .u8 la, .int .u8 ve, .int .u8 ph, .int .i64 ba, .int .i64 sp, .int .i64 al, .int .i64 vs] 43)).alloc (.cells #[.int .u8 la, .int .u8 ve, .int .u8 ph, .int .i64 ba, .int .i64 sp, .int .i64 al, .int .i64 vs] 36)) := Ba (Ba (Below.refl _ _))
  have hsz : w.heap.size + 1 < ((w.alloc (.cells #[.int .i64 st, .int .u8 la, .int .u8 ve, .int .u8 ph, .int .i64 ba, .int .i64 sp, .int .i64 al, .int .i64 vs] 43)).alloc (.cells #[.int .u8 la, .int .u8 ve, .int .u8 ph, .int .i64 ba, .int .i64 sp, .int .i64 al, .int .i64 vs] 36)).heap.size := by simp
  generalize ((w.alloc (.cells #[.int .i64 st, .int .u8 la, .int .u8 ve, .int .u8 ph, .int .i64 ba, .int .i64 sp, .int .i64 al, .int .i64 vs] 43)).alloc (.cells #[.int .u8 la, .int .u8 ve, .int .u8 ph, .int .i64 ba, .int .i64 sp, .int .i64 al, .int .i64 vs] 36)) = W1 at *
  have HB1 := Lib.hid hB1
  clear hB1
  go_cut [4] (fun v wx => ∃ A c, v = .slice A 11 c ∧ wx.ownsRow W1.heap.size 5 1 (.slice A 11 c) 11 (bvs (lowB st 8 ++ [u8b la, u8b ve, u8b ph])) ∧ Below W1.heap.size W1 wx)
  case first =>
    have hd : Below W1.heap.size W1 W1.drew := (Below.refl _ _).drew
    go_region_held3 (fun w' => ((∀ o, w'.cell? ⟨w.heap.size, o, none⟩ = (#[.int .i64 st, .int .u8 la, .int .u8 ve, .int .u8 ph, .int .i64 ba, .int .i64 sp, .int .i64 al, .int .i64 vs] : Array Value)[o]?) ∧ (∀ o, w'.cell? ⟨w.heap.size + 1, o, none⟩ = (#[.int .u8 la, .int .u8 ve, .int .u8 ph, .int .i64 ba, .int .i64 sp, .int .i64 al, .int .i64 vs] : Array Value)[o]?)) ∧ Below W1.heap.size W1 w')
      (first
        | exact ⟨⟨kb, kt⟩, hd⟩
        | (rcases ‹(_ ∧ _) ∧ Below _ _ _› with ⟨⟨s0, s1⟩, sB⟩; exact ⟨⟨rowGo (by first | assumption | exact Ba (Below.refl _ _)) s0 rfl, rowGo (by first | assumption | exact Ba (Below.refl _ _)) s1 rfl⟩, Bt sB (by first | assumption | exact Ba (Below.refl _ _))⟩)
        | (rcases ‹(_ ∧ _) ∧ Below _ _ _› with ⟨⟨s0, s1⟩, sB⟩; exact ⟨⟨rowB hb5 s0 (by omega), rowB hb5 s1 (by omega)⟩, sB.trans hb5⟩))
      (first
        | (go_at_call 54; refine (low8 _ _).mono ?_; rintro e w3 ⟨A3, c3, rfl, ho3, hb3⟩; have HO3 := Lib.hid ho3; clear ho3)
        | (rcases ‹(_ ∧ _) ∧ Below _ _ _› with ⟨⟨s0, s1⟩, sB⟩; refine stepB (base := W1.heap.size) (n := 8) rfl (.tmp 9) (.tmp 16) (by rfl) (by rfl) (by first | exact ownsRow_mono HO3.out (by simp) | exact own_al (ownsRow_mono HO3.out (by simp))) (by rfl) (by first | exact reads_new _ _ _ 1 3 rfl | exact (Reads.drew (reads_new _ _ _ 1 3 rfl)).goB (by simp) hb3) (by simp [Value.oneCell']) (by omega) sB.size ?_; intro A5 c5 w5 ho5 hb5 hg5; rw [← B3.out, ← bvs_append] at ho5; have HO5 := Lib.hid ho5; clear ho5 hg5)
        | fail)
    all_goals
      have sB := And.right ‹(_ ∧ _) ∧ Below _ _ w5›
      go_wp2_with fail
      go_meet
      exact ⟨A5, c5, rfl, HO5.out, sB⟩
  case rest =>
    obtain ⟨A0, c0, rfl, hown0, hbx⟩ := hcut
    have HO0 := Lib.hid hown0
    have kt0 := rowB hbx kt (by omega)
    have hB0 := hbx
    clear hown0 kb kt hbx
    go_wp2_with fail
    refine (low8 _ _).mono ?_
    rintro e wL0 ⟨AL0, cL0, rfl, hoL0, hbL0⟩
    have HC0 := Lib.hid (own_go HO0.out hbL0)
    have HL0 := Lib.hid (Reads.of_own hoL0)
    have hBL0 := hB0.trans (hbL0.mono hB0.size)
    have ktL0 := rowGo hbL0 kt0 rfl
    clear hoL0 hbL0 kt0 hB0
    go_wp2_with (at_builtin; refine stopHere ?_)
    refine goOn ?_
    refine appB rfl (.tmp 18) (.tmp 21) rfl rfl HC0.out rfl HL0.out (bvs_one _) (by omega) hBL0.size ?_
    intro A1 c1 w1 ho1 hb1 hg1 hat1
    rw [← bvs_append] at ho1
    have HO1 := Lib.hid ho1
    have hB1 := hBL0.trans hb1
    have kt1 := rowB hb1 ktL0 (by omega)
    clear ho1 hb1 hg1 hat1 ktL0 hBL0
    go_wp2_with fail
    refine (low8 _ _).mono ?_
    rintro e wL1 ⟨AL1, cL1, rfl, hoL1, hbL1⟩
    have HC1 := Lib.hid (own_go HO1.out hbL1)
    have HL1 := Lib.hid (Reads.of_own hoL1)
    have hBL1 := hB1.trans (hbL1.mono hB1.size)
    have ktL1 := rowGo hbL1 kt1 rfl
    clear hoL1 hbL1 kt1 hB1
    go_wp2_with (at_builtin; refine stopHere ?_)
    refine goOn ?_
    refine appB rfl (.tmp 23) (.tmp 26) rfl rfl HC1.out rfl HL1.out (bvs_one _) (by omega) hBL1.size ?_
    intro A2 c2 w2 ho2 hb2 hg2 hat2
    rw [← bvs_append] at ho2
    have HO2 := Lib.hid ho2
    have hB2 := hBL1.trans hb2
    have kt2 := rowB hb2 ktL1 (by omega)
    clear ho2 hb2 hg2 hat2 ktL1 hBL1
    go_wp2_with fail
    refine (low8 _ _).mono ?_
    rintro e wL2 ⟨AL2, cL2, rfl, hoL2, hbL2⟩
    have HC2 := Lib.hid (own_go HO2.out hbL2)
    have HL2 := Lib.hid (Reads.of_own hoL2)
    have hBL2 := hB2.trans (hbL2.mono hB2.size)
    have ktL2 := rowGo hbL2 kt2 rfl
    clear hoL2 hbL2 kt2 hB2
    go_wp2_with (at_builtin; refine stopHere ?_)
    refine goOn ?_
    refine appB rfl (.tmp 28) (.tmp 31) rfl rfl HC2.out rfl HL2.out (bvs_one _) (by omega) hBL2.size ?_
    intro A3 c3 w3 ho3 hb3 hg3 hat3
    rw [← bvs_append] at ho3
    have HO3 := Lib.hid ho3
    have hB3 := hBL2.trans hb3
    have kt3 := rowB hb3 ktL2 (by omega)
    clear ho3 hb3 hg3 hat3 ktL2 hBL2
    go_wp2_with fail
    refine (low8 _ _).mono ?_
    rintro e wL3 ⟨AL3, cL3, rfl, hoL3, hbL3⟩
    have HC3 := Lib.hid (own_go HO3.out hbL3)
    have HL3 := Lib.hid (Reads.of_own hoL3)
    have hBL3 := hB3.trans (hbL3.mono hB3.size)
    have ktL3 := rowGo hbL3 kt3 rfl
    clear hoL3 hbL3 kt3 hB3
    go_wp2_with (at_builtin; refine stopHere ?_)
    refine goOn ?_
    refine appB rfl (.tmp 33) (.tmp 36) rfl rfl HC3.out rfl HL3.out (bvs_one _) (by omega) hBL3.size ?_
    intro A4 c4 w4 ho4 hb4 hg4 hat4
    rw [← bvs_append] at ho4
    have HO4 := Lib.hid ho4
    have hB4 := hBL3.trans hb4
    have kt4 := rowB hb4 ktL3 (by omega)
    clear ho4 hb4 hg4 hat4 ktL3 hBL3
    go_wp2
    go_ret
    exact ⟨A4, c4, rfl, Reads.of_own HO4.out, own_le HO4.out, Bt HB1.out hB4⟩
end Go.Proofs.Ytgnajpoebooafaa
