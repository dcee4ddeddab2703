/-
The walk of AgreeHellos. Conditions: none.
-/
import Derived.Test.YtgnajpoebooafaaAgL6a
import Derived.Test.YtgnajpoebooafaaFrame
namespace Go.Proofs.Ytgnajpoebooafaa
set_option linter.unusedVariables false
set_option linter.unusedSimpArgs false
set_option maxRecDepth 100000
open Go.RowKit
set_option maxHeartbeats 2000000 in
theorem hellos_walk (ro st ba hv : Int) (A : Option Addr) (n k : Nat) (l : List UInt8) (A2 : Option Addr) (n2 k2 : Nat) (l2 : List UInt8) (w : World) (hro : U8 ro) (hst : I64 st) (hba : I64 ba) (hhv : I64 hv) (hin : BIn w A n k l) (hin2 : BIn w A2 n2 k2 l2) :
    Calls Try.prog 7 #[.agg #[.int .u8 ro, .int .i64 st, .int .i64 ba, .int .i64 hv, .slice A n k], .slice A2 n2 k2] w fun e w' => e = .returned (.bool true) ∧ Below w.heap.size w w' := by
  unfold BIn maxLen at hin hin2
  obtain ⟨hr, hnk, hk⟩ := hin
  obtain ⟨hr2, hnk2, hk2⟩ := hin2
  have HR := Lib.hid hr
  have HR2 := Lib.hid hr2
  clear hr hr2
  go_enter Try.func7, Try.ntmps7
  go_upto_region 4 with (first
    | (go_at_call 13; refine (awake53 _).mono ?_; rintro e w1 ⟨rfl, hb1⟩; obtain ⟨hc1, hf1, hz1⟩ := bcell hb1; try simp at hz1)
    | (go_at_call 14; refine (cut53 _ _ _ _ _ (by omega) (by omega) (by omega) (by omega)).mono ?_; rintro e w2 ⟨rfl, rfl⟩))
  have hB1 : Below w.heap.size w w1 := Bt (Ba (Below.refl _ _)) hb1
  have hbk : Blk w1 w.heap.size 50 #[.int .u8 ro, .int .i64 st, .int .i64 ba, .int .i64 hv, .slice A n k] := (Blk.new w _ _).below hb1 (by simp)
  obtain ⟨m, hm⟩ : ∃ m, m = min n 404 := ⟨_, rfl⟩
  obtain ⟨m2, hm2⟩ : ∃ m, m = min n2 430 := ⟨_, rfl⟩
  rw [← hm, ← hm2]
  have hbk2 : Blk (w1.setCell ⟨w.heap.size, 4, none⟩ (.slice A m k)) w.heap.size 50 #[.int .u8 ro, .int .i64 st, .int .i64 ba, .int .i64 hv, .slice A m k] := hbk.set_ 4 _
  have hB2 : Below w.heap.size w (w1.setCell ⟨w.heap.size, 4, none⟩ (.slice A m k)) := hB1.setCell (Nat.le_refl _) _
  generalize w1.setCell ⟨w.heap.size, 4, none⟩ (.slice A m k) = W2 at *
  have hR : Reads W2 W2.heap.size 1 A m (bvs (l.take m)) := by
    have := (HR.out.go hB2).take (k := m) (by omega)
    rw [bvs_take]; simpa using this
  have hR2 : Reads W2 W2.heap.size 1 A2 m2 (bvs (l2.take m2)) := by
    have := (HR2.out.go hB2).take (k := m2) (by omega)
    rw [bvs_take]; simpa using this
  have hml : (l.take m).length = m := by have := hR.1; rw [bvs_length] at this; omega
  have hml2 : (l2.take m2).length = m2 := by have := hR2.1; rw [bvs_length] at this; omega
  generalize l.take m = L at *
  generalize l2.take m2 = L2 at *
  have hmk : m ≤ k := by omega
  have hmk2 : m2 ≤ k2 := by omega
  have hm6 : m ≤ 404 := by omega
  have hm7 : m2 ≤ 430 := by omega
  have HR := Lib.hid hR
  have HR2 := Lib.hid hR2
  have HB2 := Lib.hid hB2
  have HLm := Lib.hid hml
  clear hR hR2 hbk hb1 hc1 hf1 hz1 hB1 hm hm2 hB2 hml hml2
  have hlt := hbk2.lt
  have kc := hbk2.cell
  go_upto_if 45 with (first
    | (go_at_call 25; refine (puthello1_any _ _ _ _ _ _ _ _ _ hro hst hba hhv (by omega) hmk HR.out).mono ?_; rintro e w4 ⟨A4, n4, c4, rfl, hr4, hc4, hn4, hb4⟩; have HR4 := Lib.hid hr4; clear hr4; obtain ⟨hw4, hf4, hz4⟩ := bcell hb4; try simp at hz4)
    | (go_at_call 27; refine (ownh53 _ _ _ _ _ _ _ _).mono ?_; rintro e w5 ⟨rfl, hb5⟩)
    | (go_at_call 26; refine (puthello2_any _ _ _ _ _ _ _ _ _ hro hst hba hhv (by omega) hmk (HR.out.go (Bt hb4 hb5))).mono ?_; rintro e w6 ⟨A6, n6, c6, rfl, hr6, hc6, hn6, hb6⟩; have s4 := run_string (P := Try.prog) (c := c4) (HR4.out.go (Bt hb5 hb6)) 22 9 5 Try.underlying22 Try.underlying5 Try.underlying9; have s6 := run_string (P := Try.prog) (c := c6) hr6 22 9 5 Try.underlying22 Try.underlying5 Try.underlying9; clear hr6))
  have hB6 := Bt (Bt hb4 hb5) hb6
  have R6 := Lib.hid (HR4.out.go (Bt hb5 hb6))
  have k6 := rowGo hB6 kc rfl
  have hlt6 : w.heap.size < w6.heap.size := by have := hB6.size; omega
  have LE := Lib.hid (show (phD ro st ba hv m L).length = n4 by have := HR4.out.1; rw [bvs_length] at this; omega)
  have hn4' : n4 ≤ 1000 := by
    have h1 := phD_le ro st ba hv m L
    have h2 := HR.out.1
    rw [bvs_length] at h2
    have h3 := LE.out
    omega
  clear HR4 hw4 hf4 hz4 kc s4 s6
  have HB6 := Lib.hid hB6
  clear hb4 hb5 hb6 hB6
  go_cut [] (fun wx => Below w6.heap.size w6 wx)
  case first =>
    by_cases hz : phE ro st ba hv m = 0
    · have he : (phE ro st ba hv m == 0) = true := by simpa using hz
      obtain ⟨d1, d2, d3, d4, d5, d6⟩ := hello_round ro st ba hv L m n4 hro hst hba hz HLm.out LE.out
      have D := Lib.hid (And.intro d1 (And.intro d2 (And.intro d3 (And.intro d4 (And.intro d5 d6)))))
      have d8 : (ghE (phD ro st ba hv m L) n4 == 0) = true := by rw [d6]; rfl
      have d7 : (ghE (phD ro st ba hv m L) n4 != 0) = false := by rw [d6]; rfl
      clear hz d1 d2 d3 d4 d5 d6
      go_upto_region 10 with (first
        | (go_at_call 28; refine (gethello1_any _ _ _ _ _ (by omega) hc4 R6.out).mono ?_; rintro e w7 ⟨A7, n7, c7, rfl, hr7, -, hb7⟩; have HR7 := Lib.hid hr7; clear hr7; obtain ⟨hw7, hf7, hz7⟩ := bcell hb7; try simp at hz7))
      have k8 := (Blk.new w7 50 #[.int .u8 (ghR (phD ro st ba hv m L) n4), .int .i64 (ghS (phD ro st ba hv m L) n4), .int .i64 (ghB (phD ro st ba hv m L) n4), .int .i64 (ghV (phD ro st ba hv m L) n4), .slice A7 n7 c7]).cell
      have k9 := rowGo (Ba (Below.refl w7.heap.size w7) : Below w7.heap.size w7 (w7.alloc (.cells #[.int .u8 (ghR (phD ro st ba hv m L) n4), .int .i64 (ghS (phD ro st ba hv m L) n4), .int .i64 (ghB (phD ro st ba hv m L) n4), .int .i64 (ghV (phD ro st ba hv m L) n4), .slice A7 n7 c7] 50))) (rowGo hb7 k6 rfl) rfl
      have hB8 : Below w6.heap.size w6 (w7.alloc (.cells #[.int .u8 (ghR (phD ro st ba hv m L) n4), .int .i64 (ghS (phD ro st ba hv m L) n4), .int .i64 (ghB (phD ro st ba hv m L) n4), .int .i64 (ghV (phD ro st ba hv m L) n4), .slice A7 n7 c7] 50)) := Ba hb7
      have hR8 := (HR7.out.go (Ba (Below.refl w7.heap.size w7) : Below w7.heap.size w7 (w7.alloc (.cells #[.int .u8 (ghR (phD ro st ba hv m L) n4), .int .i64 (ghS (phD ro st ba hv m L) n4), .int .i64 (ghB (phD ro st ba hv m L) n4), .int .i64 (ghV (phD ro st ba hv m L) n4), .slice A7 n7 c7] 50))))
      generalize w7.alloc (.cells #[.int .u8 (ghR (phD ro st ba hv m L) n4), .int .i64 (ghS (phD ro st ba hv m L) n4), .int .i64 (ghB (phD ro st ba hv m L) n4), .int .i64 (ghV (phD ro st ba hv m L) n4), .slice A7 n7 c7] 50) = W8 at *
      have R8 := Lib.hid hR8
      have HB8 := Lib.hid hB8
      clear HR7 hb7 hw7 hf7 k6 hR8 hB8
      have hs : sameH (ghR (phD ro st ba hv m L) n4) (ghS (phD ro st ba hv m L) n4) (ghB (phD ro st ba hv m L) n4) (ghV (phD ro st ba hv m L) n4) ro st ba hv (ghD (phD ro st ba hv m L) n4) L = true := by
        obtain ⟨d1, d2, d3, d4, d5, d6⟩ := D.out
        rw [d1, d2, d3, d4, d5]; exact sameH_refl ..
      have hd0 : Below W8.heap.size W8 W8.drew := (Below.refl _ _).drew
      go_region_held3 (fun w' => ((∀ o, w'.cell? ⟨w7.heap.size, o, none⟩ = (#[.int .u8 (ghR (phD ro st ba hv m L) n4), .int .i64 (ghS (phD ro st ba hv m L) n4), .int .i64 (ghB (phD ro st ba hv m L) n4), .int .i64 (ghV (phD ro st ba hv m L) n4), .slice A7 n7 c7] : Array Value)[o]?) ∧ (∀ o, w'.cell? ⟨w.heap.size, o, none⟩ = (#[.int .u8 ro, .int .i64 st, .int .i64 ba, .int .i64 hv, .slice A m k] : Array Value)[o]?)) ∧ Below W8.heap.size W8 w')
        (first
          | exact ⟨⟨k8, k9⟩, hd0⟩
          | (rcases ‹(_ ∧ _) ∧ Below _ _ _› with ⟨⟨s0, s1⟩, sB⟩; exact ⟨⟨rowGo (by assumption) s0 rfl, rowGo (by assumption) s1 rfl⟩, Bt sB (by assumption)⟩))
        (first
          | (go_at_call 27; refine (ownh53 _ _ _ _ _ _ _ _).mono ?_; rintro e w9 ⟨rfl, hb9⟩)
          | (go_at_call 29; rcases ‹(_ ∧ _) ∧ Below _ _ _› with ⟨⟨s0, s1⟩, sB⟩; refine (sameheard53 _ _ _ _ _ _ _ _ _ _ _ _ _ _ _ _ _ (R8.out.go sB) (HR.out.go (Bt (Bt HB6.out HB8.out) sB))).mono ?_; rintro e w10 ⟨rfl, hb10⟩))
      go_wp2_with fail
      go_meet
      exact Bt HB8.out (And.right ‹(_ ∧ _) ∧ Below _ _ _›)
    · have he : (phE ro st ba hv m == 0) = false := by simpa using hz
      clear hz
      go_wp2_with fail
      go_meet
      exact Below.refl _ _
  case rest =>
    have HB9 := Lib.hid (Bt (Bt HB2.out HB6.out) hcut)
    have R9 := Lib.hid (HR2.out.go (Bt HB6.out hcut))
    have kx := rowGo hcut k6 rfl
    have hltc : w.heap.size < wc.heap.size := by have := hcut.size; omega
    clear k6 hcut
    go_upto_region 14 with (first
      | (go_at_call 28; refine (gethello1_any _ _ _ _ _ (by omega) hmk2 R9.out).mono ?_; rintro e w7 ⟨A7, n7, c7, rfl, hr7, -, hb7⟩; have HR7 := Lib.hid hr7; clear hr7; obtain ⟨hw7, hf7, hz7⟩ := bcell hb7; have hlt7 : w.heap.size < w7.heap.size := Nat.lt_of_lt_of_le hltc hb7.size; try simp at hz7)
      | (go_at_call 30; refine (gethello2_any _ _ _ _ _ (by omega) hmk2 (R9.out.go (Ba hb7))).mono ?_; rintro e w8 ⟨A8, n8, c8, rfl, hr8, -, hb8⟩; have HR8 := Lib.hid hr8; clear hr8))
    have k7 := rowGo (Ba (Below.refl _ _) : Below w8.heap.size w8 (w8.alloc (.cells #[.int .u8 (ghR L2 m2), .int .i64 (ghS L2 m2), .int .i64 (ghB L2 m2), .int .i64 (ghV L2 m2), .slice A8 n8 c8] 55))) (rowGo hb8 (Blk.new w7 50 #[.int .u8 (ghR L2 m2), .int .i64 (ghS L2 m2), .int .i64 (ghB L2 m2), .int .i64 (ghV L2 m2), .slice A7 n7 c7]).cell rfl) rfl
    have k8 := (Blk.new w8 55 #[.int .u8 (ghR L2 m2), .int .i64 (ghS L2 m2), .int .i64 (ghB L2 m2), .int .i64 (ghV L2 m2), .slice A8 n8 c8]).cell
    have hB8 : Below wc.heap.size wc (w8.alloc (.cells #[.int .u8 (ghR L2 m2), .int .i64 (ghS L2 m2), .int .i64 (ghB L2 m2), .int .i64 (ghV L2 m2), .slice A8 n8 c8] 55)) := Ba (Bt (Ba hb7) hb8)
    have hR8 := HR8.out.go (Ba (Below.refl _ _) : Below w8.heap.size w8 (w8.alloc (.cells #[.int .u8 (ghR L2 m2), .int .i64 (ghS L2 m2), .int .i64 (ghB L2 m2), .int .i64 (ghV L2 m2), .slice A8 n8 c8] 55)))
    have hR7 := HR7.out.go (Ba (Bt (Ba (Below.refl _ _)) hb8) : Below w7.heap.size w7 (w8.alloc (.cells #[.int .u8 (ghR L2 m2), .int .i64 (ghS L2 m2), .int .i64 (ghB L2 m2), .int .i64 (ghV L2 m2), .slice A8 n8 c8] 55)))
    generalize w8.alloc (.cells #[.int .u8 (ghR L2 m2), .int .i64 (ghS L2 m2), .int .i64 (ghB L2 m2), .int .i64 (ghV L2 m2), .slice A8 n8 c8] 55) = W8 at *
    have R7 := Lib.hid hR7
    have R8 := Lib.hid hR8
    have HB8 := Lib.hid hB8
    clear HR7 HR8 hb7 hb8 hw7 hf7 hz7 hR7 hR8 hB8 kx
    have hs := sameH_refl (ghR L2 m2) (ghS L2 m2) (ghB L2 m2) (ghV L2 m2) (ghD L2 m2)
    have hd0 : Below W8.heap.size W8 W8.drew := (Below.refl _ _).drew
    go_region_held3 (fun w' => ((∀ o, w'.cell? ⟨w7.heap.size, o, none⟩ = (#[.int .u8 (ghR L2 m2), .int .i64 (ghS L2 m2), .int .i64 (ghB L2 m2), .int .i64 (ghV L2 m2), .slice A7 n7 c7] : Array Value)[o]?) ∧ (∀ o, w'.cell? ⟨w8.heap.size, o, none⟩ = (#[.int .u8 (ghR L2 m2), .int .i64 (ghS L2 m2), .int .i64 (ghB L2 m2), .int .i64 (ghV L2 m2), .slice A8 n8 c8] : Array Value)[o]?)) ∧ Below W8.heap.size W8 w')
      (first
        | exact ⟨⟨k7, k8⟩, hd0⟩
        | (rcases ‹(_ ∧ _) ∧ Below _ _ _› with ⟨⟨s0, s1⟩, sB⟩; exact ⟨⟨rowGo (by assumption) s0 rfl, rowGo (by assumption) s1 rfl⟩, Bt sB (by assumption)⟩))
      (first
        | (go_at_call 27; refine (ownh53 _ _ _ _ _ _ _ _).mono ?_; rintro e w9 ⟨rfl, hb9⟩)
        | (go_at_call 29; rcases ‹(_ ∧ _) ∧ Below _ _ _› with ⟨⟨s0, s1⟩, sB⟩; refine (sameheard53 _ _ _ _ _ _ _ _ _ _ _ _ _ _ _ _ _ (R7.out.go sB) (R8.out.go sB)).mono ?_; rintro e w10 ⟨rfl, hb10⟩))
    have HBf := Lib.hid (And.right ‹(_ ∧ _) ∧ Below _ _ _›)
    go_wp2_with fail
    go_ret
    exact ⟨ret_bool (by simp), Bt HB9.out (Bt HB8.out HBf.out)⟩
end Go.Proofs.Ytgnajpoebooafaa
