/-
The two inputs out of the packed bytes: the contract of the program's Unpack. Conditions: lengths of at most 1000000.
-/
import Derived.Test.YtgnajpoebooafaaAgUn2
namespace Go.Proofs.Ytgnajpoebooafaa
set_option linter.unusedVariables false
set_option linter.unusedSimpArgs false
set_option maxRecDepth 100000
open Go.RowKit
def bitJ (l : List UInt8) (j : Nat) : Bool := if j = 0 then bit0 l else bit1 l
/-- what is left behind j inputs; the inputs so far; whether they fit -/
def rst (l : List UInt8) : Nat → List UInt8
  | 0 => l.drop 1
  | 1 => inR (l.drop 1) (bit0 l)
  | _ => inR (inR (l.drop 1) (bit0 l)) (bit1 l)
def gotA (l : List UInt8) (j : Nat) : List UInt8 := if 1 ≤ j then inA (l.drop 1) (bit0 l) else []
def gotB (l : List UInt8) (j : Nat) : List UInt8 := if 2 ≤ j then inA (inR (l.drop 1) (bit0 l)) (bit1 l) else []
def okJ (l : List UInt8) (j : Nat) : Bool := (decide (j < 1) || inOk (l.drop 1) (bit0 l)) && (decide (j < 2) || inOk (inR (l.drop 1) (bit0 l)) (bit1 l))
theorem shr_bit (l : List UInt8) (j : Nat) (hj : j < 2) (h : at8 l 0 ≤ 3) : (bits .and .u8 (at8 l 0 / 2 ^ j) 1 == 0) = !bitJ l j := by
  have h0 := (at8_lt l 0).1
  unfold bitJ bit0 bit1
  generalize at8 l 0 = x at *
  have h1 : x = 0 ∨ x = 1 ∨ x = 2 ∨ x = 3 := by omega
  have h2 : j = 0 ∨ j = 1 := by omega
  rcases h1 with rfl | rfl | rfl | rfl <;> rcases h2 with rfl | rfl <;> decide
/-- a round that takes nothing -/
theorem un_skip (l : List UInt8) (j : Nat) (hj : j < 2) (hb : bitJ l j = false) (ho : okJ l j = true) : okJ l (j + 1) = true ∧ rst l (j + 1) = rst l j ∧ gotA l (j + 1) = gotA l j ∧ gotB l (j + 1) = gotB l j := by
  have h2 : j = 0 ∨ j = 1 := by omega
  rcases h2 with rfl | rfl
  · simp only [bitJ, if_true] at hb
    simp [okJ, rst, gotA, gotB, inOk, inA, inR, hb]
  · simp only [bitJ, Nat.one_ne_zero, if_false] at hb
    simp only [okJ, Nat.lt_irrefl, decide_false, Bool.false_or] at ho
    simp [okJ, rst, gotA, gotB, inOk, inA, inR, hb] at ho ⊢
    exact ho
theorem un_bad (l : List UInt8) (j : Nat) (hj : j < 2) (h : inOk (rst l j) (bitJ l j) = false) : unOk l = false := by
  have h2 : j = 0 ∨ j = 1 := by omega
  rcases h2 with rfl | rfl
  · simp only [bitJ, if_true, rst] at h
    unfold unOk; rw [h]; simp
  · simp only [bitJ, Nat.one_ne_zero, if_false, rst] at h
    unfold unOk; rw [h]; simp
theorem un_take (l : List UInt8) (j : Nat) (hj : j < 2) (hb : bitJ l j = true) (ho : okJ l j = true) (h : inOk (rst l j) true = true) :
    okJ l (j + 1) = true ∧ rst l (j + 1) = (rst l j).drop (2 + len2 (rst l j)) ∧ gotA l (j + 1) = (if j = 0 then ((rst l j).drop 2).take (len2 (rst l j)) else gotA l j) ∧ gotB l (j + 1) = (if j = 0 then gotB l j else ((rst l j).drop 2).take (len2 (rst l j))) := by
  have h2 : j = 0 ∨ j = 1 := by omega
  rcases h2 with rfl | rfl
  · simp only [bitJ, if_true] at hb
    simp only [rst] at h
    simp only [okJ, rst, gotA, gotB, hb, h, inA, inR]
    simp
  · simp only [bitJ, Nat.one_ne_zero, if_false] at hb
    simp only [rst] at h
    simp only [okJ, Nat.lt_irrefl, decide_false, Bool.false_or] at ho
    simp only [okJ, rst, gotA, gotB, hb, h, inA]
    simp only [show inR (inR (l.drop 1) (bit0 l)) true = (inR (l.drop 1) (bit0 l)).drop (2 + len2 (inR (l.drop 1) (bit0 l))) from rfl]
    simp at ho ⊢
    exact ho
theorem un_end (l : List UInt8) (n : Nat) (ho : okJ l 2 = true) (h3 : at8 l 0 ≤ 3) (hl : 1 ≤ l.length) (hn : (rst l 2).length = n) : unOk l = decide (n = 0) := by
  unfold unOk
  simp only [okJ, rst] at ho hn
  simp only [show ((2 : Nat) < 1) = False by simp, Nat.lt_irrefl, decide_false, Bool.false_or, Bool.and_eq_true] at ho
  rw [ho.1, ho.2, hn, decide_eq_true h3, decide_eq_true hl]
  rfl
def UnRel (w : World) (l : List UInt8) (g : Nat) (i rest : Value) (wr : World) : Prop :=
  ∃ (j : Nat) (A : Option Addr) (n c : Nat) (A0 A1 : Option Addr) (n0 c0 n1 c1 : Nat), j ≤ 2 ∧ i = .int .i64 (j : Int) ∧ rest = .slice A n c ∧ n ≤ c ∧ n ≤ 1000000 ∧ okJ l j = true ∧ Reads wr w.heap.size 1 A n (bvs (rst l j)) ∧
    Blk wr g 122 #[.slice A0 n0 c0, .slice A1 n1 c1] ∧ wr.ownsRow w.heap.size 5 1 (.slice A0 n0 c0) n0 (bvs (gotA l j)) ∧ wr.ownsRow w.heap.size 5 1 (.slice A1 n1 c1) n1 (bvs (gotB l j)) ∧ Below w.heap.size w wr
set_option maxHeartbeats 1000000 in
theorem unpack1_any (A : Option Addr) (n c : Nat) (l : List UInt8) (w : World) (hn : n ≤ 1000000) (hc : n ≤ c) (hr : Reads w w.heap.size 1 A n (bvs l)) :
    Calls Try.prog 17 #[.slice A n c] w (UnGives w l) := by
  have hl : l.length = n := by have := hr.1; rw [bvs_length] at this; omega
  by_cases h0 : n = 0
  · subst h0
    have HN := Lib.hid (show unOk l = false by simp [unOk, hl])
    clear hl hr
    go_enter Try.func17, Try.ntmps17
    go_wp2
    refine bodyPost_ret (v := .tuple #[.slice none 0 0, .bool false, .slice none 0 0, .bool false, .int .i64 4]) (by simp [results, Try.results17, go_sem]) rfl ?_
    exact unGives_no HN.out rfl (Below.refl _ _)
  · have hpos : 0 < n := by omega
    have hn0 : ((n : Int) == 0) = false := by rw [beq_eq_false_iff_ne]; omega
    obtain ⟨ad, rfl, hbl, hcell⟩ := hr.byte (k := 0) hpos
    have hcell : w.cell? ad = some (.int .u8 (at8 l 0)) := by simpa [Addr.add] using hcell
    have hat := at8_lt l 0
    have HR := Lib.hid hr
    have HL := Lib.hid hl
    clear hr hl h0
    by_cases h3 : at8 l 0 ≤ 3
    · have s1 : ∀ W, (Instr.sliceAt 22 (.slice (some ad) n c) (some (.int .i64 1)) none none).run Try.prog W = .ok (.slice (cutA (some ad) 1 c 1) (n - 1) (c - 1)) W := fun W => fromB (some ad) n c 1 (by omega) (by omega) W
      have r1 := HR.out.midA (k := 1) (m := n) (cap := c) (by omega) (by omega) hc
      rw [← bvs_drop, ← bvs_take, List.take_of_length_le (by rw [List.length_drop, HL.out]; omega)] at r1
      have R1 := Lib.hid r1
      clear r1
      go_enter Try.func17, Try.ntmps17
      go_wp2
      go_loopw [22, 7] (fun i rest wr => UnRel w l w.heap.size i rest wr) (fun i _ _ => 2 - (intOf i).toNat)
      case atStart => exact ⟨0, cutA (some ad) 1 c 1, n - 1, c - 1, none, none, 0, 0, 0, 0, by omega, rfl, rfl, by omega, by omega, rfl, R1.out.alloc (Nat.le_refl _) _, Blk.new _ _ _, by simpa [gotA, bvs] using World.ownsRow_nil _ _ _ _, by simpa [gotB, bvs] using World.ownsRow_nil _ _ _ _, Ba (Below.refl _ _)⟩
      case round =>
        obtain ⟨j, A, n', c', A0, A1, n0, c0, n1, c1, hj, rfl, rfl, hc', hn', hok, hr', hblk, ho0, ho1, hb⟩ := hrel
        have hcr : wr.cell? ad = some (.int .u8 (at8 l 0)) := (hb.cell hbl).trans hcell
        have HR' := Lib.hid hr'
        have HO0 := Lib.hid ho0
        have HO1 := Lib.hid ho1
        have HK := Lib.hid hok
        have hlr : (rst l j).length = n' := by have := hr'.1; rw [bvs_length] at this; omega
        have HLR := Lib.hid hlr
        clear hr' ho0 ho1 hok hlr
        by_cases hlt : j < 2
        · have hsh := shr_bit l j hlt h3
          cases hbit : bitJ l j with
          | false =>
            obtain ⟨e1, e2, e3, e4⟩ := un_skip l j hlt hbit HK.out
            have E := Lib.hid (And.intro e1 (And.intro e2 (And.intro e3 e4)))
            clear e1 e2 e3 e4
            rw [hbit] at hsh
            clear hbit
            go_wp2_with fail
            go_roundw
            case rel =>
              obtain ⟨e1, e2, e3, e4⟩ := E.out
              exact ⟨j + 1, A, n', c', A0, A1, n0, c0, n1, c1, by omega, by go_num, rfl, hc', hn', e1, by rw [e2]; exact HR'.out, hblk, by rw [e3]; exact HO0.out, by rw [e4]; exact HO1.out, hb⟩
            case measure => simp [intOf]; omega
          | true =>
            have HB := Lib.hid hbit
            rw [hbit] at hsh
            clear hbit
            by_cases h2 : n' < 2
            · have HN := Lib.hid (un_bad l j hlt (by rw [HB.out]; simp [inOk, HLR.out]; omega))
              go_wp2_with fail
              refine bodyPost_ret (v := .tuple #[.slice none 0 0, .bool false, .slice none 0 0, .bool false, .int .i64 4]) (by simp [results, Try.results17, go_sem]) rfl ?_
              exact unGives_no HN.out rfl hb
            · obtain ⟨q1, q2⟩ := num_len2 (rst l j)
              obtain ⟨q, hq⟩ : ∃ q, q = len2 (rst l j) := ⟨_, rfl⟩
              rw [← hq] at q1 q2
              have Q1 := Lib.hid q1
              have HQ := Lib.hid hq
              clear q1 hq
              go_wp2_with fail
              refine (get_any _ _ 2 _ _ _ (by omega) (by omega) hn' (HR'.out.more hb.size)).mono ?_
              rintro e w1 ⟨rfl, rfl⟩
              rw [Q1.out]
              by_cases h4 : q ≤ 400
              · by_cases h5 : q + 2 ≤ n'
                · have hyes : inOk (rst l j) true = true := by simp [inOk, HLR.out, ← HQ.out]; omega
                  obtain ⟨e1, e2, e3, e4⟩ := un_take l j hlt HB.out HK.out hyes
                  rw [← HQ.out] at e2 e3 e4
                  have E := Lib.hid (And.intro e1 (And.intro e2 (And.intro e3 e4)))
                  clear e1 e2 e3 e4 hyes
                  have t2 : ∀ W, (Instr.sliceAt 22 (.slice A n' c') (some (.int .i64 2)) (some (.int .i64 (2 + (q : Int)))) none).run Try.prog W = .ok (.slice (cutA A 2 c' 1) q (c' - 2)) W := fun W => by
                    have := midB A n' c' 2 (2 + (q : Int)) (by omega) (by omega) (by omega) W
                    rw [show (2 + (q : Int)).toNat - (2 : Int).toNat = q by omega] at this
                    exact this
                  have t3 : ∀ W, (Instr.sliceAt 22 (.slice A n' c') (some (.int .i64 (2 + (q : Int)))) none none).run Try.prog W = .ok (.slice (cutA A (2 + q) c' 1) (n' - (2 + q)) (c' - (2 + q))) W := fun W => by
                    have := fromB A n' c' (2 + (q : Int)) (by omega) (by omega) W
                    rw [show (2 + (q : Int)).toNat = 2 + q by omega] at this
                    exact this
                  have r3 := HR'.out.midA (k := 2) (m := 2 + q) (cap := c') (by omega) (by omega) hc'
                  have r4 := HR'.out.midA (k := 2 + q) (m := n') (cap := c') (by omega) (by omega) hc'
                  rw [← bvs_drop, ← bvs_take, show 2 + q - 2 = q by omega] at r3
                  rw [← bvs_drop, ← bvs_take, List.take_of_length_le (by rw [List.length_drop, HLR.out]; omega)] at r4
                  have R3 := Lib.hid (r3.more hb.size)
                  have R4 := Lib.hid r4
                  clear r3 r4
                  have hglt := hblk.lt
                  obtain ⟨u, ku⟩ : ∃ u, wr.cell? ⟨w.heap.size, j, none⟩ = some u := by
                    rw [hblk.cell j]
                    have h2 : j = 0 ∨ j = 1 := by omega
                    rcases h2 with rfl | rfl <;> exact ⟨_, rfl⟩
                  have kf := hblk.frozen j
                  have HBK := Lib.hid hblk
                  clear hblk
                  go_upto_region 14 with fail
                  have j0 : (0 : Int) ≤ (j : Int) := by omega
                  have j2 : (j : Int) < 2 := by omega
                  have ew : IntKind.i64.wrap (2 + (q : Int)) = 2 + (q : Int) := IntWalk.i64_in _ (by omega)
                  have hd0 : Below wr.heap.size wr wr.drew := (Below.refl _ _).drew
                  go_region_held3 (fun w' => Below w.heap.size wr w')
                    (repeat (first | assumption | exact Below.refl _ _ | refine Below.drew ?_ | refine Below.setCell ?_ (by simp) _))
                    (first
                      | (go_at_call 56; refine (clone_any _ _ _ _ _ (bvs_one _) (by omega) (R3.out.go hd0)).mono ?_; rintro e w3 ⟨A3, c3, rfl, ho3, hb3⟩; have HO3 := Lib.hid ho3; have HB3 := Lib.hid hb3; obtain ⟨hc3, hf3, hz3⟩ := bcell hb3; have hbw3 : Below w.heap.size wr w3 := Below.mono (hd0.trans hb3) hb.size; have ku3 := cellKeep HB3.out (show wr.drew.cell? ⟨w.heap.size, j, none⟩ = some u from ku); have kf3 := (HB3.out.frozen (p := ⟨w.heap.size, j, none⟩) hglt).trans (show wr.drew.frozen? ⟨w.heap.size, j, none⟩ = false from kf); clear ho3 hb3))
                  have hBf : Below w.heap.size wr _ := ‹Below w.heap.size wr (World.setCell _ _ _)›
                  go_wp2_with fail
                  go_roundw
                  case rel =>
                    obtain ⟨e1, e2, e3, e4⟩ := E.out
                    have hbk3 := HBK.out.below (hd0.trans HB3.out) hglt
                    have o0 := own_setCell (own_go (own_dr HO0.out) HB3.out) hbk3 (by decide) j (.slice A3 q c3)
                    have o1 := own_setCell (own_go (own_dr HO1.out) HB3.out) hbk3 (by decide) j (.slice A3 q c3)
                    have o3 := own_setCell (ownsRow_mono HO3.out hb.size) hbk3 (by decide) j (.slice A3 q c3)
                    have hset := hbk3.set_ j (.slice A3 q c3)
                    have hrd := R4.out.below hBf
                    have h2 : j = 0 ∨ j = 1 := by omega
                    rcases h2 with rfl | rfl
                    · exact ⟨1, cutA A (2 + q) c' 1, n' - (2 + q), c' - (2 + q), A3, A1, q, c3, n1, c1, by omega, rfl, rfl, by omega, by omega, e1, by rw [e2]; exact R4.out.below (hb := hBf), hset, by rw [e3]; exact o3, by rw [e4]; exact o1, hb.trans hBf⟩
                    · exact ⟨2, cutA A (2 + q) c' 1, n' - (2 + q), c' - (2 + q), A0, A3, n0, c0, q, c3, by omega, rfl, rfl, by omega, by omega, e1, by rw [e2]; exact R4.out.below (hb := hBf), hset, by rw [e3]; exact o0, by rw [e4]; exact o3, hb.trans hBf⟩
                  case measure => simp [intOf]; omega
                · have HN := Lib.hid (un_bad l j hlt (by rw [HB.out]; simp [inOk, HLR.out, ← HQ.out]; omega))
                  go_wp2_with fail
                  refine bodyPost_ret (v := .tuple #[.slice none 0 0, .bool false, .slice none 0 0, .bool false, .int .i64 4]) (by simp [results, Try.results17, go_sem]) rfl ?_
                  exact unGives_no HN.out rfl hb
              · have HN := Lib.hid (un_bad l j hlt (by rw [HB.out]; simp [inOk, HLR.out, ← HQ.out]; omega))
                go_wp2_with fail
                refine bodyPost_ret (v := .tuple #[.slice none 0 0, .bool false, .slice none 0 0, .bool false, .int .i64 4]) (by simp [results, Try.results17, go_sem]) rfl ?_
                exact unGives_no HN.out rfl hb
        · obtain rfl : j = 2 := by omega
          have hend := un_end l n' HK.out h3 (by rw [HL.out]; exact hpos) HLR.out
          by_cases hz : n' = 0
          · subst hz
            have HY := Lib.hid (show unOk l = true by rw [hend]; rfl)
            have b0 := bits_bit0 l h3
            have b1 := bits_bit1 l h3
            have k0 := hblk.cell 0
            have k1 := hblk.cell 1
            clear hend
            go_wp2
            go_quiet (fail)
            go_wp2
            refine bodyPost_ret (v := .tuple #[.slice A0 n0 c0, .bool (bit0 l), .slice A1 n1 c1, .bool (bit1 l), .int .i64 0]) (by simp [results, Try.results17, go_sem]) rfl ?_
            refine unGives_yes HY.out rfl ?_ ?_ (below_drewN hb _)
            · have := Reads.of_own HO0.out
              simp only [gotA] at this
              exact this
            · have := Reads.of_own HO1.out
              simp only [gotB] at this
              exact this
          · have HN := Lib.hid (show unOk l = false by rw [hend]; simpa using hz)
            have hz1 : ((n' : Int) != 0) = true := by rw [bne_iff_ne]; omega
            clear hend
            go_wp2
            refine bodyPost_ret (v := .tuple #[.slice none 0 0, .bool false, .slice none 0 0, .bool false, .int .i64 4]) (by simp [results, Try.results17, go_sem]) rfl ?_
            exact unGives_no HN.out rfl hb
    · have HN := Lib.hid (show unOk l = false by simp [unOk, h3])
      have h4 : 3 < at8 l 0 := by omega
      go_enter Try.func17, Try.ntmps17
      go_wp2
      refine bodyPost_ret (v := .tuple #[.slice none 0 0, .bool false, .slice none 0 0, .bool false, .int .i64 4]) (by simp [results, Try.results17, go_sem]) rfl ?_
      exact unGives_no HN.out rfl (Below.refl _ _)
end Go.Proofs.Ytgnajpoebooafaa
