/-
The payload of a set, read: the contract of the program's GetSet. Conditions: lengths of at most 1000000.
-/
import Derived.Test.YtgnajpoebooafaaAgSet
namespace Go.Proofs.Ytgnajpoebooafaa
set_option linter.unusedVariables false
set_option linter.unusedSimpArgs false
set_option maxRecDepth 100000
open Go.RowKit
def gsOk (p : List UInt8) (n : Nat) : Bool := decide (9 ≤ n) && decide (at8 p 8 ≤ 1) && psOk (numI (p.take 8)) (p.drop 9)
def gsS (p : List UInt8) (n : Nat) : Int := if gsOk p n then numI (p.take 8) else 0
def gsC (p : List UInt8) (n : Nat) (cy : Int) : Int := if gsOk p n then cy else 0
def gsF (p : List UInt8) (n : Nat) : Bool := if gsOk p n then (at8 p 8 == 1) else false
def gsD (p : List UInt8) (n : Nat) : List UInt8 := if gsOk p n then p.drop 9 else []
def gsE (p : List UInt8) (n : Nat) : Int := if gsOk p n then 0 else 4
def GetSetGives (w : World) (cy : Int) (p : List UInt8) (n : Nat) (e : Ending) (w' : World) : Prop :=
  ∃ A m c, e = .returned (.tuple #[.agg #[.int .i64 (gsS p n), .int .i64 (gsC p n cy), .bool (gsF p n), .slice A m c], .int .i64 (gsE p n)]) ∧ Reads w' w'.heap.size 1 A m (bvs (gsD p n)) ∧ m ≤ c ∧ Below w.heap.size w w'
theorem getSet_no {w w' : World} {cy : Int} {p : List UInt8} {n : Nat} {e : Ending} (h : gsOk p n = false) (he : e = .returned (.tuple #[.agg #[.int .i64 0, .int .i64 0, .bool false, .slice none 0 0], .int .i64 4])) (hb : Below w.heap.size w w') : GetSetGives w cy p n e w' :=
  ⟨none, 0, 0, by rw [he]; simp only [gsS, gsC, gsF, gsE, h]; rfl, by simp only [gsD, h]; exact Reads.none_, by omega, hb⟩
theorem gsS_yes {p : List UInt8} {n : Nat} (h : gsOk p n = true) : gsS p n = numI (p.take 8) := if_pos h
theorem gsC_yes {p : List UInt8} {n : Nat} (cy : Int) (h : gsOk p n = true) : gsC p n cy = cy := if_pos h
theorem gsF_yes {p : List UInt8} {n : Nat} (h : gsOk p n = true) : gsF p n = (at8 p 8 == 1) := if_pos h
theorem gsD_yes {p : List UInt8} {n : Nat} (h : gsOk p n = true) : gsD p n = p.drop 9 := if_pos h
theorem gsE_yes {p : List UInt8} {n : Nat} (h : gsOk p n = true) : gsE p n = 0 := if_pos h
theorem getSet_yes {w w' : World} {cy : Int} {p : List UInt8} {n : Nat} {e : Ending} {A : Option Addr} {m c : Nat} (h : gsOk p n = true) (he : e = .returned (.tuple #[.agg #[.int .i64 (numI (p.take 8)), .int .i64 cy, .bool (at8 p 8 == 1), .slice A m c], .int .i64 0])) (hr : Reads w' w'.heap.size 1 A m (bvs (p.drop 9))) (hc : m ≤ c) (hb : Below w.heap.size w w') : GetSetGives w cy p n e w' := by
  unfold GetSetGives
  rw [gsS_yes h, gsC_yes cy h, gsF_yes h, gsD_yes h, gsE_yes h]
  exact ⟨A, m, c, he, hr, hc, hb⟩
theorem gs_not1 {p : List UInt8} {n : Nat} (h : n < 9) : gsOk p n = false := by unfold gsOk; rw [decide_eq_false (by omega)]; rfl
theorem gs_not2 {p : List UInt8} {n : Nat} (h : 1 < at8 p 8) : gsOk p n = false := by unfold gsOk; rw [decide_eq_false (show ¬ at8 p 8 ≤ 1 by omega)]; simp
theorem gs_psE (st : Int) (l : List UInt8) : psE st l = if psOk st l then 0 else if 0 ≤ st then 4 else 1 := by
  unfold psE psOk unE
  by_cases h : 0 ≤ st <;> cases unOk l <;> simp [h]
theorem numI_i64 (l : List UInt8) : I64 (numI l) := by
  unfold numI wrap64 I64
  omega
theorem set4' {B g : Nat} {w W0 : World} {a b c d : Value} (h : Below B W0 w) (hg : B ≤ g) : Below B W0 ((((w.setCell ⟨g, 0, none⟩ a).setCell ⟨g, 1, none⟩ b).setCell ⟨g, 2, none⟩ c).setCell ⟨g, 3, none⟩ d) :=
  (((h.setCell hg _).setCell hg _).setCell hg _).setCell hg _
set_option maxHeartbeats 2000000 in
theorem getset1_any (cy : Int) (A : Option Addr) (n c : Nat) (p : List UInt8) (w : World) (hn : n ≤ 1000000) (hc : n ≤ c) (hr : Reads w w.heap.size 1 A n (bvs p)) :
    Calls Try.prog 34 #[.int .i64 cy, .slice A n c] w (GetSetGives w cy p n) := by
  by_cases h9 : n < 9
  · have HN := Lib.hid (gs_not1 (p := p) h9)
    clear hr
    go_enter Try.func34, Try.ntmps34
    go_wp2
    refine bodyPost_ret (v := .tuple #[.agg #[.int .i64 0, .int .i64 0, .bool false, .slice none 0 0], .int .i64 4]) (by simp [results, Try.results34, go_sem]) rfl ?_
    exact getSet_no HN.out rfl (Ba (Below.refl _ _))
  · have h9' : 9 ≤ n := by omega
    obtain ⟨ad, rfl, hbl, q8⟩ := hr.byte (k := 8) (by omega)
    have q8 : w.cell? ⟨ad.block, ad.off + 8, none⟩ = some (.int .u8 (at8 p 8)) := q8
    have hat := at8_lt p 8
    have HL := Lib.hid (show p.length = n by have := hr.1; rw [bvs_length] at this; omega)
    have R0 := Lib.hid hr
    have r9 := hr.midA (k := 9) (m := n) (cap := c) (by omega) (by omega) hc
    rw [← bvs_drop, ← bvs_take, List.take_of_length_le (by rw [List.length_drop, HL.out]; omega)] at r9
    have R9 := Lib.hid r9
    have s9 : ∀ W, (Instr.sliceAt 22 (.slice (some ad) n c) (some (.int .i64 9)) none none).run Try.prog W = .ok (.slice (cutA (some ad) 9 c 1) (n - 9) (c - 9)) W := fun W => fromB (some ad) n c 9 (by omega) (by omega) W
    clear hr r9 h9
    have i8 : (8 : Int) < (n : Int) := by omega
    by_cases h1 : 1 < at8 p 8
    · have HN := Lib.hid (gs_not2 (n := n) h1)
      go_enter Try.func34, Try.ntmps34
      go_wp2
      refine bodyPost_ret (v := .tuple #[.agg #[.int .i64 0, .int .i64 0, .bool false, .slice none 0 0], .int .i64 4]) (by simp [results, Try.results34, go_sem]) rfl ?_
      exact getSet_no HN.out rfl (Ba (Below.refl _ _))
    · have h1' : at8 p 8 ≤ 1 := by omega
      have OK := Lib.hid (show gsOk p n = psOk (numI (p.take 8)) (p.drop 9) by unfold gsOk; rw [decide_eq_true h9', decide_eq_true h1', Bool.true_and, Bool.true_and])
      go_enter Try.func34, Try.ntmps34
      go_upto_region 3 with fail
      have hB0 : Below w.heap.size w (w.alloc (.cells #[.int .i64 0, .int .i64 0, .bool false, .slice none 0 0] 64)) := Ba (Below.refl _ _)
      have hz0 : (w.alloc (.cells #[.int .i64 0, .int .i64 0, .bool false, .slice none 0 0] 64)).heap.size = w.heap.size + 1 := by simp
      have z1 : Blk (w.alloc (.cells #[.int .i64 0, .int .i64 0, .bool false, .slice none 0 0] 64)) w.heap.size 64 #[.int .i64 0, .int .i64 0, .bool false, .slice none 0 0] := Blk.new _ _ _
      generalize w.alloc (.cells #[.int .i64 0, .int .i64 0, .bool false, .slice none 0 0] 64) = W0 at *
      have HZ := Lib.hid hz0
      have hblt : ad.block < W0.heap.size := by omega
      clear hz0
      have mk : ∀ w' : World, Below W0.heap.size W0 w' → w'.cell? ⟨ad.block, ad.off + 8, none⟩ = some (.int .u8 (at8 p 8)) ∧ Below W0.heap.size W0 w' := fun w' h => ⟨(h.cell (p := ⟨ad.block, ad.off + 8, none⟩) hblt).trans ((hB0.cell (p := ⟨ad.block, ad.off + 8, none⟩) hbl).trans q8), h⟩
      have MK := Lib.hid mk
      clear mk q8
      go_cut [6] (fun v wx => ∃ (g : Nat) (A3 : Option Addr) (c3 : Nat), v = .pointer (some ⟨g, 0, none⟩) ∧ Blk wx g 64 #[.int .i64 (numI (p.take 8)), .int .i64 cy, .bool (at8 p 8 == 1), .slice A3 (n - 9) c3] ∧ W0.heap.size ≤ g ∧
        wx.ownsRow W0.heap.size 5 1 (.slice A3 (n - 9) c3) (n - 9) (bvs (p.drop 9)) ∧ Below W0.heap.size W0 wx)
      case first =>
        have hd : Below W0.heap.size W0 W0.drew := (Below.refl _ _).drew
        go_region_held3 (fun w' => w'.cell? ⟨ad.block, ad.off + 8, none⟩ = some (.int .u8 (at8 p 8)) ∧ Below W0.heap.size W0 w')
          (first
            | assumption
            | exact MK.out _ (by repeat (first | assumption | exact Below.refl _ _ | refine Below.drew ?_ | refine Ba ?_ | refine Below.setCell ?_ (by simp) _)))
          (first
            | (go_at_call 55; rcases ‹_ ∧ Below _ _ _› with ⟨_, sB⟩; refine (get8 _ _ _ _ _ (by omega) (by omega) (R0.out.go (Bt hB0 sB))).mono ?_; rintro e w3 ⟨rfl, rfl⟩)
            | (go_at_call 56; rcases ‹_ ∧ Below _ _ _› with ⟨_, sB⟩; refine (clone_any _ _ _ _ _ (bvs_one _) (by omega) (R9.out.go (Bt hB0 sB))).mono ?_; rintro e w3 ⟨A3, c3, rfl, ho3, hb3⟩; have hw3 : Below W0.heap.size W0 w3 := Bt sB hb3; have hz4 : W0.heap.size ≤ w3.heap.size := hw3.size; have HB3 := Lib.hid hb3; obtain ⟨hc3, hf3, hz3⟩ := bcell hb3; have HO3 := Lib.hid (ownsRow_mono ho3 sB.size); clear ho3 hb3; try simp at hz3)
            | fail)
        all_goals
          go_wp2_with fail
          go_meet
          first
            | (refine ⟨w3.heap.size, A3, c3, by with_reducible rfl, ?_⟩; exact ⟨Blk.new _ _ _, hz4, own_al HO3.out, Ba hw3⟩)
            | (refine ⟨W0.heap.size, A3, c3, by with_reducible rfl, ?_⟩
               have b1 : Blk w3 W0.heap.size 64 #[.int .i64 0, .int .i64 0, .bool false, .slice none 0 0] := Blk.go (Blk.drew (Blk.new' rfl)) HB3.out
               exact ⟨(((b1.set_ 0 _).set_ 1 _).set_ 2 _).set_ 3 _, Nat.le_refl _, own_setCell (own_setCell (own_setCell (own_setCell HO3.out b1 (by decide) 0 _) (b1.set_ 0 _) (by decide) 1 _) ((b1.set_ 0 _).set_ 1 _) (by decide) 2 _) (((b1.set_ 0 _).set_ 1 _).set_ 2 _) (by decide) 3 _, set4' hw3 (Nat.le_refl _)⟩)
      case rest =>
        obtain ⟨g, A3, c3, rfl, hblk, hg0, hown, hB⟩ := hcut
        have HO := Lib.hid hown
        have hcl := own_le hown
        have HB := Lib.hid hB
        have HK := Lib.hid hblk
        have hglt := hblk.lt
        have kc := hblk.cell
        have hI := numI_i64 (p.take 8)
        have P1 := Lib.hid (gs_psE (numI (p.take 8)) (p.drop 9))
        clear hown hblk hB s9
        go_upto_region 5 with (first
          | (go_at_call 31; refine (putset1_any _ _ _ _ _ _ _ _ hI (by omega) hcl (Reads.of_own HO.out)).mono ?_; rintro e w4 ⟨A4, n4, c4, rfl, -, hc4, hn4, hb4⟩))
        have hbk4 := HK.out.below hb4 hglt
        have HO4 := Lib.hid (ownsRow_below HO.out hb4 (Nat.le_refl _))
        have z4 := z1.below (HB.out.trans (hb4.mono HB.out.size)) (by have := HZ.out; omega)
        have hB4 := Lib.hid (Bt (Bt hB0 HB.out) hb4)
        have k4 := hbk4.cell
        have f5 := hbk4.frozen
        have d4 := z4.cell
        have f4 := z4.frozen
        clear kc hb4 hI
        cases hv : psOk (numI (p.take 8)) (p.drop 9) with
        | false =>
          have F := Lib.hid (show gsOk p n = false by rw [OK.out, hv])
          have e1 : (psE (numI (p.take 8)) (p.drop 9) != 0) = true := by
            rw [P1.out, hv]
            simp only [Bool.false_eq_true, if_false]
            split <;> rfl
          clear hv
          go_wp2
          have s0 : _ = some (Value.int .i64 0) := ((z4.set_ 0 (.int .i64 0)).cell 0).trans (by simp)
          have s1 : _ = some (Value.int .i64 0) := (((z4.set_ 0 (.int .i64 0)).set_ 1 (.int .i64 0)).cell 1).trans (by simp)
          have s2 : _ = some (Value.bool false) := ((((z4.set_ 0 (.int .i64 0)).set_ 1 (.int .i64 0)).set_ 2 (.bool false)).cell 2).trans (by simp)
          have s3 : _ = some (Value.slice none 0 0) := (((((z4.set_ 0 (.int .i64 0)).set_ 1 (.int .i64 0)).set_ 2 (.bool false)).set_ 3 (.slice none 0 0)).cell 3).trans (by simp)
          refine bodyPost_ret (v := .tuple #[.agg #[.int .i64 0, .int .i64 0, .bool false, .slice none 0 0], .int .i64 4]) (by simp [results, Try.results34, go_sem, s0, s1, s2, s3]) rfl ?_
          exact getSet_no F.out rfl (set4' hB4.out (Nat.le_refl _))
        | true =>
          have F := Lib.hid (show gsOk p n = true by rw [OK.out, hv])
          have e1 : (psE (numI (p.take 8)) (p.drop 9) != 0) = false := by
            rw [P1.out, hv, if_pos rfl]; rfl
          clear hv
          go_wp2
          have s0 : _ = some (Value.int .i64 (numI (p.take 8))) := ((z4.set_ 0 (.int .i64 (numI (p.take 8)))).cell 0).trans (by simp)
          have s1 : _ = some (Value.int .i64 cy) := (((z4.set_ 0 (.int .i64 (numI (p.take 8)))).set_ 1 (.int .i64 cy)).cell 1).trans (by simp)
          have s2 : _ = some (Value.bool (at8 p 8 == 1)) := ((((z4.set_ 0 (.int .i64 (numI (p.take 8)))).set_ 1 (.int .i64 cy)).set_ 2 (.bool (at8 p 8 == 1))).cell 2).trans (by simp)
          have s3 : _ = some (Value.slice A3 (n - 9) c3) := (((((z4.set_ 0 (.int .i64 (numI (p.take 8)))).set_ 1 (.int .i64 cy)).set_ 2 (.bool (at8 p 8 == 1))).set_ 3 (.slice A3 (n - 9) c3)).cell 3).trans (by simp)
          refine bodyPost_ret (v := .tuple #[.agg #[.int .i64 (numI (p.take 8)), .int .i64 cy, .bool (at8 p 8 == 1), .slice A3 (n - 9) c3], .int .i64 0]) (by simp [results, Try.results34, go_sem, s0, s1, s2, s3]) rfl ?_
          refine getSet_yes F.out rfl (Reads.of_own (base := w.heap.size) (e := 5) (c := c3) ?_) hcl (set4' hB4.out (Nat.le_refl _))
          have o1 := ownsRow_mono HO4.out (show w.heap.size ≤ W0.heap.size by have := HZ.out; omega)
          exact own_setCell (own_setCell (own_setCell (own_setCell o1 z4 (by decide) 0 _) (z4.set_ 0 _) (by decide) 1 _) ((z4.set_ 0 _).set_ 1 _) (by decide) 2 _) (((z4.set_ 0 _).set_ 1 _).set_ 2 _) (by decide) 3 _
end Go.Proofs.Ytgnajpoebooafaa
