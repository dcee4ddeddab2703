/-
The payload of a set, read by the reference: the contract of its GetSet. Conditions: lengths of at most 1000000.
-/
import Derived.Test.YtgnajpoebooafaaAgGs
namespace Go.Proofs.Ytgnajpoebooafaa
set_option linter.unusedVariables false
set_option linter.unusedSimpArgs false
set_option maxRecDepth 100000
open Go.RowKit
theorem gs_not3 {p : List UInt8} {n : Nat} (h : psOk (numI (p.take 8)) (p.drop 9) = false) : gsOk p n = false := by unfold gsOk; rw [h, Bool.and_false]
theorem gs_is {p : List UInt8} {n : Nat} (h9 : 9 ≤ n) (h1 : at8 p 8 ≤ 1) (h0 : 0 ≤ numI (p.take 8)) (hu : unOk (p.drop 9) = true) : gsOk p n = true := by
  unfold gsOk psOk; rw [decide_eq_true h9, decide_eq_true h1, decide_eq_true h0, hu]; rfl
set_option maxHeartbeats 2000000 in
theorem getset2_any (cy : Int) (A : Option Addr) (n c : Nat) (p : List UInt8) (w : World) (hn : n ≤ 1000000) (hc : n ≤ c) (hr : Reads w w.heap.size 1 A n (bvs p)) :
    Calls Try.prog 36 #[.int .i64 cy, .slice A n c] w (GetSetGives w cy p n) := by
  by_cases h9 : n < 9
  · have HN := Lib.hid (gs_not1 (p := p) h9)
    clear hr
    go_enter Try.func36, Try.ntmps36
    go_wp2
    refine bodyPost_ret (v := .tuple #[.agg #[.int .i64 0, .int .i64 0, .bool false, .slice none 0 0], .int .i64 4]) (by simp [results, Try.results36, go_sem]) rfl ?_
    exact getSet_no HN.out rfl (Ba (Below.refl _ _))
  · have h9' : 9 ≤ n := by omega
    obtain ⟨ad, rfl, hbl, q8⟩ := hr.byte (k := 8) (by omega)
    have q8 : w.cell? ⟨ad.block, ad.off + 8, none⟩ = some (.int .u8 (at8 p 8)) := q8
    have hat := at8_lt p 8
    have HL := Lib.hid (show p.length = n by have := hr.1; rw [bvs_length] at this; omega)
    have r0 := hr.take (k := 8) (by omega)
    rw [Nat.mul_one, ← bvs_take] at r0
    have R0 := Lib.hid r0
    have r9 := hr.midA (k := 9) (m := n) (cap := c) (by omega) (by omega) hc
    rw [← bvs_drop, ← bvs_take, List.take_of_length_le (by rw [List.length_drop, HL.out]; omega)] at r9
    have R9 := Lib.hid r9
    have s0 : ∀ W, (Instr.sliceAt 22 (.slice (some ad) n c) none (some (.int .i64 8)) none).run Try.prog W = .ok (.slice (some ad) 8 c) W := fun W => toB (some ad) n c 8 (by omega) (by omega) W
    have s9 : ∀ W, (Instr.sliceAt 22 (.slice (some ad) n c) (some (.int .i64 9)) none none).run Try.prog W = .ok (.slice (cutA (some ad) 9 c 1) (n - 9) (c - 9)) W := fun W => fromB (some ad) n c 9 (by omega) (by omega) W
    clear hr r9 r0 h9
    have i8 : (8 : Int) < (n : Int) := by omega
    have hI := numI_i64 (p.take 8)
    by_cases h0 : numI (p.take 8) < 0
    · have HN := Lib.hid (gs_not3 (p := p) (n := n) (by unfold psOk; rw [decide_eq_false (show ¬ 0 ≤ numI (p.take 8) by omega), Bool.false_and]))
      go_enter Try.func36, Try.ntmps36
      go_wp2_with fail
      refine (num_any _ _ _ _ _ (by omega) (R0.out.go (Ba (Below.refl _ _)))).mono ?_
      rintro e w1 ⟨rfl, rfl⟩
      go_wp2
      refine bodyPost_ret (v := .tuple #[.agg #[.int .i64 0, .int .i64 0, .bool false, .slice none 0 0], .int .i64 4]) (by simp [results, Try.results36, go_sem]) rfl ?_
      exact getSet_no HN.out rfl (Ba (Below.refl _ _))
    · have h0' : 0 ≤ numI (p.take 8) := by omega
      by_cases h1 : 1 < at8 p 8
      · have HN := Lib.hid (gs_not2 (n := n) h1)
        go_enter Try.func36, Try.ntmps36
        go_wp2_with fail
        refine (num_any _ _ _ _ _ (by omega) (R0.out.go (Ba (Below.refl _ _)))).mono ?_
        rintro e w1 ⟨rfl, rfl⟩
        go_wp2
        refine bodyPost_ret (v := .tuple #[.agg #[.int .i64 0, .int .i64 0, .bool false, .slice none 0 0], .int .i64 4]) (by simp [results, Try.results36, go_sem]) rfl ?_
        exact getSet_no HN.out rfl (Ba (Below.refl _ _))
      · have h1' : at8 p 8 ≤ 1 := by omega
        cases hu : unOk (p.drop 9) with
        | false =>
          have HN := Lib.hid (gs_not3 (p := p) (n := n) (by unfold psOk; rw [hu, Bool.and_false]))
          have hE : unE (p.drop 9) = 4 := by simp only [unE, hu]; rfl
          clear hu
          go_enter Try.func36, Try.ntmps36
          go_wp2_with fail
          refine (num_any _ _ _ _ _ (by omega) (R0.out.go (Ba (Below.refl _ _)))).mono ?_
          rintro e w1 ⟨rfl, rfl⟩
          go_wp2_with fail
          refine (unpack2_any _ _ _ _ _ (by omega) (by omega) (R9.out.go (Ba (Below.refl _ _)))).mono ?_
          rintro e w2 ⟨A2, n2, c2, A3, n3, c3, he, -, -, hb2⟩
          rw [hE] at he
          subst he
          have z2 := (Blk.new w 67 #[.int .i64 0, .int .i64 0, .bool false, .slice none 0 0]).go hb2
          have d2 := z2.cell
          have f2 := z2.frozen
          clear hE
          go_wp2
          have t0 : _ = some (Value.int .i64 0) := ((z2.set_ 0 (.int .i64 0)).cell 0).trans (by simp)
          have t1 : _ = some (Value.int .i64 0) := (((z2.set_ 0 (.int .i64 0)).set_ 1 (.int .i64 0)).cell 1).trans (by simp)
          have t2 : _ = some (Value.bool false) := ((((z2.set_ 0 (.int .i64 0)).set_ 1 (.int .i64 0)).set_ 2 (.bool false)).cell 2).trans (by simp)
          have t3 : _ = some (Value.slice none 0 0) := (((((z2.set_ 0 (.int .i64 0)).set_ 1 (.int .i64 0)).set_ 2 (.bool false)).set_ 3 (.slice none 0 0)).cell 3).trans (by simp)
          refine bodyPost_ret (v := .tuple #[.agg #[.int .i64 0, .int .i64 0, .bool false, .slice none 0 0], .int .i64 4]) (by simp [results, Try.results36, go_sem, t0, t1, t2, t3]) rfl ?_
          exact getSet_no HN.out rfl (set4' (Bt (Ba (Below.refl _ _)) hb2) (Nat.le_refl _))
        | true =>
          have HY := Lib.hid (gs_is h9' h1' h0' hu)
          have hE : unE (p.drop 9) = 0 := by simp only [unE, hu]; rfl
          clear hu
          go_enter Try.func36, Try.ntmps36
          go_wp2_with fail
          refine (num_any _ _ _ _ _ (by omega) (R0.out.go (Ba (Below.refl _ _)))).mono ?_
          rintro e w1 ⟨rfl, rfl⟩
          go_wp2_with fail
          refine (unpack2_any _ _ _ _ _ (by omega) (by omega) (R9.out.go (Ba (Below.refl _ _)))).mono ?_
          rintro e w2 ⟨A2, n2, c2, A3, n3, c3, he, -, -, hb2⟩
          rw [hE] at he
          subst he
          have z2 := (Blk.new w 67 #[.int .i64 0, .int .i64 0, .bool false, .slice none 0 0]).go hb2
          have hB2 : Below w.heap.size w w2 := Bt (Ba (Below.refl _ _)) hb2
          have hlt2 := z2.lt
          have hne : ¬ w.heap.size = w2.heap.size := by omega
          have mk : ∀ w' : World, Below w.heap.size w w' → w'.cell? ⟨ad.block, ad.off + 8, none⟩ = some (.int .u8 (at8 p 8)) ∧ Below w.heap.size w w' := fun w' h => ⟨(h.cell (p := ⟨ad.block, ad.off + 8, none⟩) hbl).trans q8, h⟩
          have MK := Lib.hid mk
          have Z2 := Lib.hid z2
          clear hE mk hb2 z2 hI
          go_upto_region 6 with fail
          have hd : Below w.heap.size w w2.drew := hB2.drew
          go_region_held3 (fun w' => w'.cell? ⟨ad.block, ad.off + 8, none⟩ = some (.int .u8 (at8 p 8)) ∧ Below w.heap.size w w')
            (first
              | assumption
              | exact MK.out _ (by repeat (first | assumption | refine Below.drew ?_ | refine Below.alloc ?_ (by first | omega | (simp; omega) | (simp; done)) _ | refine Below.setCell ?_ (by simp) _)))
            (first
              | (go_at_call 58; rcases ‹_ ∧ Below _ _ _› with ⟨_, sB⟩; refine (num_any _ _ _ _ _ (by omega) (R0.out.go sB)).mono ?_; rintro e w3 ⟨rfl, rfl⟩)
              | (rcases ‹_ ∧ Below _ _ _› with ⟨_, sB⟩; refine stepB0 (base := w2.heap.size) rfl (.tmp 47) (.tmp 49) (by rfl) (by rfl) (by repeat (first | with_reducible refine own_dr ?_ | with_reducible exact own_nil' (by simp) (by simp) | with_reducible refine own_al ?_)) (by rfl) (R9.out.go sB) (bvs_one _) (by omega) (by simp) ?_; intro A5 c5 w5 ho5 hb5 hg5; have hw5 : Below w.heap.size w w5 := sB.trans (hb5.mono (by omega)); have z5 : Blk w5 w.heap.size 67 #[.int .i64 0, .int .i64 0, .bool false, .slice none 0 0] := Blk.grown (Blk.drew (Z2.out.alloc _)) hg5 (by simpa using hne); have Z5 := Lib.hid z5; have d5 := z5.cell; have f5 := z5.frozen; have HO5 := Lib.hid ho5; clear ho5 hb5 hg5 z5)
              | fail)
          all_goals
            go_wp2_with fail
            have z5 := Z5.out
            have t0 : _ = some (Value.int .i64 (numI (p.take 8))) := ((z5.set_ 0 (.int .i64 (numI (p.take 8)))).cell 0).trans (by simp)
            have t1 : _ = some (Value.int .i64 cy) := (((z5.set_ 0 (.int .i64 (numI (p.take 8)))).set_ 1 (.int .i64 cy)).cell 1).trans (by simp)
            have t2 : _ = some (Value.bool (at8 p 8 == 1)) := ((((z5.set_ 0 (.int .i64 (numI (p.take 8)))).set_ 1 (.int .i64 cy)).set_ 2 (.bool (at8 p 8 == 1))).cell 2).trans (by simp)
            have t3 : _ = some (Value.slice A5 (n - 9) c5) := (((((z5.set_ 0 (.int .i64 (numI (p.take 8)))).set_ 1 (.int .i64 cy)).set_ 2 (.bool (at8 p 8 == 1))).set_ 3 (.slice A5 (n - 9) c5)).cell 3).trans (by simp)
            refine bodyPost_ret (v := .tuple #[.agg #[.int .i64 (numI (p.take 8)), .int .i64 cy, .bool (at8 p 8 == 1), .slice A5 (n - 9) c5], .int .i64 0]) (by simp [results, Try.results36, go_sem, t0, t1, t2, t3]) rfl ?_
            refine getSet_yes HY.out rfl (Reads.of_own (base := w2.heap.size) (e := 5) (c := c5) ?_) (own_le HO5.out) (set4' hw5 (Nat.le_refl _))
            exact own_setCell (own_setCell (own_setCell (own_setCell HO5.out z5 (by decide) 0 _) (z5.set_ 0 _) (by decide) 1 _) ((z5.set_ 0 _).set_ 1 _) (by decide) 2 _) (((z5.set_ 0 _).set_ 1 _).set_ 2 _) (by decide) 3 _
end Go.Proofs.Ytgnajpoebooafaa
