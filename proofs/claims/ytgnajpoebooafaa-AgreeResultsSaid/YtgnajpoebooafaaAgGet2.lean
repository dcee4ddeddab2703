/-
The payload of a result, read by the reference: the contract of its GetResult. Conditions: lengths of at most 1000000.
-/
import Derived.Test.YtgnajpoebooafaaAgGet
namespace Go.Proofs.Ytgnajpoebooafaa
set_option linter.unusedVariables false
set_option linter.unusedSimpArgs false
set_option maxRecDepth 100000
open Go.RowKit
set_option maxHeartbeats 2000000 in
theorem getres2_any (A : Option Addr) (n c : Nat) (l : List UInt8) (w : World) (hn : n ≤ 1000000) (hc : n ≤ c) (hr : Reads w w.heap.size 1 A n (bvs l)) :
    Calls Try.prog 24 #[.slice A n c] w (GetResGives w l n) := by
  by_cases h43 : n = 43
  · subst h43
    obtain ⟨ad, rfl, hbl, q8⟩ := hr.byte (k := 8) (by omega)
    obtain ⟨_, e9, -, q9⟩ := hr.byte (k := 9) (by omega)
    obtain ⟨_, e10, -, q10⟩ := hr.byte (k := 10) (by omega)
    injection e9 with e9
    injection e10 with e10
    subst e9 e10
    have r0 := hr.take (k := 8) (by omega)
    rw [Nat.mul_one, ← bvs_take] at r0
    have R0 := Lib.hid r0
    have s0 : ∀ W, (Instr.sliceAt 22 (.slice (some ad) 43 c) none (some (.int .i64 8)) none).run Try.prog W = .ok (.slice (some ad) 8 c) W := fun W => toB (some ad) 43 c 8 (by omega) (by omega) W
    have r11 := hr.midA (k := 11) (m := 19) (cap := c) (by omega) (by omega) hc
    rw [← bvs_drop, ← bvs_take] at r11
    have R11 := Lib.hid (p := Reads w w.heap.size 1 (cutA (some ad) 11 c 1) 8 (bvs ((l.drop 11).take 8))) r11
    have s11 : ∀ W, (Instr.sliceAt 22 (.slice (some ad) 43 c) (some (.int .i64 11)) (some (.int .i64 19)) none).run Try.prog W = .ok (.slice (cutA (some ad) 11 c 1) 8 (c - 11)) W := fun W => midB (some ad) 43 c 11 19 (by omega) (by omega) (by omega) W
    clear r11
    have r19 := hr.midA (k := 19) (m := 27) (cap := c) (by omega) (by omega) hc
    rw [← bvs_drop, ← bvs_take] at r19
    have R19 := Lib.hid (p := Reads w w.heap.size 1 (cutA (some ad) 19 c 1) 8 (bvs ((l.drop 19).take 8))) r19
    have s19 : ∀ W, (Instr.sliceAt 22 (.slice (some ad) 43 c) (some (.int .i64 19)) (some (.int .i64 27)) none).run Try.prog W = .ok (.slice (cutA (some ad) 19 c 1) 8 (c - 19)) W := fun W => midB (some ad) 43 c 19 27 (by omega) (by omega) (by omega) W
    clear r19
    have r27 := hr.midA (k := 27) (m := 35) (cap := c) (by omega) (by omega) hc
    rw [← bvs_drop, ← bvs_take] at r27
    have R27 := Lib.hid (p := Reads w w.heap.size 1 (cutA (some ad) 27 c 1) 8 (bvs ((l.drop 27).take 8))) r27
    have s27 : ∀ W, (Instr.sliceAt 22 (.slice (some ad) 43 c) (some (.int .i64 27)) (some (.int .i64 35)) none).run Try.prog W = .ok (.slice (cutA (some ad) 27 c 1) 8 (c - 27)) W := fun W => midB (some ad) 43 c 27 35 (by omega) (by omega) (by omega) W
    clear r27
    have r35 := hr.midA (k := 35) (m := 43) (cap := c) (by omega) (by omega) hc
    rw [← bvs_drop, ← bvs_take] at r35
    have R35 := Lib.hid (p := Reads w w.heap.size 1 (cutA (some ad) 35 c 1) 8 (bvs ((l.drop 35).take 8))) r35
    have s35 : ∀ W, (Instr.sliceAt 22 (.slice (some ad) 43 c) (some (.int .i64 35)) (some (.int .i64 43)) none).run Try.prog W = .ok (.slice (cutA (some ad) 35 c 1) 8 (c - 35)) W := fun W => midB (some ad) 43 c 35 43 (by omega) (by omega) (by omega) W
    clear r35
    clear hr r0
    have q8 : w.cell? ⟨ad.block, ad.off + 8, none⟩ = some (.int .u8 (at8 l 8)) := q8
    have q9 : w.cell? ⟨ad.block, ad.off + 9, none⟩ = some (.int .u8 (at8 l 9)) := q9
    have q10 : w.cell? ⟨ad.block, ad.off + 10, none⟩ = some (.int .u8 (at8 l 10)) := q10
    have mk : ∀ w' : World, Below w.heap.size w w' → (w'.cell? ⟨ad.block, ad.off + 8, none⟩ = some (.int .u8 (at8 l 8)) ∧ w'.cell? ⟨ad.block, ad.off + 9, none⟩ = some (.int .u8 (at8 l 9)) ∧ w'.cell? ⟨ad.block, ad.off + 10, none⟩ = some (.int .u8 (at8 l 10))) ∧ Below w.heap.size w w' :=
      fun w' hB => ⟨⟨(hB.cell (p := ⟨ad.block, ad.off + 8, none⟩) hbl).trans q8, (hB.cell (p := ⟨ad.block, ad.off + 9, none⟩) hbl).trans q9, (hB.cell (p := ⟨ad.block, ad.off + 10, none⟩) hbl).trans q10⟩, hB⟩
    have MK := Lib.hid mk
    clear mk
    go_enter Try.func24, Try.ntmps24
    go_upto_region 3 with fail
    go_cut [4] (fun v wx => v = .pointer (some ⟨w.heap.size + 1, 0, none⟩) ∧ (((w.alloc (.cells #[.int .i64 0, .int .u8 0, .int .u8 0, .int .u8 0, .int .i64 0, .int .i64 0, .int .i64 0, .int .i64 0] 43)).alloc (.cells #[.int .u8 (at8 l 8), .int .u8 (at8 l 9), .int .u8 (at8 l 10), .int .i64 0, .int .i64 0, .int .i64 0, .int .i64 0] 36)).drew) = wx)
    case first =>
      go_region_held3 (fun w' => (w'.cell? ⟨ad.block, ad.off + 8, none⟩ = some (.int .u8 (at8 l 8)) ∧ w'.cell? ⟨ad.block, ad.off + 9, none⟩ = some (.int .u8 (at8 l 9)) ∧ w'.cell? ⟨ad.block, ad.off + 10, none⟩ = some (.int .u8 (at8 l 10))) ∧ Below w.heap.size w w')
        (exact MK.out _ (by repeat (first | exact Below.refl _ _ | refine Below.drew ?_ | refine Ba ?_)))
        (fail)
      all_goals
        go_wp2_with fail
        go_meet
        exact ⟨rfl, rfl⟩
    case rest =>
      obtain ⟨rfl, rfl⟩ := hcut
      go_wp2_with fail
      refine (num_any _ _ _ _ _ (by omega) (R11.out.go (by repeat (first | exact Below.refl _ _ | refine Below.drew ?_ | refine Ba ?_)))).mono ?_
      rintro e w3 ⟨rfl, rfl⟩
      go_wp2_with fail
      refine (num_any _ _ _ _ _ (by omega) (R19.out.go (by repeat (first | exact Below.refl _ _ | refine Below.drew ?_ | refine Ba ?_)))).mono ?_
      rintro e w3 ⟨rfl, rfl⟩
      go_wp2_with fail
      refine (num_any _ _ _ _ _ (by omega) (R27.out.go (by repeat (first | exact Below.refl _ _ | refine Below.drew ?_ | refine Ba ?_)))).mono ?_
      rintro e w3 ⟨rfl, rfl⟩
      go_wp2_with fail
      refine (num_any _ _ _ _ _ (by omega) (R35.out.go (by repeat (first | exact Below.refl _ _ | refine Below.drew ?_ | refine Ba ?_)))).mono ?_
      rintro e w3 ⟨rfl, rfl⟩
      go_upto_region 8 with fail
      go_region_held3 (fun w' => (∀ o, w'.cell? ⟨w.heap.size + 1, o, none⟩ = (#[.int .u8 (at8 l 8), .int .u8 (at8 l 9), .int .u8 (at8 l 10), .int .i64 (numI ((l.drop 11).take 8)), .int .i64 (numI ((l.drop 19).take 8)), .int .i64 (numI ((l.drop 27).take 8)), .int .i64 (numI ((l.drop 35).take 8))] : Array Value)[o]?) ∧ Below w.heap.size w w')
        (first
          | assumption
          | exact ⟨Blk.cell (t := 36) (by repeat (first | with_reducible exact Blk.new' (by simp) | with_reducible refine Blk.drew ?_)), by repeat (first | exact Below.refl _ _ | refine Below.drew ?_ | refine Ba ?_)⟩)
        (first
          | (go_at_call 58; refine (num_any _ _ _ _ _ (by omega) (R0.out.go (by repeat (first | exact Below.refl _ _ | refine Below.drew ?_ | refine Ba ?_)))).mono ?_; rintro e w3 ⟨rfl, rfl⟩)
          | fail)
      all_goals
        go_wp2_with fail
        refine bodyPost_ret (v := .tuple #[.agg #[.int .i64 (numI (l.take 8)), .int .u8 (at8 l 8), .int .u8 (at8 l 9), .int .u8 (at8 l 10), .int .i64 (numI ((l.drop 11).take 8)), .int .i64 (numI ((l.drop 19).take 8)), .int .i64 (numI ((l.drop 27).take 8)), .int .i64 (numI ((l.drop 35).take 8))], .int .i64 0]) (by simp [results, Try.results24, go_sem]) rfl ?_
        exact getRes_yes rfl (by repeat (first | exact Below.refl _ _ | refine Below.drew ?_ | refine Ba ?_))
  · have hne : ((n : Int) != 43) = true := by rw [bne_iff_ne]; omega
    have H := Lib.hid h43
    clear h43 hr
    go_enter Try.func24, Try.ntmps24
    go_wp2
    refine bodyPost_ret (v := .tuple #[.agg #[.int .i64 0, .int .u8 0, .int .u8 0, .int .u8 0, .int .i64 0, .int .i64 0, .int .i64 0, .int .i64 0], .int .i64 4]) (by simp [results, Try.results24, go_sem]) rfl ?_
    exact getRes_no H.out rfl (Ba (Below.refl _ _))
end Go.Proofs.Ytgnajpoebooafaa
