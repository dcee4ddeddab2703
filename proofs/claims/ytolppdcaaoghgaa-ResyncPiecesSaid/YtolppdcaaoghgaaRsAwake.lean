/-
The law package's helpers: awake (the chapter's examples hold), cut, own, and the reference's SamePiece. Conditions: lengths of at most 2^47.
-/
import Derived.Test.YtolppdcaaoghgaaWords2
import Derived.Test.YtolppdcaaoghgaaRsSplit2
import Derived.Test.YtolppdcaaoghgaaRsLim
namespace Go.Proofs.Ytolppdcaaoghgaa
set_option linter.unusedVariables false
set_option linter.unusedSimpArgs false
set_option maxRecDepth 100000
open Go.RowKit
theorem makeB (n : Nat) (hn : n ≤ 140737488355328) (W : World) : (Instr.makeSlice 22 (.int .i64 (n : Int)) (.int .i64 (n : Int))).run Try.prog W = .ok (.slice (some ⟨W.heap.size, 0, none⟩) n n) (W.alloc (.cells (madeCells #[.int .u8 0] n) 5)) := by
  obtain ⟨i0, hi0, hz0, hz1, hz2⟩ := info_parts Try.infoB
  have h := run_make_rowN (P := Try.prog) 22 5 i0 _ Try.underlying22 hi0 hz0 .i64 .i64 n n (Nat.le_refl _) (by rw [hz2]; omega) (by omega) W
  rw [hz1, Nat.mul_one] at h
  exact h

set_option maxHeartbeats 1000000 in
theorem awake54 (w : World) : Calls Try.prog 10 #[] w fun e w' => e = .returned (.bool true) ∧ Below w.heap.size w w' := by
  obtain ⟨Z, hZ⟩ : ∃ Z, Z = madeCells #[.int .u8 0] 601 := ⟨_, rfl⟩
  have hmk : ∀ W : World, (Instr.makeSlice 22 (.int .i64 601) (.int .i64 601)).run Try.prog W = .ok (.slice (some ⟨W.heap.size, 0, none⟩) 601 601) (W.alloc (.cells Z 5)) := fun W => by rw [hZ]; exact makeB 601 (by omega) W
  have HZ := Lib.hid hZ
  clear hZ
  go_enter Try.func10, Try.ntmps10
  go_wp2_with fail
  refine (split1_yes 3 _ 601 601 2 (List.replicate 601 0) _ (by omega) (by omega) (by omega) (by simp) (by omega) ?hr).mono ?_
  case hr => rw [HZ.out]; exact (reads_zero _ _ _).more (by simp)
  rintro e w1 ⟨A', c', xs, rfl, hown, heach, hb⟩
  obtain ⟨g, rfl, hg1, hg2, hcell⟩ := ownsRow_cells hown (by omega)
  obtain ⟨ys, ⟨A1, c1, rfl, h1⟩, h9, hys⟩ := heach.at_ (i := 1) (by omega)
  have k1 : w1.cell? ⟨g, 5, none⟩ = some (.int .i64 1) := by rw [hcell 5 (by omega)]; exact hys 1 (by omega)
  have k2 : w1.cell? ⟨g, 6, none⟩ = some (.int .i64 2) := by rw [hcell 6 (by omega)]; exact hys 2 (by omega)
  have k3 : w1.cell? ⟨g, 7, none⟩ = some (.slice A1 1 c1) := by rw [hcell 7 (by omega)]; exact (hys 3 (by omega)).trans (by simp [chunk])
  clear hcell hys h1 heach h9
  have HO := Lib.hid hown
  clear hown
  go_wp2_with fail
  refine (limit1 0 0 0 0 0 0 0 0 0 0 (-700) 0 0 0 300 0 0 0 _ (I64.of (by decide) (by decide)) (I64.of (by decide) (by decide)) (I64.of (by decide) (by decide)) (I64.of (by decide) (by decide)) (I64.of (by decide) (by decide)) (I64.of (by decide) (by decide)) (I64.of (by decide) (by decide)) (I64.of (by decide) (by decide)) (I64.of (by decide) (by decide)) (I64.of (by decide) (by decide)) (I64.of (by decide) (by decide)) (I64.of (by decide) (by decide))).mono ?_
  rintro e w2 ⟨rfl, hb2⟩
  rw [← hb2.cell (by simpa using hg2)] at k1 k2 k3
  have hg3 : g < w2.heap.size := by have := hb2.size; omega
  have e1 : towardI 0 (-700) 300 = -300 := by decide
  have e2 : selV 2 3 = 2 := by decide
  have e3 : selV 1 2 = 0 := by decide
  go_wp2_with (go_at_call 18; refine (select1 _ _ _).mono ?_; rintro e w' ⟨rfl, hb3⟩)
  go_ret
  refine ⟨rfl, ?_⟩
  repeat (first | exact Below.refl _ _ | assumption | refine Ba ?_ | refine Bd ?_ | refine Bt ?_ (by assumption))

set_option maxHeartbeats 400000 in
theorem cut54 (A : Option Addr) (n c : Nat) (m : Nat) (w : World) (h1 : n ≤ c) (h2 : n ≤ 9223372036854775807) (hm : m ≤ 1000000) :
    Calls Try.prog 11 #[.slice A n c, .int .i64 (m : Int)] w fun e w' => e = .returned (.slice A (min n m) c) ∧ w = w' := by
  go_enter Try.func11, Try.ntmps11
  go_wp2
  · go_ret
    have e : min n m = m := by omega
    rw [e]
    exact ⟨rfl, rfl⟩
  · go_ret
    have e : min n m = n := by omega
    rw [e]
    exact ⟨rfl, rfl⟩

theorem own54 (a b d : Int) (A : Option Addr) (n c : Nat) (w : World) :
    Calls Try.prog 15 #[.agg #[.int .i64 a, .int .i64 b, .int .i64 d, .slice A n c]] w fun e w' => e = .returned (.agg #[.int .i64 a, .int .i64 b, .int .i64 d, .slice A n c]) ∧ Below w.heap.size w w' := by
  go_enter Try.func15, Try.ntmps15
  go_wp2
  go_returns
  exact ⟨rfl, by go_grown⟩

/-- SamePiece compares the numbers and the bytes -/
def sameP (a b d a' b' d' : Int) (l l' : List UInt8) : Bool := decide (a = a' ∧ b = b' ∧ d = d' ∧ l = l')
theorem samepiece (a b d a' b' d' : Int) (A A' : Option Addr) (n c n' c' B : Nat) (l l' : List UInt8) (w : World) (hr : Reads w w.heap.size 1 A n (bvs l)) (hr' : Reads w w.heap.size 1 A' n' (bvs l')) :
    Calls Try.prog 14 #[.agg #[.int .i64 a, .int .i64 b, .int .i64 d, .slice A n c], .agg #[.int .i64 a', .int .i64 b', .int .i64 d', .slice A' n' c']] w fun e w' => e = .returned (.bool (sameP a b d a' b' d' l l')) ∧ Below w.heap.size w w' := by
  have s1 := fun o1 o2 => run_string (P := Try.prog) (c := c) ((hr.alloc (Nat.le_refl _) o1).alloc (by simp) o2) 22 9 5 Try.underlying22 Try.underlying5 Try.underlying9
  have s2 := fun o1 o2 => run_string (P := Try.prog) (c := c') ((hr'.alloc (Nat.le_refl _) o1).alloc (by simp) o2) 22 9 5 Try.underlying22 Try.underlying5 Try.underlying9
  clear hr hr'
  have fin : ∀ r : Bool, sameP a b d a' b' d' l l' = r → Ending.returned (.bool r) = .returned (.bool (sameP a b d a' b' d' l l')) := fun r h => by rw [h]
  have F := Lib.hid fin
  clear fin
  go_enter Try.func14, Try.ntmps14
  go_wp2
  all_goals
    go_ret
    refine ⟨F.out _ ?_, by go_grown⟩
    simp_all [sameP, bytes_eq]
    try (rw [Bool.eq_iff_iff]; simp)
end Go.Proofs.Ytolppdcaaoghgaa
