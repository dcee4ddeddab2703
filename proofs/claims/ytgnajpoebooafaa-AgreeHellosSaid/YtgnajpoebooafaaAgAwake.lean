/-
The law package's helpers: awake (the chapter's examples hold), cut. Conditions: lengths of at most 2^62.
-/
import Derived.Lib.SlBytesConst
import Derived.Test.YtgnajpoebooafaaAgDec
import Derived.Test.YtgnajpoebooafaaAgPack
import Derived.Test.YtgnajpoebooafaaAgUn1
namespace Go.Proofs.Ytgnajpoebooafaa
set_option linter.unusedVariables false
set_option linter.unusedSimpArgs false
set_option maxRecDepth 100000
open Go.RowKit
theorem cut53 (A : Option Addr) (n c : Nat) (m : Int) (w : World) (h1 : n ≤ c) (h2 : n ≤ 9223372036854775807) (h0 : 0 ≤ m) (hm : m ≤ 1000000) :
    Calls Try.prog 14 #[.slice A n c, .int .i64 m] w fun e w' => e = .returned (.slice A (min n m.toNat) c) ∧ w = w' := by
  obtain ⟨k, rfl⟩ := Int.eq_ofNat_of_zero_le h0
  rw [Int.toNat_natCast]
  go_enter Try.func14, Try.ntmps14
  go_wp2
  · go_ret
    rw [show min n k = k by omega]
    exact ⟨rfl, rfl⟩
  · go_ret
    rw [show min n k = n by omega]
    exact ⟨rfl, rfl⟩
theorem reads_mark (w : World) (e : TypeId) (v : Value) (m : Nat × Nat) : Reads (w.alloc (.cells #[v] e m)) (w.heap.size + 1) 1 (some ⟨w.heap.size, 0, none⟩) 1 [v] := by
  refine ⟨rfl, fun _ => ⟨_, rfl, by simp, fun j u hu => ?_⟩⟩
  have : j = 0 := by
    rcases Nat.eq_zero_or_pos j with h | h
    · exact h
    · rw [List.getElem?_eq_none (by simp; omega)] at hu; cases hu
  subst this
  simp only [List.getElem?_cons_zero, Option.some.injEq] at hu
  subst hu
  have hn := heap_alloc_new w (.cells #[v] e m)
  show World.cell? _ ⟨w.heap.size, 0, none⟩ = _
  unfold World.cell?
  simp only []
  rw [hn]
  rfl
set_option maxHeartbeats 1000000 in
theorem awake53 (w : World) : Calls Try.prog 13 #[] w fun e w' => e = .returned (.bool true) ∧ Below w.heap.size w w' := by
  have kc := fun (w : World) (C : Array Value) (n c : Nat) => Lib.run_convert_bytes_const (P := Try.prog) w 22 5 C n c Try.underlying22 Try.underlying5
  go_enter Try.func13, Try.ntmps13
  go_wp2_with fail
  refine (pack1_any _ 1 1 [65] true none 0 0 [] false _ (by omega) (by omega) ((reads_mark _ _ _ _).more (by simp)) Reads.none_).mono ?_
  rintro e w1 ⟨A1, n1, c1, he, hr1, hc1, hn1, hb1⟩
  rw [show packE [(65 : UInt8)].length true ([] : List UInt8).length false = 0 by decide] at he
  rw [show packD [(65 : UInt8)] true ([] : List UInt8) false = [1, 1, 0, 65] by decide] at hr1
  subst he
  have HR1 := Lib.hid hr1
  clear hr1 kc
  go_wp2_with fail
  refine (unpack1_any _ 1 1 [4] _ (by omega) (by omega) ((reads_new _ _ _ 1 1 rfl).more (by simp))).mono ?_
  rintro e w2 ⟨A2, n2, c2, A3, n3, c3, he, hr2, hr3, hb2⟩
  rw [show unE [(4 : UInt8)] = 4 by decide] at he
  subst he
  have s1 := run_string (P := Try.prog) (c := c1) (HR1.out.go (Bt (Ba (Below.refl _ _)) hb2)) 22 9 5 Try.underlying22 Try.underlying5 Try.underlying9
  clear hr2 hr3
  have d1 : decideI 2 2 7 0 true 2 7 = 1 := by decide
  have d2 : decideI 1 2 7 0 true 2 7 = 2 := by decide
  have d3 : decideI 1 1 0 3 false 0 0 = 2 := by decide
  go_wp2_with (go_at_call 19; refine (decide1_any _ _ _ _ _ _ _ _).mono ?_; rintro e w' ⟨rfl, rfl⟩)
  go_ret
  refine ⟨by simp, ?_⟩
  repeat (first | exact Below.refl _ _ | assumption | refine Ba ?_ | refine Bt ?_ (by assumption))
end Go.Proofs.Ytgnajpoebooafaa
