/-
The payload of a result, read: the contracts of both GetResult. Conditions: lengths of at most 1000000.
-/
import Derived.Test.YtgnajpoebooafaaAgRes
namespace Go.Proofs.Ytgnajpoebooafaa
set_option linter.unusedVariables false
set_option linter.unusedSimpArgs false
set_option maxRecDepth 100000
open Go.RowKit
def rS (l : List UInt8) (n : Nat) : Int := if n = 43 then numI (l.take 8) else 0
def rB (l : List UInt8) (n k : Nat) : Int := if n = 43 then at8 l k else 0
def rN (l : List UInt8) (n k : Nat) : Int := if n = 43 then numI ((l.drop k).take 8) else 0
def rE (n : Nat) : Int := if n = 43 then 0 else 4
def GetResGives (w : World) (l : List UInt8) (n : Nat) (e : Ending) (w' : World) : Prop :=
  e = .returned (.tuple #[.agg #[.int .i64 (rS l n), .int .u8 (rB l n 8), .int .u8 (rB l n 9), .int .u8 (rB l n 10), .int .i64 (rN l n 11), .int .i64 (rN l n 19), .int .i64 (rN l n 27), .int .i64 (rN l n 35)], .int .i64 (rE n)]) ∧ Below w.heap.size w w'
theorem getRes_no {w w' : World} {l : List UInt8} {n : Nat} {e : Ending} (h : n ≠ 43) (he : e = .returned (.tuple #[.agg #[.int .i64 0, .int .u8 0, .int .u8 0, .int .u8 0, .int .i64 0, .int .i64 0, .int .i64 0, .int .i64 0], .int .i64 4])) (hb : Below w.heap.size w w') : GetResGives w l n e w' :=
  ⟨by simp [he, rS, rB, rN, rE, h], hb⟩
theorem getRes_yes {w w' : World} {l : List UInt8} {e : Ending} (he : e = .returned (.tuple #[.agg #[.int .i64 (numI (l.take 8)), .int .u8 (at8 l 8), .int .u8 (at8 l 9), .int .u8 (at8 l 10), .int .i64 (numI ((l.drop 11).take 8)), .int .i64 (numI ((l.drop 19).take 8)), .int .i64 (numI ((l.drop 27).take 8)), .int .i64 (numI ((l.drop 35).take 8))], .int .i64 0])) (hb : Below w.heap.size w w') : GetResGives w l 43 e w' :=
  ⟨by simp [he, rS, rB, rN, rE], hb⟩
set_option maxHeartbeats 2000000 in
theorem getres1_any (A : Option Addr) (n c : Nat) (l : List UInt8) (w : World) (hn : n ≤ 1000000) (hc : n ≤ c) (hr : Reads w w.heap.size 1 A n (bvs l)) :
    Calls Try.prog 22 #[.slice A n c] w (GetResGives w l n) := by
  by_cases h43 : n = 43
  · subst h43
    obtain ⟨ad, rfl, hbl, q8⟩ := hr.byte (k := 8) (by omega)
    obtain ⟨_, e9, -, q9⟩ := hr.byte (k := 9) (by omega)
    obtain ⟨_, e10, -, q10⟩ := hr.byte (k := 10) (by omega)
    injection e9 with e9
    injection e10 with e10
    subst e9 e10
    have R0 := Lib.hid hr
    have r11 := hr.midA (k := 11) (m := 43) (cap := c) (by omega) (by omega) hc
    rw [← bvs_drop, ← bvs_take, List.take_of_length_le (by have := hr.1; rw [bvs_length] at this; rw [List.length_drop]; omega)] at r11
    have R11 := Lib.hid (p := Reads w w.heap.size 1 (cutA (some ad) 11 c 1) 32 (bvs (l.drop 11))) r11
    have s11 : ∀ W, (Instr.sliceAt 22 (.slice (some ad) 43 c) (some (.int .i64 11)) none none).run Try.prog W = .ok (.slice (cutA (some ad) 11 c 1) 32 (c - 11)) W := fun W => fromB (some ad) 43 c 11 (by omega) (by omega) W
    clear r11
    have r19 := hr.midA (k := 19) (m := 43) (cap := c) (by omega) (by omega) hc
    rw [← bvs_drop, ← bvs_take, List.take_of_length_le (by have := hr.1; rw [bvs_length] at this; rw [List.length_drop]; omega)] at r19
    have R19 := Lib.hid (p := Reads w w.heap.size 1 (cutA (some ad) 19 c 1) 24 (bvs (l.drop 19))) r19
    have s19 : ∀ W, (Instr.sliceAt 22 (.slice (some ad) 43 c) (some (.int .i64 19)) none none).run Try.prog W = .ok (.slice (cutA (some ad) 19 c 1) 24 (c - 19)) W := fun W => fromB (some ad) 43 c 19 (by omega) (by omega) W
    clear r19
    have r27 := hr.midA (k := 27) (m := 43) (cap := c) (by omega) (by omega) hc
    rw [← bvs_drop, ← bvs_take, List.take_of_length_le (by have := hr.1; rw [bvs_length] at this; rw [List.length_drop]; omega)] at r27
    have R27 := Lib.hid (p := Reads w w.heap.size 1 (cutA (some ad) 27 c 1) 16 (bvs (l.drop 27))) r27
    have s27 : ∀ W, (Instr.sliceAt 22 (.slice (some ad) 43 c) (some (.int .i64 27)) none none).run Try.prog W = .ok (.slice (cutA (some ad) 27 c 1) 16 (c - 27)) W := fun W => fromB (some ad) 43 c 27 (by omega) (by omega) W
    clear r27
    have r35 := hr.midA (k := 35) (m := 43) (cap := c) (by omega) (by omega) hc
    rw [← bvs_drop, ← bvs_take, List.take_of_length_le (by have := hr.1; rw [bvs_length] at this; rw [List.length_drop]; omega)] at r35
    have R35 := Lib.hid (p := Reads w w.heap.size 1 (cutA (some ad) 35 c 1) 8 (bvs (l.drop 35))) r35
    have s35 : ∀ W, (Instr.sliceAt 22 (.slice (some ad) 43 c) (some (.int .i64 35)) none none).run Try.prog W = .ok (.slice (cutA (some ad) 35 c 1) 8 (c - 35)) W := fun W => fromB (some ad) 43 c 35 (by omega) (by omega) W
    clear r35
    clear hr
    have q8 : w.cell? ⟨ad.block, ad.off + 8, none⟩ = some (.int .u8 (at8 l 8)) := q8
    have q9 : w.cell? ⟨ad.block, ad.off + 9, none⟩ = some (.int .u8 (at8 l 9)) := q9
    have q10 : w.cell? ⟨ad.block, ad.off + 10, none⟩ = some (.int .u8 (at8 l 10)) := q10
    have mk : ∀ w' : World, Below w.heap.size w w' → (w'.cell? ⟨ad.block, ad.off + 8, none⟩ = some (.int .u8 (at8 l 8)) ∧ w'.cell? ⟨ad.block, ad.off + 9, none⟩ = some (.int .u8 (at8 l 9)) ∧ w'.cell? ⟨ad.block, ad.off + 10, none⟩ = some (.int .u8 (at8 l 10))) ∧ Below w.heap.size w w' :=
      fun w' hB => ⟨⟨(hB.cell (p := ⟨ad.block, ad.off + 8, none⟩) hbl).trans q8, (hB.cell (p := ⟨ad.block, ad.off + 9, none⟩) hbl).trans q9, (hB.cell (p := ⟨ad.block, ad.off + 10, none⟩) hbl).trans q10⟩, hB⟩
    have MK := Lib.hid mk
    clear mk
    go_enter Try.func22, Try.ntmps22
    go_upto_region 3 with fail
    go_region_held3 (fun w' => (w'.cell? ⟨ad.block, ad.off + 8, none⟩ = some (.int .u8 (at8 l 8)) ∧ w'.cell? ⟨ad.block, ad.off + 9, none⟩ = some (.int .u8 (at8 l 9)) ∧ w'.cell? ⟨ad.block, ad.off + 10, none⟩ = some (.int .u8 (at8 l 10))) ∧ Below w.heap.size w w')
      (first
        | (rcases ‹(_ ∧ _) ∧ Below _ _ _› with ⟨⟨s0, s1, s2⟩, sB⟩; assumption)
        | assumption
        | exact MK.out _ (by repeat (first | exact Below.refl _ _ | refine Below.drew ?_ | refine Ba ?_)))
      (first
        | (go_at_call 55; rcases ‹(_ ∧ _) ∧ Below _ _ _› with ⟨_, sB⟩; first
          | ((with_reducible refine (get8 _ _ _ _ _ (by omega) (by omega) (R0.out.go sB)).mono ?_); rintro e w3 ⟨rfl, rfl⟩)
          | ((with_reducible refine (get8 _ _ _ _ _ (by omega) (by omega) (R11.out.go sB)).mono ?_); rintro e w3 ⟨rfl, rfl⟩)
          | ((with_reducible refine (get8 _ _ _ _ _ (by omega) (by omega) (R19.out.go sB)).mono ?_); rintro e w3 ⟨rfl, rfl⟩)
          | ((with_reducible refine (get8 _ _ _ _ _ (by omega) (by omega) (R27.out.go sB)).mono ?_); rintro e w3 ⟨rfl, rfl⟩)
          | ((with_reducible refine (get8 _ _ _ _ _ (by omega) (by omega) (R35.out.go sB)).mono ?_); rintro e w3 ⟨rfl, rfl⟩))
        | fail)
    go_wp2_with fail
    refine bodyPost_ret (v := .tuple #[.agg #[.int .i64 (numI (l.take 8)), .int .u8 (at8 l 8), .int .u8 (at8 l 9), .int .u8 (at8 l 10), .int .i64 (numI ((l.drop 11).take 8)), .int .i64 (numI ((l.drop 19).take 8)), .int .i64 (numI ((l.drop 27).take 8)), .int .i64 (numI ((l.drop 35).take 8))], .int .i64 0]) (by simp [results, Try.results22, go_sem]) rfl ?_
    exact getRes_yes rfl (by repeat (first | exact Below.refl _ _ | refine Below.drew ?_ | refine Ba ?_))
  · have hne : ((n : Int) != 43) = true := by rw [bne_iff_ne]; omega
    have H := Lib.hid h43
    clear h43 hr
    go_enter Try.func22, Try.ntmps22
    go_wp2
    refine bodyPost_ret (v := .tuple #[.agg #[.int .i64 0, .int .u8 0, .int .u8 0, .int .u8 0, .int .i64 0, .int .i64 0, .int .i64 0, .int .i64 0], .int .i64 4]) (by simp [results, Try.results22, go_sem]) rfl ?_
    exact getRes_no H.out rfl (Ba (Below.refl _ _))
end Go.Proofs.Ytgnajpoebooafaa
