/-
MaintlogReports returns true for every input. Conditions: none.
-/
import Derived.Test.YtnkmijidneibnaaDoorM3
import Derived.Test.YtnkmijidneibnaaDoorRows
import Derived.LaidMore
import Derived.Stop.Joined
import Derived.Stop.LaidErr
import Derived.Test.YtnkmijidneibnaaDoorTie
import Derived.Test.YtnkmijidneibnaaDoorCards
import Derived.SevenTiedAt
namespace Go.Proofs.YtnkmijidneibnaaDoor
set_option linter.unusedVariables false
set_option linter.unusedSimpArgs false
set_option maxRecDepth 100000
open Go.RowKit
noncomputable section
def T39 : Tbl := (57, ⟨p57, r57, fun t => (o57 t.1 t.2.1 t.2.2)⟩) :: T38
theorem K39 : TOk Tryd.prog T39 := .cons K38 fo57
def o54_s0 : Sch := ⟨[(0, .v (.c (.cst (.slice none 0 0)))), (1, .v (.c (.i .i64))), (2, .v (.c (.fn 55))), (8, .v (.c (.ic .i64 (0)))), (9, .v (.c (.ic .i64 (0)))), (10, .v (.c (.ic .i64 (0))))], []⟩
def p54 : Sch := ⟨[(0, .v (.c (.cst (.slice none 0 0)))), (1, .v (.c (.i .i64))), (2, .v (.c (.fn 55)))], []⟩
def r54 : List Sch := [⟨[(0, .tup [.c (.ic .i64 (0)), .c (.b)])], []⟩]
def o54 (a0 : Int) : Option Bool :=
 (loopO (σ := Int) fuelN (fun (v1 : Int) => (dnO (some false))) a0)
theorem e54 (t : Int) : evF (stpT Tryd.prog T39 K39) Tryd.f54 p54 r54 (.s .d (.s .d (.s .d (.s (.b (.l o54_s0 .d)) .d)))) t = (o54 t) := by kernel_rfl
theorem fo54 : FOk Tryd.prog 54 ⟨p54, r54, fun t => (o54 t)⟩ := FOk.run_eq (evF_ok (h := (.s .d (.s .d (.s .d (.s (.b (.l o54_s0 .d)) .d))))) (by kernel_rfl) (by kernel_rfl) (by kernel_rfl)) e54
def T40 : Tbl := (54, ⟨p54, r54, fun t => (o54 t)⟩) :: T39
theorem K40 : TOk Tryd.prog T40 := .cons K39 fo54
def p57v1 : Sch := ⟨[(0, .v (.c (.cst (.slice none 0 0)))), (1, .v (.c (.i .i64))), (2, .v (.c (.ro (.p (.i .i64) (.p (.i .i64) (.p (.i .u16) (.p (.i .i64) (.i .i64))))) false)))], []⟩
def r57v1 : List Sch := [⟨[(0, .v (.c (.own 0)))], [.row (.p (.i .i64) (.p (.i .i64) (.p (.i .u16) (.p (.i .i64) (.i .i64))))) 80]⟩]
def o57v1 (a0 : Int) (a1 : List (Int × Int × Int × Int × Int)) : Option (List (Int × Int × Int × Int × Int)) :=
 (gd (decide ((0 : Int) ≤ a0 ∧ a0 ≤ ((0 : Nat) : Int))) (cnd (((a1.length : Nat) : Int) == (0 : Int)) (some ([] : List (Int × Int × Int × Int × Int))) (cnd (a0 == (0 : Int)) (gd (decide (a1.length * 40 ≤ 140737488355328)) (some a1)) (cnd (decide ((IntKind.wrap .i64 ((0 : Int) + ((a1.length : Nat) : Int))) > (0 : Int))) (gd (decide ((0 : Int) ≤ a0 ∧ a0 ≤ ((0 : Nat) : Int))) (gd (decide ((0 : Int) < (IntKind.wrap .i64 ((IntKind.wrap .i64 ((0 : Int) + ((a1.length : Nat) : Int))) - a0)) ∧ (IntKind.wrap .i64 ((IntKind.wrap .i64 ((0 : Int) + ((a1.length : Nat) : Int))) - a0)) * (40 : Int) ≤ (140737488355328 : Int))) (gd (decide ((0 : Int) ≤ a0 ∧ a0 ≤ (((List.replicate (IntKind.wrap .i64 ((IntKind.wrap .i64 ((0 : Int) + ((a1.length : Nat) : Int))) - a0)).toNat ((0 : Int), ((0 : Int), ((0 : Int), ((0 : Int), (0 : Int)))))).length : Nat) : Int))) (gd (decide ((0 : Int) ≤ (IntKind.wrap .i64 (a0 + ((a1.length : Nat) : Int))) ∧ (IntKind.wrap .i64 (a0 + ((a1.length : Nat) : Int))) ≤ (((ovrL (List.replicate (IntKind.wrap .i64 ((IntKind.wrap .i64 ((0 : Int) + ((a1.length : Nat) : Int))) - a0)).toNat ((0 : Int), ((0 : Int), ((0 : Int), ((0 : Int), (0 : Int)))))) a0.toNat (List.take ((List.replicate (IntKind.wrap .i64 ((IntKind.wrap .i64 ((0 : Int) + ((a1.length : Nat) : Int))) - a0)).toNat ((0 : Int), ((0 : Int), ((0 : Int), ((0 : Int), (0 : Int)))))).length - a0.toNat) a1)).length : Nat) : Int))) (gd (decide ((0 : Int) ≤ a0 ∧ a0 ≤ ((0 : Nat) : Int))) (some (ovrL (ovrL (List.replicate (IntKind.wrap .i64 ((IntKind.wrap .i64 ((0 : Int) + ((a1.length : Nat) : Int))) - a0)).toNat ((0 : Int), ((0 : Int), ((0 : Int), ((0 : Int), (0 : Int)))))) a0.toNat (List.take ((List.replicate (IntKind.wrap .i64 ((IntKind.wrap .i64 ((0 : Int) + ((a1.length : Nat) : Int))) - a0)).toNat ((0 : Int), ((0 : Int), ((0 : Int), ((0 : Int), (0 : Int)))))).length - a0.toNat) a1)) ((IntKind.wrap .i64 (a0 + ((a1.length : Nat) : Int))).toNat) (List.take ((ovrL (List.replicate (IntKind.wrap .i64 ((IntKind.wrap .i64 ((0 : Int) + ((a1.length : Nat) : Int))) - a0)).toNat ((0 : Int), ((0 : Int), ((0 : Int), ((0 : Int), (0 : Int)))))) a0.toNat (List.take ((List.replicate (IntKind.wrap .i64 ((IntKind.wrap .i64 ((0 : Int) + ((a1.length : Nat) : Int))) - a0)).toNat ((0 : Int), ((0 : Int), ((0 : Int), ((0 : Int), (0 : Int)))))).length - a0.toNat) a1)).length - (IntKind.wrap .i64 (a0 + ((a1.length : Nat) : Int))).toNat) ([] : List (Int × Int × Int × Int × Int)))))))))) none))))
theorem e57v1 (t : Int × List (Int × Int × Int × Int × Int)) : evF (stpT Tryd.prog T40 K40) Tryd.f57 p57v1 r57v1 (.s .d (.s .d (.s .d (.s .d (.s .d (.s .d (.s .d .cut))))))) t = (o57v1 t.1 t.2) := by kernel_rfl
theorem fo57v1 : FOk Tryd.prog 57 ⟨p57v1, r57v1, fun t => (o57v1 t.1 t.2)⟩ := FOk.run_eq (evF_ok (h := (.s .d (.s .d (.s .d (.s .d (.s .d (.s .d (.s .d .cut)))))))) (by kernel_rfl) (by kernel_rfl) (by kernel_rfl)) e57v1
def T41 : Tbl := (57, ⟨p57v1, r57v1, fun t => (o57v1 t.1 t.2)⟩) :: T40
theorem K41 : TOk Tryd.prog T41 := .cons K40 fo57v1
def p75 : Sch := ⟨[(0, .v (.c (.i .i64)))], []⟩
def r75 : List Sch := [⟨[(0, .v (.c (.b)))], []⟩]
def o75 (a0 : Int) : Option Bool :=
 (some (a0 != a0))
theorem e75 (t : Int) : evF (stpT Tryd.prog T41 K41) Tryd.f75 p75 r75 .d t = (o75 t) := by kernel_rfl
theorem fo75 : FOk Tryd.prog 75 ⟨p75, r75, fun t => (o75 t)⟩ := FOk.run_eq (evF_ok (h := .d) (by kernel_rfl) (by kernel_rfl) (by kernel_rfl)) e75
def T42 : Tbl := (75, ⟨p75, r75, fun t => (o75 t)⟩) :: T41
theorem K42 : TOk Tryd.prog T42 := .cons K41 fo75
def p56 : Sch := ⟨[(0, .v (.c (.i .i64))), (1, .v (.c (.i .i64)))], []⟩
def r56 : List Sch := [⟨[(0, .v (.c (.i .i64)))], []⟩]
def o56 (a0 : Int) (a1 : Int) : Option Int :=
 (bd (α := Bool) (o75 a0) (fun v1 => (bd (α := Bool) (o75 a1) (fun v2 => (cnd v1 (cnd v2 (some (0 : Int)) (some (-1 : Int))) (cnd v2 (some (1 : Int)) (cnd (decide (a0 < a1)) (some (-1 : Int)) (cnd (decide (a0 > a1)) (some (1 : Int)) (some (0 : Int))))))))))
theorem e56 (t : Int × Int) : evF (stpT Tryd.prog T42 K42) Tryd.f56 p56 r56 .d t = (o56 t.1 t.2) := by kernel_rfl
theorem fo56 : FOk Tryd.prog 56 ⟨p56, r56, fun t => (o56 t.1 t.2)⟩ := FOk.run_eq (evF_ok (h := .d) (by kernel_rfl) (by kernel_rfl) (by kernel_rfl)) e56
def T43 : Tbl := (56, ⟨p56, r56, fun t => (o56 t.1 t.2)⟩) :: T42
theorem K43 : TOk Tryd.prog T43 := .cons K42 fo56
def p55 : Sch := ⟨[(0, .v (.agg [.i .i64, .i .i64, .i .u16, .i .i64, .i .i64])), (1, .v (.c (.i .i64)))], []⟩
def r55 : List Sch := [⟨[(0, .v (.c (.i .i64)))], []⟩]
def o55 (a0 : Int) (a1 : Int) (a2 : Int) (a3 : Int) (a4 : Int) (a5 : Int) : Option Int :=
 (bd (α := Int) (o56 a0 a5) (fun v1 => (some v1)))
theorem e55 (t : Int × Int × Int × Int × Int × Int) : evF (stpT Tryd.prog T43 K43) Tryd.f55 p55 r55 .d t = (o55 t.1 t.2.1 t.2.2.1 t.2.2.2.1 t.2.2.2.2.1 t.2.2.2.2.2) := by kernel_rfl
theorem fo55 : FOk Tryd.prog 55 ⟨p55, r55, fun t => (o55 t.1 t.2.1 t.2.2.1 t.2.2.2.1 t.2.2.2.2.1 t.2.2.2.2.2)⟩ := FOk.run_eq (evF_ok (h := .d) (by kernel_rfl) (by kernel_rfl) (by kernel_rfl)) e55
def T44 : Tbl := (55, ⟨p55, r55, fun t => (o55 t.1 t.2.1 t.2.2.1 t.2.2.2.1 t.2.2.2.2.1 t.2.2.2.2.2)⟩) :: T43
theorem K44 : TOk Tryd.prog T44 := .cons K43 fo55
def o54v1_s0 : Sch := ⟨[(0, .v (.c (.ro (.p (.i .i64) (.p (.i .i64) (.p (.i .u16) (.p (.i .i64) (.i .i64))))) false))), (1, .v (.c (.i .i64))), (2, .v (.c (.fn 55))), (8, .v (.c (.i .i64))), (9, .v (.c (.i .i64))), (10, .v (.c (.i .i64)))], []⟩
def o54v1_s1 : Sch := ⟨[(6, .v (.c (.i .i64))), (7, .v (.c (.b)))], []⟩
def p54v1 : Sch := ⟨[(0, .v (.c (.ro (.p (.i .i64) (.p (.i .i64) (.p (.i .u16) (.p (.i .i64) (.i .i64))))) false))), (1, .v (.c (.i .i64))), (2, .v (.c (.fn 55)))], []⟩
def r54v1 : List Sch := [⟨[(0, .tup [.c (.i .i64), .c (.b)])], []⟩]
def o54v1 (a0 : List (Int × Int × Int × Int × Int)) (a1 : Int) : Option (Int × Bool) :=
 (loopO (σ := List (Int × Int × Int × Int × Int) × Int × Int × Int × Int) fuelN (fun (v3 : List (Int × Int × Int × Int × Int) × Int × Int × Int × Int) => (cnd (decide (v3.2.2.2.1 < v3.2.2.2.2)) (gd (decide ((0 : Int) ≤ (IntKind.wrap .i64 (shrK .u64 (IntKind.wrap .u64 (IntKind.wrap .i64 (v3.2.2.2.1 + v3.2.2.2.2))) (1 : Int))) ∧ (IntKind.wrap .i64 (shrK .u64 (IntKind.wrap .u64 (IntKind.wrap .i64 (v3.2.2.2.1 + v3.2.2.2.2))) (1 : Int))) < ((v3.1.length : Nat) : Int))) (bd (α := Int) (o55 ((List.getD v3.1 (IntKind.wrap .i64 (shrK .u64 (IntKind.wrap .u64 (IntKind.wrap .i64 (v3.2.2.2.1 + v3.2.2.2.2))) (1 : Int))).toNat ((0 : Int), ((0 : Int), ((0 : Int), ((0 : Int), (0 : Int)))))).1) (((List.getD v3.1 (IntKind.wrap .i64 (shrK .u64 (IntKind.wrap .u64 (IntKind.wrap .i64 (v3.2.2.2.1 + v3.2.2.2.2))) (1 : Int))).toNat ((0 : Int), ((0 : Int), ((0 : Int), ((0 : Int), (0 : Int)))))).2).1) ((((List.getD v3.1 (IntKind.wrap .i64 (shrK .u64 (IntKind.wrap .u64 (IntKind.wrap .i64 (v3.2.2.2.1 + v3.2.2.2.2))) (1 : Int))).toNat ((0 : Int), ((0 : Int), ((0 : Int), ((0 : Int), (0 : Int)))))).2).2).1) (((((List.getD v3.1 (IntKind.wrap .i64 (shrK .u64 (IntKind.wrap .u64 (IntKind.wrap .i64 (v3.2.2.2.1 + v3.2.2.2.2))) (1 : Int))).toNat ((0 : Int), ((0 : Int), ((0 : Int), ((0 : Int), (0 : Int)))))).2).2).2).1) (((((List.getD v3.1 (IntKind.wrap .i64 (shrK .u64 (IntKind.wrap .u64 (IntKind.wrap .i64 (v3.2.2.2.1 + v3.2.2.2.2))) (1 : Int))).toNat ((0 : Int), ((0 : Int), ((0 : Int), ((0 : Int), (0 : Int)))))).2).2).2).2) v3.2.1) (fun v4 => (cnd (decide (v4 < (0 : Int))) (some (Ctl.go (v3.1, v3.2.1, v3.2.2.1, (IntKind.wrap .i64 ((IntKind.wrap .i64 (shrK .u64 (IntKind.wrap .u64 (IntKind.wrap .i64 (v3.2.2.2.1 + v3.2.2.2.2))) (1 : Int))) + (1 : Int))), v3.2.2.2.2))) (some (Ctl.go (v3.1, v3.2.1, v3.2.2.1, v3.2.2.2.1, (IntKind.wrap .i64 (shrK .u64 (IntKind.wrap .u64 (IntKind.wrap .i64 (v3.2.2.2.1 + v3.2.2.2.2))) (1 : Int)))))))))) (dnO (bd (α := (Int × Bool)) (cnd (decide (v3.2.2.2.1 < v3.2.2.1)) (gd (decide ((0 : Int) ≤ v3.2.2.2.1 ∧ v3.2.2.2.1 < ((v3.1.length : Nat) : Int))) (bd (α := Int) (o55 ((List.getD v3.1 v3.2.2.2.1.toNat ((0 : Int), ((0 : Int), ((0 : Int), ((0 : Int), (0 : Int)))))).1) (((List.getD v3.1 v3.2.2.2.1.toNat ((0 : Int), ((0 : Int), ((0 : Int), ((0 : Int), (0 : Int)))))).2).1) ((((List.getD v3.1 v3.2.2.2.1.toNat ((0 : Int), ((0 : Int), ((0 : Int), ((0 : Int), (0 : Int)))))).2).2).1) (((((List.getD v3.1 v3.2.2.2.1.toNat ((0 : Int), ((0 : Int), ((0 : Int), ((0 : Int), (0 : Int)))))).2).2).2).1) (((((List.getD v3.1 v3.2.2.2.1.toNat ((0 : Int), ((0 : Int), ((0 : Int), ((0 : Int), (0 : Int)))))).2).2).2).2) v3.2.1) (fun v5 => (some (v3.2.2.2.1, (v5 == (0 : Int))))))) (some (v3.2.2.2.1, false))) (fun v6 => (some (v6.1, v6.2))))))) (a0, a1, ((a0.length : Nat) : Int), (0 : Int), ((a0.length : Nat) : Int)))
theorem e54v1 (t : List (Int × Int × Int × Int × Int) × Int) : evF (stpT Tryd.prog T44 K44) Tryd.f54 p54v1 r54v1 (.s .d (.s .d (.s .d (.s (.b (.l o54v1_s0 .d)) (.s (.j false [o54v1_s1] .d) .d))))) t = (o54v1 t.1 t.2) := by kernel_rfl
theorem fo54v1 : FOk Tryd.prog 54 ⟨p54v1, r54v1, fun t => (o54v1 t.1 t.2)⟩ := FOk.run_eq (evF_ok (h := (.s .d (.s .d (.s .d (.s (.b (.l o54v1_s0 .d)) (.s (.j false [o54v1_s1] .d) .d)))))) (by kernel_rfl) (by kernel_rfl) (by kernel_rfl)) e54v1
def T45 : Tbl := (54, ⟨p54v1, r54v1, fun t => (o54v1 t.1 t.2)⟩) :: T44
theorem K45 : TOk Tryd.prog T45 := .cons K44 fo54v1
def o34_s0 : Sch := ⟨[(3, .v (.c (.own 0))), (5, .v (.c (.ptr 1 0))), (6, .v (.c (.i .i64))), (9, .v (.c (.ro (.p (.i .i64) (.p (.i .u8) (.p (.i .i64) (.i .u64)))) false))), (10, .v (.c (.i .i64))), (11, .v (.c (.i .i64)))], [.row (.p (.i .i64) (.p (.i .i64) (.p (.i .u16) (.p (.i .i64) (.i .i64))))) 80, .cells 42 [.i .i64, .i .u8, .i .i64, .i .u64]]⟩
def o34_s1 : Sch := ⟨[(3, .v (.c (.own 0))), (9, .v (.c (.ro (.p (.i .i64) (.p (.i .u8) (.p (.i .i64) (.i .u64)))) false))), (10, .v (.c (.i .i64))), (11, .v (.c (.i .i64)))], [.row (.p (.i .i64) (.p (.i .i64) (.p (.i .u16) (.p (.i .i64) (.i .i64))))) 80]⟩
def p34 : Sch := ⟨[(0, .v (.c (.ro (.p (.i .i64) (.p (.i .u8) (.p (.i .i64) (.i .u64)))) false)))], []⟩
def r34 : List Sch := [⟨[(0, .v (.c (.own 0)))], [.row (.p (.i .i64) (.p (.i .i64) (.p (.i .u16) (.p (.i .i64) (.i .i64))))) 80]⟩]
def o34 (a0 : List (Int × Int × Int × Int)) : Option (List (Int × Int × Int × Int × Int)) :=
 (loopO (σ := List (Int × Int × Int × Int) × Int × Int × List (Int × Int × Int × Int × Int)) fuelN (fun (v5 : List (Int × Int × Int × Int) × Int × Int × List (Int × Int × Int × Int × Int)) => (cnd (decide (v5.2.2.1 < v5.2.1)) (gd (decide ((0 : Int) ≤ v5.2.2.1 ∧ v5.2.2.1 < ((v5.1.length : Nat) : Int))) (bd (α := (Int × Bool)) (o54v1 v5.2.2.2 ((List.getD v5.1 v5.2.2.1.toNat ((0 : Int), ((0 : Int), ((0 : Int), (0 : Int))))).1)) (fun v6 => (bd (α := (Int × List (Int × Int × Int × Int) × Int × Int × List (Int × Int × Int × Int × Int) × Int × Int × Int × Int)) (cnd (!v6.2) (bd (α := (List (Int × Int × Int × Int × Int) × List (Int × Int × Int × Int × Int))) (o57 v6.1 v5.2.2.2 ([((List.getD v5.1 v5.2.2.1.toNat ((0 : Int), ((0 : Int), ((0 : Int), (0 : Int))))).1, ((0 : Int), ((0 : Int), ((((List.getD v5.1 v5.2.2.1.toNat ((0 : Int), ((0 : Int), ((0 : Int), (0 : Int))))).2).2).1, (0 : Int)))))] : List (Int × Int × Int × Int × Int))) (fun v7 => (some (v6.1, v5.1, v5.2.1, v5.2.2.1, v7.2, (List.getD v5.1 v5.2.2.1.toNat ((0 : Int), ((0 : Int), ((0 : Int), (0 : Int))))).1, ((List.getD v5.1 v5.2.2.1.toNat ((0 : Int), ((0 : Int), ((0 : Int), (0 : Int))))).2).1, (((List.getD v5.1 v5.2.2.1.toNat ((0 : Int), ((0 : Int), ((0 : Int), (0 : Int))))).2).2).1, (((List.getD v5.1 v5.2.2.1.toNat ((0 : Int), ((0 : Int), ((0 : Int), (0 : Int))))).2).2).2)))) (some (v6.1, v5.1, v5.2.1, v5.2.2.1, v5.2.2.2, (List.getD v5.1 v5.2.2.1.toNat ((0 : Int), ((0 : Int), ((0 : Int), (0 : Int))))).1, ((List.getD v5.1 v5.2.2.1.toNat ((0 : Int), ((0 : Int), ((0 : Int), (0 : Int))))).2).1, (((List.getD v5.1 v5.2.2.1.toNat ((0 : Int), ((0 : Int), ((0 : Int), (0 : Int))))).2).2).1, (((List.getD v5.1 v5.2.2.1.toNat ((0 : Int), ((0 : Int), ((0 : Int), (0 : Int))))).2).2).2))) (fun v8 => (gd (decide ((0 : Int) ≤ v8.1 ∧ v8.1 < ((v8.2.2.2.2.1.length : Nat) : Int))) (cnd (decide (v8.2.2.2.2.2.2.1 < (16 : Int))) (gd (decide ((0 : Int) ≤ v8.2.2.2.2.2.2.1)) (some (Ctl.go (v8.2.1, v8.2.2.1, (IntKind.wrap .i64 (v8.2.2.2.1 + (1 : Int))), (List.set (List.set (List.set v8.2.2.2.2.1 v8.1.toNat ((List.getD v8.2.2.2.2.1 v8.1.toNat ((0 : Int), ((0 : Int), ((0 : Int), ((0 : Int), (0 : Int)))))).1, ((IntKind.wrap .i64 (((List.getD v8.2.2.2.2.1 v8.1.toNat ((0 : Int), ((0 : Int), ((0 : Int), ((0 : Int), (0 : Int)))))).2).1 + (1 : Int))), ((((List.getD v8.2.2.2.2.1 v8.1.toNat ((0 : Int), ((0 : Int), ((0 : Int), ((0 : Int), (0 : Int)))))).2).2).1, (((((List.getD v8.2.2.2.2.1 v8.1.toNat ((0 : Int), ((0 : Int), ((0 : Int), ((0 : Int), (0 : Int)))))).2).2).2).1, ((((List.getD v8.2.2.2.2.1 v8.1.toNat ((0 : Int), ((0 : Int), ((0 : Int), ((0 : Int), (0 : Int)))))).2).2).2).2))))) v8.1.toNat ((List.getD (List.set v8.2.2.2.2.1 v8.1.toNat ((List.getD v8.2.2.2.2.1 v8.1.toNat ((0 : Int), ((0 : Int), ((0 : Int), ((0 : Int), (0 : Int)))))).1, ((IntKind.wrap .i64 (((List.getD v8.2.2.2.2.1 v8.1.toNat ((0 : Int), ((0 : Int), ((0 : Int), ((0 : Int), (0 : Int)))))).2).1 + (1 : Int))), ((((List.getD v8.2.2.2.2.1 v8.1.toNat ((0 : Int), ((0 : Int), ((0 : Int), ((0 : Int), (0 : Int)))))).2).2).1, (((((List.getD v8.2.2.2.2.1 v8.1.toNat ((0 : Int), ((0 : Int), ((0 : Int), ((0 : Int), (0 : Int)))))).2).2).2).1, ((((List.getD v8.2.2.2.2.1 v8.1.toNat ((0 : Int), ((0 : Int), ((0 : Int), ((0 : Int), (0 : Int)))))).2).2).2).2))))) v8.1.toNat ((0 : Int), ((0 : Int), ((0 : Int), ((0 : Int), (0 : Int)))))).1, (((List.getD (List.set v8.2.2.2.2.1 v8.1.toNat ((List.getD v8.2.2.2.2.1 v8.1.toNat ((0 : Int), ((0 : Int), ((0 : Int), ((0 : Int), (0 : Int)))))).1, ((IntKind.wrap .i64 (((List.getD v8.2.2.2.2.1 v8.1.toNat ((0 : Int), ((0 : Int), ((0 : Int), ((0 : Int), (0 : Int)))))).2).1 + (1 : Int))), ((((List.getD v8.2.2.2.2.1 v8.1.toNat ((0 : Int), ((0 : Int), ((0 : Int), ((0 : Int), (0 : Int)))))).2).2).1, (((((List.getD v8.2.2.2.2.1 v8.1.toNat ((0 : Int), ((0 : Int), ((0 : Int), ((0 : Int), (0 : Int)))))).2).2).2).1, ((((List.getD v8.2.2.2.2.1 v8.1.toNat ((0 : Int), ((0 : Int), ((0 : Int), ((0 : Int), (0 : Int)))))).2).2).2).2))))) v8.1.toNat ((0 : Int), ((0 : Int), ((0 : Int), ((0 : Int), (0 : Int)))))).2).1, ((((List.getD (List.set v8.2.2.2.2.1 v8.1.toNat ((List.getD v8.2.2.2.2.1 v8.1.toNat ((0 : Int), ((0 : Int), ((0 : Int), ((0 : Int), (0 : Int)))))).1, ((IntKind.wrap .i64 (((List.getD v8.2.2.2.2.1 v8.1.toNat ((0 : Int), ((0 : Int), ((0 : Int), ((0 : Int), (0 : Int)))))).2).1 + (1 : Int))), ((((List.getD v8.2.2.2.2.1 v8.1.toNat ((0 : Int), ((0 : Int), ((0 : Int), ((0 : Int), (0 : Int)))))).2).2).1, (((((List.getD v8.2.2.2.2.1 v8.1.toNat ((0 : Int), ((0 : Int), ((0 : Int), ((0 : Int), (0 : Int)))))).2).2).2).1, ((((List.getD v8.2.2.2.2.1 v8.1.toNat ((0 : Int), ((0 : Int), ((0 : Int), ((0 : Int), (0 : Int)))))).2).2).2).2))))) v8.1.toNat ((0 : Int), ((0 : Int), ((0 : Int), ((0 : Int), (0 : Int)))))).2).2).1, (((((List.getD (List.set v8.2.2.2.2.1 v8.1.toNat ((List.getD v8.2.2.2.2.1 v8.1.toNat ((0 : Int), ((0 : Int), ((0 : Int), ((0 : Int), (0 : Int)))))).1, ((IntKind.wrap .i64 (((List.getD v8.2.2.2.2.1 v8.1.toNat ((0 : Int), ((0 : Int), ((0 : Int), ((0 : Int), (0 : Int)))))).2).1 + (1 : Int))), ((((List.getD v8.2.2.2.2.1 v8.1.toNat ((0 : Int), ((0 : Int), ((0 : Int), ((0 : Int), (0 : Int)))))).2).2).1, (((((List.getD v8.2.2.2.2.1 v8.1.toNat ((0 : Int), ((0 : Int), ((0 : Int), ((0 : Int), (0 : Int)))))).2).2).2).1, ((((List.getD v8.2.2.2.2.1 v8.1.toNat ((0 : Int), ((0 : Int), ((0 : Int), ((0 : Int), (0 : Int)))))).2).2).2).2))))) v8.1.toNat ((0 : Int), ((0 : Int), ((0 : Int), ((0 : Int), (0 : Int)))))).2).2).2).1, v8.2.2.2.2.2.2.2.1))))) v8.1.toNat ((List.getD (List.set (List.set v8.2.2.2.2.1 v8.1.toNat ((List.getD v8.2.2.2.2.1 v8.1.toNat ((0 : Int), ((0 : Int), ((0 : Int), ((0 : Int), (0 : Int)))))).1, ((IntKind.wrap .i64 (((List.getD v8.2.2.2.2.1 v8.1.toNat ((0 : Int), ((0 : Int), ((0 : Int), ((0 : Int), (0 : Int)))))).2).1 + (1 : Int))), ((((List.getD v8.2.2.2.2.1 v8.1.toNat ((0 : Int), ((0 : Int), ((0 : Int), ((0 : Int), (0 : Int)))))).2).2).1, (((((List.getD v8.2.2.2.2.1 v8.1.toNat ((0 : Int), ((0 : Int), ((0 : Int), ((0 : Int), (0 : Int)))))).2).2).2).1, ((((List.getD v8.2.2.2.2.1 v8.1.toNat ((0 : Int), ((0 : Int), ((0 : Int), ((0 : Int), (0 : Int)))))).2).2).2).2))))) v8.1.toNat ((List.getD (List.set v8.2.2.2.2.1 v8.1.toNat ((List.getD v8.2.2.2.2.1 v8.1.toNat ((0 : Int), ((0 : Int), ((0 : Int), ((0 : Int), (0 : Int)))))).1, ((IntKind.wrap .i64 (((List.getD v8.2.2.2.2.1 v8.1.toNat ((0 : Int), ((0 : Int), ((0 : Int), ((0 : Int), (0 : Int)))))).2).1 + (1 : Int))), ((((List.getD v8.2.2.2.2.1 v8.1.toNat ((0 : Int), ((0 : Int), ((0 : Int), ((0 : Int), (0 : Int)))))).2).2).1, (((((List.getD v8.2.2.2.2.1 v8.1.toNat ((0 : Int), ((0 : Int), ((0 : Int), ((0 : Int), (0 : Int)))))).2).2).2).1, ((((List.getD v8.2.2.2.2.1 v8.1.toNat ((0 : Int), ((0 : Int), ((0 : Int), ((0 : Int), (0 : Int)))))).2).2).2).2))))) v8.1.toNat ((0 : Int), ((0 : Int), ((0 : Int), ((0 : Int), (0 : Int)))))).1, (((List.getD (List.set v8.2.2.2.2.1 v8.1.toNat ((List.getD v8.2.2.2.2.1 v8.1.toNat ((0 : Int), ((0 : Int), ((0 : Int), ((0 : Int), (0 : Int)))))).1, ((IntKind.wrap .i64 (((List.getD v8.2.2.2.2.1 v8.1.toNat ((0 : Int), ((0 : Int), ((0 : Int), ((0 : Int), (0 : Int)))))).2).1 + (1 : Int))), ((((List.getD v8.2.2.2.2.1 v8.1.toNat ((0 : Int), ((0 : Int), ((0 : Int), ((0 : Int), (0 : Int)))))).2).2).1, (((((List.getD v8.2.2.2.2.1 v8.1.toNat ((0 : Int), ((0 : Int), ((0 : Int), ((0 : Int), (0 : Int)))))).2).2).2).1, ((((List.getD v8.2.2.2.2.1 v8.1.toNat ((0 : Int), ((0 : Int), ((0 : Int), ((0 : Int), (0 : Int)))))).2).2).2).2))))) v8.1.toNat ((0 : Int), ((0 : Int), ((0 : Int), ((0 : Int), (0 : Int)))))).2).1, ((((List.getD (List.set v8.2.2.2.2.1 v8.1.toNat ((List.getD v8.2.2.2.2.1 v8.1.toNat ((0 : Int), ((0 : Int), ((0 : Int), ((0 : Int), (0 : Int)))))).1, ((IntKind.wrap .i64 (((List.getD v8.2.2.2.2.1 v8.1.toNat ((0 : Int), ((0 : Int), ((0 : Int), ((0 : Int), (0 : Int)))))).2).1 + (1 : Int))), ((((List.getD v8.2.2.2.2.1 v8.1.toNat ((0 : Int), ((0 : Int), ((0 : Int), ((0 : Int), (0 : Int)))))).2).2).1, (((((List.getD v8.2.2.2.2.1 v8.1.toNat ((0 : Int), ((0 : Int), ((0 : Int), ((0 : Int), (0 : Int)))))).2).2).2).1, ((((List.getD v8.2.2.2.2.1 v8.1.toNat ((0 : Int), ((0 : Int), ((0 : Int), ((0 : Int), (0 : Int)))))).2).2).2).2))))) v8.1.toNat ((0 : Int), ((0 : Int), ((0 : Int), ((0 : Int), (0 : Int)))))).2).2).1, (((((List.getD (List.set v8.2.2.2.2.1 v8.1.toNat ((List.getD v8.2.2.2.2.1 v8.1.toNat ((0 : Int), ((0 : Int), ((0 : Int), ((0 : Int), (0 : Int)))))).1, ((IntKind.wrap .i64 (((List.getD v8.2.2.2.2.1 v8.1.toNat ((0 : Int), ((0 : Int), ((0 : Int), ((0 : Int), (0 : Int)))))).2).1 + (1 : Int))), ((((List.getD v8.2.2.2.2.1 v8.1.toNat ((0 : Int), ((0 : Int), ((0 : Int), ((0 : Int), (0 : Int)))))).2).2).1, (((((List.getD v8.2.2.2.2.1 v8.1.toNat ((0 : Int), ((0 : Int), ((0 : Int), ((0 : Int), (0 : Int)))))).2).2).2).1, ((((List.getD v8.2.2.2.2.1 v8.1.toNat ((0 : Int), ((0 : Int), ((0 : Int), ((0 : Int), (0 : Int)))))).2).2).2).2))))) v8.1.toNat ((0 : Int), ((0 : Int), ((0 : Int), ((0 : Int), (0 : Int)))))).2).2).2).1, v8.2.2.2.2.2.2.2.1))))) v8.1.toNat ((0 : Int), ((0 : Int), ((0 : Int), ((0 : Int), (0 : Int)))))).1, (((List.getD (List.set (List.set v8.2.2.2.2.1 v8.1.toNat ((List.getD v8.2.2.2.2.1 v8.1.toNat ((0 : Int), ((0 : Int), ((0 : Int), ((0 : Int), (0 : Int)))))).1, ((IntKind.wrap .i64 (((List.getD v8.2.2.2.2.1 v8.1.toNat ((0 : Int), ((0 : Int), ((0 : Int), ((0 : Int), (0 : Int)))))).2).1 + (1 : Int))), ((((List.getD v8.2.2.2.2.1 v8.1.toNat ((0 : Int), ((0 : Int), ((0 : Int), ((0 : Int), (0 : Int)))))).2).2).1, (((((List.getD v8.2.2.2.2.1 v8.1.toNat ((0 : Int), ((0 : Int), ((0 : Int), ((0 : Int), (0 : Int)))))).2).2).2).1, ((((List.getD v8.2.2.2.2.1 v8.1.toNat ((0 : Int), ((0 : Int), ((0 : Int), ((0 : Int), (0 : Int)))))).2).2).2).2))))) v8.1.toNat ((List.getD (List.set v8.2.2.2.2.1 v8.1.toNat ((List.getD v8.2.2.2.2.1 v8.1.toNat ((0 : Int), ((0 : Int), ((0 : Int), ((0 : Int), (0 : Int)))))).1, ((IntKind.wrap .i64 (((List.getD v8.2.2.2.2.1 v8.1.toNat ((0 : Int), ((0 : Int), ((0 : Int), ((0 : Int), (0 : Int)))))).2).1 + (1 : Int))), ((((List.getD v8.2.2.2.2.1 v8.1.toNat ((0 : Int), ((0 : Int), ((0 : Int), ((0 : Int), (0 : Int)))))).2).2).1, (((((List.getD v8.2.2.2.2.1 v8.1.toNat ((0 : Int), ((0 : Int), ((0 : Int), ((0 : Int), (0 : Int)))))).2).2).2).1, ((((List.getD v8.2.2.2.2.1 v8.1.toNat ((0 : Int), ((0 : Int), ((0 : Int), ((0 : Int), (0 : Int)))))).2).2).2).2))))) v8.1.toNat ((0 : Int), ((0 : Int), ((0 : Int), ((0 : Int), (0 : Int)))))).1, (((List.getD (List.set v8.2.2.2.2.1 v8.1.toNat ((List.getD v8.2.2.2.2.1 v8.1.toNat ((0 : Int), ((0 : Int), ((0 : Int), ((0 : Int), (0 : Int)))))).1, ((IntKind.wrap .i64 (((List.getD v8.2.2.2.2.1 v8.1.toNat ((0 : Int), ((0 : Int), ((0 : Int), ((0 : Int), (0 : Int)))))).2).1 + (1 : Int))), ((((List.getD v8.2.2.2.2.1 v8.1.toNat ((0 : Int), ((0 : Int), ((0 : Int), ((0 : Int), (0 : Int)))))).2).2).1, (((((List.getD v8.2.2.2.2.1 v8.1.toNat ((0 : Int), ((0 : Int), ((0 : Int), ((0 : Int), (0 : Int)))))).2).2).2).1, ((((List.getD v8.2.2.2.2.1 v8.1.toNat ((0 : Int), ((0 : Int), ((0 : Int), ((0 : Int), (0 : Int)))))).2).2).2).2))))) v8.1.toNat ((0 : Int), ((0 : Int), ((0 : Int), ((0 : Int), (0 : Int)))))).2).1, ((((List.getD (List.set v8.2.2.2.2.1 v8.1.toNat ((List.getD v8.2.2.2.2.1 v8.1.toNat ((0 : Int), ((0 : Int), ((0 : Int), ((0 : Int), (0 : Int)))))).1, ((IntKind.wrap .i64 (((List.getD v8.2.2.2.2.1 v8.1.toNat ((0 : Int), ((0 : Int), ((0 : Int), ((0 : Int), (0 : Int)))))).2).1 + (1 : Int))), ((((List.getD v8.2.2.2.2.1 v8.1.toNat ((0 : Int), ((0 : Int), ((0 : Int), ((0 : Int), (0 : Int)))))).2).2).1, (((((List.getD v8.2.2.2.2.1 v8.1.toNat ((0 : Int), ((0 : Int), ((0 : Int), ((0 : Int), (0 : Int)))))).2).2).2).1, ((((List.getD v8.2.2.2.2.1 v8.1.toNat ((0 : Int), ((0 : Int), ((0 : Int), ((0 : Int), (0 : Int)))))).2).2).2).2))))) v8.1.toNat ((0 : Int), ((0 : Int), ((0 : Int), ((0 : Int), (0 : Int)))))).2).2).1, (((((List.getD (List.set v8.2.2.2.2.1 v8.1.toNat ((List.getD v8.2.2.2.2.1 v8.1.toNat ((0 : Int), ((0 : Int), ((0 : Int), ((0 : Int), (0 : Int)))))).1, ((IntKind.wrap .i64 (((List.getD v8.2.2.2.2.1 v8.1.toNat ((0 : Int), ((0 : Int), ((0 : Int), ((0 : Int), (0 : Int)))))).2).1 + (1 : Int))), ((((List.getD v8.2.2.2.2.1 v8.1.toNat ((0 : Int), ((0 : Int), ((0 : Int), ((0 : Int), (0 : Int)))))).2).2).1, (((((List.getD v8.2.2.2.2.1 v8.1.toNat ((0 : Int), ((0 : Int), ((0 : Int), ((0 : Int), (0 : Int)))))).2).2).2).1, ((((List.getD v8.2.2.2.2.1 v8.1.toNat ((0 : Int), ((0 : Int), ((0 : Int), ((0 : Int), (0 : Int)))))).2).2).2).2))))) v8.1.toNat ((0 : Int), ((0 : Int), ((0 : Int), ((0 : Int), (0 : Int)))))).2).2).2).1, v8.2.2.2.2.2.2.2.1))))) v8.1.toNat ((0 : Int), ((0 : Int), ((0 : Int), ((0 : Int), (0 : Int)))))).2).1, ((lorK .u16 ((((List.getD (List.set (List.set v8.2.2.2.2.1 v8.1.toNat ((List.getD v8.2.2.2.2.1 v8.1.toNat ((0 : Int), ((0 : Int), ((0 : Int), ((0 : Int), (0 : Int)))))).1, ((IntKind.wrap .i64 (((List.getD v8.2.2.2.2.1 v8.1.toNat ((0 : Int), ((0 : Int), ((0 : Int), ((0 : Int), (0 : Int)))))).2).1 + (1 : Int))), ((((List.getD v8.2.2.2.2.1 v8.1.toNat ((0 : Int), ((0 : Int), ((0 : Int), ((0 : Int), (0 : Int)))))).2).2).1, (((((List.getD v8.2.2.2.2.1 v8.1.toNat ((0 : Int), ((0 : Int), ((0 : Int), ((0 : Int), (0 : Int)))))).2).2).2).1, ((((List.getD v8.2.2.2.2.1 v8.1.toNat ((0 : Int), ((0 : Int), ((0 : Int), ((0 : Int), (0 : Int)))))).2).2).2).2))))) v8.1.toNat ((List.getD (List.set v8.2.2.2.2.1 v8.1.toNat ((List.getD v8.2.2.2.2.1 v8.1.toNat ((0 : Int), ((0 : Int), ((0 : Int), ((0 : Int), (0 : Int)))))).1, ((IntKind.wrap .i64 (((List.getD v8.2.2.2.2.1 v8.1.toNat ((0 : Int), ((0 : Int), ((0 : Int), ((0 : Int), (0 : Int)))))).2).1 + (1 : Int))), ((((List.getD v8.2.2.2.2.1 v8.1.toNat ((0 : Int), ((0 : Int), ((0 : Int), ((0 : Int), (0 : Int)))))).2).2).1, (((((List.getD v8.2.2.2.2.1 v8.1.toNat ((0 : Int), ((0 : Int), ((0 : Int), ((0 : Int), (0 : Int)))))).2).2).2).1, ((((List.getD v8.2.2.2.2.1 v8.1.toNat ((0 : Int), ((0 : Int), ((0 : Int), ((0 : Int), (0 : Int)))))).2).2).2).2))))) v8.1.toNat ((0 : Int), ((0 : Int), ((0 : Int), ((0 : Int), (0 : Int)))))).1, (((List.getD (List.set v8.2.2.2.2.1 v8.1.toNat ((List.getD v8.2.2.2.2.1 v8.1.toNat ((0 : Int), ((0 : Int), ((0 : Int), ((0 : Int), (0 : Int)))))).1, ((IntKind.wrap .i64 (((List.getD v8.2.2.2.2.1 v8.1.toNat ((0 : Int), ((0 : Int), ((0 : Int), ((0 : Int), (0 : Int)))))).2).1 + (1 : Int))), ((((List.getD v8.2.2.2.2.1 v8.1.toNat ((0 : Int), ((0 : Int), ((0 : Int), ((0 : Int), (0 : Int)))))).2).2).1, (((((List.getD v8.2.2.2.2.1 v8.1.toNat ((0 : Int), ((0 : Int), ((0 : Int), ((0 : Int), (0 : Int)))))).2).2).2).1, ((((List.getD v8.2.2.2.2.1 v8.1.toNat ((0 : Int), ((0 : Int), ((0 : Int), ((0 : Int), (0 : Int)))))).2).2).2).2))))) v8.1.toNat ((0 : Int), ((0 : Int), ((0 : Int), ((0 : Int), (0 : Int)))))).2).1, ((((List.getD (List.set v8.2.2.2.2.1 v8.1.toNat ((List.getD v8.2.2.2.2.1 v8.1.toNat ((0 : Int), ((0 : Int), ((0 : Int), ((0 : Int), (0 : Int)))))).1, ((IntKind.wrap .i64 (((List.getD v8.2.2.2.2.1 v8.1.toNat ((0 : Int), ((0 : Int), ((0 : Int), ((0 : Int), (0 : Int)))))).2).1 + (1 : Int))), ((((List.getD v8.2.2.2.2.1 v8.1.toNat ((0 : Int), ((0 : Int), ((0 : Int), ((0 : Int), (0 : Int)))))).2).2).1, (((((List.getD v8.2.2.2.2.1 v8.1.toNat ((0 : Int), ((0 : Int), ((0 : Int), ((0 : Int), (0 : Int)))))).2).2).2).1, ((((List.getD v8.2.2.2.2.1 v8.1.toNat ((0 : Int), ((0 : Int), ((0 : Int), ((0 : Int), (0 : Int)))))).2).2).2).2))))) v8.1.toNat ((0 : Int), ((0 : Int), ((0 : Int), ((0 : Int), (0 : Int)))))).2).2).1, (((((List.getD (List.set v8.2.2.2.2.1 v8.1.toNat ((List.getD v8.2.2.2.2.1 v8.1.toNat ((0 : Int), ((0 : Int), ((0 : Int), ((0 : Int), (0 : Int)))))).1, ((IntKind.wrap .i64 (((List.getD v8.2.2.2.2.1 v8.1.toNat ((0 : Int), ((0 : Int), ((0 : Int), ((0 : Int), (0 : Int)))))).2).1 + (1 : Int))), ((((List.getD v8.2.2.2.2.1 v8.1.toNat ((0 : Int), ((0 : Int), ((0 : Int), ((0 : Int), (0 : Int)))))).2).2).1, (((((List.getD v8.2.2.2.2.1 v8.1.toNat ((0 : Int), ((0 : Int), ((0 : Int), ((0 : Int), (0 : Int)))))).2).2).2).1, ((((List.getD v8.2.2.2.2.1 v8.1.toNat ((0 : Int), ((0 : Int), ((0 : Int), ((0 : Int), (0 : Int)))))).2).2).2).2))))) v8.1.toNat ((0 : Int), ((0 : Int), ((0 : Int), ((0 : Int), (0 : Int)))))).2).2).2).1, v8.2.2.2.2.2.2.2.1))))) v8.1.toNat ((0 : Int), ((0 : Int), ((0 : Int), ((0 : Int), (0 : Int)))))).2).2).1) (shlK .u16 (1 : Int) v8.2.2.2.2.2.2.1)), (((((List.getD (List.set (List.set v8.2.2.2.2.1 v8.1.toNat ((List.getD v8.2.2.2.2.1 v8.1.toNat ((0 : Int), ((0 : Int), ((0 : Int), ((0 : Int), (0 : Int)))))).1, ((IntKind.wrap .i64 (((List.getD v8.2.2.2.2.1 v8.1.toNat ((0 : Int), ((0 : Int), ((0 : Int), ((0 : Int), (0 : Int)))))).2).1 + (1 : Int))), ((((List.getD v8.2.2.2.2.1 v8.1.toNat ((0 : Int), ((0 : Int), ((0 : Int), ((0 : Int), (0 : Int)))))).2).2).1, (((((List.getD v8.2.2.2.2.1 v8.1.toNat ((0 : Int), ((0 : Int), ((0 : Int), ((0 : Int), (0 : Int)))))).2).2).2).1, ((((List.getD v8.2.2.2.2.1 v8.1.toNat ((0 : Int), ((0 : Int), ((0 : Int), ((0 : Int), (0 : Int)))))).2).2).2).2))))) v8.1.toNat ((List.getD (List.set v8.2.2.2.2.1 v8.1.toNat ((List.getD v8.2.2.2.2.1 v8.1.toNat ((0 : Int), ((0 : Int), ((0 : Int), ((0 : Int), (0 : Int)))))).1, ((IntKind.wrap .i64 (((List.getD v8.2.2.2.2.1 v8.1.toNat ((0 : Int), ((0 : Int), ((0 : Int), ((0 : Int), (0 : Int)))))).2).1 + (1 : Int))), ((((List.getD v8.2.2.2.2.1 v8.1.toNat ((0 : Int), ((0 : Int), ((0 : Int), ((0 : Int), (0 : Int)))))).2).2).1, (((((List.getD v8.2.2.2.2.1 v8.1.toNat ((0 : Int), ((0 : Int), ((0 : Int), ((0 : Int), (0 : Int)))))).2).2).2).1, ((((List.getD v8.2.2.2.2.1 v8.1.toNat ((0 : Int), ((0 : Int), ((0 : Int), ((0 : Int), (0 : Int)))))).2).2).2).2))))) v8.1.toNat ((0 : Int), ((0 : Int), ((0 : Int), ((0 : Int), (0 : Int)))))).1, (((List.getD (List.set v8.2.2.2.2.1 v8.1.toNat ((List.getD v8.2.2.2.2.1 v8.1.toNat ((0 : Int), ((0 : Int), ((0 : Int), ((0 : Int), (0 : Int)))))).1, ((IntKind.wrap .i64 (((List.getD v8.2.2.2.2.1 v8.1.toNat ((0 : Int), ((0 : Int), ((0 : Int), ((0 : Int), (0 : Int)))))).2).1 + (1 : Int))), ((((List.getD v8.2.2.2.2.1 v8.1.toNat ((0 : Int), ((0 : Int), ((0 : Int), ((0 : Int), (0 : Int)))))).2).2).1, (((((List.getD v8.2.2.2.2.1 v8.1.toNat ((0 : Int), ((0 : Int), ((0 : Int), ((0 : Int), (0 : Int)))))).2).2).2).1, ((((List.getD v8.2.2.2.2.1 v8.1.toNat ((0 : Int), ((0 : Int), ((0 : Int), ((0 : Int), (0 : Int)))))).2).2).2).2))))) v8.1.toNat ((0 : Int), ((0 : Int), ((0 : Int), ((0 : Int), (0 : Int)))))).2).1, ((((List.getD (List.set v8.2.2.2.2.1 v8.1.toNat ((List.getD v8.2.2.2.2.1 v8.1.toNat ((0 : Int), ((0 : Int), ((0 : Int), ((0 : Int), (0 : Int)))))).1, ((IntKind.wrap .i64 (((List.getD v8.2.2.2.2.1 v8.1.toNat ((0 : Int), ((0 : Int), ((0 : Int), ((0 : Int), (0 : Int)))))).2).1 + (1 : Int))), ((((List.getD v8.2.2.2.2.1 v8.1.toNat ((0 : Int), ((0 : Int), ((0 : Int), ((0 : Int), (0 : Int)))))).2).2).1, (((((List.getD v8.2.2.2.2.1 v8.1.toNat ((0 : Int), ((0 : Int), ((0 : Int), ((0 : Int), (0 : Int)))))).2).2).2).1, ((((List.getD v8.2.2.2.2.1 v8.1.toNat ((0 : Int), ((0 : Int), ((0 : Int), ((0 : Int), (0 : Int)))))).2).2).2).2))))) v8.1.toNat ((0 : Int), ((0 : Int), ((0 : Int), ((0 : Int), (0 : Int)))))).2).2).1, (((((List.getD (List.set v8.2.2.2.2.1 v8.1.toNat ((List.getD v8.2.2.2.2.1 v8.1.toNat ((0 : Int), ((0 : Int), ((0 : Int), ((0 : Int), (0 : Int)))))).1, ((IntKind.wrap .i64 (((List.getD v8.2.2.2.2.1 v8.1.toNat ((0 : Int), ((0 : Int), ((0 : Int), ((0 : Int), (0 : Int)))))).2).1 + (1 : Int))), ((((List.getD v8.2.2.2.2.1 v8.1.toNat ((0 : Int), ((0 : Int), ((0 : Int), ((0 : Int), (0 : Int)))))).2).2).1, (((((List.getD v8.2.2.2.2.1 v8.1.toNat ((0 : Int), ((0 : Int), ((0 : Int), ((0 : Int), (0 : Int)))))).2).2).2).1, ((((List.getD v8.2.2.2.2.1 v8.1.toNat ((0 : Int), ((0 : Int), ((0 : Int), ((0 : Int), (0 : Int)))))).2).2).2).2))))) v8.1.toNat ((0 : Int), ((0 : Int), ((0 : Int), ((0 : Int), (0 : Int)))))).2).2).2).1, v8.2.2.2.2.2.2.2.1))))) v8.1.toNat ((0 : Int), ((0 : Int), ((0 : Int), ((0 : Int), (0 : Int)))))).2).2).2).1, ((((List.getD (List.set (List.set v8.2.2.2.2.1 v8.1.toNat ((List.getD v8.2.2.2.2.1 v8.1.toNat ((0 : Int), ((0 : Int), ((0 : Int), ((0 : Int), (0 : Int)))))).1, ((IntKind.wrap .i64 (((List.getD v8.2.2.2.2.1 v8.1.toNat ((0 : Int), ((0 : Int), ((0 : Int), ((0 : Int), (0 : Int)))))).2).1 + (1 : Int))), ((((List.getD v8.2.2.2.2.1 v8.1.toNat ((0 : Int), ((0 : Int), ((0 : Int), ((0 : Int), (0 : Int)))))).2).2).1, (((((List.getD v8.2.2.2.2.1 v8.1.toNat ((0 : Int), ((0 : Int), ((0 : Int), ((0 : Int), (0 : Int)))))).2).2).2).1, ((((List.getD v8.2.2.2.2.1 v8.1.toNat ((0 : Int), ((0 : Int), ((0 : Int), ((0 : Int), (0 : Int)))))).2).2).2).2))))) v8.1.toNat ((List.getD (List.set v8.2.2.2.2.1 v8.1.toNat ((List.getD v8.2.2.2.2.1 v8.1.toNat ((0 : Int), ((0 : Int), ((0 : Int), ((0 : Int), (0 : Int)))))).1, ((IntKind.wrap .i64 (((List.getD v8.2.2.2.2.1 v8.1.toNat ((0 : Int), ((0 : Int), ((0 : Int), ((0 : Int), (0 : Int)))))).2).1 + (1 : Int))), ((((List.getD v8.2.2.2.2.1 v8.1.toNat ((0 : Int), ((0 : Int), ((0 : Int), ((0 : Int), (0 : Int)))))).2).2).1, (((((List.getD v8.2.2.2.2.1 v8.1.toNat ((0 : Int), ((0 : Int), ((0 : Int), ((0 : Int), (0 : Int)))))).2).2).2).1, ((((List.getD v8.2.2.2.2.1 v8.1.toNat ((0 : Int), ((0 : Int), ((0 : Int), ((0 : Int), (0 : Int)))))).2).2).2).2))))) v8.1.toNat ((0 : Int), ((0 : Int), ((0 : Int), ((0 : Int), (0 : Int)))))).1, (((List.getD (List.set v8.2.2.2.2.1 v8.1.toNat ((List.getD v8.2.2.2.2.1 v8.1.toNat ((0 : Int), ((0 : Int), ((0 : Int), ((0 : Int), (0 : Int)))))).1, ((IntKind.wrap .i64 (((List.getD v8.2.2.2.2.1 v8.1.toNat ((0 : Int), ((0 : Int), ((0 : Int), ((0 : Int), (0 : Int)))))).2).1 + (1 : Int))), ((((List.getD v8.2.2.2.2.1 v8.1.toNat ((0 : Int), ((0 : Int), ((0 : Int), ((0 : Int), (0 : Int)))))).2).2).1, (((((List.getD v8.2.2.2.2.1 v8.1.toNat ((0 : Int), ((0 : Int), ((0 : Int), ((0 : Int), (0 : Int)))))).2).2).2).1, ((((List.getD v8.2.2.2.2.1 v8.1.toNat ((0 : Int), ((0 : Int), ((0 : Int), ((0 : Int), (0 : Int)))))).2).2).2).2))))) v8.1.toNat ((0 : Int), ((0 : Int), ((0 : Int), ((0 : Int), (0 : Int)))))).2).1, ((((List.getD (List.set v8.2.2.2.2.1 v8.1.toNat ((List.getD v8.2.2.2.2.1 v8.1.toNat ((0 : Int), ((0 : Int), ((0 : Int), ((0 : Int), (0 : Int)))))).1, ((IntKind.wrap .i64 (((List.getD v8.2.2.2.2.1 v8.1.toNat ((0 : Int), ((0 : Int), ((0 : Int), ((0 : Int), (0 : Int)))))).2).1 + (1 : Int))), ((((List.getD v8.2.2.2.2.1 v8.1.toNat ((0 : Int), ((0 : Int), ((0 : Int), ((0 : Int), (0 : Int)))))).2).2).1, (((((List.getD v8.2.2.2.2.1 v8.1.toNat ((0 : Int), ((0 : Int), ((0 : Int), ((0 : Int), (0 : Int)))))).2).2).2).1, ((((List.getD v8.2.2.2.2.1 v8.1.toNat ((0 : Int), ((0 : Int), ((0 : Int), ((0 : Int), (0 : Int)))))).2).2).2).2))))) v8.1.toNat ((0 : Int), ((0 : Int), ((0 : Int), ((0 : Int), (0 : Int)))))).2).2).1, (((((List.getD (List.set v8.2.2.2.2.1 v8.1.toNat ((List.getD v8.2.2.2.2.1 v8.1.toNat ((0 : Int), ((0 : Int), ((0 : Int), ((0 : Int), (0 : Int)))))).1, ((IntKind.wrap .i64 (((List.getD v8.2.2.2.2.1 v8.1.toNat ((0 : Int), ((0 : Int), ((0 : Int), ((0 : Int), (0 : Int)))))).2).1 + (1 : Int))), ((((List.getD v8.2.2.2.2.1 v8.1.toNat ((0 : Int), ((0 : Int), ((0 : Int), ((0 : Int), (0 : Int)))))).2).2).1, (((((List.getD v8.2.2.2.2.1 v8.1.toNat ((0 : Int), ((0 : Int), ((0 : Int), ((0 : Int), (0 : Int)))))).2).2).2).1, ((((List.getD v8.2.2.2.2.1 v8.1.toNat ((0 : Int), ((0 : Int), ((0 : Int), ((0 : Int), (0 : Int)))))).2).2).2).2))))) v8.1.toNat ((0 : Int), ((0 : Int), ((0 : Int), ((0 : Int), (0 : Int)))))).2).2).2).1, v8.2.2.2.2.2.2.2.1))))) v8.1.toNat ((0 : Int), ((0 : Int), ((0 : Int), ((0 : Int), (0 : Int)))))).2).2).2).2))))))))) (some (Ctl.go (v8.2.1, v8.2.2.1, (IntKind.wrap .i64 (v8.2.2.2.1 + (1 : Int))), (List.set (List.set v8.2.2.2.2.1 v8.1.toNat ((List.getD v8.2.2.2.2.1 v8.1.toNat ((0 : Int), ((0 : Int), ((0 : Int), ((0 : Int), (0 : Int)))))).1, ((IntKind.wrap .i64 (((List.getD v8.2.2.2.2.1 v8.1.toNat ((0 : Int), ((0 : Int), ((0 : Int), ((0 : Int), (0 : Int)))))).2).1 + (1 : Int))), ((((List.getD v8.2.2.2.2.1 v8.1.toNat ((0 : Int), ((0 : Int), ((0 : Int), ((0 : Int), (0 : Int)))))).2).2).1, (((((List.getD v8.2.2.2.2.1 v8.1.toNat ((0 : Int), ((0 : Int), ((0 : Int), ((0 : Int), (0 : Int)))))).2).2).2).1, ((((List.getD v8.2.2.2.2.1 v8.1.toNat ((0 : Int), ((0 : Int), ((0 : Int), ((0 : Int), (0 : Int)))))).2).2).2).2))))) v8.1.toNat ((List.getD (List.set v8.2.2.2.2.1 v8.1.toNat ((List.getD v8.2.2.2.2.1 v8.1.toNat ((0 : Int), ((0 : Int), ((0 : Int), ((0 : Int), (0 : Int)))))).1, ((IntKind.wrap .i64 (((List.getD v8.2.2.2.2.1 v8.1.toNat ((0 : Int), ((0 : Int), ((0 : Int), ((0 : Int), (0 : Int)))))).2).1 + (1 : Int))), ((((List.getD v8.2.2.2.2.1 v8.1.toNat ((0 : Int), ((0 : Int), ((0 : Int), ((0 : Int), (0 : Int)))))).2).2).1, (((((List.getD v8.2.2.2.2.1 v8.1.toNat ((0 : Int), ((0 : Int), ((0 : Int), ((0 : Int), (0 : Int)))))).2).2).2).1, ((((List.getD v8.2.2.2.2.1 v8.1.toNat ((0 : Int), ((0 : Int), ((0 : Int), ((0 : Int), (0 : Int)))))).2).2).2).2))))) v8.1.toNat ((0 : Int), ((0 : Int), ((0 : Int), ((0 : Int), (0 : Int)))))).1, (((List.getD (List.set v8.2.2.2.2.1 v8.1.toNat ((List.getD v8.2.2.2.2.1 v8.1.toNat ((0 : Int), ((0 : Int), ((0 : Int), ((0 : Int), (0 : Int)))))).1, ((IntKind.wrap .i64 (((List.getD v8.2.2.2.2.1 v8.1.toNat ((0 : Int), ((0 : Int), ((0 : Int), ((0 : Int), (0 : Int)))))).2).1 + (1 : Int))), ((((List.getD v8.2.2.2.2.1 v8.1.toNat ((0 : Int), ((0 : Int), ((0 : Int), ((0 : Int), (0 : Int)))))).2).2).1, (((((List.getD v8.2.2.2.2.1 v8.1.toNat ((0 : Int), ((0 : Int), ((0 : Int), ((0 : Int), (0 : Int)))))).2).2).2).1, ((((List.getD v8.2.2.2.2.1 v8.1.toNat ((0 : Int), ((0 : Int), ((0 : Int), ((0 : Int), (0 : Int)))))).2).2).2).2))))) v8.1.toNat ((0 : Int), ((0 : Int), ((0 : Int), ((0 : Int), (0 : Int)))))).2).1, ((((List.getD (List.set v8.2.2.2.2.1 v8.1.toNat ((List.getD v8.2.2.2.2.1 v8.1.toNat ((0 : Int), ((0 : Int), ((0 : Int), ((0 : Int), (0 : Int)))))).1, ((IntKind.wrap .i64 (((List.getD v8.2.2.2.2.1 v8.1.toNat ((0 : Int), ((0 : Int), ((0 : Int), ((0 : Int), (0 : Int)))))).2).1 + (1 : Int))), ((((List.getD v8.2.2.2.2.1 v8.1.toNat ((0 : Int), ((0 : Int), ((0 : Int), ((0 : Int), (0 : Int)))))).2).2).1, (((((List.getD v8.2.2.2.2.1 v8.1.toNat ((0 : Int), ((0 : Int), ((0 : Int), ((0 : Int), (0 : Int)))))).2).2).2).1, ((((List.getD v8.2.2.2.2.1 v8.1.toNat ((0 : Int), ((0 : Int), ((0 : Int), ((0 : Int), (0 : Int)))))).2).2).2).2))))) v8.1.toNat ((0 : Int), ((0 : Int), ((0 : Int), ((0 : Int), (0 : Int)))))).2).2).1, (((((List.getD (List.set v8.2.2.2.2.1 v8.1.toNat ((List.getD v8.2.2.2.2.1 v8.1.toNat ((0 : Int), ((0 : Int), ((0 : Int), ((0 : Int), (0 : Int)))))).1, ((IntKind.wrap .i64 (((List.getD v8.2.2.2.2.1 v8.1.toNat ((0 : Int), ((0 : Int), ((0 : Int), ((0 : Int), (0 : Int)))))).2).1 + (1 : Int))), ((((List.getD v8.2.2.2.2.1 v8.1.toNat ((0 : Int), ((0 : Int), ((0 : Int), ((0 : Int), (0 : Int)))))).2).2).1, (((((List.getD v8.2.2.2.2.1 v8.1.toNat ((0 : Int), ((0 : Int), ((0 : Int), ((0 : Int), (0 : Int)))))).2).2).2).1, ((((List.getD v8.2.2.2.2.1 v8.1.toNat ((0 : Int), ((0 : Int), ((0 : Int), ((0 : Int), (0 : Int)))))).2).2).2).2))))) v8.1.toNat ((0 : Int), ((0 : Int), ((0 : Int), ((0 : Int), (0 : Int)))))).2).2).2).1, v8.2.2.2.2.2.2.2.1))))))))))))))) (dnO (some v5.2.2.2)))) (a0, ((a0.length : Nat) : Int), (0 : Int), ([] : List (Int × Int × Int × Int × Int))))
theorem e34 (t : List (Int × Int × Int × Int)) : evF (stpT Tryd.prog T45 K45) Tryd.f34 p34 r34 (.s .d (.s .d (.s (.s .d (.b (.l o34_s1 (.s .d (.s .d (.s (.b (.s .d (.s .d (.j false [o34_s0] .d)))) .d)))))) .d))) t = (o34 t) := by kernel_rfl
theorem fo34 : FOk Tryd.prog 34 ⟨p34, r34, fun t => (o34 t)⟩ := FOk.run_eq (evF_ok (h := (.s .d (.s .d (.s (.s .d (.b (.l o34_s1 (.s .d (.s .d (.s (.b (.s .d (.s .d (.j false [o34_s0] .d)))) .d)))))) .d)))) (by kernel_rfl) (by kernel_rfl) (by kernel_rfl)) e34
def T46 : Tbl := (34, ⟨p34, r34, fun t => (o34 t)⟩) :: T45
theorem K46 : TOk Tryd.prog T46 := .cons K45 fo34
def o35_s0 : Sch := ⟨[(3, .v (.c (.own 0))), (5, .v (.c (.ptr 1 0))), (6, .v (.c (.i .i64))), (8, .v (.c (.ro (.p (.i .i64) (.p (.i .u8) (.p (.i .i64) (.i .u64)))) false))), (9, .v (.c (.i .i64))), (10, .v (.c (.i .i64))), (27, .v (.c (.b)))], [.row (.p (.i .i64) (.p (.i .i64) (.p (.i .u16) (.p (.i .i64) (.i .i64))))) 81, .cells 42 [.i .i64, .i .u8, .i .i64, .i .u64]]⟩
def o35_s1 : Sch := ⟨[(3, .v (.c (.own 0))), (5, .v (.c (.ptr 1 0))), (6, .v (.c (.i .i64))), (8, .v (.c (.ro (.p (.i .i64) (.p (.i .u8) (.p (.i .i64) (.i .u64)))) false))), (9, .v (.c (.i .i64))), (10, .v (.c (.i .i64)))], [.row (.p (.i .i64) (.p (.i .i64) (.p (.i .u16) (.p (.i .i64) (.i .i64))))) 81, .cells 42 [.i .i64, .i .u8, .i .i64, .i .u64]]⟩
def o35_s2 : Sch := ⟨[(3, .v (.c (.own 0))), (5, .v (.c (.ptr 1 0))), (6, .v (.c (.i .i64))), (8, .v (.c (.ro (.p (.i .i64) (.p (.i .u8) (.p (.i .i64) (.i .u64)))) false))), (9, .v (.c (.i .i64))), (10, .v (.c (.i .i64))), (43, .v (.c (.b)))], [.row (.p (.i .i64) (.p (.i .i64) (.p (.i .u16) (.p (.i .i64) (.i .i64))))) 81, .cells 42 [.i .i64, .i .u8, .i .i64, .i .u64]]⟩
def o35_s3 : Sch := ⟨[(3, .v (.c (.own 0))), (8, .v (.c (.ro (.p (.i .i64) (.p (.i .u8) (.p (.i .i64) (.i .u64)))) false))), (9, .v (.c (.i .i64))), (10, .v (.c (.i .i64)))], [.row (.p (.i .i64) (.p (.i .i64) (.p (.i .u16) (.p (.i .i64) (.i .i64))))) 81]⟩
def p35 : Sch := ⟨[(0, .v (.c (.ro (.p (.i .i64) (.p (.i .u8) (.p (.i .i64) (.i .u64)))) false)))], []⟩
def r35 : List Sch := [⟨[(0, .v (.c (.own 0)))], [.row (.p (.i .i64) (.p (.i .i64) (.p (.i .u16) (.p (.i .i64) (.i .i64))))) 81]⟩]
def o35 (a0 : List (Int × Int × Int × Int)) : Option (List (Int × Int × Int × Int × Int)) :=
 (loopO (σ := List (Int × Int × Int × Int) × Int × Int × List (Int × Int × Int × Int × Int)) fuelN (fun (v3 : List (Int × Int × Int × Int) × Int × Int × List (Int × Int × Int × Int × Int)) => (cnd (decide (v3.2.2.1 < v3.2.1)) (gd (decide ((0 : Int) ≤ v3.2.2.1 ∧ v3.2.2.1 < ((v3.1.length : Nat) : Int))) (loopO (σ := Int × List (Int × Int × Int × Int) × Int × Int × List (Int × Int × Int × Int × Int) × Int × Int × Int × Int) fuelN (fun (v6 : Int × List (Int × Int × Int × Int) × Int × Int × List (Int × Int × Int × Int × Int) × Int × Int × Int × Int) => (bd (α := (Int × List (Int × Int × Int × Int) × Int × Int × Bool × List (Int × Int × Int × Int × Int) × Int × Int × Int × Int)) (cnd (decide (v6.1 < ((v6.2.2.2.2.1.length : Nat) : Int))) (gd (decide ((0 : Int) ≤ v6.1 ∧ v6.1 < ((v6.2.2.2.2.1.length : Nat) : Int))) (some (v6.1, v6.2.1, v6.2.2.1, v6.2.2.2.1, (decide ((List.getD v6.2.2.2.2.1 v6.1.toNat ((0 : Int), ((0 : Int), ((0 : Int), ((0 : Int), (0 : Int)))))).1 < v6.2.2.2.2.2.1)), v6.2.2.2.2.1, v6.2.2.2.2.2.1, v6.2.2.2.2.2.2.1, v6.2.2.2.2.2.2.2.1, v6.2.2.2.2.2.2.2.2))) (some (v6.1, v6.2.1, v6.2.2.1, v6.2.2.2.1, false, v6.2.2.2.2.1, v6.2.2.2.2.2.1, v6.2.2.2.2.2.2.1, v6.2.2.2.2.2.2.2.1, v6.2.2.2.2.2.2.2.2))) (fun v7 => (cnd v7.2.2.2.2.1 (some (Ctl.go ((IntKind.wrap .i64 (v7.1 + (1 : Int))), v7.2.1, v7.2.2.1, v7.2.2.2.1, v7.2.2.2.2.2.1, v7.2.2.2.2.2.2.1, v7.2.2.2.2.2.2.2.1, v7.2.2.2.2.2.2.2.2.1, v7.2.2.2.2.2.2.2.2.2))) (dnO (bd (α := (Int × List (Int × Int × Int × Int) × Int × Int × List (Int × Int × Int × Int × Int) × Int × Int × Int × Int)) (bd (α := (Int × List (Int × Int × Int × Int) × Int × Int × Bool × List (Int × Int × Int × Int × Int) × Int × Int × Int × Int)) (cnd (v7.1 == ((v7.2.2.2.2.2.1.length : Nat) : Int)) (some (v7.1, v7.2.1, v7.2.2.1, v7.2.2.2.1, true, v7.2.2.2.2.2.1, v7.2.2.2.2.2.2.1, v7.2.2.2.2.2.2.2.1, v7.2.2.2.2.2.2.2.2.1, v7.2.2.2.2.2.2.2.2.2)) (gd (decide ((0 : Int) ≤ v7.1 ∧ v7.1 < ((v7.2.2.2.2.2.1.length : Nat) : Int))) (some (v7.1, v7.2.1, v7.2.2.1, v7.2.2.2.1, ((List.getD v7.2.2.2.2.2.1 v7.1.toNat ((0 : Int), ((0 : Int), ((0 : Int), ((0 : Int), (0 : Int)))))).1 != v7.2.2.2.2.2.2.1), v7.2.2.2.2.2.1, v7.2.2.2.2.2.2.1, v7.2.2.2.2.2.2.2.1, v7.2.2.2.2.2.2.2.2.1, v7.2.2.2.2.2.2.2.2.2)))) (fun v8 => (cnd v8.2.2.2.2.1 (gd (decide ((0 : Int) ≤ v8.1 ∧ v8.1 ≤ ((v8.2.2.2.2.2.1.length : Nat) : Int))) (gd (decide ((([] : List (Int × Int × Int × Int × Int)).length + (List.take (v8.1.toNat - 0) (List.drop 0 v8.2.2.2.2.2.1)).length) * 40 ≤ 140737488355328)) (gd (decide (((([] : List (Int × Int × Int × Int × Int)) ++ (List.take (v8.1.toNat - 0) (List.drop 0 v8.2.2.2.2.2.1))).length + ([(v8.2.2.2.2.2.2.1, ((0 : Int), ((0 : Int), (v8.2.2.2.2.2.2.2.2.1, (0 : Int)))))] : List (Int × Int × Int × Int × Int)).length) * 40 ≤ 140737488355328)) (gd (decide ((0 : Int) ≤ v8.1 ∧ v8.1 ≤ ((v8.2.2.2.2.2.1.length : Nat) : Int))) (gd (decide ((((([] : List (Int × Int × Int × Int × Int)) ++ (List.take (v8.1.toNat - 0) (List.drop 0 v8.2.2.2.2.2.1))) ++ ([(v8.2.2.2.2.2.2.1, ((0 : Int), ((0 : Int), (v8.2.2.2.2.2.2.2.2.1, (0 : Int)))))] : List (Int × Int × Int × Int × Int))).length + (List.take (v8.2.2.2.2.2.1.length - v8.1.toNat) (List.drop v8.1.toNat v8.2.2.2.2.2.1)).length) * 40 ≤ 140737488355328)) (some (v8.1, v8.2.1, v8.2.2.1, v8.2.2.2.1, (((([] : List (Int × Int × Int × Int × Int)) ++ (List.take (v8.1.toNat - 0) (List.drop 0 v8.2.2.2.2.2.1))) ++ ([(v8.2.2.2.2.2.2.1, ((0 : Int), ((0 : Int), (v8.2.2.2.2.2.2.2.2.1, (0 : Int)))))] : List (Int × Int × Int × Int × Int))) ++ (List.take (v8.2.2.2.2.2.1.length - v8.1.toNat) (List.drop v8.1.toNat v8.2.2.2.2.2.1))), v8.2.2.2.2.2.2.1, v8.2.2.2.2.2.2.2.1, v8.2.2.2.2.2.2.2.2.1, v8.2.2.2.2.2.2.2.2.2))))))) (some (v8.1, v8.2.1, v8.2.2.1, v8.2.2.2.1, v8.2.2.2.2.2.1, v8.2.2.2.2.2.2.1, v8.2.2.2.2.2.2.2.1, v8.2.2.2.2.2.2.2.2.1, v8.2.2.2.2.2.2.2.2.2))))) (fun v9 => (gd (decide ((0 : Int) ≤ v9.1 ∧ v9.1 < ((v9.2.2.2.2.1.length : Nat) : Int))) (gd (decide ((0 : Int) ≤ v9.1 ∧ v9.1 < ((v9.2.2.2.2.1.length : Nat) : Int))) (gd (decide ((0 : Int) ≤ v9.1 ∧ v9.1 < (((List.set v9.2.2.2.2.1 v9.1.toNat ((List.getD v9.2.2.2.2.1 v9.1.toNat ((0 : Int), ((0 : Int), ((0 : Int), ((0 : Int), (0 : Int)))))).1, ((IntKind.wrap .i64 (((List.getD v9.2.2.2.2.1 v9.1.toNat ((0 : Int), ((0 : Int), ((0 : Int), ((0 : Int), (0 : Int)))))).2).1 + (1 : Int))), ((((List.getD v9.2.2.2.2.1 v9.1.toNat ((0 : Int), ((0 : Int), ((0 : Int), ((0 : Int), (0 : Int)))))).2).2).1, (((((List.getD v9.2.2.2.2.1 v9.1.toNat ((0 : Int), ((0 : Int), ((0 : Int), ((0 : Int), (0 : Int)))))).2).2).2).1, ((((List.getD v9.2.2.2.2.1 v9.1.toNat ((0 : Int), ((0 : Int), ((0 : Int), ((0 : Int), (0 : Int)))))).2).2).2).2))))).length : Nat) : Int))) (cnd (decide (v9.2.2.2.2.2.2.1 < (16 : Int))) (gd (decide ((0 : Int) ≤ v9.1 ∧ v9.1 < (((List.set (List.set v9.2.2.2.2.1 v9.1.toNat ((List.getD v9.2.2.2.2.1 v9.1.toNat ((0 : Int), ((0 : Int), ((0 : Int), ((0 : Int), (0 : Int)))))).1, ((IntKind.wrap .i64 (((List.getD v9.2.2.2.2.1 v9.1.toNat ((0 : Int), ((0 : Int), ((0 : Int), ((0 : Int), (0 : Int)))))).2).1 + (1 : Int))), ((((List.getD v9.2.2.2.2.1 v9.1.toNat ((0 : Int), ((0 : Int), ((0 : Int), ((0 : Int), (0 : Int)))))).2).2).1, (((((List.getD v9.2.2.2.2.1 v9.1.toNat ((0 : Int), ((0 : Int), ((0 : Int), ((0 : Int), (0 : Int)))))).2).2).2).1, ((((List.getD v9.2.2.2.2.1 v9.1.toNat ((0 : Int), ((0 : Int), ((0 : Int), ((0 : Int), (0 : Int)))))).2).2).2).2))))) v9.1.toNat ((List.getD (List.set v9.2.2.2.2.1 v9.1.toNat ((List.getD v9.2.2.2.2.1 v9.1.toNat ((0 : Int), ((0 : Int), ((0 : Int), ((0 : Int), (0 : Int)))))).1, ((IntKind.wrap .i64 (((List.getD v9.2.2.2.2.1 v9.1.toNat ((0 : Int), ((0 : Int), ((0 : Int), ((0 : Int), (0 : Int)))))).2).1 + (1 : Int))), ((((List.getD v9.2.2.2.2.1 v9.1.toNat ((0 : Int), ((0 : Int), ((0 : Int), ((0 : Int), (0 : Int)))))).2).2).1, (((((List.getD v9.2.2.2.2.1 v9.1.toNat ((0 : Int), ((0 : Int), ((0 : Int), ((0 : Int), (0 : Int)))))).2).2).2).1, ((((List.getD v9.2.2.2.2.1 v9.1.toNat ((0 : Int), ((0 : Int), ((0 : Int), ((0 : Int), (0 : Int)))))).2).2).2).2))))) v9.1.toNat ((0 : Int), ((0 : Int), ((0 : Int), ((0 : Int), (0 : Int)))))).1, (((List.getD (List.set v9.2.2.2.2.1 v9.1.toNat ((List.getD v9.2.2.2.2.1 v9.1.toNat ((0 : Int), ((0 : Int), ((0 : Int), ((0 : Int), (0 : Int)))))).1, ((IntKind.wrap .i64 (((List.getD v9.2.2.2.2.1 v9.1.toNat ((0 : Int), ((0 : Int), ((0 : Int), ((0 : Int), (0 : Int)))))).2).1 + (1 : Int))), ((((List.getD v9.2.2.2.2.1 v9.1.toNat ((0 : Int), ((0 : Int), ((0 : Int), ((0 : Int), (0 : Int)))))).2).2).1, (((((List.getD v9.2.2.2.2.1 v9.1.toNat ((0 : Int), ((0 : Int), ((0 : Int), ((0 : Int), (0 : Int)))))).2).2).2).1, ((((List.getD v9.2.2.2.2.1 v9.1.toNat ((0 : Int), ((0 : Int), ((0 : Int), ((0 : Int), (0 : Int)))))).2).2).2).2))))) v9.1.toNat ((0 : Int), ((0 : Int), ((0 : Int), ((0 : Int), (0 : Int)))))).2).1, ((((List.getD (List.set v9.2.2.2.2.1 v9.1.toNat ((List.getD v9.2.2.2.2.1 v9.1.toNat ((0 : Int), ((0 : Int), ((0 : Int), ((0 : Int), (0 : Int)))))).1, ((IntKind.wrap .i64 (((List.getD v9.2.2.2.2.1 v9.1.toNat ((0 : Int), ((0 : Int), ((0 : Int), ((0 : Int), (0 : Int)))))).2).1 + (1 : Int))), ((((List.getD v9.2.2.2.2.1 v9.1.toNat ((0 : Int), ((0 : Int), ((0 : Int), ((0 : Int), (0 : Int)))))).2).2).1, (((((List.getD v9.2.2.2.2.1 v9.1.toNat ((0 : Int), ((0 : Int), ((0 : Int), ((0 : Int), (0 : Int)))))).2).2).2).1, ((((List.getD v9.2.2.2.2.1 v9.1.toNat ((0 : Int), ((0 : Int), ((0 : Int), ((0 : Int), (0 : Int)))))).2).2).2).2))))) v9.1.toNat ((0 : Int), ((0 : Int), ((0 : Int), ((0 : Int), (0 : Int)))))).2).2).1, (((((List.getD (List.set v9.2.2.2.2.1 v9.1.toNat ((List.getD v9.2.2.2.2.1 v9.1.toNat ((0 : Int), ((0 : Int), ((0 : Int), ((0 : Int), (0 : Int)))))).1, ((IntKind.wrap .i64 (((List.getD v9.2.2.2.2.1 v9.1.toNat ((0 : Int), ((0 : Int), ((0 : Int), ((0 : Int), (0 : Int)))))).2).1 + (1 : Int))), ((((List.getD v9.2.2.2.2.1 v9.1.toNat ((0 : Int), ((0 : Int), ((0 : Int), ((0 : Int), (0 : Int)))))).2).2).1, (((((List.getD v9.2.2.2.2.1 v9.1.toNat ((0 : Int), ((0 : Int), ((0 : Int), ((0 : Int), (0 : Int)))))).2).2).2).1, ((((List.getD v9.2.2.2.2.1 v9.1.toNat ((0 : Int), ((0 : Int), ((0 : Int), ((0 : Int), (0 : Int)))))).2).2).2).2))))) v9.1.toNat ((0 : Int), ((0 : Int), ((0 : Int), ((0 : Int), (0 : Int)))))).2).2).2).1, v9.2.2.2.2.2.2.2.1))))).length : Nat) : Int))) (gd (decide ((0 : Int) ≤ v9.2.2.2.2.2.2.1)) (gd (decide ((0 : Int) ≤ v9.1 ∧ v9.1 < (((List.set (List.set v9.2.2.2.2.1 v9.1.toNat ((List.getD v9.2.2.2.2.1 v9.1.toNat ((0 : Int), ((0 : Int), ((0 : Int), ((0 : Int), (0 : Int)))))).1, ((IntKind.wrap .i64 (((List.getD v9.2.2.2.2.1 v9.1.toNat ((0 : Int), ((0 : Int), ((0 : Int), ((0 : Int), (0 : Int)))))).2).1 + (1 : Int))), ((((List.getD v9.2.2.2.2.1 v9.1.toNat ((0 : Int), ((0 : Int), ((0 : Int), ((0 : Int), (0 : Int)))))).2).2).1, (((((List.getD v9.2.2.2.2.1 v9.1.toNat ((0 : Int), ((0 : Int), ((0 : Int), ((0 : Int), (0 : Int)))))).2).2).2).1, ((((List.getD v9.2.2.2.2.1 v9.1.toNat ((0 : Int), ((0 : Int), ((0 : Int), ((0 : Int), (0 : Int)))))).2).2).2).2))))) v9.1.toNat ((List.getD (List.set v9.2.2.2.2.1 v9.1.toNat ((List.getD v9.2.2.2.2.1 v9.1.toNat ((0 : Int), ((0 : Int), ((0 : Int), ((0 : Int), (0 : Int)))))).1, ((IntKind.wrap .i64 (((List.getD v9.2.2.2.2.1 v9.1.toNat ((0 : Int), ((0 : Int), ((0 : Int), ((0 : Int), (0 : Int)))))).2).1 + (1 : Int))), ((((List.getD v9.2.2.2.2.1 v9.1.toNat ((0 : Int), ((0 : Int), ((0 : Int), ((0 : Int), (0 : Int)))))).2).2).1, (((((List.getD v9.2.2.2.2.1 v9.1.toNat ((0 : Int), ((0 : Int), ((0 : Int), ((0 : Int), (0 : Int)))))).2).2).2).1, ((((List.getD v9.2.2.2.2.1 v9.1.toNat ((0 : Int), ((0 : Int), ((0 : Int), ((0 : Int), (0 : Int)))))).2).2).2).2))))) v9.1.toNat ((0 : Int), ((0 : Int), ((0 : Int), ((0 : Int), (0 : Int)))))).1, (((List.getD (List.set v9.2.2.2.2.1 v9.1.toNat ((List.getD v9.2.2.2.2.1 v9.1.toNat ((0 : Int), ((0 : Int), ((0 : Int), ((0 : Int), (0 : Int)))))).1, ((IntKind.wrap .i64 (((List.getD v9.2.2.2.2.1 v9.1.toNat ((0 : Int), ((0 : Int), ((0 : Int), ((0 : Int), (0 : Int)))))).2).1 + (1 : Int))), ((((List.getD v9.2.2.2.2.1 v9.1.toNat ((0 : Int), ((0 : Int), ((0 : Int), ((0 : Int), (0 : Int)))))).2).2).1, (((((List.getD v9.2.2.2.2.1 v9.1.toNat ((0 : Int), ((0 : Int), ((0 : Int), ((0 : Int), (0 : Int)))))).2).2).2).1, ((((List.getD v9.2.2.2.2.1 v9.1.toNat ((0 : Int), ((0 : Int), ((0 : Int), ((0 : Int), (0 : Int)))))).2).2).2).2))))) v9.1.toNat ((0 : Int), ((0 : Int), ((0 : Int), ((0 : Int), (0 : Int)))))).2).1, ((((List.getD (List.set v9.2.2.2.2.1 v9.1.toNat ((List.getD v9.2.2.2.2.1 v9.1.toNat ((0 : Int), ((0 : Int), ((0 : Int), ((0 : Int), (0 : Int)))))).1, ((IntKind.wrap .i64 (((List.getD v9.2.2.2.2.1 v9.1.toNat ((0 : Int), ((0 : Int), ((0 : Int), ((0 : Int), (0 : Int)))))).2).1 + (1 : Int))), ((((List.getD v9.2.2.2.2.1 v9.1.toNat ((0 : Int), ((0 : Int), ((0 : Int), ((0 : Int), (0 : Int)))))).2).2).1, (((((List.getD v9.2.2.2.2.1 v9.1.toNat ((0 : Int), ((0 : Int), ((0 : Int), ((0 : Int), (0 : Int)))))).2).2).2).1, ((((List.getD v9.2.2.2.2.1 v9.1.toNat ((0 : Int), ((0 : Int), ((0 : Int), ((0 : Int), (0 : Int)))))).2).2).2).2))))) v9.1.toNat ((0 : Int), ((0 : Int), ((0 : Int), ((0 : Int), (0 : Int)))))).2).2).1, (((((List.getD (List.set v9.2.2.2.2.1 v9.1.toNat ((List.getD v9.2.2.2.2.1 v9.1.toNat ((0 : Int), ((0 : Int), ((0 : Int), ((0 : Int), (0 : Int)))))).1, ((IntKind.wrap .i64 (((List.getD v9.2.2.2.2.1 v9.1.toNat ((0 : Int), ((0 : Int), ((0 : Int), ((0 : Int), (0 : Int)))))).2).1 + (1 : Int))), ((((List.getD v9.2.2.2.2.1 v9.1.toNat ((0 : Int), ((0 : Int), ((0 : Int), ((0 : Int), (0 : Int)))))).2).2).1, (((((List.getD v9.2.2.2.2.1 v9.1.toNat ((0 : Int), ((0 : Int), ((0 : Int), ((0 : Int), (0 : Int)))))).2).2).2).1, ((((List.getD v9.2.2.2.2.1 v9.1.toNat ((0 : Int), ((0 : Int), ((0 : Int), ((0 : Int), (0 : Int)))))).2).2).2).2))))) v9.1.toNat ((0 : Int), ((0 : Int), ((0 : Int), ((0 : Int), (0 : Int)))))).2).2).2).1, v9.2.2.2.2.2.2.2.1))))).length : Nat) : Int))) (some (Ctl.go (v9.2.1, v9.2.2.1, (IntKind.wrap .i64 (v9.2.2.2.1 + (1 : Int))), (List.set (List.set (List.set v9.2.2.2.2.1 v9.1.toNat ((List.getD v9.2.2.2.2.1 v9.1.toNat ((0 : Int), ((0 : Int), ((0 : Int), ((0 : Int), (0 : Int)))))).1, ((IntKind.wrap .i64 (((List.getD v9.2.2.2.2.1 v9.1.toNat ((0 : Int), ((0 : Int), ((0 : Int), ((0 : Int), (0 : Int)))))).2).1 + (1 : Int))), ((((List.getD v9.2.2.2.2.1 v9.1.toNat ((0 : Int), ((0 : Int), ((0 : Int), ((0 : Int), (0 : Int)))))).2).2).1, (((((List.getD v9.2.2.2.2.1 v9.1.toNat ((0 : Int), ((0 : Int), ((0 : Int), ((0 : Int), (0 : Int)))))).2).2).2).1, ((((List.getD v9.2.2.2.2.1 v9.1.toNat ((0 : Int), ((0 : Int), ((0 : Int), ((0 : Int), (0 : Int)))))).2).2).2).2))))) v9.1.toNat ((List.getD (List.set v9.2.2.2.2.1 v9.1.toNat ((List.getD v9.2.2.2.2.1 v9.1.toNat ((0 : Int), ((0 : Int), ((0 : Int), ((0 : Int), (0 : Int)))))).1, ((IntKind.wrap .i64 (((List.getD v9.2.2.2.2.1 v9.1.toNat ((0 : Int), ((0 : Int), ((0 : Int), ((0 : Int), (0 : Int)))))).2).1 + (1 : Int))), ((((List.getD v9.2.2.2.2.1 v9.1.toNat ((0 : Int), ((0 : Int), ((0 : Int), ((0 : Int), (0 : Int)))))).2).2).1, (((((List.getD v9.2.2.2.2.1 v9.1.toNat ((0 : Int), ((0 : Int), ((0 : Int), ((0 : Int), (0 : Int)))))).2).2).2).1, ((((List.getD v9.2.2.2.2.1 v9.1.toNat ((0 : Int), ((0 : Int), ((0 : Int), ((0 : Int), (0 : Int)))))).2).2).2).2))))) v9.1.toNat ((0 : Int), ((0 : Int), ((0 : Int), ((0 : Int), (0 : Int)))))).1, (((List.getD (List.set v9.2.2.2.2.1 v9.1.toNat ((List.getD v9.2.2.2.2.1 v9.1.toNat ((0 : Int), ((0 : Int), ((0 : Int), ((0 : Int), (0 : Int)))))).1, ((IntKind.wrap .i64 (((List.getD v9.2.2.2.2.1 v9.1.toNat ((0 : Int), ((0 : Int), ((0 : Int), ((0 : Int), (0 : Int)))))).2).1 + (1 : Int))), ((((List.getD v9.2.2.2.2.1 v9.1.toNat ((0 : Int), ((0 : Int), ((0 : Int), ((0 : Int), (0 : Int)))))).2).2).1, (((((List.getD v9.2.2.2.2.1 v9.1.toNat ((0 : Int), ((0 : Int), ((0 : Int), ((0 : Int), (0 : Int)))))).2).2).2).1, ((((List.getD v9.2.2.2.2.1 v9.1.toNat ((0 : Int), ((0 : Int), ((0 : Int), ((0 : Int), (0 : Int)))))).2).2).2).2))))) v9.1.toNat ((0 : Int), ((0 : Int), ((0 : Int), ((0 : Int), (0 : Int)))))).2).1, ((((List.getD (List.set v9.2.2.2.2.1 v9.1.toNat ((List.getD v9.2.2.2.2.1 v9.1.toNat ((0 : Int), ((0 : Int), ((0 : Int), ((0 : Int), (0 : Int)))))).1, ((IntKind.wrap .i64 (((List.getD v9.2.2.2.2.1 v9.1.toNat ((0 : Int), ((0 : Int), ((0 : Int), ((0 : Int), (0 : Int)))))).2).1 + (1 : Int))), ((((List.getD v9.2.2.2.2.1 v9.1.toNat ((0 : Int), ((0 : Int), ((0 : Int), ((0 : Int), (0 : Int)))))).2).2).1, (((((List.getD v9.2.2.2.2.1 v9.1.toNat ((0 : Int), ((0 : Int), ((0 : Int), ((0 : Int), (0 : Int)))))).2).2).2).1, ((((List.getD v9.2.2.2.2.1 v9.1.toNat ((0 : Int), ((0 : Int), ((0 : Int), ((0 : Int), (0 : Int)))))).2).2).2).2))))) v9.1.toNat ((0 : Int), ((0 : Int), ((0 : Int), ((0 : Int), (0 : Int)))))).2).2).1, (((((List.getD (List.set v9.2.2.2.2.1 v9.1.toNat ((List.getD v9.2.2.2.2.1 v9.1.toNat ((0 : Int), ((0 : Int), ((0 : Int), ((0 : Int), (0 : Int)))))).1, ((IntKind.wrap .i64 (((List.getD v9.2.2.2.2.1 v9.1.toNat ((0 : Int), ((0 : Int), ((0 : Int), ((0 : Int), (0 : Int)))))).2).1 + (1 : Int))), ((((List.getD v9.2.2.2.2.1 v9.1.toNat ((0 : Int), ((0 : Int), ((0 : Int), ((0 : Int), (0 : Int)))))).2).2).1, (((((List.getD v9.2.2.2.2.1 v9.1.toNat ((0 : Int), ((0 : Int), ((0 : Int), ((0 : Int), (0 : Int)))))).2).2).2).1, ((((List.getD v9.2.2.2.2.1 v9.1.toNat ((0 : Int), ((0 : Int), ((0 : Int), ((0 : Int), (0 : Int)))))).2).2).2).2))))) v9.1.toNat ((0 : Int), ((0 : Int), ((0 : Int), ((0 : Int), (0 : Int)))))).2).2).2).1, v9.2.2.2.2.2.2.2.1))))) v9.1.toNat ((List.getD (List.set (List.set v9.2.2.2.2.1 v9.1.toNat ((List.getD v9.2.2.2.2.1 v9.1.toNat ((0 : Int), ((0 : Int), ((0 : Int), ((0 : Int), (0 : Int)))))).1, ((IntKind.wrap .i64 (((List.getD v9.2.2.2.2.1 v9.1.toNat ((0 : Int), ((0 : Int), ((0 : Int), ((0 : Int), (0 : Int)))))).2).1 + (1 : Int))), ((((List.getD v9.2.2.2.2.1 v9.1.toNat ((0 : Int), ((0 : Int), ((0 : Int), ((0 : Int), (0 : Int)))))).2).2).1, (((((List.getD v9.2.2.2.2.1 v9.1.toNat ((0 : Int), ((0 : Int), ((0 : Int), ((0 : Int), (0 : Int)))))).2).2).2).1, ((((List.getD v9.2.2.2.2.1 v9.1.toNat ((0 : Int), ((0 : Int), ((0 : Int), ((0 : Int), (0 : Int)))))).2).2).2).2))))) v9.1.toNat ((List.getD (List.set v9.2.2.2.2.1 v9.1.toNat ((List.getD v9.2.2.2.2.1 v9.1.toNat ((0 : Int), ((0 : Int), ((0 : Int), ((0 : Int), (0 : Int)))))).1, ((IntKind.wrap .i64 (((List.getD v9.2.2.2.2.1 v9.1.toNat ((0 : Int), ((0 : Int), ((0 : Int), ((0 : Int), (0 : Int)))))).2).1 + (1 : Int))), ((((List.getD v9.2.2.2.2.1 v9.1.toNat ((0 : Int), ((0 : Int), ((0 : Int), ((0 : Int), (0 : Int)))))).2).2).1, (((((List.getD v9.2.2.2.2.1 v9.1.toNat ((0 : Int), ((0 : Int), ((0 : Int), ((0 : Int), (0 : Int)))))).2).2).2).1, ((((List.getD v9.2.2.2.2.1 v9.1.toNat ((0 : Int), ((0 : Int), ((0 : Int), ((0 : Int), (0 : Int)))))).2).2).2).2))))) v9.1.toNat ((0 : Int), ((0 : Int), ((0 : Int), ((0 : Int), (0 : Int)))))).1, (((List.getD (List.set v9.2.2.2.2.1 v9.1.toNat ((List.getD v9.2.2.2.2.1 v9.1.toNat ((0 : Int), ((0 : Int), ((0 : Int), ((0 : Int), (0 : Int)))))).1, ((IntKind.wrap .i64 (((List.getD v9.2.2.2.2.1 v9.1.toNat ((0 : Int), ((0 : Int), ((0 : Int), ((0 : Int), (0 : Int)))))).2).1 + (1 : Int))), ((((List.getD v9.2.2.2.2.1 v9.1.toNat ((0 : Int), ((0 : Int), ((0 : Int), ((0 : Int), (0 : Int)))))).2).2).1, (((((List.getD v9.2.2.2.2.1 v9.1.toNat ((0 : Int), ((0 : Int), ((0 : Int), ((0 : Int), (0 : Int)))))).2).2).2).1, ((((List.getD v9.2.2.2.2.1 v9.1.toNat ((0 : Int), ((0 : Int), ((0 : Int), ((0 : Int), (0 : Int)))))).2).2).2).2))))) v9.1.toNat ((0 : Int), ((0 : Int), ((0 : Int), ((0 : Int), (0 : Int)))))).2).1, ((((List.getD (List.set v9.2.2.2.2.1 v9.1.toNat ((List.getD v9.2.2.2.2.1 v9.1.toNat ((0 : Int), ((0 : Int), ((0 : Int), ((0 : Int), (0 : Int)))))).1, ((IntKind.wrap .i64 (((List.getD v9.2.2.2.2.1 v9.1.toNat ((0 : Int), ((0 : Int), ((0 : Int), ((0 : Int), (0 : Int)))))).2).1 + (1 : Int))), ((((List.getD v9.2.2.2.2.1 v9.1.toNat ((0 : Int), ((0 : Int), ((0 : Int), ((0 : Int), (0 : Int)))))).2).2).1, (((((List.getD v9.2.2.2.2.1 v9.1.toNat ((0 : Int), ((0 : Int), ((0 : Int), ((0 : Int), (0 : Int)))))).2).2).2).1, ((((List.getD v9.2.2.2.2.1 v9.1.toNat ((0 : Int), ((0 : Int), ((0 : Int), ((0 : Int), (0 : Int)))))).2).2).2).2))))) v9.1.toNat ((0 : Int), ((0 : Int), ((0 : Int), ((0 : Int), (0 : Int)))))).2).2).1, (((((List.getD (List.set v9.2.2.2.2.1 v9.1.toNat ((List.getD v9.2.2.2.2.1 v9.1.toNat ((0 : Int), ((0 : Int), ((0 : Int), ((0 : Int), (0 : Int)))))).1, ((IntKind.wrap .i64 (((List.getD v9.2.2.2.2.1 v9.1.toNat ((0 : Int), ((0 : Int), ((0 : Int), ((0 : Int), (0 : Int)))))).2).1 + (1 : Int))), ((((List.getD v9.2.2.2.2.1 v9.1.toNat ((0 : Int), ((0 : Int), ((0 : Int), ((0 : Int), (0 : Int)))))).2).2).1, (((((List.getD v9.2.2.2.2.1 v9.1.toNat ((0 : Int), ((0 : Int), ((0 : Int), ((0 : Int), (0 : Int)))))).2).2).2).1, ((((List.getD v9.2.2.2.2.1 v9.1.toNat ((0 : Int), ((0 : Int), ((0 : Int), ((0 : Int), (0 : Int)))))).2).2).2).2))))) v9.1.toNat ((0 : Int), ((0 : Int), ((0 : Int), ((0 : Int), (0 : Int)))))).2).2).2).1, v9.2.2.2.2.2.2.2.1))))) v9.1.toNat ((0 : Int), ((0 : Int), ((0 : Int), ((0 : Int), (0 : Int)))))).1, (((List.getD (List.set (List.set v9.2.2.2.2.1 v9.1.toNat ((List.getD v9.2.2.2.2.1 v9.1.toNat ((0 : Int), ((0 : Int), ((0 : Int), ((0 : Int), (0 : Int)))))).1, ((IntKind.wrap .i64 (((List.getD v9.2.2.2.2.1 v9.1.toNat ((0 : Int), ((0 : Int), ((0 : Int), ((0 : Int), (0 : Int)))))).2).1 + (1 : Int))), ((((List.getD v9.2.2.2.2.1 v9.1.toNat ((0 : Int), ((0 : Int), ((0 : Int), ((0 : Int), (0 : Int)))))).2).2).1, (((((List.getD v9.2.2.2.2.1 v9.1.toNat ((0 : Int), ((0 : Int), ((0 : Int), ((0 : Int), (0 : Int)))))).2).2).2).1, ((((List.getD v9.2.2.2.2.1 v9.1.toNat ((0 : Int), ((0 : Int), ((0 : Int), ((0 : Int), (0 : Int)))))).2).2).2).2))))) v9.1.toNat ((List.getD (List.set v9.2.2.2.2.1 v9.1.toNat ((List.getD v9.2.2.2.2.1 v9.1.toNat ((0 : Int), ((0 : Int), ((0 : Int), ((0 : Int), (0 : Int)))))).1, ((IntKind.wrap .i64 (((List.getD v9.2.2.2.2.1 v9.1.toNat ((0 : Int), ((0 : Int), ((0 : Int), ((0 : Int), (0 : Int)))))).2).1 + (1 : Int))), ((((List.getD v9.2.2.2.2.1 v9.1.toNat ((0 : Int), ((0 : Int), ((0 : Int), ((0 : Int), (0 : Int)))))).2).2).1, (((((List.getD v9.2.2.2.2.1 v9.1.toNat ((0 : Int), ((0 : Int), ((0 : Int), ((0 : Int), (0 : Int)))))).2).2).2).1, ((((List.getD v9.2.2.2.2.1 v9.1.toNat ((0 : Int), ((0 : Int), ((0 : Int), ((0 : Int), (0 : Int)))))).2).2).2).2))))) v9.1.toNat ((0 : Int), ((0 : Int), ((0 : Int), ((0 : Int), (0 : Int)))))).1, (((List.getD (List.set v9.2.2.2.2.1 v9.1.toNat ((List.getD v9.2.2.2.2.1 v9.1.toNat ((0 : Int), ((0 : Int), ((0 : Int), ((0 : Int), (0 : Int)))))).1, ((IntKind.wrap .i64 (((List.getD v9.2.2.2.2.1 v9.1.toNat ((0 : Int), ((0 : Int), ((0 : Int), ((0 : Int), (0 : Int)))))).2).1 + (1 : Int))), ((((List.getD v9.2.2.2.2.1 v9.1.toNat ((0 : Int), ((0 : Int), ((0 : Int), ((0 : Int), (0 : Int)))))).2).2).1, (((((List.getD v9.2.2.2.2.1 v9.1.toNat ((0 : Int), ((0 : Int), ((0 : Int), ((0 : Int), (0 : Int)))))).2).2).2).1, ((((List.getD v9.2.2.2.2.1 v9.1.toNat ((0 : Int), ((0 : Int), ((0 : Int), ((0 : Int), (0 : Int)))))).2).2).2).2))))) v9.1.toNat ((0 : Int), ((0 : Int), ((0 : Int), ((0 : Int), (0 : Int)))))).2).1, ((((List.getD (List.set v9.2.2.2.2.1 v9.1.toNat ((List.getD v9.2.2.2.2.1 v9.1.toNat ((0 : Int), ((0 : Int), ((0 : Int), ((0 : Int), (0 : Int)))))).1, ((IntKind.wrap .i64 (((List.getD v9.2.2.2.2.1 v9.1.toNat ((0 : Int), ((0 : Int), ((0 : Int), ((0 : Int), (0 : Int)))))).2).1 + (1 : Int))), ((((List.getD v9.2.2.2.2.1 v9.1.toNat ((0 : Int), ((0 : Int), ((0 : Int), ((0 : Int), (0 : Int)))))).2).2).1, (((((List.getD v9.2.2.2.2.1 v9.1.toNat ((0 : Int), ((0 : Int), ((0 : Int), ((0 : Int), (0 : Int)))))).2).2).2).1, ((((List.getD v9.2.2.2.2.1 v9.1.toNat ((0 : Int), ((0 : Int), ((0 : Int), ((0 : Int), (0 : Int)))))).2).2).2).2))))) v9.1.toNat ((0 : Int), ((0 : Int), ((0 : Int), ((0 : Int), (0 : Int)))))).2).2).1, (((((List.getD (List.set v9.2.2.2.2.1 v9.1.toNat ((List.getD v9.2.2.2.2.1 v9.1.toNat ((0 : Int), ((0 : Int), ((0 : Int), ((0 : Int), (0 : Int)))))).1, ((IntKind.wrap .i64 (((List.getD v9.2.2.2.2.1 v9.1.toNat ((0 : Int), ((0 : Int), ((0 : Int), ((0 : Int), (0 : Int)))))).2).1 + (1 : Int))), ((((List.getD v9.2.2.2.2.1 v9.1.toNat ((0 : Int), ((0 : Int), ((0 : Int), ((0 : Int), (0 : Int)))))).2).2).1, (((((List.getD v9.2.2.2.2.1 v9.1.toNat ((0 : Int), ((0 : Int), ((0 : Int), ((0 : Int), (0 : Int)))))).2).2).2).1, ((((List.getD v9.2.2.2.2.1 v9.1.toNat ((0 : Int), ((0 : Int), ((0 : Int), ((0 : Int), (0 : Int)))))).2).2).2).2))))) v9.1.toNat ((0 : Int), ((0 : Int), ((0 : Int), ((0 : Int), (0 : Int)))))).2).2).2).1, v9.2.2.2.2.2.2.2.1))))) v9.1.toNat ((0 : Int), ((0 : Int), ((0 : Int), ((0 : Int), (0 : Int)))))).2).1, ((lorK .u16 ((((List.getD (List.set (List.set v9.2.2.2.2.1 v9.1.toNat ((List.getD v9.2.2.2.2.1 v9.1.toNat ((0 : Int), ((0 : Int), ((0 : Int), ((0 : Int), (0 : Int)))))).1, ((IntKind.wrap .i64 (((List.getD v9.2.2.2.2.1 v9.1.toNat ((0 : Int), ((0 : Int), ((0 : Int), ((0 : Int), (0 : Int)))))).2).1 + (1 : Int))), ((((List.getD v9.2.2.2.2.1 v9.1.toNat ((0 : Int), ((0 : Int), ((0 : Int), ((0 : Int), (0 : Int)))))).2).2).1, (((((List.getD v9.2.2.2.2.1 v9.1.toNat ((0 : Int), ((0 : Int), ((0 : Int), ((0 : Int), (0 : Int)))))).2).2).2).1, ((((List.getD v9.2.2.2.2.1 v9.1.toNat ((0 : Int), ((0 : Int), ((0 : Int), ((0 : Int), (0 : Int)))))).2).2).2).2))))) v9.1.toNat ((List.getD (List.set v9.2.2.2.2.1 v9.1.toNat ((List.getD v9.2.2.2.2.1 v9.1.toNat ((0 : Int), ((0 : Int), ((0 : Int), ((0 : Int), (0 : Int)))))).1, ((IntKind.wrap .i64 (((List.getD v9.2.2.2.2.1 v9.1.toNat ((0 : Int), ((0 : Int), ((0 : Int), ((0 : Int), (0 : Int)))))).2).1 + (1 : Int))), ((((List.getD v9.2.2.2.2.1 v9.1.toNat ((0 : Int), ((0 : Int), ((0 : Int), ((0 : Int), (0 : Int)))))).2).2).1, (((((List.getD v9.2.2.2.2.1 v9.1.toNat ((0 : Int), ((0 : Int), ((0 : Int), ((0 : Int), (0 : Int)))))).2).2).2).1, ((((List.getD v9.2.2.2.2.1 v9.1.toNat ((0 : Int), ((0 : Int), ((0 : Int), ((0 : Int), (0 : Int)))))).2).2).2).2))))) v9.1.toNat ((0 : Int), ((0 : Int), ((0 : Int), ((0 : Int), (0 : Int)))))).1, (((List.getD (List.set v9.2.2.2.2.1 v9.1.toNat ((List.getD v9.2.2.2.2.1 v9.1.toNat ((0 : Int), ((0 : Int), ((0 : Int), ((0 : Int), (0 : Int)))))).1, ((IntKind.wrap .i64 (((List.getD v9.2.2.2.2.1 v9.1.toNat ((0 : Int), ((0 : Int), ((0 : Int), ((0 : Int), (0 : Int)))))).2).1 + (1 : Int))), ((((List.getD v9.2.2.2.2.1 v9.1.toNat ((0 : Int), ((0 : Int), ((0 : Int), ((0 : Int), (0 : Int)))))).2).2).1, (((((List.getD v9.2.2.2.2.1 v9.1.toNat ((0 : Int), ((0 : Int), ((0 : Int), ((0 : Int), (0 : Int)))))).2).2).2).1, ((((List.getD v9.2.2.2.2.1 v9.1.toNat ((0 : Int), ((0 : Int), ((0 : Int), ((0 : Int), (0 : Int)))))).2).2).2).2))))) v9.1.toNat ((0 : Int), ((0 : Int), ((0 : Int), ((0 : Int), (0 : Int)))))).2).1, ((((List.getD (List.set v9.2.2.2.2.1 v9.1.toNat ((List.getD v9.2.2.2.2.1 v9.1.toNat ((0 : Int), ((0 : Int), ((0 : Int), ((0 : Int), (0 : Int)))))).1, ((IntKind.wrap .i64 (((List.getD v9.2.2.2.2.1 v9.1.toNat ((0 : Int), ((0 : Int), ((0 : Int), ((0 : Int), (0 : Int)))))).2).1 + (1 : Int))), ((((List.getD v9.2.2.2.2.1 v9.1.toNat ((0 : Int), ((0 : Int), ((0 : Int), ((0 : Int), (0 : Int)))))).2).2).1, (((((List.getD v9.2.2.2.2.1 v9.1.toNat ((0 : Int), ((0 : Int), ((0 : Int), ((0 : Int), (0 : Int)))))).2).2).2).1, ((((List.getD v9.2.2.2.2.1 v9.1.toNat ((0 : Int), ((0 : Int), ((0 : Int), ((0 : Int), (0 : Int)))))).2).2).2).2))))) v9.1.toNat ((0 : Int), ((0 : Int), ((0 : Int), ((0 : Int), (0 : Int)))))).2).2).1, (((((List.getD (List.set v9.2.2.2.2.1 v9.1.toNat ((List.getD v9.2.2.2.2.1 v9.1.toNat ((0 : Int), ((0 : Int), ((0 : Int), ((0 : Int), (0 : Int)))))).1, ((IntKind.wrap .i64 (((List.getD v9.2.2.2.2.1 v9.1.toNat ((0 : Int), ((0 : Int), ((0 : Int), ((0 : Int), (0 : Int)))))).2).1 + (1 : Int))), ((((List.getD v9.2.2.2.2.1 v9.1.toNat ((0 : Int), ((0 : Int), ((0 : Int), ((0 : Int), (0 : Int)))))).2).2).1, (((((List.getD v9.2.2.2.2.1 v9.1.toNat ((0 : Int), ((0 : Int), ((0 : Int), ((0 : Int), (0 : Int)))))).2).2).2).1, ((((List.getD v9.2.2.2.2.1 v9.1.toNat ((0 : Int), ((0 : Int), ((0 : Int), ((0 : Int), (0 : Int)))))).2).2).2).2))))) v9.1.toNat ((0 : Int), ((0 : Int), ((0 : Int), ((0 : Int), (0 : Int)))))).2).2).2).1, v9.2.2.2.2.2.2.2.1))))) v9.1.toNat ((0 : Int), ((0 : Int), ((0 : Int), ((0 : Int), (0 : Int)))))).2).2).1) (shlK .u16 (1 : Int) v9.2.2.2.2.2.2.1)), (((((List.getD (List.set (List.set v9.2.2.2.2.1 v9.1.toNat ((List.getD v9.2.2.2.2.1 v9.1.toNat ((0 : Int), ((0 : Int), ((0 : Int), ((0 : Int), (0 : Int)))))).1, ((IntKind.wrap .i64 (((List.getD v9.2.2.2.2.1 v9.1.toNat ((0 : Int), ((0 : Int), ((0 : Int), ((0 : Int), (0 : Int)))))).2).1 + (1 : Int))), ((((List.getD v9.2.2.2.2.1 v9.1.toNat ((0 : Int), ((0 : Int), ((0 : Int), ((0 : Int), (0 : Int)))))).2).2).1, (((((List.getD v9.2.2.2.2.1 v9.1.toNat ((0 : Int), ((0 : Int), ((0 : Int), ((0 : Int), (0 : Int)))))).2).2).2).1, ((((List.getD v9.2.2.2.2.1 v9.1.toNat ((0 : Int), ((0 : Int), ((0 : Int), ((0 : Int), (0 : Int)))))).2).2).2).2))))) v9.1.toNat ((List.getD (List.set v9.2.2.2.2.1 v9.1.toNat ((List.getD v9.2.2.2.2.1 v9.1.toNat ((0 : Int), ((0 : Int), ((0 : Int), ((0 : Int), (0 : Int)))))).1, ((IntKind.wrap .i64 (((List.getD v9.2.2.2.2.1 v9.1.toNat ((0 : Int), ((0 : Int), ((0 : Int), ((0 : Int), (0 : Int)))))).2).1 + (1 : Int))), ((((List.getD v9.2.2.2.2.1 v9.1.toNat ((0 : Int), ((0 : Int), ((0 : Int), ((0 : Int), (0 : Int)))))).2).2).1, (((((List.getD v9.2.2.2.2.1 v9.1.toNat ((0 : Int), ((0 : Int), ((0 : Int), ((0 : Int), (0 : Int)))))).2).2).2).1, ((((List.getD v9.2.2.2.2.1 v9.1.toNat ((0 : Int), ((0 : Int), ((0 : Int), ((0 : Int), (0 : Int)))))).2).2).2).2))))) v9.1.toNat ((0 : Int), ((0 : Int), ((0 : Int), ((0 : Int), (0 : Int)))))).1, (((List.getD (List.set v9.2.2.2.2.1 v9.1.toNat ((List.getD v9.2.2.2.2.1 v9.1.toNat ((0 : Int), ((0 : Int), ((0 : Int), ((0 : Int), (0 : Int)))))).1, ((IntKind.wrap .i64 (((List.getD v9.2.2.2.2.1 v9.1.toNat ((0 : Int), ((0 : Int), ((0 : Int), ((0 : Int), (0 : Int)))))).2).1 + (1 : Int))), ((((List.getD v9.2.2.2.2.1 v9.1.toNat ((0 : Int), ((0 : Int), ((0 : Int), ((0 : Int), (0 : Int)))))).2).2).1, (((((List.getD v9.2.2.2.2.1 v9.1.toNat ((0 : Int), ((0 : Int), ((0 : Int), ((0 : Int), (0 : Int)))))).2).2).2).1, ((((List.getD v9.2.2.2.2.1 v9.1.toNat ((0 : Int), ((0 : Int), ((0 : Int), ((0 : Int), (0 : Int)))))).2).2).2).2))))) v9.1.toNat ((0 : Int), ((0 : Int), ((0 : Int), ((0 : Int), (0 : Int)))))).2).1, ((((List.getD (List.set v9.2.2.2.2.1 v9.1.toNat ((List.getD v9.2.2.2.2.1 v9.1.toNat ((0 : Int), ((0 : Int), ((0 : Int), ((0 : Int), (0 : Int)))))).1, ((IntKind.wrap .i64 (((List.getD v9.2.2.2.2.1 v9.1.toNat ((0 : Int), ((0 : Int), ((0 : Int), ((0 : Int), (0 : Int)))))).2).1 + (1 : Int))), ((((List.getD v9.2.2.2.2.1 v9.1.toNat ((0 : Int), ((0 : Int), ((0 : Int), ((0 : Int), (0 : Int)))))).2).2).1, (((((List.getD v9.2.2.2.2.1 v9.1.toNat ((0 : Int), ((0 : Int), ((0 : Int), ((0 : Int), (0 : Int)))))).2).2).2).1, ((((List.getD v9.2.2.2.2.1 v9.1.toNat ((0 : Int), ((0 : Int), ((0 : Int), ((0 : Int), (0 : Int)))))).2).2).2).2))))) v9.1.toNat ((0 : Int), ((0 : Int), ((0 : Int), ((0 : Int), (0 : Int)))))).2).2).1, (((((List.getD (List.set v9.2.2.2.2.1 v9.1.toNat ((List.getD v9.2.2.2.2.1 v9.1.toNat ((0 : Int), ((0 : Int), ((0 : Int), ((0 : Int), (0 : Int)))))).1, ((IntKind.wrap .i64 (((List.getD v9.2.2.2.2.1 v9.1.toNat ((0 : Int), ((0 : Int), ((0 : Int), ((0 : Int), (0 : Int)))))).2).1 + (1 : Int))), ((((List.getD v9.2.2.2.2.1 v9.1.toNat ((0 : Int), ((0 : Int), ((0 : Int), ((0 : Int), (0 : Int)))))).2).2).1, (((((List.getD v9.2.2.2.2.1 v9.1.toNat ((0 : Int), ((0 : Int), ((0 : Int), ((0 : Int), (0 : Int)))))).2).2).2).1, ((((List.getD v9.2.2.2.2.1 v9.1.toNat ((0 : Int), ((0 : Int), ((0 : Int), ((0 : Int), (0 : Int)))))).2).2).2).2))))) v9.1.toNat ((0 : Int), ((0 : Int), ((0 : Int), ((0 : Int), (0 : Int)))))).2).2).2).1, v9.2.2.2.2.2.2.2.1))))) v9.1.toNat ((0 : Int), ((0 : Int), ((0 : Int), ((0 : Int), (0 : Int)))))).2).2).2).1, ((((List.getD (List.set (List.set v9.2.2.2.2.1 v9.1.toNat ((List.getD v9.2.2.2.2.1 v9.1.toNat ((0 : Int), ((0 : Int), ((0 : Int), ((0 : Int), (0 : Int)))))).1, ((IntKind.wrap .i64 (((List.getD v9.2.2.2.2.1 v9.1.toNat ((0 : Int), ((0 : Int), ((0 : Int), ((0 : Int), (0 : Int)))))).2).1 + (1 : Int))), ((((List.getD v9.2.2.2.2.1 v9.1.toNat ((0 : Int), ((0 : Int), ((0 : Int), ((0 : Int), (0 : Int)))))).2).2).1, (((((List.getD v9.2.2.2.2.1 v9.1.toNat ((0 : Int), ((0 : Int), ((0 : Int), ((0 : Int), (0 : Int)))))).2).2).2).1, ((((List.getD v9.2.2.2.2.1 v9.1.toNat ((0 : Int), ((0 : Int), ((0 : Int), ((0 : Int), (0 : Int)))))).2).2).2).2))))) v9.1.toNat ((List.getD (List.set v9.2.2.2.2.1 v9.1.toNat ((List.getD v9.2.2.2.2.1 v9.1.toNat ((0 : Int), ((0 : Int), ((0 : Int), ((0 : Int), (0 : Int)))))).1, ((IntKind.wrap .i64 (((List.getD v9.2.2.2.2.1 v9.1.toNat ((0 : Int), ((0 : Int), ((0 : Int), ((0 : Int), (0 : Int)))))).2).1 + (1 : Int))), ((((List.getD v9.2.2.2.2.1 v9.1.toNat ((0 : Int), ((0 : Int), ((0 : Int), ((0 : Int), (0 : Int)))))).2).2).1, (((((List.getD v9.2.2.2.2.1 v9.1.toNat ((0 : Int), ((0 : Int), ((0 : Int), ((0 : Int), (0 : Int)))))).2).2).2).1, ((((List.getD v9.2.2.2.2.1 v9.1.toNat ((0 : Int), ((0 : Int), ((0 : Int), ((0 : Int), (0 : Int)))))).2).2).2).2))))) v9.1.toNat ((0 : Int), ((0 : Int), ((0 : Int), ((0 : Int), (0 : Int)))))).1, (((List.getD (List.set v9.2.2.2.2.1 v9.1.toNat ((List.getD v9.2.2.2.2.1 v9.1.toNat ((0 : Int), ((0 : Int), ((0 : Int), ((0 : Int), (0 : Int)))))).1, ((IntKind.wrap .i64 (((List.getD v9.2.2.2.2.1 v9.1.toNat ((0 : Int), ((0 : Int), ((0 : Int), ((0 : Int), (0 : Int)))))).2).1 + (1 : Int))), ((((List.getD v9.2.2.2.2.1 v9.1.toNat ((0 : Int), ((0 : Int), ((0 : Int), ((0 : Int), (0 : Int)))))).2).2).1, (((((List.getD v9.2.2.2.2.1 v9.1.toNat ((0 : Int), ((0 : Int), ((0 : Int), ((0 : Int), (0 : Int)))))).2).2).2).1, ((((List.getD v9.2.2.2.2.1 v9.1.toNat ((0 : Int), ((0 : Int), ((0 : Int), ((0 : Int), (0 : Int)))))).2).2).2).2))))) v9.1.toNat ((0 : Int), ((0 : Int), ((0 : Int), ((0 : Int), (0 : Int)))))).2).1, ((((List.getD (List.set v9.2.2.2.2.1 v9.1.toNat ((List.getD v9.2.2.2.2.1 v9.1.toNat ((0 : Int), ((0 : Int), ((0 : Int), ((0 : Int), (0 : Int)))))).1, ((IntKind.wrap .i64 (((List.getD v9.2.2.2.2.1 v9.1.toNat ((0 : Int), ((0 : Int), ((0 : Int), ((0 : Int), (0 : Int)))))).2).1 + (1 : Int))), ((((List.getD v9.2.2.2.2.1 v9.1.toNat ((0 : Int), ((0 : Int), ((0 : Int), ((0 : Int), (0 : Int)))))).2).2).1, (((((List.getD v9.2.2.2.2.1 v9.1.toNat ((0 : Int), ((0 : Int), ((0 : Int), ((0 : Int), (0 : Int)))))).2).2).2).1, ((((List.getD v9.2.2.2.2.1 v9.1.toNat ((0 : Int), ((0 : Int), ((0 : Int), ((0 : Int), (0 : Int)))))).2).2).2).2))))) v9.1.toNat ((0 : Int), ((0 : Int), ((0 : Int), ((0 : Int), (0 : Int)))))).2).2).1, (((((List.getD (List.set v9.2.2.2.2.1 v9.1.toNat ((List.getD v9.2.2.2.2.1 v9.1.toNat ((0 : Int), ((0 : Int), ((0 : Int), ((0 : Int), (0 : Int)))))).1, ((IntKind.wrap .i64 (((List.getD v9.2.2.2.2.1 v9.1.toNat ((0 : Int), ((0 : Int), ((0 : Int), ((0 : Int), (0 : Int)))))).2).1 + (1 : Int))), ((((List.getD v9.2.2.2.2.1 v9.1.toNat ((0 : Int), ((0 : Int), ((0 : Int), ((0 : Int), (0 : Int)))))).2).2).1, (((((List.getD v9.2.2.2.2.1 v9.1.toNat ((0 : Int), ((0 : Int), ((0 : Int), ((0 : Int), (0 : Int)))))).2).2).2).1, ((((List.getD v9.2.2.2.2.1 v9.1.toNat ((0 : Int), ((0 : Int), ((0 : Int), ((0 : Int), (0 : Int)))))).2).2).2).2))))) v9.1.toNat ((0 : Int), ((0 : Int), ((0 : Int), ((0 : Int), (0 : Int)))))).2).2).2).1, v9.2.2.2.2.2.2.2.1))))) v9.1.toNat ((0 : Int), ((0 : Int), ((0 : Int), ((0 : Int), (0 : Int)))))).2).2).2).2))))))))))) (some (Ctl.go (v9.2.1, v9.2.2.1, (IntKind.wrap .i64 (v9.2.2.2.1 + (1 : Int))), (List.set (List.set v9.2.2.2.2.1 v9.1.toNat ((List.getD v9.2.2.2.2.1 v9.1.toNat ((0 : Int), ((0 : Int), ((0 : Int), ((0 : Int), (0 : Int)))))).1, ((IntKind.wrap .i64 (((List.getD v9.2.2.2.2.1 v9.1.toNat ((0 : Int), ((0 : Int), ((0 : Int), ((0 : Int), (0 : Int)))))).2).1 + (1 : Int))), ((((List.getD v9.2.2.2.2.1 v9.1.toNat ((0 : Int), ((0 : Int), ((0 : Int), ((0 : Int), (0 : Int)))))).2).2).1, (((((List.getD v9.2.2.2.2.1 v9.1.toNat ((0 : Int), ((0 : Int), ((0 : Int), ((0 : Int), (0 : Int)))))).2).2).2).1, ((((List.getD v9.2.2.2.2.1 v9.1.toNat ((0 : Int), ((0 : Int), ((0 : Int), ((0 : Int), (0 : Int)))))).2).2).2).2))))) v9.1.toNat ((List.getD (List.set v9.2.2.2.2.1 v9.1.toNat ((List.getD v9.2.2.2.2.1 v9.1.toNat ((0 : Int), ((0 : Int), ((0 : Int), ((0 : Int), (0 : Int)))))).1, ((IntKind.wrap .i64 (((List.getD v9.2.2.2.2.1 v9.1.toNat ((0 : Int), ((0 : Int), ((0 : Int), ((0 : Int), (0 : Int)))))).2).1 + (1 : Int))), ((((List.getD v9.2.2.2.2.1 v9.1.toNat ((0 : Int), ((0 : Int), ((0 : Int), ((0 : Int), (0 : Int)))))).2).2).1, (((((List.getD v9.2.2.2.2.1 v9.1.toNat ((0 : Int), ((0 : Int), ((0 : Int), ((0 : Int), (0 : Int)))))).2).2).2).1, ((((List.getD v9.2.2.2.2.1 v9.1.toNat ((0 : Int), ((0 : Int), ((0 : Int), ((0 : Int), (0 : Int)))))).2).2).2).2))))) v9.1.toNat ((0 : Int), ((0 : Int), ((0 : Int), ((0 : Int), (0 : Int)))))).1, (((List.getD (List.set v9.2.2.2.2.1 v9.1.toNat ((List.getD v9.2.2.2.2.1 v9.1.toNat ((0 : Int), ((0 : Int), ((0 : Int), ((0 : Int), (0 : Int)))))).1, ((IntKind.wrap .i64 (((List.getD v9.2.2.2.2.1 v9.1.toNat ((0 : Int), ((0 : Int), ((0 : Int), ((0 : Int), (0 : Int)))))).2).1 + (1 : Int))), ((((List.getD v9.2.2.2.2.1 v9.1.toNat ((0 : Int), ((0 : Int), ((0 : Int), ((0 : Int), (0 : Int)))))).2).2).1, (((((List.getD v9.2.2.2.2.1 v9.1.toNat ((0 : Int), ((0 : Int), ((0 : Int), ((0 : Int), (0 : Int)))))).2).2).2).1, ((((List.getD v9.2.2.2.2.1 v9.1.toNat ((0 : Int), ((0 : Int), ((0 : Int), ((0 : Int), (0 : Int)))))).2).2).2).2))))) v9.1.toNat ((0 : Int), ((0 : Int), ((0 : Int), ((0 : Int), (0 : Int)))))).2).1, ((((List.getD (List.set v9.2.2.2.2.1 v9.1.toNat ((List.getD v9.2.2.2.2.1 v9.1.toNat ((0 : Int), ((0 : Int), ((0 : Int), ((0 : Int), (0 : Int)))))).1, ((IntKind.wrap .i64 (((List.getD v9.2.2.2.2.1 v9.1.toNat ((0 : Int), ((0 : Int), ((0 : Int), ((0 : Int), (0 : Int)))))).2).1 + (1 : Int))), ((((List.getD v9.2.2.2.2.1 v9.1.toNat ((0 : Int), ((0 : Int), ((0 : Int), ((0 : Int), (0 : Int)))))).2).2).1, (((((List.getD v9.2.2.2.2.1 v9.1.toNat ((0 : Int), ((0 : Int), ((0 : Int), ((0 : Int), (0 : Int)))))).2).2).2).1, ((((List.getD v9.2.2.2.2.1 v9.1.toNat ((0 : Int), ((0 : Int), ((0 : Int), ((0 : Int), (0 : Int)))))).2).2).2).2))))) v9.1.toNat ((0 : Int), ((0 : Int), ((0 : Int), ((0 : Int), (0 : Int)))))).2).2).1, (((((List.getD (List.set v9.2.2.2.2.1 v9.1.toNat ((List.getD v9.2.2.2.2.1 v9.1.toNat ((0 : Int), ((0 : Int), ((0 : Int), ((0 : Int), (0 : Int)))))).1, ((IntKind.wrap .i64 (((List.getD v9.2.2.2.2.1 v9.1.toNat ((0 : Int), ((0 : Int), ((0 : Int), ((0 : Int), (0 : Int)))))).2).1 + (1 : Int))), ((((List.getD v9.2.2.2.2.1 v9.1.toNat ((0 : Int), ((0 : Int), ((0 : Int), ((0 : Int), (0 : Int)))))).2).2).1, (((((List.getD v9.2.2.2.2.1 v9.1.toNat ((0 : Int), ((0 : Int), ((0 : Int), ((0 : Int), (0 : Int)))))).2).2).2).1, ((((List.getD v9.2.2.2.2.1 v9.1.toNat ((0 : Int), ((0 : Int), ((0 : Int), ((0 : Int), (0 : Int)))))).2).2).2).2))))) v9.1.toNat ((0 : Int), ((0 : Int), ((0 : Int), ((0 : Int), (0 : Int)))))).2).2).2).1, v9.2.2.2.2.2.2.2.1))))))))))))))))))) ((0 : Int), v3.1, v3.2.1, v3.2.2.1, v3.2.2.2, (List.getD v3.1 v3.2.2.1.toNat ((0 : Int), ((0 : Int), ((0 : Int), (0 : Int))))).1, ((List.getD v3.1 v3.2.2.1.toNat ((0 : Int), ((0 : Int), ((0 : Int), (0 : Int))))).2).1, (((List.getD v3.1 v3.2.2.1.toNat ((0 : Int), ((0 : Int), ((0 : Int), (0 : Int))))).2).2).1, (((List.getD v3.1 v3.2.2.1.toNat ((0 : Int), ((0 : Int), ((0 : Int), (0 : Int))))).2).2).2))) (dnO (some v3.2.2.2)))) (a0, ((a0.length : Nat) : Int), (0 : Int), ([] : List (Int × Int × Int × Int × Int))))
theorem e35 (t : List (Int × Int × Int × Int)) : evF (stpT Tryd.prog T46 K46) Tryd.f35 p35 r35 (.s .d (.s .d (.s (.s .d (.b (.l o35_s3 (.s .d (.s .d (.s (.b (.s .d (.s .d (.s (.b (.l o35_s1 (.s (.s (.j false [o35_s0] .d) .d) .d))) (.j false [o35_s1] (.s (.s (.j false [o35_s2] .d) .d) .d)))))) .d)))))) .d))) t = (o35 t) := by kernel_rfl
theorem fo35 : FOk Tryd.prog 35 ⟨p35, r35, fun t => (o35 t)⟩ := FOk.run_eq (evF_ok (h := (.s .d (.s .d (.s (.s .d (.b (.l o35_s3 (.s .d (.s .d (.s (.b (.s .d (.s .d (.s (.b (.l o35_s1 (.s (.s (.j false [o35_s0] .d) .d) .d))) (.j false [o35_s1] (.s (.s (.j false [o35_s2] .d) .d) .d)))))) .d)))))) .d)))) (by kernel_rfl) (by kernel_rfl) (by kernel_rfl)) e35
def T47 : Tbl := (35, ⟨p35, r35, fun t => (o35 t)⟩) :: T46
theorem K47 : TOk Tryd.prog T47 := .cons K46 fo35
def p61 : Sch := ⟨[(0, .v (.c (.i .u64)))], []⟩
def r61 : List Sch := [⟨[(0, .v (.c (.s)))], []⟩]
def o61F (ih : Int → Option (List UInt8)) (a0 : Int) : Option (List UInt8) :=
 (cnd (decide (a0 < (10 : Int))) (gd (decide ((0 : Int) ≤ (IntKind.wrap .i32 (IntKind.wrap .u64 ((48 : Int) + a0))) ∧ (IntKind.wrap .i32 (IntKind.wrap .u64 ((48 : Int) + a0))) < (128 : Int))) (some ([u8 (IntKind.wrap .i32 (IntKind.wrap .u64 ((48 : Int) + a0)))] : List UInt8))) (bd (α := (List UInt8)) (ih (IntKind.wrap .u64 (Int.tdiv a0 (10 : Int)))) (fun v1 => (bd (α := (List UInt8)) (ih (Int.tmod a0 (10 : Int))) (fun v2 => (gd (decide (v1.length + v2.length ≤ 140737488355328)) (some (v1 ++ v2))))))))
def o61 (k : Nat) : Int → Option (List UInt8) := Nat.rec (motive := fun _ => Int → Option (List UInt8)) (fun _ => none) (fun _ ih => o61F ih) k
theorem e61 (k : Nat) (h : TOk Tryd.prog ((61, ⟨p61, r61, fun t => o61 k t⟩) :: T47)) (t : Int) : evF (stpT Tryd.prog ((61, ⟨p61, r61, fun t => o61 k t⟩) :: T47) h) Tryd.f61 p61 r61 .d t = o61F (o61 k) t := by kernel_rfl
theorem fo61 : ∀ k, FOk Tryd.prog 61 ⟨p61, r61, fun t => o61 k t⟩
  | 0 => FOk.of_none fun _ => rfl
  | k + 1 => FOk.run_eq (evF_ok (h := .d) (by kernel_rfl) (by kernel_rfl) (by kernel_rfl)) (e61 k (.cons K47 (fo61 k)))
def T48 : Tbl := (61, ⟨p61, r61, fun t => o61 fuelN t⟩) :: T47
theorem K48 : TOk Tryd.prog T48 := .cons K47 (fo61 fuelN)
def p62 : Sch := ⟨[(0, .v (.c (.i .i64)))], []⟩
def r62 : List Sch := [⟨[(0, .v (.c (.s)))], []⟩]
def o62 (a0 : Int) : Option (List UInt8) :=
 (cnd (decide (a0 < (0 : Int))) (bd (α := (List UInt8)) (o61 fuelN (IntKind.wrap .u64 ((IntKind.wrap .u64 (IntKind.wrap .i64 ((0 : Int) - (IntKind.wrap .i64 (a0 + (1 : Int)))))) + (1 : Int)))) (fun v1 => (gd (decide (([45] : List UInt8).length + v1.length ≤ 140737488355328)) (some (([45] : List UInt8) ++ v1))))) (bd (α := (List UInt8)) (o61 fuelN (IntKind.wrap .u64 a0)) (fun v2 => (some v2))))
theorem e62 (t : Int) : evF (stpT Tryd.prog T48 K48) Tryd.f62 p62 r62 .d t = (o62 t) := by kernel_rfl
theorem fo62 : FOk Tryd.prog 62 ⟨p62, r62, fun t => (o62 t)⟩ := FOk.run_eq (evF_ok (h := .d) (by kernel_rfl) (by kernel_rfl) (by kernel_rfl)) e62
def T49 : Tbl := (62, ⟨p62, r62, fun t => (o62 t)⟩) :: T48
theorem K49 : TOk Tryd.prog T49 := .cons K48 fo62
def o37_s0 : Sch := ⟨[(3, .v (.c (.s))), (6, .v (.c (.ro (.p (.i .i64) (.p (.i .u8) (.p (.i .i64) (.i .u64)))) false))), (7, .v (.c (.i .i64))), (8, .v (.c (.i .i64)))], []⟩
def p37 : Sch := ⟨[(0, .v (.c (.ro (.p (.i .i64) (.p (.i .u8) (.p (.i .i64) (.i .u64)))) false)))], []⟩
def r37 : List Sch := [⟨[(0, .v (.c (.s)))], []⟩]
def o37 (a0 : List (Int × Int × Int × Int)) : Option (List UInt8) :=
 (loopO (σ := List UInt8 × List (Int × Int × Int × Int) × Int × Int) fuelN (fun (v10 : List UInt8 × List (Int × Int × Int × Int) × Int × Int) => (cnd (decide (v10.2.2.2 < v10.2.2.1)) (gd (decide ((0 : Int) ≤ v10.2.2.2 ∧ v10.2.2.2 < ((v10.2.1.length : Nat) : Int))) (bd (α := (List UInt8)) (o61 fuelN ((((List.getD v10.2.1 v10.2.2.2.toNat ((0 : Int), ((0 : Int), ((0 : Int), (0 : Int))))).2).2).2)) (fun v15 => (gd (decide (v10.1.length + v15.length ≤ 140737488355328)) (gd (decide ((v10.1 ++ v15).length + ([32] : List UInt8).length ≤ 140737488355328)) (bd (α := (List UInt8)) (o62 ((((List.getD v10.2.1 v10.2.2.2.toNat ((0 : Int), ((0 : Int), ((0 : Int), (0 : Int))))).2).2).1)) (fun v16 => (gd (decide (((v10.1 ++ v15) ++ ([32] : List UInt8)).length + v16.length ≤ 140737488355328)) (gd (decide ((((v10.1 ++ v15) ++ ([32] : List UInt8)) ++ v16).length + ([32] : List UInt8).length ≤ 140737488355328)) (bd (α := (List UInt8)) (o62 ((List.getD v10.2.1 v10.2.2.2.toNat ((0 : Int), ((0 : Int), ((0 : Int), (0 : Int))))).1)) (fun v17 => (gd (decide (((((v10.1 ++ v15) ++ ([32] : List UInt8)) ++ v16) ++ ([32] : List UInt8)).length + v17.length ≤ 140737488355328)) (gd (decide ((((((v10.1 ++ v15) ++ ([32] : List UInt8)) ++ v16) ++ ([32] : List UInt8)) ++ v17).length + ([32] : List UInt8).length ≤ 140737488355328)) (bd (α := (List UInt8)) (o61 fuelN (IntKind.wrap .u64 (((List.getD v10.2.1 v10.2.2.2.toNat ((0 : Int), ((0 : Int), ((0 : Int), (0 : Int))))).2).1))) (fun v18 => (gd (decide (((((((v10.1 ++ v15) ++ ([32] : List UInt8)) ++ v16) ++ ([32] : List UInt8)) ++ v17) ++ ([32] : List UInt8)).length + v18.length ≤ 140737488355328)) (gd (decide ((((((((v10.1 ++ v15) ++ ([32] : List UInt8)) ++ v16) ++ ([32] : List UInt8)) ++ v17) ++ ([32] : List UInt8)) ++ v18).length + ([10] : List UInt8).length ≤ 140737488355328)) (some (Ctl.go (((((((((v10.1 ++ v15) ++ ([32] : List UInt8)) ++ v16) ++ ([32] : List UInt8)) ++ v17) ++ ([32] : List UInt8)) ++ v18) ++ ([10] : List UInt8)), v10.2.1, v10.2.2.1, (IntKind.wrap .i64 (v10.2.2.2 + (1 : Int))))))))))))))))))))))) (dnO (some v10.1)))) (([] : List UInt8), a0, ((a0.length : Nat) : Int), (0 : Int)))
theorem e37 (t : List (Int × Int × Int × Int)) : evF (stpT Tryd.prog T49 K49) Tryd.f37 p37 r37 (.s .d (.s .d (.s (.s .d (.b (.l o37_s0 .d))) .d))) t = (o37 t) := by kernel_rfl
theorem fo37 : FOk Tryd.prog 37 ⟨p37, r37, fun t => (o37 t)⟩ := FOk.run_eq (evF_ok (h := (.s .d (.s .d (.s (.s .d (.b (.l o37_s0 .d))) .d)))) (by kernel_rfl) (by kernel_rfl) (by kernel_rfl)) e37
def T50 : Tbl := (37, ⟨p37, r37, fun t => (o37 t)⟩) :: T49
theorem K50 : TOk Tryd.prog T50 := .cons K49 fo37
def o10_s0 : Sch := ⟨[(0, .v (.c (.ro (.p (.i .i64) (.p (.i .u8) (.p (.i .i64) (.i .u64)))) false))), (3, .v (.c (.own 0))), (4, .v (.c (.own 1))), (29, .v (.c (.b)))], [.row (.p (.i .i64) (.p (.i .i64) (.p (.i .u16) (.p (.i .i64) (.i .i64))))) 80, .row (.p (.i .i64) (.p (.i .i64) (.p (.i .u16) (.p (.i .i64) (.i .i64))))) 81]⟩
def o10_s1 : Sch := ⟨[(0, .v (.c (.ro (.p (.i .i64) (.p (.i .u8) (.p (.i .i64) (.i .u64)))) false))), (3, .v (.c (.own 0))), (4, .v (.c (.own 1))), (5, .v (.c (.i .i64))), (6, .v (.c (.i .i64))), (31, .v (.c (.i .i64))), (32, .v (.c (.i .i64))), (97, .v (.c (.b)))], [.row (.p (.i .i64) (.p (.i .i64) (.p (.i .u16) (.p (.i .i64) (.i .i64))))) 80, .row (.p (.i .i64) (.p (.i .i64) (.p (.i .u16) (.p (.i .i64) (.i .i64))))) 81]⟩
def o10_s2 : Sch := ⟨[(0, .v (.c (.ro (.p (.i .i64) (.p (.i .u8) (.p (.i .i64) (.i .u64)))) false))), (3, .v (.c (.own 0))), (4, .v (.c (.own 1))), (5, .v (.c (.i .i64))), (31, .v (.c (.i .i64))), (32, .v (.c (.i .i64)))], [.row (.p (.i .i64) (.p (.i .i64) (.p (.i .u16) (.p (.i .i64) (.i .i64))))) 80, .row (.p (.i .i64) (.p (.i .i64) (.p (.i .u16) (.p (.i .i64) (.i .i64))))) 81]⟩
def p10 : Sch := ⟨[(0, .v (.c (.ro (.p (.i .i64) (.p (.i .u8) (.p (.i .i64) (.i .u64)))) false)))], []⟩
def r10 : List Sch := [⟨[(0, .v (.c (.b)))], []⟩]
def o10 (a0 : List (Int × Int × Int × Int)) : Option Bool :=
 (bd (α := Bool) o11 (fun v1 => (cnd (!v1) (some false) (gd (decide ((0 : Int) ≤ (minI ((a0.length : Nat) : Int) (20 : Int)) ∧ (minI ((a0.length : Nat) : Int) (20 : Int)) ≤ ((a0.length : Nat) : Int))) (bd (α := (List (Int × Int × Int × Int × Int))) (o34 (List.take (minI ((a0.length : Nat) : Int) (20 : Int)).toNat a0)) (fun v2 => (bd (α := (List (Int × Int × Int × Int × Int))) (o35 (List.take (minI ((a0.length : Nat) : Int) (20 : Int)).toNat a0)) (fun v3 => (bd (α := (List (Int × Int × Int × Int) × Bool × List (Int × Int × Int × Int × Int) × List (Int × Int × Int × Int × Int))) (cnd (((v2.length : Nat) : Int) != ((v3.length : Nat) : Int)) (some ((List.take (minI ((a0.length : Nat) : Int) (20 : Int)).toNat a0), true, v2, v3)) (bd (α := (List UInt8)) (o36 (List.take (minI ((a0.length : Nat) : Int) (20 : Int)).toNat a0)) (fun v4 => (bd (α := (List UInt8)) (o37 (List.take (minI ((a0.length : Nat) : Int) (20 : Int)).toNat a0)) (fun v5 => (some ((List.take (minI ((a0.length : Nat) : Int) (20 : Int)).toNat a0), (!(v4 == v5)), v2, v3))))))) (fun v6 => (cnd v6.2.1 (some false) (loopO (σ := List (Int × Int × Int × Int) × Int × Int × Int × List (Int × Int × Int × Int × Int) × List (Int × Int × Int × Int × Int)) fuelN (fun (v9 : List (Int × Int × Int × Int) × Int × Int × Int × List (Int × Int × Int × Int × Int) × List (Int × Int × Int × Int × Int)) => (cnd (decide (v9.2.2.2.1 < v9.2.2.1)) (bd (α := (List (Int × Int × Int × Int) × Int × Int × Int × Int × Bool × List (Int × Int × Int × Int × Int) × List (Int × Int × Int × Int × Int))) (gd (decide ((0 : Int) ≤ v9.2.2.2.1 ∧ v9.2.2.2.1 < ((v9.2.2.2.2.1.length : Nat) : Int))) (gd (decide ((0 : Int) ≤ v9.2.2.2.1 ∧ v9.2.2.2.1 < ((v9.2.2.2.2.2.length : Nat) : Int))) (cnd ((List.getD v9.2.2.2.2.1 v9.2.2.2.1.toNat ((0 : Int), ((0 : Int), ((0 : Int), ((0 : Int), (0 : Int)))))).1 != (List.getD v9.2.2.2.2.2 v9.2.2.2.1.toNat ((0 : Int), ((0 : Int), ((0 : Int), ((0 : Int), (0 : Int)))))).1) (some (v9.1, v9.2.1, v9.2.2.2.1, v9.2.2.1, v9.2.2.2.1, true, v9.2.2.2.2.1, v9.2.2.2.2.2)) (gd (decide ((0 : Int) ≤ v9.2.2.2.1 ∧ v9.2.2.2.1 < ((v9.2.2.2.2.1.length : Nat) : Int))) (gd (decide ((0 : Int) ≤ v9.2.2.2.1 ∧ v9.2.2.2.1 < ((v9.2.2.2.2.2.length : Nat) : Int))) (cnd (((List.getD v9.2.2.2.2.1 v9.2.2.2.1.toNat ((0 : Int), ((0 : Int), ((0 : Int), ((0 : Int), (0 : Int)))))).2).1 != ((List.getD v9.2.2.2.2.2 v9.2.2.2.1.toNat ((0 : Int), ((0 : Int), ((0 : Int), ((0 : Int), (0 : Int)))))).2).1) (some (v9.1, v9.2.1, v9.2.2.2.1, v9.2.2.1, v9.2.2.2.1, true, v9.2.2.2.2.1, v9.2.2.2.2.2)) (gd (decide ((0 : Int) ≤ v9.2.2.2.1 ∧ v9.2.2.2.1 < ((v9.2.2.2.2.1.length : Nat) : Int))) (gd (decide ((0 : Int) ≤ v9.2.2.2.1 ∧ v9.2.2.2.1 < ((v9.2.2.2.2.2.length : Nat) : Int))) (cnd ((((List.getD v9.2.2.2.2.1 v9.2.2.2.1.toNat ((0 : Int), ((0 : Int), ((0 : Int), ((0 : Int), (0 : Int)))))).2).2).1 != (((List.getD v9.2.2.2.2.2 v9.2.2.2.1.toNat ((0 : Int), ((0 : Int), ((0 : Int), ((0 : Int), (0 : Int)))))).2).2).1) (some (v9.1, v9.2.1, v9.2.2.2.1, v9.2.2.1, v9.2.2.2.1, true, v9.2.2.2.2.1, v9.2.2.2.2.2)) (gd (decide ((0 : Int) ≤ v9.2.2.2.1 ∧ v9.2.2.2.1 < ((v9.2.2.2.2.1.length : Nat) : Int))) (gd (decide ((0 : Int) ≤ v9.2.2.2.1 ∧ v9.2.2.2.1 < ((v9.2.2.2.2.2.length : Nat) : Int))) (cnd (((((List.getD v9.2.2.2.2.1 v9.2.2.2.1.toNat ((0 : Int), ((0 : Int), ((0 : Int), ((0 : Int), (0 : Int)))))).2).2).2).1 != ((((List.getD v9.2.2.2.2.2 v9.2.2.2.1.toNat ((0 : Int), ((0 : Int), ((0 : Int), ((0 : Int), (0 : Int)))))).2).2).2).1) (some (v9.1, v9.2.1, v9.2.2.2.1, v9.2.2.1, v9.2.2.2.1, true, v9.2.2.2.2.1, v9.2.2.2.2.2)) (gd (decide ((0 : Int) ≤ v9.2.2.2.1 ∧ v9.2.2.2.1 < ((v9.2.2.2.2.1.length : Nat) : Int))) (gd (decide ((0 : Int) ≤ v9.2.2.2.1 ∧ v9.2.2.2.1 < ((v9.2.2.2.2.2.length : Nat) : Int))) (some (v9.1, v9.2.1, v9.2.2.2.1, v9.2.2.1, v9.2.2.2.1, (((((List.getD v9.2.2.2.2.1 v9.2.2.2.1.toNat ((0 : Int), ((0 : Int), ((0 : Int), ((0 : Int), (0 : Int)))))).2).2).2).2 != ((((List.getD v9.2.2.2.2.2 v9.2.2.2.1.toNat ((0 : Int), ((0 : Int), ((0 : Int), ((0 : Int), (0 : Int)))))).2).2).2).2), v9.2.2.2.2.1, v9.2.2.2.2.2)))))))))))))))) (fun v10 => (cnd v10.2.2.2.2.2.1 (dnO (some false)) (gd (decide ((0 : Int) ≤ v10.2.2.1 ∧ v10.2.2.1 < ((v10.2.2.2.2.2.2.1.length : Nat) : Int))) (some (Ctl.go (v10.1, (IntKind.wrap .i64 (v10.2.1 + ((List.getD v10.2.2.2.2.2.2.1 v10.2.2.1.toNat ((0 : Int), ((0 : Int), ((0 : Int), ((0 : Int), (0 : Int)))))).2).1)), v10.2.2.2.1, (IntKind.wrap .i64 (v10.2.2.2.2.1 + (1 : Int))), v10.2.2.2.2.2.2.1, v10.2.2.2.2.2.2.2))))))) (dnO (some (v9.2.1 == ((v9.1.length : Nat) : Int)))))) (v6.1, (0 : Int), ((v6.2.2.1.length : Nat) : Int), (0 : Int), v6.2.2.1, v6.2.2.2)))))))))))))
theorem e10 (t : List (Int × Int × Int × Int)) : evF (stpT Tryd.prog T50 K50) Tryd.f10 p10 r10 (.s .d (.s .d (.s .d (.s .d (.s (.s (.j false [o10_s0] .d) .d) (.s .d (.s (.s .d (.b (.l o10_s2 (.s .d (.s .d (.s (.b (.s .d (.s (.s (.j false [o10_s1] .d) .d) .d))) .d)))))) .d))))))) t = (o10 t) := by kernel_rfl
theorem fo10 : FOk Tryd.prog 10 ⟨p10, r10, fun t => (o10 t)⟩ := FOk.run_eq (evF_ok (h := (.s .d (.s .d (.s .d (.s .d (.s (.s (.j false [o10_s0] .d) .d) (.s .d (.s (.s .d (.b (.l o10_s2 (.s .d (.s .d (.s (.b (.s .d (.s (.s (.j false [o10_s1] .d) .d) .d))) .d)))))) .d)))))))) (by kernel_rfl) (by kernel_rfl) (by kernel_rfl)) e10
end
end Go.Proofs.YtnkmijidneibnaaDoor
namespace Go.Proofs.YtnkmijidneibnaaDoor
set_option linter.unusedVariables false
set_option linter.unusedSimpArgs false
set_option maxRecDepth 100000
open Go.RowKit
theorem digF_len : ∀ (f n : Nat), (digF f n).length ≤ f
  | 0, n => Nat.le_refl _
  | f + 1, n => by
    unfold digF
    have := digF_len f (n / 10)
    cases Nat.blt n 10 with
    | true => show 1 ≤ f + 1; omega
    | false => show (digF f (n / 10) ++ [UInt8.ofNat (48 + n % 10)]).length ≤ f + 1; simp; omega
theorem digit_one {n : Nat} (h : n < 10) : u8 (IntKind.wrap .i32 (IntKind.wrap .u64 (48 + (n : Int)))) = UInt8.ofNat (48 + n) := by
  have : n = 0 ∨ n = 1 ∨ n = 2 ∨ n = 3 ∨ n = 4 ∨ n = 5 ∨ n = 6 ∨ n = 7 ∨ n = 8 ∨ n = 9 := by omega
  rcases this with rfl | rfl | rfl | rfl | rfl | rfl | rfl | rfl | rfl | rfl <;> rfl
theorem digit_rng {n : Nat} (h : n < 10) : 0 ≤ IntKind.wrap .i32 (IntKind.wrap .u64 (48 + (n : Int))) ∧ IntKind.wrap .i32 (IntKind.wrap .u64 (48 + (n : Int))) < 128 := by
  have : n = 0 ∨ n = 1 ∨ n = 2 ∨ n = 3 ∨ n = 4 ∨ n = 5 ∨ n = 6 ∨ n = 7 ∨ n = 8 ∨ n = 9 := by omega
  rcases this with rfl | rfl | rfl | rfl | rfl | rfl | rfl | rfl | rfl | rfl <;> decide
theorem digF_small {f n : Nat} (h : n < 10) : digF (f + 1) n = [UInt8.ofNat (48 + n)] := by
  unfold digF
  have : Nat.blt n 10 = true := by simpa using h
  rw [this]
  rfl
theorem o61_small {k n : Nat} (hk : 1 ≤ k) (h : n < 10) : o61 k (n : Int) = some [UInt8.ofNat (48 + n)] := by
  obtain ⟨k, rfl⟩ : ∃ j, k = j + 1 := ⟨k - 1, by omega⟩
  show o61F (o61 k) (n : Int) = _
  unfold o61F
  rw [cndT (dt (by omega)), gdT (dt (digit_rng h)), digit_one h]
theorem o61_eq : ∀ (f k n : Nat), f ≤ 30 → n < 10 ^ (f + 1) → f + 2 ≤ k → n < 18446744073709551616 → o61 k (n : Int) = some (digF (f + 1) n)
  | 0, k, n, _, h, hk, _ => by rw [o61_small (by omega) (by simpa using h), digF_small (by simpa using h)]
  | f + 1, k, n, hf, h, hk, h64 => by
    by_cases h1 : n < 10
    · rw [o61_small (by omega) h1, digF_small h1]
    · obtain ⟨k, rfl⟩ : ∃ j, k = j + 1 := ⟨k - 1, by omega⟩
      show o61F (o61 k) (n : Int) = _
      unfold o61F
      have e1 : IntKind.u64.wrap (Int.tdiv (n : Int) 10) = ((n / 10 : Nat) : Int) := by
        rw [Int.tdiv_eq_ediv_of_nonneg (by omega), wr_u64 (by omega)]; omega
      have e2 : Int.tmod (n : Int) 10 = ((n % 10 : Nat) : Int) := by rw [Int.tmod_eq_emod_of_nonneg (by omega)]; omega
      have ih := o61_eq f k (n / 10) (by omega) (by rw [Nat.pow_succ] at h; omega) (by omega) (by omega)
      have hl := digF_len (f + 1) (n / 10)
      rw [cndF (df (by omega)), e1, e2, bdS ih, bdS (o61_small (by omega) (by omega)), gdT (dt (by simp only [List.length_cons, List.length_nil]; omega))]
      have : Nat.blt n 10 = false := by
        cases e : Nat.blt n 10 with
        | true => simp at e; omega
        | false => rfl
      conv => rhs; unfold digF
      rw [this]
      rfl
theorem o61_fuel {n : Nat} (h : n < 18446744073709551616) : o61 fuelN (n : Int) = some (digF 20 n) := by
  have hk : ∀ k, 21 ≤ k → o61 k (n : Int) = some (digF 20 n) := fun k hk => o61_eq 19 k n (by decide) (by omega) hk h
  exact hk fuelN (by show 21 ≤ 18446744073709551616; decide)
theorem itoaF_len (n : Int) : (itoaF n).length ≤ 21 := by
  unfold itoaF
  have h1 := digF_len 20 n.natAbs
  have h2 := digF_len 20 n.toNat
  cases decide (n < 0) with
  | true => show (45 :: digF 20 n.natAbs).length ≤ 21; simp; omega
  | false => show (digF 20 n.toNat).length ≤ 21; omega
theorem o62_eq {n : Int} (h : i64R n) : o62 n = some (itoaF n) := by
  obtain ⟨h1, h2⟩ := h
  unfold o62 itoaF
  by_cases hn : n < 0
  · have hl := digF_len 20 n.natAbs
    have e : IntKind.u64.wrap (IntKind.u64.wrap (IntKind.i64.wrap (0 - IntKind.i64.wrap (n + 1))) + 1) = ((n.natAbs : Nat) : Int) := by
      rw [wr64 (x := n + 1) (by omega), wr64 (by omega), wr_u64 (x := 0 - (n + 1)) (by omega), wr_u64 (by omega)]
      omega
    rw [cndT (dt hn), e, bdS (o61_fuel (by omega)), gdT (dt (by simp only [List.length_cons, List.length_nil]; omega)), dt hn]
    rfl
  · have e : IntKind.u64.wrap n = ((n.toNat : Nat) : Int) := by rw [wr_u64 (by omega)]; omega
    rw [cndF (df hn), e, bdS (o61_fuel (by omega)), df hn]
    rfl
def lineF (f : Flt) : List UInt8 := ((((((digF 20 f.2.2.2.toNat ++ [32]) ++ itoaF f.2.2.1) ++ [32]) ++ itoaF f.1) ++ [32]) ++ digF 20 f.2.1.toNat) ++ [10]
theorem lineF_len (f : Flt) : (lineF f).length ≤ 90 := by
  have h1 := digF_len 20 f.2.2.2.toNat
  have h2 := digF_len 20 f.2.1.toNat
  have h3 := itoaF_len f.2.2.1
  have h4 := itoaF_len f.1
  unfold lineF
  simp only [List.length_append, List.length_cons, List.length_nil]
  omega
def textF (l : List Flt) : List UInt8 := l.foldl (fun s f => s ++ lineF f) []
theorem textF_snoc (l : List Flt) (f : Flt) : textF (l ++ [f]) = textF l ++ lineF f := by unfold textF; rw [List.foldl_append]; rfl
theorem textF_len (l : List Flt) : (textF l).length ≤ 90 * l.length := by
  unfold textF
  have key : ∀ (l : List Flt) (s : List UInt8), (l.foldl (fun s f => s ++ lineF f) s).length ≤ s.length + 90 * l.length := by
    intro l
    induction l with
    | nil => intro s; simp
    | cons f l ih =>
      intro s
      have := ih (s ++ lineF f)
      have h := lineF_len f
      rw [List.foldl_cons, List.length_cons]
      rw [List.length_append] at this
      omega
  simpa using key l []
def okT (f : Flt) : Prop := i64R f.1 ∧ (0 ≤ f.2.1 ∧ f.2.1 ≤ 255) ∧ i64R f.2.2.1 ∧ (0 ≤ f.2.2.2 ∧ f.2.2.2 ≤ 18446744073709551615)
theorem take_snoc {l : List Flt} {i : Nat} (h : i < l.length) : l.take (i + 1) = l.take i ++ [l[i]] := List.take_succ_eq_append_getElem h
theorem o36_eq {l : List Flt} (hl : l.length ≤ 1000) (h : ∀ x ∈ l, okT x) : o36 l = some (textF l) := by
  unfold o36
  refine loop_cnt (n := l.length) (fun i => (textF (l.take i), l, (l.length : Int), (i : Int))) (fun i hi => ?_) ?_ (by omega)
  · dsimp only
    obtain ⟨h1, h2, h3, h4⟩ := h _ (List.getElem_mem hi)
    have ht := textF_len (l.take i)
    rw [List.length_take] at ht
    have hln := lineF_len l[i]
    have e60 : o60 (IntKind.i64.wrap l[i].2.1) = some (digF 20 l[i].2.1.toNat) := by
      rw [wr64 (by omega)]
      unfold o60 itoaF
      rw [df (by omega)]
      rfl
    have l1 := digF_len 20 l[i].2.2.2.toNat
    have l2 := digF_len 20 l[i].2.1.toNat
    have l3 := itoaF_len l[i].2.2.1
    have l4 := itoaF_len l[i].1
    rw [cndT (dt (by omega)), gdT (dt (by omega)), Int.toNat_natCast, getD_of hi]
    rw [bdS (show o58 l[i].2.2.2 = some (digF 20 l[i].2.2.2.toNat) from rfl), gdT (dt (by simp only [List.length_append, List.length_cons, List.length_nil]; omega)), bdS (show o59 l[i].2.2.1 = some (itoaF l[i].2.2.1) from rfl), gdT (dt (by simp only [List.length_append, List.length_cons, List.length_nil]; omega)), gdT (dt (by simp only [List.length_append, List.length_cons, List.length_nil]; omega)),
      bdS (show o59 l[i].1 = some (itoaF l[i].1) from rfl), gdT (dt (by simp only [List.length_append, List.length_cons, List.length_nil]; omega)), gdT (dt (by simp only [List.length_append, List.length_cons, List.length_nil]; omega)), bdS e60, gdT (dt (by simp only [List.length_append, List.length_cons, List.length_nil]; omega)), gdT (dt (by simp only [List.length_append, List.length_cons, List.length_nil]; omega)),
      gdT (dt (by simp only [List.length_append, List.length_cons, List.length_nil]; omega)), wr64 (x := (i : Int) + 1) (by omega), take_snoc hi, textF_snoc]
    rfl
  · dsimp only
    rw [cndF (df (by omega)), List.take_length]
    rfl
theorem o37_eq {l : List Flt} (hl : l.length ≤ 1000) (h : ∀ x ∈ l, okT x) : o37 l = some (textF l) := by
  unfold o37
  refine loop_cnt (n := l.length) (fun i => (textF (l.take i), l, (l.length : Int), (i : Int))) (fun i hi => ?_) ?_ (by omega)
  · dsimp only
    obtain ⟨h1, h2, h3, h4⟩ := h _ (List.getElem_mem hi)
    have ht := textF_len (l.take i)
    rw [List.length_take] at ht
    have d1 : o61 fuelN l[i].2.2.2 = some (digF 20 l[i].2.2.2.toNat) := by
      have e : l[i].2.2.2 = ((l[i].2.2.2.toNat : Nat) : Int) := by omega
      have := o61_fuel (n := l[i].2.2.2.toNat) (by omega)
      rwa [← e] at this
    have d2 : o61 fuelN (IntKind.u64.wrap l[i].2.1) = some (digF 20 l[i].2.1.toNat) := by
      have e : IntKind.u64.wrap l[i].2.1 = ((l[i].2.1.toNat : Nat) : Int) := by rw [wr_u64 (by omega)]; omega
      rw [e]
      exact o61_fuel (by omega)
    have l1 := digF_len 20 l[i].2.2.2.toNat
    have l2 := digF_len 20 l[i].2.1.toNat
    have l3 := itoaF_len l[i].2.2.1
    have l4 := itoaF_len l[i].1
    rw [cndT (dt (by omega)), gdT (dt (by omega)), Int.toNat_natCast, getD_of hi]
    rw [bdS d1, gdT (dt (by omega)), gdT (dt (by simp only [List.length_append, List.length_cons, List.length_nil]; omega)), bdS (o62_eq h3), gdT (dt (by simp only [List.length_append, List.length_cons, List.length_nil]; omega)), gdT (dt (by simp only [List.length_append, List.length_cons, List.length_nil]; omega)),
      bdS (o62_eq h1), gdT (dt (by simp only [List.length_append, List.length_cons, List.length_nil]; omega)), gdT (dt (by simp only [List.length_append, List.length_cons, List.length_nil]; omega)), bdS d2, gdT (dt (by simp only [List.length_append, List.length_cons, List.length_nil]; omega)), gdT (dt (by simp only [List.length_append, List.length_cons, List.length_nil]; omega)),
      wr64 (x := (i : Int) + 1) (by omega), take_snoc hi, textF_snoc]
    unfold lineF
    simp only [List.append_assoc]
    rfl
  · dsimp only
    rw [cndF (df (by omega)), List.take_length]
    rfl
end Go.Proofs.YtnkmijidneibnaaDoor
namespace Go.Proofs.YtnkmijidneibnaaDoor
set_option linter.unusedVariables false
set_option linter.unusedSimpArgs false
set_option maxRecDepth 100000
open Go.RowKit
theorem loop_meas {σ ρ : Type} {B : σ → Option (Ctl σ ρ)} (I : σ → Prop) (m : σ → Nat) {Q : ρ → Prop} (h : ∀ s, I s → (∃ s', B s = some (.go s') ∧ I s' ∧ m s' < m s) ∨ (∃ r, B s = some (.done r) ∧ Q r)) {s0 : σ} (h0 : I s0) (hm : m s0 < 18446744073709551615) : ∃ r, loopO fuelN B s0 = some r ∧ Q r := by
  have key : ∀ n s, m s < n → I s → ∃ r, loopO n B s = some r ∧ Q r := by
    intro n
    induction n with
    | zero => intro s hs; omega
    | succ n ih =>
      intro s hs hi
      rcases h s hi with ⟨s', h1, h2, h3⟩ | ⟨r, h1, h2⟩
      · rw [loopO_go h1]
        exact ih s' (by omega) h2
      · exact ⟨r, loopO_done h1, h2⟩
  exact key fuelN s0 (by show m s0 < 18446744073709551616; omega) h0
abbrev S0 : Sm := (0, 0, 0, 0, 0)
def geC (c : Int) (s : Sm) : Bool := !decide (s.1 < c)
theorem geC_f {c : Int} {s : Sm} (h : geC c s = false) : s.1 < c := by unfold geC at h; simpa using h
theorem geC_t {c : Int} {s : Sm} (h : geC c s = true) : ¬ s.1 < c := by unfold geC at h; simpa using h
def posC (l : List Sm) (c : Int) : Nat := l.findIdx (geC c)
theorem posC_le (l : List Sm) (c : Int) : posC l c ≤ l.length := List.findIdx_le_length
def hasC (l : List Sm) (c : Int) : Bool := decide (posC l c < l.length) && decide ((l.getD (posC l c) S0).1 = c)
def ltC (a b : Sm) : Prop := a.1 < b.1
theorem posC_of {l : List Sm} {c : Int} {i : Nat} (h : i ≤ l.length) (h1 : ∀ k (hk : k < l.length), k < i → l[k].1 < c) (h2 : ∀ k (hk : k < l.length), i ≤ k → ¬ l[k].1 < c) : posC l c = i := by
  have hle := posC_le l c
  rcases Nat.lt_trichotomy (posC l c) i with h3 | h3 | h3
  · have hlt : posC l c < l.length := by omega
    have h4 : geC c l[posC l c] = true := List.findIdx_getElem (w := hlt)
    exact absurd (h1 _ hlt h3) (geC_t h4)
  · exact h3
  · have hlt : i < l.length := by omega
    have h4 : geC c l[i] = false := List.not_of_lt_findIdx h3
    exact absurd (geC_f h4) (h2 i hlt (Nat.le_refl _))
def cmpC (a b : Int) : Int := if a < b then -1 else if a > b then 1 else 0
theorem o55_eq (a b c d e t : Int) : o55 a b c d e t = some (cmpC a t) := by
  unfold o55 o56 o75 cmpC
  rw [bdI, bdI, neq_f rfl, neq_f rfl, cnd_f, cnd_f]
  by_cases h1 : a < t
  · rw [cndT (dt h1), if_pos h1]
    rfl
  · rw [cndF (df h1), if_neg h1]
    by_cases h2 : a > t
    · rw [cndT (dt h2), if_pos h2]
      rfl
    · rw [cndF (df h2), if_neg h2]
      rfl
theorem shr1_u64 (a : Nat) : shrK .u64 (a : Int) 1 = ((a / 2 : Nat) : Int) := by
  unfold shrK
  show Int.fdiv (a : Int) (2 ^ 1) = _
  rw [Int.fdiv_eq_ediv_of_nonneg _ (by decide)]
  omega
theorem o54_eq {l : List Sm} {c : Int} (hs : l.Pairwise ltC) (hl : l.length ≤ 1000) : o54v1 l c = some (((posC l c : Nat) : Int), hasC l c) := by
  have hsort : ∀ i j (hi : i < l.length) (hj : j < l.length), i < j → l[i].1 < l[j].1 := fun i j hi hj hij => List.pairwise_iff_getElem.1 hs i j hi hj hij
  unfold o54v1
  have hL := loop_meas (fun (st : List Sm × Int × Int × Int × Int) => ∃ i j : Nat, st = (l, c, (l.length : Int), (i : Int), (j : Int)) ∧ i ≤ j ∧ j ≤ l.length ∧ (∀ k (hk : k < l.length), k < i → l[k].1 < c) ∧ (∀ k (hk : k < l.length), j ≤ k → ¬ l[k].1 < c))
    (fun st => (st.2.2.2.2 - st.2.2.2.1).toNat)
    (Q := fun r => r = (((posC l c : Nat) : Int), hasC l c))
    (B := fun (v3 : List (Int × Int × Int × Int × Int) × Int × Int × Int × Int) => (cnd (decide (v3.2.2.2.1 < v3.2.2.2.2)) (gd (decide ((0 : Int) ≤ (IntKind.wrap .i64 (shrK .u64 (IntKind.wrap .u64 (IntKind.wrap .i64 (v3.2.2.2.1 + v3.2.2.2.2))) (1 : Int))) ∧ (IntKind.wrap .i64 (shrK .u64 (IntKind.wrap .u64 (IntKind.wrap .i64 (v3.2.2.2.1 + v3.2.2.2.2))) (1 : Int))) < ((v3.1.length : Nat) : Int))) (bd (α := Int) (o55 ((List.getD v3.1 (IntKind.wrap .i64 (shrK .u64 (IntKind.wrap .u64 (IntKind.wrap .i64 (v3.2.2.2.1 + v3.2.2.2.2))) (1 : Int))).toNat ((0 : Int), ((0 : Int), ((0 : Int), ((0 : Int), (0 : Int)))))).1) (((List.getD v3.1 (IntKind.wrap .i64 (shrK .u64 (IntKind.wrap .u64 (IntKind.wrap .i64 (v3.2.2.2.1 + v3.2.2.2.2))) (1 : Int))).toNat ((0 : Int), ((0 : Int), ((0 : Int), ((0 : Int), (0 : Int)))))).2).1) ((((List.getD v3.1 (IntKind.wrap .i64 (shrK .u64 (IntKind.wrap .u64 (IntKind.wrap .i64 (v3.2.2.2.1 + v3.2.2.2.2))) (1 : Int))).toNat ((0 : Int), ((0 : Int), ((0 : Int), ((0 : Int), (0 : Int)))))).2).2).1) (((((List.getD v3.1 (IntKind.wrap .i64 (shrK .u64 (IntKind.wrap .u64 (IntKind.wrap .i64 (v3.2.2.2.1 + v3.2.2.2.2))) (1 : Int))).toNat ((0 : Int), ((0 : Int), ((0 : Int), ((0 : Int), (0 : Int)))))).2).2).2).1) (((((List.getD v3.1 (IntKind.wrap .i64 (shrK .u64 (IntKind.wrap .u64 (IntKind.wrap .i64 (v3.2.2.2.1 + v3.2.2.2.2))) (1 : Int))).toNat ((0 : Int), ((0 : Int), ((0 : Int), ((0 : Int), (0 : Int)))))).2).2).2).2) v3.2.1) (fun v4 => (cnd (decide (v4 < (0 : Int))) (some (Ctl.go (v3.1, v3.2.1, v3.2.2.1, (IntKind.wrap .i64 ((IntKind.wrap .i64 (shrK .u64 (IntKind.wrap .u64 (IntKind.wrap .i64 (v3.2.2.2.1 + v3.2.2.2.2))) (1 : Int))) + (1 : Int))), v3.2.2.2.2))) (some (Ctl.go (v3.1, v3.2.1, v3.2.2.1, v3.2.2.2.1, (IntKind.wrap .i64 (shrK .u64 (IntKind.wrap .u64 (IntKind.wrap .i64 (v3.2.2.2.1 + v3.2.2.2.2))) (1 : Int)))))))))) (dnO (bd (α := (Int × Bool)) (cnd (decide (v3.2.2.2.1 < v3.2.2.1)) (gd (decide ((0 : Int) ≤ v3.2.2.2.1 ∧ v3.2.2.2.1 < ((v3.1.length : Nat) : Int))) (bd (α := Int) (o55 ((List.getD v3.1 v3.2.2.2.1.toNat ((0 : Int), ((0 : Int), ((0 : Int), ((0 : Int), (0 : Int)))))).1) (((List.getD v3.1 v3.2.2.2.1.toNat ((0 : Int), ((0 : Int), ((0 : Int), ((0 : Int), (0 : Int)))))).2).1) ((((List.getD v3.1 v3.2.2.2.1.toNat ((0 : Int), ((0 : Int), ((0 : Int), ((0 : Int), (0 : Int)))))).2).2).1) (((((List.getD v3.1 v3.2.2.2.1.toNat ((0 : Int), ((0 : Int), ((0 : Int), ((0 : Int), (0 : Int)))))).2).2).2).1) (((((List.getD v3.1 v3.2.2.2.1.toNat ((0 : Int), ((0 : Int), ((0 : Int), ((0 : Int), (0 : Int)))))).2).2).2).2) v3.2.1) (fun v5 => (some (v3.2.2.2.1, (v5 == (0 : Int))))))) (some (v3.2.2.2.1, false))) (fun v6 => (some (v6.1, v6.2)))))))
    (s0 := (l, c, (l.length : Int), 0, (l.length : Int))) ?_ ⟨0, l.length, rfl, Nat.zero_le _, Nat.le_refl _, fun k hk h => absurd h (by omega), fun k hk h => absurd hk (by omega)⟩ (by show ((l.length : Int) - 0).toNat < _; omega)
  · obtain ⟨r, h1, h2⟩ := hL
    rw [h2] at h1
    exact h1
  · rintro _ ⟨i, j, rfl, hij, hj, h1, h2⟩
    by_cases hlt : i < j
    · left
      have hm : IntKind.i64.wrap (shrK .u64 (IntKind.u64.wrap (IntKind.i64.wrap ((i : Int) + (j : Int)))) 1) = (((i + j) / 2 : Nat) : Int) := by
        rw [wr64 (x := (i : Int) + (j : Int)) (by omega), wr_u64 (by omega), show (i : Int) + (j : Int) = ((i + j : Nat) : Int) by omega, shr1_u64, wr64 (by omega)]
      have hml : (i + j) / 2 < l.length := by omega
      by_cases hc : l[(i + j) / 2].1 < c
      · refine ⟨(l, c, (l.length : Int), (((i + j) / 2 + 1 : Nat) : Int), (j : Int)), ?_, ⟨(i + j) / 2 + 1, j, rfl, by omega, hj, fun k hk hki => ?_, h2⟩, by show ((j : Int) - (((i + j) / 2 + 1 : Nat) : Int)).toNat < ((j : Int) - (i : Int)).toNat; omega⟩
        · dsimp only
          rw [cndT (dt (by omega)), hm, gdT (dt (by omega)), Int.toNat_natCast, getD_of hml, bdS (o55_eq _ _ _ _ _ _)]
          unfold cmpC
          rw [if_pos hc, cndT (by decide), wr64 (by omega)]
          rfl
        · rcases Nat.lt_or_ge k ((i + j) / 2) with h | h
          · have := hsort k _ hk hml h
            omega
          · have : k = (i + j) / 2 := by omega
            subst this
            exact hc
      · refine ⟨(l, c, (l.length : Int), (i : Int), (((i + j) / 2 : Nat) : Int)), ?_, ⟨i, (i + j) / 2, rfl, by omega, by omega, h1, fun k hk hki => ?_⟩, by show ((((i + j) / 2 : Nat) : Int) - (i : Int)).toNat < ((j : Int) - (i : Int)).toNat; omega⟩
        · dsimp only
          rw [cndT (dt (by omega)), hm, gdT (dt (by omega)), Int.toNat_natCast, getD_of hml, bdS (o55_eq _ _ _ _ _ _)]
          unfold cmpC
          rw [if_neg hc, cndF]
          split <;> decide
        · rcases Nat.lt_or_ge ((i + j) / 2) k with h | h
          · have := hsort _ k hml hk h
            omega
          · have : k = (i + j) / 2 := by omega
            subst this
            exact hc
    · right
      have : i = j := by omega
      subst this
      have hp := posC_of hj h1 h2
      refine ⟨_, ?_, rfl⟩
      dsimp only
      rw [cndF (df (by omega)), hp]
      unfold hasC
      rw [hp]
      by_cases hil : i < l.length
      · rw [cndT (dt (by omega)), gdT (dt (by omega)), Int.toNat_natCast, getD_of hil, bdS (o55_eq _ _ _ _ _ _), bdI, dt hil]
        have hc := h2 i hil (Nat.le_refl _)
        have : (cmpC l[i].1 c == 0) = decide (l[i].1 = c) := by
          unfold cmpC
          rw [if_neg hc]
          by_cases h3 : l[i].1 > c
          · rw [if_pos h3, df (by omega)]; rfl
          · rw [if_neg h3, dt (by omega)]; rfl
        rw [this]
        rfl
      · rw [cndF (df (by omega)), bdI, df hil]
        rfl
def updS (f : Flt) (s : Sm) : Sm := (s.1, IntKind.i64.wrap (s.2.1 + 1), (if f.2.1 < 16 then lorK .u16 s.2.2.1 (shlK .u16 1 f.2.1) else s.2.2.1), s.2.2.2.1, f.2.2.1)
def putS (l : List Sm) (f : Flt) : List Sm := if hasC l f.1 = true then l else (l.take (posC l f.1) ++ [(f.1, 0, 0, f.2.2.1, 0)]) ++ l.drop (posC l f.1)
def stepS (l : List Sm) (f : Flt) : List Sm := (putS l f).set (posC l f.1) (updS f ((putS l f).getD (posC l f.1) S0))
def sumsF (l : List Flt) : List Sm := l.foldl stepS []
theorem sumsF_snoc (l : List Flt) (f : Flt) : sumsF (l ++ [f]) = stepS (sumsF l) f := by unfold sumsF; rw [List.foldl_append]; rfl
theorem hasC_lt {l : List Sm} {c : Int} (h : hasC l c = true) : posC l c < l.length := by
  unfold hasC at h
  simp at h
  exact h.1
theorem putS_len (l : List Sm) (f : Flt) : posC l f.1 < (putS l f).length ∧ (putS l f).length ≤ l.length + 1 := by
  have := posC_le l f.1
  unfold putS
  by_cases h : hasC l f.1 = true
  · rw [if_pos h]
    exact ⟨hasC_lt h, by omega⟩
  · rw [if_neg h]
    simp only [List.length_append, List.length_take, List.length_drop, List.length_cons, List.length_nil]
    omega
theorem before {l : List Sm} {c : Int} {s : Sm} (h : s ∈ l.take (posC l c)) : s.1 < c := by
  obtain ⟨k, hk, rfl⟩ := List.mem_iff_getElem.1 h
  rw [List.length_take] at hk
  rw [List.getElem_take]
  exact geC_f (List.not_of_lt_findIdx (by unfold posC at hk; omega))
theorem putS_lt {l : List Sm} (hs : l.Pairwise ltC) (f : Flt) : (putS l f).Pairwise ltC := by
  unfold putS
  by_cases h : hasC l f.1 = true
  · rw [if_pos h]; exact hs
  · rw [if_neg h]
    have hd : ∀ s ∈ l.drop (posC l f.1), f.1 < s.1 := by
      by_cases hlt : posC l f.1 < l.length
      · have h1 : ¬ l[posC l f.1].1 < f.1 := geC_t (List.findIdx_getElem (w := hlt))
        have h2 : l[posC l f.1].1 ≠ f.1 := fun e => h (by unfold hasC; rw [dt hlt, getD_of hlt, dt e]; rfl)
        rw [List.drop_eq_getElem_cons hlt]
        intro s hs'
        rcases List.mem_cons.1 hs' with rfl | hs'
        · omega
        · have hp : (l.drop (posC l f.1)).Pairwise ltC := hs.drop
          rw [List.drop_eq_getElem_cons hlt, List.pairwise_cons] at hp
          have := hp.1 s hs'
          unfold ltC at this
          omega
      · rw [List.drop_of_length_le (by omega)]
        intro s hs'
        cases hs'
    rw [List.pairwise_append, List.pairwise_append]
    refine ⟨⟨hs.take, by simp, fun x hx y hy => ?_⟩, hs.drop, fun x hx y hy => ?_⟩
    · rw [List.mem_singleton.1 hy]
      exact before hx
    · have b := hd y hy
      rcases List.mem_append.1 hx with hx | hx
      · have a := before hx
        show x.1 < y.1
        omega
      · rw [List.mem_singleton.1 hx]
        exact b
theorem stepS_lt {l : List Sm} (hs : l.Pairwise ltC) (f : Flt) : (stepS l f).Pairwise ltC := by
  have h := putS_lt hs f
  have hp := (putS_len l f).1
  unfold stepS
  rw [getD_of hp]
  rw [List.pairwise_iff_getElem] at h ⊢
  intro i j hi hj hij
  rw [List.length_set] at hi hj
  have := h i j hi hj hij
  unfold ltC at this ⊢
  rw [List.getElem_set, List.getElem_set]
  split <;> split <;> rename_i e1 e2 <;> first | omega | skip
  · subst e1; exact this
  · subst e2; exact this
theorem sumsF_ok : ∀ (l : List Flt), (sumsF l).Pairwise ltC ∧ (sumsF l).length ≤ l.length := by
  have key : ∀ (l : List Flt) (s : List Sm), s.Pairwise ltC → (l.foldl stepS s).Pairwise ltC ∧ (l.foldl stepS s).length ≤ s.length + l.length := by
    intro l
    induction l with
    | nil => intro s hs; exact ⟨hs, Nat.le_refl _⟩
    | cons f l ih =>
      intro s hs
      obtain ⟨h1, h2⟩ := ih (stepS s f) (stepS_lt hs f)
      refine ⟨h1, ?_⟩
      have := (putS_len s f).2
      have e : (stepS s f).length = (putS s f).length := by unfold stepS; rw [List.length_set]
      rw [List.foldl_cons, List.length_cons]
      omega
  intro l
  have := key l [] .nil
  exact ⟨this.1, by have h := this.2; rw [List.length_nil] at h; unfold sumsF; omega⟩
theorem gs {L : List Sm} {n : Nat} {a : Sm} (h : n < L.length) : (L.set n a).getD n S0 = a := by
  rw [getD_of (by rw [List.length_set]; exact h), List.getElem_set_self]
end Go.Proofs.YtnkmijidneibnaaDoor
namespace Go.Proofs.YtnkmijidneibnaaDoor
set_option linter.unusedVariables false
set_option linter.unusedSimpArgs false
set_option maxRecDepth 100000
open Go.RowKit
theorem dnL' {α β : Type} {x : Option β} {r : β} (h : x = some r) : dnO (α := α) x = some (.done r) := by subst h; rfl
theorem o57_eq {L : List Sm} {n : Nat} {x : Sm} (h : n ≤ L.length) (hl : L.length ≤ 1000) : o57 (n : Int) L [x] = some ([x], (L.take n ++ [x]) ++ L.drop n) := by
  unfold o57
  rw [gdT (show insC (n : Int) L [x] = true from decide_eq_true ⟨by omega, by omega, by omega, rfl⟩), Int.toNat_natCast]
theorem o34_eq {l : List Flt} (hl : l.length ≤ 500) (h : ∀ x ∈ l, okT x) : o34 l = some (sumsF l) := by
  unfold o34
  refine loop_cnt (n := l.length) (fun i => (l, (l.length : Int), (i : Int), sumsF (l.take i))) (fun i hi => ?_) ?_ (by omega)
  · dsimp only
    obtain ⟨h1, h2, h3, h4⟩ := h _ (List.getElem_mem hi)
    obtain ⟨hs, hln⟩ := sumsF_ok (l.take i)
    rw [List.length_take] at hln
    have hwi : IntKind.i64.wrap ((i : Int) + 1) = ((i + 1 : Nat) : Int) := by rw [wr64 (by omega)]; omega
    rw [take_snoc hi, sumsF_snoc]
    rw [cndT (dt (by omega)), gdT (dt (by omega)), Int.toNat_natCast, getD_of hi]
    generalize l[i] = f at *
    generalize sumsF (l.take i) = L at *
    rw [bdS (o54_eq hs (by omega))]
    have hple := posC_le L f.1
    have hpp := putS_len L f
    have hput : (cnd (!hasC L f.1) (bd (o57 ((posC L f.1 : Nat) : Int) L [(f.1, 0, 0, f.2.2.1, 0)]) (fun v7 => some (((posC L f.1 : Nat) : Int), l, (l.length : Int), (i : Int), v7.2, f.1, f.2.1, f.2.2.1, f.2.2.2))) (some (((posC L f.1 : Nat) : Int), l, (l.length : Int), (i : Int), L, f.1, f.2.1, f.2.2.1, f.2.2.2))) = some (((posC L f.1 : Nat) : Int), l, (l.length : Int), (i : Int), putS L f, f.1, f.2.1, f.2.2.1, f.2.2.2) := by
      unfold putS
      cases hc : hasC L f.1 with
      | true => rw [cndF (c := !true) rfl, if_pos rfl]
      | false => rw [cndT (c := !false) rfl, if_neg (by simp), bdS (o57_eq hple (by omega))]
    refine (bdS hput).trans ?_
    dsimp only
    unfold stepS updS
    have hp := hpp.1
    generalize putS L f = P at *
    generalize posC L f.1 = n at *
    have gs' : ∀ a : Sm, (P.set n a).getD n (0, 0, 0, 0, 0) = a := fun a => gs hp
    rw [hwi, gdT (dt (by omega)), Int.toNat_natCast]
    by_cases hph : f.2.1 < 16
    · rw [cndT (dt hph), gdT (dt (by omega)), if_pos hph]
      simp only [List.set_set, gs']
    · rw [cndF (df hph), if_neg hph]
      simp only [List.set_set, gs']
  · dsimp only
    rw [cndF (df (by omega)), List.take_length]
    rfl
theorem o35_eq {l : List Flt} (hl : l.length ≤ 500) (h : ∀ x ∈ l, okT x) : o35 l = some (sumsF l) := by
  unfold o35
  refine loop_cnt (n := l.length) (fun i => (l, (l.length : Int), (i : Int), sumsF (l.take i))) (fun i hi => ?_) ?_ (by omega)
  · dsimp only
    obtain ⟨h1, h2, h3, h4⟩ := h _ (List.getElem_mem hi)
    obtain ⟨hs, hln⟩ := sumsF_ok (l.take i)
    rw [List.length_take] at hln
    have hwi : IntKind.i64.wrap ((i : Int) + 1) = ((i + 1 : Nat) : Int) := by rw [wr64 (by omega)]; omega
    rw [take_snoc hi, sumsF_snoc]
    rw [cndT (dt (by omega)), gdT (dt (by omega)), Int.toNat_natCast, getD_of hi]
    generalize l[i] = f at *
    generalize sumsF (l.take i) = L at *
    have hple := posC_le L f.1
    have hpp := putS_len L f
    refine loop_cnt (n := posC L f.1) (fun j => ((j : Int), l, (l.length : Int), (i : Int), L, f.1, f.2.1, f.2.2.1, f.2.2.2)) (fun j hj => ?_) ?_ (by omega)
    · dsimp only
      have hjl : j < L.length := by omega
      have hx : L[j].1 < f.1 := geC_f (List.not_of_lt_findIdx hj)
      rw [cndT (dt (by omega)), gdT (dt (by omega)), Int.toNat_natCast, getD_of hjl, dt hx, bdI]
      dsimp only
      rw [cnd_t, wr64 (by omega)]
      rfl
    · dsimp only
      have hfirst : (cnd (decide (((posC L f.1 : Nat) : Int) < ((L.length : Nat) : Int))) (gd (decide ((0 : Int) ≤ ((posC L f.1 : Nat) : Int) ∧ ((posC L f.1 : Nat) : Int) < ((L.length : Nat) : Int))) (some (((posC L f.1 : Nat) : Int), l, (l.length : Int), (i : Int), decide ((L.getD ((posC L f.1 : Nat) : Int).toNat S0).1 < f.1), L, f.1, f.2.1, f.2.2.1, f.2.2.2))) (some (((posC L f.1 : Nat) : Int), l, (l.length : Int), (i : Int), false, L, f.1, f.2.1, f.2.2.1, f.2.2.2))) = some (((posC L f.1 : Nat) : Int), l, (l.length : Int), (i : Int), false, L, f.1, f.2.1, f.2.2.1, f.2.2.2) := by
        by_cases hlt : posC L f.1 < L.length
        · have hx : ¬ L[posC L f.1].1 < f.1 := geC_t (List.findIdx_getElem (w := hlt))
          rw [cndT (dt (by omega)), gdT (dt (by omega)), Int.toNat_natCast, getD_of hlt, df hx]
        · rw [cndF (df (by omega))]
      refine (bdS hfirst).trans ?_
      dsimp only
      rw [cnd_f]
      refine dnL' ?_
      have hcond : (cnd (((posC L f.1 : Nat) : Int) == ((L.length : Nat) : Int)) (some (((posC L f.1 : Nat) : Int), l, (l.length : Int), (i : Int), true, L, f.1, f.2.1, f.2.2.1, f.2.2.2)) (gd (decide ((0 : Int) ≤ ((posC L f.1 : Nat) : Int) ∧ ((posC L f.1 : Nat) : Int) < ((L.length : Nat) : Int))) (some (((posC L f.1 : Nat) : Int), l, (l.length : Int), (i : Int), ((L.getD ((posC L f.1 : Nat) : Int).toNat S0).1 != f.1), L, f.1, f.2.1, f.2.2.1, f.2.2.2)))) = some (((posC L f.1 : Nat) : Int), l, (l.length : Int), (i : Int), !hasC L f.1, L, f.1, f.2.1, f.2.2.1, f.2.2.2) := by
        unfold hasC
        by_cases hlt : posC L f.1 < L.length
        · rw [cndF (eq_f (by omega)), gdT (dt (by omega)), Int.toNat_natCast, dt hlt, Bool.true_and]
          by_cases he : (L.getD (posC L f.1) S0).1 = f.1
          · rw [neq_f he, dt he]; rfl
          · rw [neq_t he, df he]; rfl
        · rw [cndT (eq_t (by omega)), df hlt]
          rfl
      rw [bdS hcond]
      dsimp only
      have hput : ∀ K : (Int × List Flt × Int × Int × List Sm × Int × Int × Int × Int) → Option (Ctl (List Flt × Int × Int × List Sm) (List Sm)), bd (cnd (!hasC L f.1) (gd (decide ((0 : Int) ≤ ((posC L f.1 : Nat) : Int) ∧ ((posC L f.1 : Nat) : Int) ≤ ((L.length : Nat) : Int))) (gd (decide ((([] : List Sm).length + (List.take (((posC L f.1 : Nat) : Int).toNat - 0) (List.drop 0 L)).length) * 40 ≤ 140737488355328)) (gd (decide (((([] : List Sm) ++ (List.take (((posC L f.1 : Nat) : Int).toNat - 0) (List.drop 0 L))).length + ([(f.1, (0, (0, (f.2.2.1, 0))))] : List Sm).length) * 40 ≤ 140737488355328)) (gd (decide ((0 : Int) ≤ ((posC L f.1 : Nat) : Int) ∧ ((posC L f.1 : Nat) : Int) ≤ ((L.length : Nat) : Int))) (gd (decide ((((([] : List Sm) ++ (List.take (((posC L f.1 : Nat) : Int).toNat - 0) (List.drop 0 L))) ++ ([(f.1, (0, (0, (f.2.2.1, 0))))] : List Sm)).length + (List.take (L.length - ((posC L f.1 : Nat) : Int).toNat) (List.drop ((posC L f.1 : Nat) : Int).toNat L)).length) * 40 ≤ 140737488355328)) (some (((posC L f.1 : Nat) : Int), l, (l.length : Int), (i : Int), (((([] : List Sm) ++ (List.take (((posC L f.1 : Nat) : Int).toNat - 0) (List.drop 0 L))) ++ ([(f.1, (0, (0, (f.2.2.1, 0))))] : List Sm)) ++ (List.take (L.length - ((posC L f.1 : Nat) : Int).toNat) (List.drop ((posC L f.1 : Nat) : Int).toNat L))), f.1, f.2.1, f.2.2.1, f.2.2.2))))))) (some (((posC L f.1 : Nat) : Int), l, (l.length : Int), (i : Int), L, f.1, f.2.1, f.2.2.1, f.2.2.2))) K = K (((posC L f.1 : Nat) : Int), l, (l.length : Int), (i : Int), putS L f, f.1, f.2.1, f.2.2.1, f.2.2.2) := by
        intro K
        refine bdS ?_
        unfold putS
        cases hc : hasC L f.1 with
        | true => rw [cndF (c := !true) rfl, if_pos rfl]
        | false =>
          have e2 : List.take (L.length - posC L f.1) (L.drop (posC L f.1)) = L.drop (posC L f.1) := List.take_of_length_le (by rw [List.length_drop]; omega)
          rw [Int.toNat_natCast, Nat.sub_zero, List.drop_zero, e2, List.nil_append, cndT (c := !false) rfl, if_neg (by simp), gdT (dt (by omega)), gdT (dt (by simp; omega)), gdT (dt (by simp; omega)), gdT (dt (by omega)), gdT (dt (by simp; omega))]
      refine (hput _).trans ?_
      dsimp only
      unfold stepS updS
      have hp := hpp.1
      generalize putS L f = P at *
      generalize posC L f.1 = n at *
      have gs' : ∀ a : Sm, (P.set n a).getD n (0, 0, 0, 0, 0) = a := fun a => gs hp
      simp only [Int.toNat_natCast, List.set_set, gs', List.length_set]
      have hg : decide ((0 : Int) ≤ (n : Int) ∧ (n : Int) < ((P.length : Nat) : Int)) = true := dt (by omega)
      rw [hwi, gdT hg]
      by_cases hph : f.2.1 < 16
      · simp only [dt hph, cnd_t, hg, gd_t, dt h2.1, if_pos hph]
      · simp only [df hph, cnd_f, hg, gd_t, if_neg hph]
  · dsimp only
    rw [cndF (df (by omega)), List.take_length]
    rfl
def cntS : List Sm → Int
  | [] => 0
  | s :: l => s.2.1 + cntS l
theorem cntS_app : ∀ (l m : List Sm), cntS (l ++ m) = cntS l + cntS m
  | [], m => by simp [cntS]
  | s :: l, m => by
    show s.2.1 + cntS (l ++ m) = s.2.1 + cntS l + cntS m
    rw [cntS_app l m]; omega
theorem cntS_set : ∀ {l : List Sm} {n : Nat} {a : Sm}, n < l.length → cntS (l.set n a) = cntS l - (l.getD n S0).2.1 + a.2.1
  | [], n, a, h => by simp at h
  | s :: l, 0, a, h => by
    show a.2.1 + cntS l = s.2.1 + cntS l - s.2.1 + a.2.1
    omega
  | s :: l, n + 1, a, h => by
    have := cntS_set (l := l) (n := n) (a := a) (by simpa using h)
    show s.2.1 + cntS (l.set n a) = s.2.1 + cntS l - (l.getD n S0).2.1 + a.2.1
    omega
theorem cntS_nn : ∀ {l : List Sm}, (∀ s ∈ l, 0 ≤ s.2.1) → 0 ≤ cntS l ∧ ∀ s ∈ l, s.2.1 ≤ cntS l
  | [], _ => ⟨Int.le_refl _, fun s h => (by cases h)⟩
  | s :: l, h => by
    obtain ⟨h1, h2⟩ := cntS_nn (l := l) fun x hx => h x (List.mem_cons_of_mem _ hx)
    have h3 := h s List.mem_cons_self
    refine ⟨by show 0 ≤ s.2.1 + cntS l; omega, fun x hx => ?_⟩
    show x.2.1 ≤ s.2.1 + cntS l
    rcases List.mem_cons.1 hx with rfl | hx
    · omega
    · have := h2 x hx; omega
theorem sums_cnt : ∀ {l : List Flt}, l.length ≤ 1000 → cntS (sumsF l) = l.length ∧ ∀ s ∈ sumsF l, 0 ≤ s.2.1 := by
  have key : ∀ (l : List Flt) (S : List Sm) (k : Nat), k + l.length ≤ 1000 → cntS S = (k : Int) → (∀ s ∈ S, 0 ≤ s.2.1) → cntS (l.foldl stepS S) = ((k + l.length : Nat) : Int) ∧ ∀ s ∈ l.foldl stepS S, 0 ≤ s.2.1 := by
    intro l
    induction l with
    | nil => intro S k _ h1 h2; exact ⟨h1, h2⟩
    | cons f l ih =>
      intro S k hk h1 h2
      rw [List.length_cons] at hk
      have hP1 : cntS (putS S f) = (k : Int) := by
        unfold putS
        by_cases h : hasC S f.1 = true
        · rw [if_pos h]; exact h1
        · rw [if_neg h, cntS_app, cntS_app]
          have := cntS_app (S.take (posC S f.1)) (S.drop (posC S f.1))
          rw [List.take_append_drop] at this
          show cntS (S.take (posC S f.1)) + (0 + 0) + cntS (S.drop (posC S f.1)) = _
          omega
      have hP2 : ∀ s ∈ putS S f, 0 ≤ s.2.1 := by
        unfold putS
        by_cases h : hasC S f.1 = true
        · rw [if_pos h]; exact h2
        · rw [if_neg h]
          intro s hs
          rcases List.mem_append.1 hs with hs | hs
          · rcases List.mem_append.1 hs with hs | hs
            · exact h2 s (List.mem_of_mem_take hs)
            · rw [List.mem_singleton.1 hs]; exact Int.le_refl _
          · exact h2 s (List.mem_of_mem_drop hs)
      have hp := (putS_len S f).1
      have hm : (putS S f).getD (posC S f.1) S0 ∈ putS S f := by rw [getD_of hp]; exact List.getElem_mem hp
      have hle := (cntS_nn hP2).2 _ hm
      have hge := hP2 _ hm
      have hw : IntKind.i64.wrap (((putS S f).getD (posC S f.1) S0).2.1 + 1) = ((putS S f).getD (posC S f.1) S0).2.1 + 1 := wr64 (by omega)
      rw [List.foldl_cons, List.length_cons, show k + (l.length + 1) = (k + 1) + l.length by omega]
      refine ih (stepS S f) (k + 1) (by omega) ?_ fun s hs => ?_
      · unfold stepS
        rw [cntS_set hp]
        show cntS (putS S f) - _ + IntKind.i64.wrap (((putS S f).getD (posC S f.1) S0).2.1 + 1) = _
        rw [hw, hP1]; omega
      · unfold stepS at hs
        rcases List.mem_or_eq_of_mem_set hs with hs | hs
        · exact hP2 s hs
        · rw [hs]
          show 0 ≤ IntKind.i64.wrap (((putS S f).getD (posC S f.1) S0).2.1 + 1)
          rw [hw]; omega
  intro l hl
  have := key l [] 0 (by omega) rfl (fun s h => (by cases h))
  rw [Nat.zero_add] at this
  exact this
end Go.Proofs.YtnkmijidneibnaaDoor
namespace Go.Proofs.YtnkmijidneibnaaDoor
set_option linter.unusedVariables false
set_option linter.unusedSimpArgs false
set_option maxRecDepth 100000
open Go.RowKit
theorem reports_plain (l : List Flt) (hl : l.length ≤ 140737488355328) (h : ∀ x ∈ l, okT x) : o10 l = some true := by
  have hm : minI ((l.length : Nat) : Int) 20 = ((min l.length 20 : Nat) : Int) := by unfold minI; split <;> omega
  unfold o10
  rw [bdS awake_yes, cndF (c := !true) rfl, hm, gdT (dt (by omega)), Int.toNat_natCast]
  have hlm : (l.take (min l.length 20)).length ≤ 20 := by rw [List.length_take]; omega
  have hok : ∀ x ∈ l.take (min l.length 20), okT x := fun x hx => h x (List.mem_of_mem_take hx)
  generalize l.take (min l.length 20) = m at *
  rw [bdS (o34_eq (by omega) hok), bdS (o35_eq (by omega) hok)]
  obtain ⟨hc1, hc2⟩ := sums_cnt (l := m) (by omega)
  have hsl := (sumsF_ok m).2
  generalize sumsF m = a at *
  rw [cndF (neq_f rfl), bdS (o36_eq (by omega) hok), bdS (o37_eq (by omega) hok), beq_self_eq_true, bdI]
  dsimp only
  rw [cndF (c := !true) rfl]
  refine loop_cnt (n := a.length) (fun i => (m, cntS (a.take i), (a.length : Int), (i : Int), a, a)) (fun i hi => ?_) ?_ (by omega)
  · dsimp only
    have hg : decide ((0 : Int) ≤ (i : Int) ∧ (i : Int) < ((a.length : Nat) : Int)) = true := dt (by omega)
    have hx := hc2 _ (List.getElem_mem hi)
    have hts : cntS (a.take (i + 1)) = cntS (a.take i) + a[i].2.1 := by
      rw [List.take_succ_eq_append_getElem hi, cntS_app]
      show cntS (a.take i) + (a[i].2.1 + 0) = _
      omega
    have hall := cntS_app (a.take (i + 1)) (a.drop (i + 1))
    rw [List.take_append_drop] at hall
    have hd := (cntS_nn (l := a.drop (i + 1)) fun s hs => hc2 s (List.mem_of_mem_drop hs)).1
    have ht := (cntS_nn (l := a.take i) fun s hs => hc2 s (List.mem_of_mem_take hs)).1
    rw [cndT (dt (by omega))]
    simp only [hg, gd_t, Int.toNat_natCast, getD_of hi, neq_f (rfl : a[i].1 = a[i].1), neq_f (rfl : a[i].2.1 = a[i].2.1), neq_f (rfl : a[i].2.2.1 = a[i].2.2.1), neq_f (rfl : a[i].2.2.2.1 = a[i].2.2.2.1), neq_f (rfl : a[i].2.2.2.2 = a[i].2.2.2.2), cnd_f, bdI]
    rw [wr64 (x := cntS (a.take i) + a[i].2.1) (by omega), wr64 (by omega), hts]
    rfl
  · dsimp only
    rw [cndF (df (by omega)), List.take_length, hc1, eq_t rfl]
    rfl
theorem repFlt {p : Psi} {cs : List Value} {x : Flt} (h : cF.ty.rep p cs x) : okT x := by
  obtain ⟨_, h1, h2, h3, h4⟩ := repF.1 h
  have h2 : 0 ≤ x.2.1 ∧ x.2.1 ≤ 255 := ⟨h2.1, h2.2⟩
  have h4 : 0 ≤ x.2.2.2 ∧ x.2.2.2 ≤ 18446744073709551615 := ⟨h4.1, h4.2⟩
  exact ⟨⟨h1.1, h1.2⟩, h2, ⟨h3.1, h3.2⟩, h4⟩
theorem reports_law {p : Psi} {A : Option Addr} {c : Nat} {xs : List Flt} (h : Arr p cF.ty A c xs) : o10 xs = some true :=
  reports_plain xs h.len fun x hx => by
    obtain ⟨i, hi, rfl⟩ := List.mem_iff_getElem.1 hx
    obtain ⟨_, _, _, hr, _⟩ := h.at_ (List.getElem?_eq_getElem hi)
    exact repFlt hr
end Go.Proofs.YtnkmijidneibnaaDoor
namespace Go.Proofs.YtnkmijidneibnaaDoor
set_option linter.unusedVariables false
set_option linter.unusedSimpArgs false
open Go.RowKit
theorem slots_of {g : Gh} {ρ : Env} {bl : List BV} : ∀ {l : List SV} {vs : List Value} (i : Nat), All2 (RealS g ρ bl) l vs → ∀ t sv, getH (argH i l) t = some sv → ∃ v, getS (argS i vs) t = some v ∧ RealS g ρ bl sv v
  | [], [], i, _, t, sv, e => by cases e
  | s :: l, v :: vs, i, h, t, sv, e => by
    have e : cond (Nat.beq i t) (some s) (getH (argH (i + 1) l) t) = some sv := e
    show ∃ u, cond (Nat.beq i t) (some v) (getS (argS (i + 1) vs) t) = some u ∧ _
    cases hb : Nat.beq i t with
    | true => rw [hb] at e; injection e with e; subst e; exact ⟨v, rfl, h.1⟩
    | false => rw [hb] at e; exact slots_of (i + 1) h.2 t sv e
  | [], _ :: _, _, h, _, _, _ => h.elim
  | _ :: _, [], _, h, _, _, _ => h.elim
def r0 : List Sch := [⟨[(0, .v (.c .b))], []⟩]
theorem law_of_fok {P : Program} {f : FuncId} {ps : Sch} {run : HL ps.lv → Option Bool} (h : FOk P f ⟨ps, r0, run⟩) {t : HL ps.lv} (hr : run t = some true) (l : List SV) (hc : conT ps t = some ⟨argH 0 l, []⟩) {W : World} (hW : GI (psiOf W)) {vs : List Value}
    (hv : All2 (RealS (gh0 W) (fun _ => (none, 0)) []) l vs) (hl : vs.length = ps.sl.length) : Calls P f vs.toArray W fun e w' => e = .returned (.bool true) ∧ Below W.heap.size W w' := by
  have hR : Rl (gh0 W) (fun _ => (none, 0)) ⟨argH 0 l, []⟩ [] (argS 0 vs) := ⟨rfl, fun i bv k e => (by cases e), fun t sv e => slots_of 0 hv t sv e, hW⟩
  refine law_of_ctr (P := P) (f := f) (args := vs) ((h t true _ hr hc (gh0 W) _ [] vs hR hl).mono fun v ψ o hle ⟨str, ρ', h1, h2, h3, h4⟩ => ?_)
  have e : altC r0 true = some ⟨[(0, vC (.bool true))], []⟩ := rfl
  have h1 : altC r0 true = some str := h1
  rw [e] at h1
  injection h1 with h1; subst h1
  obtain ⟨u, h5, h6⟩ := h3.slot 0 _ rfl
  injection h5 with h5
  have h6 : u = .bool true := h6
  have hlen : o.length = 0 := h3.len
  exact ⟨List.length_eq_zero_iff.1 hlen, by rw [h5, h6]⟩
section
variable {P : Program} {t : TypeId}
theorem opIR {k : IntKind} (ht : P.underlying t = some (.int k)) : Opens P t (tyIR k) (fun _ => True) := fun h hw => by
  obtain ⟨x, h1, h2⟩ := opens_int ht h hw
  exact ⟨x, ⟨h1, h2⟩, trivial⟩
end
end Go.Proofs.YtnkmijidneibnaaDoor
namespace Go.Proofs.YtnkmijidneibnaaDoor
set_option linter.unusedVariables false
set_option linter.unusedSimpArgs false
open Go.RowKit Go.WideShapes Go.ChangeShapes Go.ChangeAt
def laidU : List (String × DataW Unit) := Rows.maintlogNilRow.laid
theorem door_met (os : Os) (args : Array Value) : laidMetH Tryd.prog laidU ((World.doorLaid Tryd.prog 400 os).forCall (fun _ _ => 0) ⟨#[], args, []⟩).memory :=
  laidMetH_of_parts3 (fuel := 8) (laidMet_of_run' 8 (by kernel_rfl) (by kernel_rfl)) (by kernel_rfl) (by kernel_rfl)
theorem gw_of_laid {W : World} (h : laidMetH Tryd.prog laidU W) : GW W := by
  rw [MakeChecks.laidMetH_plain _ _ _ (by kernel_rfl)] at h
  have e : laidU = [("math/bits.deBruijn32tab", Rows.laid_math_bits_deBruijn32tab), ("math/bits.deBruijn64tab", Rows.laid_math_bits_deBruijn64tab), ("internal/strconv.uint64pow10", Lib.tabData .u64 Lib.pow10Tab)] := by kernel_rfl
  rw [e] at h
  exact Lib.tabIs_of_head (g := 0) (t := 153) (e := 38) (n := 20) (by kernel_rfl) (by kernel_rfl) Tryd.underlying153 Tryd.underlying38 (by kernel_rfl) (by kernel_rfl) h.tail.tail
theorem gw_mono {W w : World} (h : GW W) (k : (psiOf W).In w) : GW w := by
  unfold GW Lib.TabIs World.var? at h ⊢
  rw [Option.bind_eq_some_iff] at h ⊢
  obtain ⟨g, h1, h2⟩ := h
  refine ⟨g, h1, ?_⟩
  cases e : W.heap[g]? with
  | none => rw [e] at h2; cases h2
  | some o => rw [k.m g o e]; rw [e] at h2; exact h2
theorem gi_of {W : World} (h : laidMetH Tryd.prog laidU W) : GI (psiOf W) := fun w k => gw_mono (gw_of_laid h) k
end Go.Proofs.YtnkmijidneibnaaDoor
namespace Go.Proofs.YtnkmijidneibnaaDoor
set_option linter.unusedVariables false
set_option linter.unusedSimpArgs false
set_option maxRecDepth 100000
open Go.RowKit Go.WideShapes Go.ChangeShapes Go.ChangeAt
theorem opH42 : Opens Tryd.prog 42 (Cd.ty (.p (.i .i64) (.p (.i .u8) (.p (.i .i64) (.i .u64))))) (fun _ => True) := by
  intro H enc w base spare held fuel cs d pl h hw
  obtain ⟨hlen, hf⟩ := struct_fields Tryd.underlying42 h hw
  rw [show Tryd.prog.cellsOf 42 = 4 by kernel_rfl] at hlen
  match cs, hlen with
  | [c0, c1, c2, c3], _ =>
    obtain ⟨n0, d0, p0, h0, w0⟩ := hf 0 _ rfl
    simp [show Tryd.prog.cellsOf 2 = 1 by kernel_rfl] at h0
    obtain ⟨x0, r0, _⟩ := (opIR Tryd.underlying2) h0 w0
    obtain ⟨n1, d1, p1, h1, w1⟩ := hf 1 _ rfl
    simp [show Tryd.prog.cellsOf 5 = 1 by kernel_rfl] at h1
    obtain ⟨x1, r1, _⟩ := (opIR Tryd.underlying5) h1 w1
    obtain ⟨n2, d2, p2, h2, w2⟩ := hf 2 _ rfl
    simp [show Tryd.prog.cellsOf 2 = 1 by kernel_rfl] at h2
    obtain ⟨x2, r2, _⟩ := (opIR Tryd.underlying2) h2 w2
    obtain ⟨n3, d3, p3, h3, w3⟩ := hf 3 _ rfl
    simp [show Tryd.prog.cellsOf 38 = 1 by kernel_rfl] at h3
    obtain ⟨x3, r3, _⟩ := (opIR Tryd.underlying38) h3 w3
    exact ⟨(x0, x1, x2, x3), ⟨[c0], [c1] ++ [c2] ++ [c3], rfl, r0, ⟨[c1], [c2] ++ [c3], rfl, r1, ⟨[c2], [c3], rfl, r2, r3⟩⟩⟩, trivial⟩
theorem maintlogReports_lifted (os : Os) (started : os.Started) (H : Type) (enc : TypeId × Value → H) :
    ReturnsInHanded {} Tryd.checked os 10 .any (fun w args => (Rows.maintlogReportsSpec.pre enc Tryd.prog Tryd.f10 [] false w args ∧ laidMetH Tryd.prog laidU w) ∧ sizedMet enc Tryd.prog Tryd.f10 (OpenSpec.ofChange Rows.maintlogReportsSpec) false w args) (Rows.maintlogReportsSpec.post enc Tryd.prog Tryd.f10 false true false false) := by
  refine returnsInHanded_of_change_and (C := Tryd.checked) (X := fun w _ => laidMetH Tryd.prog laidU w) (fun _ _ _ hh h => h.of_heap hh) Tryd.own started (by kernel_rfl) Tryd.func10
    (ChangeSpec.witness_shaped (enc := enc) (C := Tryd.checked) (os := os) (X := fun w _ => laidMetH Tryd.prog laidU w) false (World.doorLaid Tryd.prog 400 os) #[.slice none 0 0] 8 rfl (World.shaped_of_RefB (by kernel_rfl) (by kernel_rfl)) (by kernel_rfl) (by kernel_rfl) (by kernel_rfl) (door_met os _)) ?_
  intro W base args ds gs before hval0 hW hcnd hsz0 hL _
  have hval : ∀ (j : Nat) t v, Tryd.f10.params[j]? = some t → args[j]? = some v → Value.okWide Tryd.prog W .any base t v := hval0
  have hW' := hW
  obtain ⟨p, q, hA0, hV, rfl, hfz, hnd⟩ := hW
  have hA : DataW.TrodAll enc Tryd.prog W 0 (fun _ => true) true Tryd.f10.params.toList args.toList ds p := hA0
  have hA1 := hA
  rw [Tryd.params10] at hA hval
  obtain ⟨v0, vs0, d0, ds0, p0, q0, hargs, rfl, rfl, h0, r0⟩ := trodAll_cons hA
  obtain ⟨rfl, rfl, rfl⟩ := trodAll_nil r0
  obtain rfl : args = #[v0] := by cases args; simp_all
  obtain ⟨rfl, rfl⟩ := trodVars_none hV
  have hsz : ∀ m ∈ DataW.weightsEach Tryd.prog [34] [d0], m ≤ reachBytes := fun m hm => by
    have h9 : (DataW.weightsEach Tryd.prog (Tryd.f10.params.toList ++ []) ([d0] ++ [])).all (· ≤ reachBytes) = true := hsz0
    rw [Tryd.params10, List.append_nil, List.append_nil] at h9
    have := List.all_eq_true.1 h9 m hm
    simpa using this
  obtain ⟨B0, n0, e0, rfl⟩ := okWide_slice Tryd.underlying34 (hval 0 34 v0 rfl rfl)
  obtain ⟨f0, g0⟩ := h0
  obtain ⟨x0, ⟨A0, c0, z0, fl0⟩, k0⟩ := (opens_sized 32 (by kernel_rfl) opH42 Tryd.underlying34 (by kernel_rfl) (by kernel_rfl)) g0 (fun m hm => hsz m (DataW.weights_mem_each (j := 0) rfl rfl m hm))
  obtain ⟨rfl, rfl, rfl⟩ : B0 = A0 ∧ n0 = x0.length ∧ e0 = c0 := by simpa [Value.cells] using z0
  simp only [List.append_nil] at hW' hA1
  have hrun := law_of_fok fo10 (t := x0) ((reports_law fl0)) [vC (.ro (.p (.i .i64) (.p (.i .u8) (.p (.i .i64) (.i .u64)))) x0 false)] rfl (W := W) (gi_of hL) (vs := [_]) (⟨⟨B0, e0, rfl, Arr.toM fl0 (.refl _)⟩, trivial⟩) rfl
  refine hrun.mono fun e W' ⟨he, hg⟩ => ?_
  subst he
  exact ⟨_, rfl, law_post Tryd.laidOut (by intro t ht; simp only [Tryd.params10] at ht; revert t; decide +kernel) rfl rfl Tryd.underlying4 rfl hW' hA1 hg⟩
theorem maintlogReports_holds : Rows.MaintlogReportsSaid :=
  OpenClaim.holds_of_wide 10 Tryd.f10 rfl rfl rfl rfl rfl rfl rfl ⟨rfl, rfl, rfl, rfl, rfl⟩ rfl rfl rfl rfl rfl (by kernel_rfl) Tryd.func10 (by kernel_rfl)
    (of_decide_eq_true (by kernel_rfl)) (by unfold Func.isWrapper; first | (rw [if_pos (by decide +kernel)]; kernel_rfl) | (rw [if_neg (by decide +kernel)]; exact ⟨rfl, rfl⟩))
    (fun os started H enc _ => maintlogReports_lifted os started H enc)
theorem maintlogReports_card : Rows.MaintlogReportsCardSaid :=
  Claim7.holds_tied_plain_at .later [] [.data, .data, .data] true (true, "832b923533147a2e716e87db4360d74f12a86c126f950c923bbe595a342cd697") false
    maintlogReports_holds (fun _ h => by cases h) (by kernel_rfl) (fun _ h => by cases h) maintlogReports_row_tie rfl ⟨rfl, rfl⟩ (by kernel_rfl) rfl
    (fun f fn hf hfn => by
      obtain rfl : f = 10 := Option.some.inj ((show Tryd.prog.funcNamed Tryd.f10.name = some 10 by kernel_rfl).symm.trans hf) |>.symm
      obtain rfl : fn = Tryd.f10 := (Option.some.inj (Tryd.func10.symm.trans hfn)).symm
      exact ⟨by kernel_rfl, fun j t ht => by
        rw [Tryd.params10] at ht
        have hm : t ∈ [34] := by simpa using Array.mem_of_getElem? ht
        have hall : ([34].all fun u => !Tryd.prog.wantsStandIn u) = true := by kernel_rfl
        exact (show Tryd.prog.wantsStandIn t = false by simpa using List.all_eq_true.1 hall t hm)⟩)
    (by kernel_rfl)
end Go.Proofs.YtnkmijidneibnaaDoor
