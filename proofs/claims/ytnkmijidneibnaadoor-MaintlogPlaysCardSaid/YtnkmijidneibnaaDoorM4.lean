/-
MaintlogPlays returns true for every input. Conditions: none.
-/
import Derived.Test.YtnkmijidneibnaaDoorM3
import Derived.Test.YtnkmijidneibnaaDoorRows
import Derived.LaidMore
import Derived.Stop.Joined
import Derived.Stop.LaidErr
import Derived.Test.YtnkmijidneibnaaDoorTie
import Derived.Test.YtnkmijidneibnaaDoorCards
import Derived.SevenTiedAt
namespace Go.Proofs.YtnkmijidneibnaaDoor
set_option linter.unusedVariables false
set_option linter.unusedSimpArgs false
set_option maxRecDepth 100000
open Go.RowKit
noncomputable section
def o25_s0 : Sch := ⟨[(0, .v (.c (.i .i64))), (2, .v (.c (.ptr 0 0))), (9, .v (.c (.b)))], [.cells 56 [.ic .i64 (0), .cst (.slice none 0 0), .b, .ic .i64 (0), .b]]⟩
def p25 : Sch := ⟨[(0, .v (.c (.i .i64)))], []⟩
def r25 : List Sch := [⟨[(0, .tup [.agg [.i .i64, .own 0, .b, .ic .i64 (0), .b], .c (.i .i64)])], [.row .y 5]⟩]
def o25 (a0 : Int) : Option (Int × Bool × Bool × Int × List UInt8) :=
 (bd (α := (Int × Bool × Bool × Bool)) (cnd (decide (a0 < (2 : Int))) (some (a0, true, false, false)) (some (a0, (decide (a0 > (64 : Int))), false, false))) (fun v1 => (cnd v1.2.1 (some ((0 : Int), false, false, (1 : Int), ([] : List UInt8))) (gd (decide ((0 : Int) ≤ (IntKind.wrap .i64 (v1.1 * (30 : Int))) ∧ (IntKind.wrap .i64 (v1.1 * (30 : Int))) * (1 : Int) ≤ (140737488355328 : Int))) (some (v1.1, false, false, (0 : Int), (List.replicate (IntKind.wrap .i64 (v1.1 * (30 : Int))).toNat (u8 (0 : Int)))))))))
theorem e25 (t : Int) : evF (stpT Tryd.prog T38 K38) Tryd.f25 p25 r25 (.s .d (.s (.s (.j false [o25_s0] .d) .d) .d)) t = (o25 t) := by kernel_rfl
theorem fo25 : FOk Tryd.prog 25 ⟨p25, r25, fun t => (o25 t)⟩ := FOk.run_eq (evF_ok (h := (.s .d (.s (.s (.j false [o25_s0] .d) .d) .d))) (by kernel_rfl) (by kernel_rfl) (by kernel_rfl)) e25
def T39 : Tbl := (25, ⟨p25, r25, fun t => (o25 t)⟩) :: T38
theorem K39 : TOk Tryd.prog T39 := .cons K38 fo25
def o72_s0 : Sch := ⟨[(3, .v (.c (.i .u64))), (6, .v (.c (.ro .y false))), (7, .v (.c (.i .i64))), (8, .v (.c (.i .i64)))], []⟩
def p72 : Sch := ⟨[(0, .v (.c (.ro .y false)))], []⟩
def r72 : List Sch := [⟨[(0, .v (.c (.i .u64)))], []⟩]
def o72 (a0 : List UInt8) : Option Int :=
 (loopO (σ := Int × List UInt8 × Int × Int) fuelN (fun (v2 : Int × List UInt8 × Int × Int) => (cnd (decide (v2.2.2.2 < v2.2.2.1)) (gd (decide ((0 : Int) ≤ v2.2.2.2 ∧ v2.2.2.2 < ((v2.2.1.length : Nat) : Int))) (gd (decide ((0 : Int) ≤ (IntKind.wrap .i64 ((8 : Int) * v2.2.2.2)))) (some (Ctl.go ((lorK .u64 v2.1 (shlK .u64 (IntKind.wrap .u64 ((UInt8.toNat (List.getD v2.2.1 v2.2.2.2.toNat (0 : UInt8)) : Nat) : Int)) (IntKind.wrap .i64 ((8 : Int) * v2.2.2.2)))), v2.2.1, v2.2.2.1, (IntKind.wrap .i64 (v2.2.2.2 + (1 : Int)))))))) (dnO (some v2.1)))) ((0 : Int), a0, ((a0.length : Nat) : Int), (0 : Int)))
theorem e72 (t : List UInt8) : evF (stpT Tryd.prog T39 K39) Tryd.f72 p72 r72 (.s .d (.s .d (.s (.s .d (.b (.l o72_s0 .d))) .d))) t = (o72 t) := by kernel_rfl
theorem fo72 : FOk Tryd.prog 72 ⟨p72, r72, fun t => (o72 t)⟩ := FOk.run_eq (evF_ok (h := (.s .d (.s .d (.s (.s .d (.b (.l o72_s0 .d))) .d)))) (by kernel_rfl) (by kernel_rfl) (by kernel_rfl)) e72
def T40 : Tbl := (72, ⟨p72, r72, fun t => (o72 t)⟩) :: T39
theorem K40 : TOk Tryd.prog T40 := .cons K39 fo72
def o73_s0 : Sch := ⟨[(0, .v (.c (.i .u64))), (1, .v (.c (.i .i64))), (5, .v (.c (.own 0))), (6, .v (.c (.i .i64)))], [.row .y 5]⟩
def p73 : Sch := ⟨[(0, .v (.c (.i .u64))), (1, .v (.c (.i .i64)))], []⟩
def r73 : List Sch := [⟨[(0, .v (.c (.own 0)))], [.row .y 5]⟩]
def o73 (a0 : Int) (a1 : Int) : Option (List UInt8) :=
 (loopO (σ := Int × Int × Int × List UInt8) fuelN (fun (v2 : Int × Int × Int × List UInt8) => (cnd (decide (v2.2.2.1 < v2.2.1)) (gd (decide ((0 : Int) ≤ (IntKind.wrap .i64 ((8 : Int) * v2.2.2.1)))) (gd (decide ((v2.2.2.2.length + ([(u8 (IntKind.wrap .u8 (shrK .u64 v2.1 (IntKind.wrap .i64 ((8 : Int) * v2.2.2.1)))))] : List UInt8).length) * 1 ≤ 140737488355328)) (some (Ctl.go (v2.1, v2.2.1, (IntKind.wrap .i64 (v2.2.2.1 + (1 : Int))), (v2.2.2.2 ++ ([(u8 (IntKind.wrap .u8 (shrK .u64 v2.1 (IntKind.wrap .i64 ((8 : Int) * v2.2.2.1)))))] : List UInt8))))))) (dnO (some v2.2.2.2)))) (a0, a1, (0 : Int), ([] : List UInt8)))
theorem e73 (t : Int × Int) : evF (stpT Tryd.prog T40 K40) Tryd.f73 p73 r73 (.s .d (.s .d (.s (.s .d (.b (.l o73_s0 .d))) .d))) t = (o73 t.1 t.2) := by kernel_rfl
theorem fo73 : FOk Tryd.prog 73 ⟨p73, r73, fun t => (o73 t.1 t.2)⟩ := FOk.run_eq (evF_ok (h := (.s .d (.s .d (.s (.s .d (.b (.l o73_s0 .d))) .d)))) (by kernel_rfl) (by kernel_rfl) (by kernel_rfl)) e73
def T41 : Tbl := (73, ⟨p73, r73, fun t => (o73 t.1 t.2)⟩) :: T40
theorem K41 : TOk Tryd.prog T41 := .cons K40 fo73
def o105_s0 : Sch := ⟨[(0, .v (.c (.i .u32))), (5, .v (.c (.i .i64)))], []⟩
def p105 : Sch := ⟨[(0, .v (.c (.i .u32))), (1, .v (.c (.i .u8)))], []⟩
def r105 : List Sch := [⟨[(0, .v (.c (.i .u32)))], []⟩]
def o105 (a0 : Int) (a1 : Int) : Option Int :=
 (loopO (σ := Int × Int) fuelN (fun (v2 : Int × Int) => (cnd (decide (v2.2 < (8 : Int))) (cnd ((landK .u32 v2.1 (1 : Int)) == (1 : Int)) (some (Ctl.go ((lxorK .u32 (shrK .u32 v2.1 (1 : Int)) (3988292384 : Int)), (IntKind.wrap .i64 (v2.2 + (1 : Int)))))) (some (Ctl.go ((shrK .u32 v2.1 (1 : Int)), (IntKind.wrap .i64 (v2.2 + (1 : Int))))))) (dnO (some v2.1)))) ((lxorK .u32 a0 (IntKind.wrap .u32 a1)), (0 : Int)))
theorem e105 (t : Int × Int) : evF (stpT Tryd.prog T41 K41) Tryd.f105 p105 r105 (.s .d (.s .d (.s (.s .d (.b (.l o105_s0 .d))) .d))) t = (o105 t.1 t.2) := by kernel_rfl
theorem fo105 : FOk Tryd.prog 105 ⟨p105, r105, fun t => (o105 t.1 t.2)⟩ := FOk.run_eq (evF_ok (h := (.s .d (.s .d (.s (.s .d (.b (.l o105_s0 .d))) .d)))) (by kernel_rfl) (by kernel_rfl) (by kernel_rfl)) e105
def T42 : Tbl := (105, ⟨p105, r105, fun t => (o105 t.1 t.2)⟩) :: T41
theorem K42 : TOk Tryd.prog T42 := .cons K41 fo105
def o93_s0 : Sch := ⟨[(5, .v (.c (.i .u32))), (10, .v (.c (.ro .y false))), (11, .v (.c (.i .i64))), (12, .v (.c (.i .i64)))], []⟩
def p93 : Sch := ⟨[(0, .v (.c (.i .u32))), (1, .v (.c (.ro .y false)))], []⟩
def r93 : List Sch := [⟨[(0, .v (.c (.i .u32)))], []⟩]
def o93 (a0 : Int) (a1 : List UInt8) : Option Int :=
 (loopO (σ := Int × List UInt8 × Int × Int) fuelN (fun (v3 : Int × List UInt8 × Int × Int) => (cnd (decide (v3.2.2.2 < v3.2.2.1)) (gd (decide ((0 : Int) ≤ v3.2.2.2 ∧ v3.2.2.2 < ((v3.2.1.length : Nat) : Int))) (bd (α := Int) (o105 v3.1 ((UInt8.toNat (List.getD v3.2.1 v3.2.2.2.toNat (0 : UInt8)) : Nat) : Int)) (fun v4 => (some (Ctl.go (v4, v3.2.1, v3.2.2.1, (IntKind.wrap .i64 (v3.2.2.2 + (1 : Int))))))))) (dnO (some (lxorK .u32 (4294967295 : Int) v3.1))))) ((lxorK .u32 (4294967295 : Int) a0), a1, ((a1.length : Nat) : Int), (0 : Int)))
theorem e93 (t : Int × List UInt8) : evF (stpT Tryd.prog T42 K42) Tryd.f93 p93 r93 (.s .d (.s .d (.s (.s .d (.b (.l o93_s0 .d))) .d))) t = (o93 t.1 t.2) := by kernel_rfl
theorem fo93 : FOk Tryd.prog 93 ⟨p93, r93, fun t => (o93 t.1 t.2)⟩ := FOk.run_eq (evF_ok (h := (.s .d (.s .d (.s (.s .d (.b (.l o93_s0 .d))) .d)))) (by kernel_rfl) (by kernel_rfl) (by kernel_rfl)) e93
def T43 : Tbl := (93, ⟨p93, r93, fun t => (o93 t.1 t.2)⟩) :: T42
theorem K43 : TOk Tryd.prog T43 := .cons K42 fo93
def p74 : Sch := ⟨[(0, .v (.c (.ro .y false)))], []⟩
def r74 : List Sch := [⟨[(0, .v (.c (.i .u32)))], []⟩]
def o74 (a0 : List UInt8) : Option Int :=
 (bd (α := Int) (o93 (0 : Int) a0) (fun v1 => (some v1)))
theorem e74 (t : List UInt8) : evF (stpT Tryd.prog T43 K43) Tryd.f74 p74 r74 .d t = (o74 t) := by kernel_rfl
theorem fo74 : FOk Tryd.prog 74 ⟨p74, r74, fun t => (o74 t)⟩ := FOk.run_eq (evF_ok (h := .d) (by kernel_rfl) (by kernel_rfl) (by kernel_rfl)) e74
def T44 : Tbl := (74, ⟨p74, r74, fun t => (o74 t)⟩) :: T43
theorem K44 : TOk Tryd.prog T44 := .cons K43 fo74
def p52 : Sch := ⟨[(0, .v (.agg [.i .i64, .i .u8, .i .i64, .i .u64]))], []⟩
def r52 : List Sch := [⟨[(0, .v (.c (.own 0)))], [.row .y 5]⟩]
def o52 (a0 : Int) (a1 : Int) (a2 : Int) (a3 : Int) : Option (List UInt8) :=
 (bd (α := (List UInt8)) (o73 a3 (8 : Int)) (fun v1 => (bd (α := (List UInt8)) (o73 (IntKind.wrap .u64 a2) (8 : Int)) (fun v2 => (gd (decide ((v1.length + v2.length) * 1 ≤ 140737488355328)) (bd (α := (List UInt8)) (o73 (IntKind.wrap .u64 a0) (8 : Int)) (fun v3 => (gd (decide (((v1 ++ v2).length + v3.length) * 1 ≤ 140737488355328)) (gd (decide ((((v1 ++ v2) ++ v3).length + ([(u8 a1)] : List UInt8).length) * 1 ≤ 140737488355328)) (bd (α := Int) (o74 (((v1 ++ v2) ++ v3) ++ ([(u8 a1)] : List UInt8))) (fun v4 => (bd (α := (List UInt8)) (o73 (IntKind.wrap .u64 v4) (4 : Int)) (fun v5 => (gd (decide (((((v1 ++ v2) ++ v3) ++ ([(u8 a1)] : List UInt8)).length + v5.length) * 1 ≤ 140737488355328)) (some ((((v1 ++ v2) ++ v3) ++ ([(u8 a1)] : List UInt8)) ++ v5))))))))))))))))
theorem e52 (t : Int × Int × Int × Int) : evF (stpT Tryd.prog T44 K44) Tryd.f52 p52 r52 .d t = (o52 t.1 t.2.1 t.2.2.1 t.2.2.2) := by kernel_rfl
theorem fo52 : FOk Tryd.prog 52 ⟨p52, r52, fun t => (o52 t.1 t.2.1 t.2.2.1 t.2.2.2)⟩ := FOk.run_eq (evF_ok (h := .d) (by kernel_rfl) (by kernel_rfl) (by kernel_rfl)) e52
def T45 : Tbl := (52, ⟨p52, r52, fun t => (o52 t.1 t.2.1 t.2.2.1 t.2.2.2)⟩) :: T44
theorem K45 : TOk Tryd.prog T45 := .cons K44 fo52
def o49_s0 : Sch := ⟨[(4, .v (.c (.ptr 0 0))), (7, .v (.c (.ptr 1 0))), (8, .v (.c (.b)))], [.cells 42 [.ic .i64 (0), .ic .u8 (0), .ic .i64 (0), .ic .u64 (0)], .cells 42 [.i .i64, .i .u8, .i .i64, .i .u64]]⟩
def p49 : Sch := ⟨[(0, .v (.agg [.i .i64, .ro .y false, .b, .i .i64, .b])), (1, .v (.c (.i .i64)))], []⟩
def r49 : List Sch := [⟨[(0, .tup [.agg [.i .i64, .i .u8, .i .i64, .i .u64], .c (.b)])], []⟩]
def o49 (a0 : Int) (a1 : List UInt8) (a2 : Bool) (a3 : Int) (a4 : Bool) (a5 : Int) : Option (Int × Int × Int × Int × Bool) :=
 (gd (decide ((0 : Int) ≤ (IntKind.wrap .i64 (a5 * (30 : Int))) ∧ (IntKind.wrap .i64 (a5 * (30 : Int))) ≤ (IntKind.wrap .i64 ((IntKind.wrap .i64 (a5 + (1 : Int))) * (30 : Int))) ∧ (IntKind.wrap .i64 ((IntKind.wrap .i64 (a5 + (1 : Int))) * (30 : Int))) ≤ ((a1.length : Nat) : Int))) (gd (decide ((0 : Int) ≤ (1 : Int) ∧ (1 : Int) ≤ (9 : Int) ∧ (9 : Int) ≤ (((List.take ((IntKind.wrap .i64 ((IntKind.wrap .i64 (a5 + (1 : Int))) * (30 : Int))).toNat - (IntKind.wrap .i64 (a5 * (30 : Int))).toNat) (List.drop (IntKind.wrap .i64 (a5 * (30 : Int))).toNat a1)).length : Nat) : Int))) (bd (α := Int) (o72 (List.take ((9 : Int).toNat - (1 : Int).toNat) (List.drop (1 : Int).toNat (List.take ((IntKind.wrap .i64 ((IntKind.wrap .i64 (a5 + (1 : Int))) * (30 : Int))).toNat - (IntKind.wrap .i64 (a5 * (30 : Int))).toNat) (List.drop (IntKind.wrap .i64 (a5 * (30 : Int))).toNat a1))))) (fun v4 => (gd (decide ((0 : Int) ≤ (9 : Int) ∧ (9 : Int) ≤ (17 : Int) ∧ (17 : Int) ≤ (((List.take ((IntKind.wrap .i64 ((IntKind.wrap .i64 (a5 + (1 : Int))) * (30 : Int))).toNat - (IntKind.wrap .i64 (a5 * (30 : Int))).toNat) (List.drop (IntKind.wrap .i64 (a5 * (30 : Int))).toNat a1)).length : Nat) : Int))) (bd (α := Int) (o72 (List.take ((17 : Int).toNat - (9 : Int).toNat) (List.drop (9 : Int).toNat (List.take ((IntKind.wrap .i64 ((IntKind.wrap .i64 (a5 + (1 : Int))) * (30 : Int))).toNat - (IntKind.wrap .i64 (a5 * (30 : Int))).toNat) (List.drop (IntKind.wrap .i64 (a5 * (30 : Int))).toNat a1))))) (fun v5 => (gd (decide ((0 : Int) ≤ (17 : Int) ∧ (17 : Int) ≤ (25 : Int) ∧ (25 : Int) ≤ (((List.take ((IntKind.wrap .i64 ((IntKind.wrap .i64 (a5 + (1 : Int))) * (30 : Int))).toNat - (IntKind.wrap .i64 (a5 * (30 : Int))).toNat) (List.drop (IntKind.wrap .i64 (a5 * (30 : Int))).toNat a1)).length : Nat) : Int))) (bd (α := Int) (o72 (List.take ((25 : Int).toNat - (17 : Int).toNat) (List.drop (17 : Int).toNat (List.take ((IntKind.wrap .i64 ((IntKind.wrap .i64 (a5 + (1 : Int))) * (30 : Int))).toNat - (IntKind.wrap .i64 (a5 * (30 : Int))).toNat) (List.drop (IntKind.wrap .i64 (a5 * (30 : Int))).toNat a1))))) (fun v6 => (gd (decide ((0 : Int) ≤ (25 : Int) ∧ (25 : Int) < (((List.take ((IntKind.wrap .i64 ((IntKind.wrap .i64 (a5 + (1 : Int))) * (30 : Int))).toNat - (IntKind.wrap .i64 (a5 * (30 : Int))).toNat) (List.drop (IntKind.wrap .i64 (a5 * (30 : Int))).toNat a1)).length : Nat) : Int))) (bd (α := (Bool × Int × Int × Int × Int)) (gd (decide ((0 : Int) ≤ (0 : Int) ∧ (0 : Int) < (((List.take ((IntKind.wrap .i64 ((IntKind.wrap .i64 (a5 + (1 : Int))) * (30 : Int))).toNat - (IntKind.wrap .i64 (a5 * (30 : Int))).toNat) (List.drop (IntKind.wrap .i64 (a5 * (30 : Int))).toNat a1)).length : Nat) : Int))) (cnd (((UInt8.toNat (List.getD (List.take ((IntKind.wrap .i64 ((IntKind.wrap .i64 (a5 + (1 : Int))) * (30 : Int))).toNat - (IntKind.wrap .i64 (a5 * (30 : Int))).toNat) (List.drop (IntKind.wrap .i64 (a5 * (30 : Int))).toNat a1)) (0 : Int).toNat (0 : UInt8)) : Nat) : Int) == (195 : Int)) (gd (decide ((0 : Int) ≤ (1 : Int) ∧ (1 : Int) ≤ (30 : Int) ∧ (30 : Int) ≤ (((List.take ((IntKind.wrap .i64 ((IntKind.wrap .i64 (a5 + (1 : Int))) * (30 : Int))).toNat - (IntKind.wrap .i64 (a5 * (30 : Int))).toNat) (List.drop (IntKind.wrap .i64 (a5 * (30 : Int))).toNat a1)).length : Nat) : Int))) (bd (α := (List UInt8)) (o52 (IntKind.wrap .i64 v6) ((UInt8.toNat (List.getD (List.take ((IntKind.wrap .i64 ((IntKind.wrap .i64 (a5 + (1 : Int))) * (30 : Int))).toNat - (IntKind.wrap .i64 (a5 * (30 : Int))).toNat) (List.drop (IntKind.wrap .i64 (a5 * (30 : Int))).toNat a1)) (25 : Int).toNat (0 : UInt8)) : Nat) : Int) (IntKind.wrap .i64 v5) v4) (fun v8 => (cnd ((List.take ((30 : Int).toNat - (1 : Int).toNat) (List.drop (1 : Int).toNat (List.take ((IntKind.wrap .i64 ((IntKind.wrap .i64 (a5 + (1 : Int))) * (30 : Int))).toNat - (IntKind.wrap .i64 (a5 * (30 : Int))).toNat) (List.drop (IntKind.wrap .i64 (a5 * (30 : Int))).toNat a1)))) == v8) (cnd (decide (((UInt8.toNat (List.getD (List.take ((IntKind.wrap .i64 ((IntKind.wrap .i64 (a5 + (1 : Int))) * (30 : Int))).toNat - (IntKind.wrap .i64 (a5 * (30 : Int))).toNat) (List.drop (IntKind.wrap .i64 (a5 * (30 : Int))).toNat a1)) (25 : Int).toNat (0 : UInt8)) : Nat) : Int) ≥ (1 : Int))) (cnd (decide (((UInt8.toNat (List.getD (List.take ((IntKind.wrap .i64 ((IntKind.wrap .i64 (a5 + (1 : Int))) * (30 : Int))).toNat - (IntKind.wrap .i64 (a5 * (30 : Int))).toNat) (List.drop (IntKind.wrap .i64 (a5 * (30 : Int))).toNat a1)) (25 : Int).toNat (0 : UInt8)) : Nat) : Int) ≤ (8 : Int))) (cnd (decide (v4 ≥ (1 : Int))) (cnd (decide (v4 ≤ (4611686018427387904 : Int))) (gd (decide ((IntKind.wrap .u64 a0) ≠ 0)) (some (((Int.tmod v4 (IntKind.wrap .u64 a0)) == (IntKind.wrap .u64 a5)), (IntKind.wrap .i64 v6), ((UInt8.toNat (List.getD (List.take ((IntKind.wrap .i64 ((IntKind.wrap .i64 (a5 + (1 : Int))) * (30 : Int))).toNat - (IntKind.wrap .i64 (a5 * (30 : Int))).toNat) (List.drop (IntKind.wrap .i64 (a5 * (30 : Int))).toNat a1)) (25 : Int).toNat (0 : UInt8)) : Nat) : Int), (IntKind.wrap .i64 v5), v4))) (some (false, (IntKind.wrap .i64 v6), ((UInt8.toNat (List.getD (List.take ((IntKind.wrap .i64 ((IntKind.wrap .i64 (a5 + (1 : Int))) * (30 : Int))).toNat - (IntKind.wrap .i64 (a5 * (30 : Int))).toNat) (List.drop (IntKind.wrap .i64 (a5 * (30 : Int))).toNat a1)) (25 : Int).toNat (0 : UInt8)) : Nat) : Int), (IntKind.wrap .i64 v5), v4))) (some (false, (IntKind.wrap .i64 v6), ((UInt8.toNat (List.getD (List.take ((IntKind.wrap .i64 ((IntKind.wrap .i64 (a5 + (1 : Int))) * (30 : Int))).toNat - (IntKind.wrap .i64 (a5 * (30 : Int))).toNat) (List.drop (IntKind.wrap .i64 (a5 * (30 : Int))).toNat a1)) (25 : Int).toNat (0 : UInt8)) : Nat) : Int), (IntKind.wrap .i64 v5), v4))) (some (false, (IntKind.wrap .i64 v6), ((UInt8.toNat (List.getD (List.take ((IntKind.wrap .i64 ((IntKind.wrap .i64 (a5 + (1 : Int))) * (30 : Int))).toNat - (IntKind.wrap .i64 (a5 * (30 : Int))).toNat) (List.drop (IntKind.wrap .i64 (a5 * (30 : Int))).toNat a1)) (25 : Int).toNat (0 : UInt8)) : Nat) : Int), (IntKind.wrap .i64 v5), v4))) (some (false, (IntKind.wrap .i64 v6), ((UInt8.toNat (List.getD (List.take ((IntKind.wrap .i64 ((IntKind.wrap .i64 (a5 + (1 : Int))) * (30 : Int))).toNat - (IntKind.wrap .i64 (a5 * (30 : Int))).toNat) (List.drop (IntKind.wrap .i64 (a5 * (30 : Int))).toNat a1)) (25 : Int).toNat (0 : UInt8)) : Nat) : Int), (IntKind.wrap .i64 v5), v4))) (some (false, (IntKind.wrap .i64 v6), ((UInt8.toNat (List.getD (List.take ((IntKind.wrap .i64 ((IntKind.wrap .i64 (a5 + (1 : Int))) * (30 : Int))).toNat - (IntKind.wrap .i64 (a5 * (30 : Int))).toNat) (List.drop (IntKind.wrap .i64 (a5 * (30 : Int))).toNat a1)) (25 : Int).toNat (0 : UInt8)) : Nat) : Int), (IntKind.wrap .i64 v5), v4)))))) (some (false, (IntKind.wrap .i64 v6), ((UInt8.toNat (List.getD (List.take ((IntKind.wrap .i64 ((IntKind.wrap .i64 (a5 + (1 : Int))) * (30 : Int))).toNat - (IntKind.wrap .i64 (a5 * (30 : Int))).toNat) (List.drop (IntKind.wrap .i64 (a5 * (30 : Int))).toNat a1)) (25 : Int).toNat (0 : UInt8)) : Nat) : Int), (IntKind.wrap .i64 v5), v4)))) (fun v9 => (some (v9.2.1, v9.2.2.1, v9.2.2.2.1, v9.2.2.2.2, v9.1)))))))))))))))
theorem e49 (t : Int × List UInt8 × Bool × Int × Bool × Int) : evF (stpT Tryd.prog T45 K45) Tryd.f49 p49 r49 (.s .d (.s .d (.s (.r 1) (.s (.j false [o49_s0] (.r 1)) .d)))) t = (o49 t.1 t.2.1 t.2.2.1 t.2.2.2.1 t.2.2.2.2.1 t.2.2.2.2.2) := by kernel_rfl
theorem fo49 : FOk Tryd.prog 49 ⟨p49, r49, fun t => (o49 t.1 t.2.1 t.2.2.1 t.2.2.2.1 t.2.2.2.2.1 t.2.2.2.2.2)⟩ := FOk.run_eq (evF_ok (h := (.s .d (.s .d (.s (.r 1) (.s (.j false [o49_s0] (.r 1)) .d))))) (by kernel_rfl) (by kernel_rfl) (by kernel_rfl)) e49
def T46 : Tbl := (49, ⟨p49, r49, fun t => (o49 t.1 t.2.1 t.2.2.1 t.2.2.2.1 t.2.2.2.2.1 t.2.2.2.2.2)⟩) :: T45
theorem K46 : TOk Tryd.prog T46 := .cons K45 fo49
def o50_s0 : Sch := ⟨[(0, .v (.c (.cst (.slice none 0 0)))), (3, .v (.c (.ptr 0 0))), (5, .v (.c (.ic .i64 (0))))], [.cells 42 [.i .i64, .i .u8, .i .i64, .i .u64]]⟩
def p50 : Sch := ⟨[(0, .v (.c (.cst (.slice none 0 0)))), (1, .v (.agg [.i .i64, .i .u8, .i .i64, .i .u64]))], []⟩
def r50 : List Sch := [⟨[(0, .v (.c (.own 0)))], [.row (.p (.i .i64) (.p (.i .u8) (.p (.i .i64) (.i .u64)))) 42]⟩]
def o50 (a0 : Int) (a1 : Int) (a2 : Int) (a3 : Int) : Option (List (Int × Int × Int × Int)) :=
 (loopO (σ := Int × Int × Int × Int) fuelN (fun (v1 : Int × Int × Int × Int) => (dnO (gd (decide ((0 : Int) ≤ (0 : Int) ∧ (0 : Int) ≤ ((0 : Nat) : Int))) (gd (decide ((([] : List (Int × Int × Int × Int)).length + ([] : List (Int × Int × Int × Int)).length) * 32 ≤ 140737488355328)) (gd (decide (((([] : List (Int × Int × Int × Int)) ++ ([] : List (Int × Int × Int × Int))).length + ([(v1.1, (v1.2.1, (v1.2.2.1, v1.2.2.2)))] : List (Int × Int × Int × Int)).length) * 32 ≤ 140737488355328)) (gd (decide ((0 : Int) ≤ (0 : Int) ∧ (0 : Int) ≤ ((0 : Nat) : Int))) (gd (decide ((((([] : List (Int × Int × Int × Int)) ++ ([] : List (Int × Int × Int × Int))) ++ ([(v1.1, (v1.2.1, (v1.2.2.1, v1.2.2.2)))] : List (Int × Int × Int × Int))).length + ([] : List (Int × Int × Int × Int)).length) * 32 ≤ 140737488355328)) (some (((([] : List (Int × Int × Int × Int)) ++ ([] : List (Int × Int × Int × Int))) ++ ([(v1.1, (v1.2.1, (v1.2.2.1, v1.2.2.2)))] : List (Int × Int × Int × Int))) ++ ([] : List (Int × Int × Int × Int))))))))))) (a0, a1, a2, a3))
theorem e50 (t : Int × Int × Int × Int) : evF (stpT Tryd.prog T46 K46) Tryd.f50 p50 r50 (.s .d (.s .d (.s (.b (.l o50_s0 .d)) .d))) t = (o50 t.1 t.2.1 t.2.2.1 t.2.2.2) := by kernel_rfl
theorem fo50 : FOk Tryd.prog 50 ⟨p50, r50, fun t => (o50 t.1 t.2.1 t.2.2.1 t.2.2.2)⟩ := FOk.run_eq (evF_ok (h := (.s .d (.s .d (.s (.b (.l o50_s0 .d)) .d)))) (by kernel_rfl) (by kernel_rfl) (by kernel_rfl)) e50
def T47 : Tbl := (50, ⟨p50, r50, fun t => (o50 t.1 t.2.1 t.2.2.1 t.2.2.2)⟩) :: T46
theorem K47 : TOk Tryd.prog T47 := .cons K46 fo50
def o50v1_s0 : Sch := ⟨[(0, .v (.c (.ro (.p (.i .i64) (.p (.i .u8) (.p (.i .i64) (.i .u64)))) false))), (3, .v (.c (.ptr 0 0))), (5, .v (.c (.i .i64))), (20, .v (.c (.b)))], [.cells 42 [.i .i64, .i .u8, .i .i64, .i .u64]]⟩
def o50v1_s1 : Sch := ⟨[(0, .v (.c (.ro (.p (.i .i64) (.p (.i .u8) (.p (.i .i64) (.i .u64)))) false))), (3, .v (.c (.ptr 0 0))), (5, .v (.c (.i .i64)))], [.cells 42 [.i .i64, .i .u8, .i .i64, .i .u64]]⟩
def p50v1 : Sch := ⟨[(0, .v (.c (.ro (.p (.i .i64) (.p (.i .u8) (.p (.i .i64) (.i .u64)))) false))), (1, .v (.agg [.i .i64, .i .u8, .i .i64, .i .u64]))], []⟩
def r50v1 : List Sch := [⟨[(0, .v (.c (.own 0)))], [.row (.p (.i .i64) (.p (.i .u8) (.p (.i .i64) (.i .u64)))) 42]⟩]
def o50v1 (a0 : List (Int × Int × Int × Int)) (a1 : Int) (a2 : Int) (a3 : Int) (a4 : Int) : Option (List (Int × Int × Int × Int)) :=
 (loopO (σ := List (Int × Int × Int × Int) × Int × Int × Int × Int × Int) fuelN (fun (v3 : List (Int × Int × Int × Int) × Int × Int × Int × Int × Int) => (bd (α := (List (Int × Int × Int × Int) × Int × Bool × Int × Int × Int × Int)) (cnd (decide (v3.2.1 < ((v3.1.length : Nat) : Int))) (gd (decide ((0 : Int) ≤ v3.2.1 ∧ v3.2.1 < ((v3.1.length : Nat) : Int))) (some (v3.1, v3.2.1, (decide ((((List.getD v3.1 v3.2.1.toNat ((0 : Int), ((0 : Int), ((0 : Int), (0 : Int))))).2).2).2 < v3.2.2.2.2.2)), v3.2.2.1, v3.2.2.2.1, v3.2.2.2.2.1, v3.2.2.2.2.2))) (some (v3.1, v3.2.1, false, v3.2.2.1, v3.2.2.2.1, v3.2.2.2.2.1, v3.2.2.2.2.2))) (fun v4 => (cnd v4.2.2.1 (some (Ctl.go (v4.1, (IntKind.wrap .i64 (v4.2.1 + (1 : Int))), v4.2.2.2.1, v4.2.2.2.2.1, v4.2.2.2.2.2.1, v4.2.2.2.2.2.2))) (dnO (gd (decide ((0 : Int) ≤ v4.2.1 ∧ v4.2.1 ≤ ((v4.1.length : Nat) : Int))) (gd (decide ((([] : List (Int × Int × Int × Int)).length + (List.take v4.2.1.toNat v4.1).length) * 32 ≤ 140737488355328)) (gd (decide (((([] : List (Int × Int × Int × Int)) ++ (List.take v4.2.1.toNat v4.1)).length + ([(v4.2.2.2.1, (v4.2.2.2.2.1, (v4.2.2.2.2.2.1, v4.2.2.2.2.2.2)))] : List (Int × Int × Int × Int)).length) * 32 ≤ 140737488355328)) (gd (decide ((0 : Int) ≤ v4.2.1 ∧ v4.2.1 ≤ ((v4.1.length : Nat) : Int))) (gd (decide ((((([] : List (Int × Int × Int × Int)) ++ (List.take v4.2.1.toNat v4.1)) ++ ([(v4.2.2.2.1, (v4.2.2.2.2.1, (v4.2.2.2.2.2.1, v4.2.2.2.2.2.2)))] : List (Int × Int × Int × Int))).length + (List.drop v4.2.1.toNat v4.1).length) * 32 ≤ 140737488355328)) (some (((([] : List (Int × Int × Int × Int)) ++ (List.take v4.2.1.toNat v4.1)) ++ ([(v4.2.2.2.1, (v4.2.2.2.2.1, (v4.2.2.2.2.2.1, v4.2.2.2.2.2.2)))] : List (Int × Int × Int × Int))) ++ (List.drop v4.2.1.toNat v4.1))))))))))))) (a0, (0 : Int), a1, a2, a3, a4))
theorem e50v1 (t : List (Int × Int × Int × Int) × Int × Int × Int × Int) : evF (stpT Tryd.prog T47 K47) Tryd.f50 p50v1 r50v1 (.s .d (.s .d (.s (.b (.l o50v1_s1 (.s (.s (.j false [o50v1_s0] .d) .d) .d))) .d))) t = (o50v1 t.1 t.2.1 t.2.2.1 t.2.2.2.1 t.2.2.2.2) := by kernel_rfl
theorem fo50v1 : FOk Tryd.prog 50 ⟨p50v1, r50v1, fun t => (o50v1 t.1 t.2.1 t.2.2.1 t.2.2.2.1 t.2.2.2.2)⟩ := FOk.run_eq (evF_ok (h := (.s .d (.s .d (.s (.b (.l o50v1_s1 (.s (.s (.j false [o50v1_s0] .d) .d) .d))) .d)))) (by kernel_rfl) (by kernel_rfl) (by kernel_rfl)) e50v1
def T48 : Tbl := (50, ⟨p50v1, r50v1, fun t => (o50v1 t.1 t.2.1 t.2.2.1 t.2.2.2.1 t.2.2.2.2)⟩) :: T47
theorem K48 : TOk Tryd.prog T48 := .cons K47 fo50v1
def o26_s0 : Sch := ⟨[(1, .v (.c (.ptr 0 0))), (2, .v (.c (.ptr 1 0))), (4, .v (.c (.ptr 2 0))), (5, .v (.c (.i .i64)))], [.cells 56 [.i .i64, .ro .y false, .b, .i .i64, .b], .cells 60 [.cst (.slice none 0 0), .ic .u64 (0), .b], .cells 60 [.own 3, .i .u64, .b], .row (.p (.i .i64) (.p (.i .u8) (.p (.i .i64) (.i .u64)))) 42]⟩
def p26 : Sch := ⟨[(0, .v (.agg [.i .i64, .ro .y false, .b, .i .i64, .b]))], []⟩
def r26 : List Sch := [⟨[(0, .tup [.agg [.own 0, .i .u64, .b], .c (.i .i64)])], [.row (.p (.i .i64) (.p (.i .u8) (.p (.i .i64) (.i .u64)))) 42]⟩]
def o26 (a0 : Int) (a1 : List UInt8) (a2 : Bool) (a3 : Int) (a4 : Bool) : Option (Int × Bool × Int × List (Int × Int × Int × Int)) :=
 (cnd a4 (some ((0 : Int), false, (19 : Int), ([] : List (Int × Int × Int × Int)))) (loopO (σ := Int × Int × List UInt8 × Bool × Int × Bool × Bool × Int × Bool × List (Int × Int × Int × Int)) fuelN (fun (v4 : Int × Int × List UInt8 × Bool × Int × Bool × Bool × Int × Bool × List (Int × Int × Int × Int)) => (cnd (decide (v4.1 < v4.2.1)) (bd (α := (Int × Int × Int × Int × Bool)) (o49 v4.2.1 v4.2.2.1 v4.2.2.2.1 v4.2.2.2.2.1 v4.2.2.2.2.2.1 v4.1) (fun v5 => (cnd v5.2.2.2.2 (bd (α := (List (Int × Int × Int × Int))) (o50v1 v4.2.2.2.2.2.2.2.2.2 v5.1 v5.2.1 v5.2.2.1 v5.2.2.2.1) (fun v6 => (cnd (decide (v5.2.2.2.1 ≥ v4.2.2.2.2.2.2.2.1)) (some (Ctl.go ((IntKind.wrap .i64 (v4.1 + (1 : Int))), v4.2.1, v4.2.2.1, v4.2.2.2.1, v4.2.2.2.2.1, v4.2.2.2.2.2.1, v4.2.2.2.2.2.2.1, (IntKind.wrap .u64 (v5.2.2.2.1 + (1 : Int))), v4.2.2.2.2.2.2.2.2.1, v6))) (some (Ctl.go ((IntKind.wrap .i64 (v4.1 + (1 : Int))), v4.2.1, v4.2.2.1, v4.2.2.2.1, v4.2.2.2.2.1, v4.2.2.2.2.2.1, v4.2.2.2.2.2.2.1, v4.2.2.2.2.2.2.2.1, v4.2.2.2.2.2.2.2.2.1, v6)))))) (some (Ctl.go ((IntKind.wrap .i64 (v4.1 + (1 : Int))), v4.2.1, v4.2.2.1, v4.2.2.2.1, v4.2.2.2.2.1, v4.2.2.2.2.2.1, v4.2.2.2.2.2.2.1, v4.2.2.2.2.2.2.2.1, v4.2.2.2.2.2.2.2.2.1, v4.2.2.2.2.2.2.2.2.2)))))) (dnO (some (v4.2.2.2.2.2.2.2.1, v4.2.2.2.2.2.2.2.2.1, (0 : Int), v4.2.2.2.2.2.2.2.2.2))))) ((0 : Int), a0, a1, a2, a3, a4, false, (1 : Int), false, ([] : List (Int × Int × Int × Int)))))
theorem e26 (t : Int × List UInt8 × Bool × Int × Bool) : evF (stpT Tryd.prog T48 K48) Tryd.f26 p26 r26 (.s .d (.s .d (.s .d (.s (.s .d (.b (.l o26_s0 .d))) .d)))) t = (o26 t.1 t.2.1 t.2.2.1 t.2.2.2.1 t.2.2.2.2) := by kernel_rfl
theorem fo26 : FOk Tryd.prog 26 ⟨p26, r26, fun t => (o26 t.1 t.2.1 t.2.2.1 t.2.2.2.1 t.2.2.2.2)⟩ := FOk.run_eq (evF_ok (h := (.s .d (.s .d (.s .d (.s (.s .d (.b (.l o26_s0 .d))) .d))))) (by kernel_rfl) (by kernel_rfl) (by kernel_rfl)) e26
def T49 : Tbl := (26, ⟨p26, r26, fun t => (o26 t.1 t.2.1 t.2.2.1 t.2.2.2.1 t.2.2.2.2)⟩) :: T48
theorem K49 : TOk Tryd.prog T49 := .cons K48 fo26
def o51_s0 : Sch := ⟨[(1, .v (.c (.i .i64))), (2, .v (.c (.i .u8))), (3, .v (.c (.ptr 1 0))), (6, .v (.c (.ptr 2 0))), (17, .v (.c (.b)))], [.row .y 5, .cells 56 [.i .i64, .own 0, .b, .i .i64, .b], .cells 56 [.ic .i64 (0), .cst (.slice none 0 0), .b, .ic .i64 (0), .b]]⟩
def o51_s1 : Sch := ⟨[(1, .v (.c (.i .i64))), (2, .v (.c (.i .u8))), (3, .v (.c (.ptr 1 0))), (6, .v (.c (.ptr 2 0)))], [.row .y 5, .cells 56 [.i .i64, .own 0, .b, .i .i64, .b], .cells 56 [.ic .i64 (0), .cst (.slice none 0 0), .b, .ic .i64 (0), .b]]⟩
def p51 : Sch := ⟨[(0, .v (.agg [.i .i64, .own 0, .b, .i .i64, .b])), (1, .v (.c (.i .i64))), (2, .v (.c (.i .u8)))], [.row .y 5]⟩
def r51 : List Sch := [⟨[(0, .v (.agg [.i .i64, .own 1, .b, .i .i64, .b]))], [.no, .row .y 5]⟩]
def o51 (a0 : Int) (a1 : Bool) (a2 : Int) (a3 : Bool) (a4 : Int) (a5 : Int) (a6 : List UInt8) : Option (Int × Bool × Int × Bool × List UInt8) :=
 (cnd a3 (some (a0, a1, a2, a3, a6)) (bd (α := (Int × Int × Bool × List UInt8 × Int × Bool × Int × Bool × Bool × Bool)) (cnd a1 (some (a4, a5, (a2 == (0 : Int)), a6, a0, a1, a2, a3, false, false)) (some (a4, a5, false, a6, a0, a1, a2, a3, false, false))) (fun v1 => (cnd v1.2.2.1 (some (v1.2.2.2.2.1, false, v1.2.2.2.2.2.2.1, true, v1.2.2.2.1)) (bd (α := (Int × Int × List UInt8 × Int × Bool × Int × Bool × Bool × Bool)) (cnd v1.2.2.2.2.2.1 (some (v1.1, v1.2.1, v1.2.2.2.1, v1.2.2.2.2.1, v1.2.2.2.2.2.1, (IntKind.wrap .i64 (v1.2.2.2.2.2.2.1 - (1 : Int))), v1.2.2.2.2.2.2.2.1, v1.2.2.2.2.2.2.2.2.1, v1.2.2.2.2.2.2.2.2.2)) (some (v1.1, v1.2.1, v1.2.2.2.1, v1.2.2.2.2.1, v1.2.2.2.2.2.1, v1.2.2.2.2.2.2.1, v1.2.2.2.2.2.2.2.1, v1.2.2.2.2.2.2.2.2.1, v1.2.2.2.2.2.2.2.2.2))) (fun v2 => (gd (decide ((([] : List UInt8).length + v2.2.2.1.length) * 1 ≤ 140737488355328)) (gd (decide ((0 : Int) ≤ v2.1 ∧ v2.1 < (((([] : List UInt8) ++ v2.2.2.1).length : Nat) : Int))) (some (v2.2.2.2.1, v2.2.2.2.2.1, v2.2.2.2.2.2.1, v2.2.2.2.2.2.2.1, (List.set (([] : List UInt8) ++ v2.2.2.1) v2.1.toNat (u8 v2.2.1))))))))))))
theorem e51 (t : Int × Bool × Int × Bool × Int × Int × List UInt8) : evF (stpT Tryd.prog T49 K49) Tryd.f51 p51 r51 (.s .d (.s .d (.s (.s (.j false [o51_s0] .d) .d) (.j false [o51_s1] .d)))) t = (o51 t.1 t.2.1 t.2.2.1 t.2.2.2.1 t.2.2.2.2.1 t.2.2.2.2.2.1 t.2.2.2.2.2.2) := by kernel_rfl
theorem fo51 : FOk Tryd.prog 51 ⟨p51, r51, fun t => (o51 t.1 t.2.1 t.2.2.1 t.2.2.2.1 t.2.2.2.2.1 t.2.2.2.2.2.1 t.2.2.2.2.2.2)⟩ := FOk.run_eq (evF_ok (h := (.s .d (.s .d (.s (.s (.j false [o51_s0] .d) .d) (.j false [o51_s1] .d))))) (by kernel_rfl) (by kernel_rfl) (by kernel_rfl)) e51
def T50 : Tbl := (51, ⟨p51, r51, fun t => (o51 t.1 t.2.1 t.2.2.1 t.2.2.2.1 t.2.2.2.2.1 t.2.2.2.2.2.1 t.2.2.2.2.2.2)⟩) :: T49
theorem K50 : TOk Tryd.prog T50 := .cons K49 fo51
def o27_s0 : Sch := ⟨[(2, .v (.c (.i .i64))), (3, .v (.c (.i .u8))), (4, .v (.c (.i .i64))), (5, .v (.c (.ptr 2 0))), (6, .v (.c (.ptr 3 0))), (10, .v (.c (.ptr 4 0))), (11, .v (.c (.ptr 5 0))), (26, .v (.c (.b)))], [.row .y 5, .row (.p (.i .i64) (.p (.i .u8) (.p (.i .i64) (.i .u64)))) 42, .cells 56 [.i .i64, .own 0, .b, .i .i64, .b], .cells 60 [.own 1, .i .u64, .b], .cells 56 [.ic .i64 (0), .cst (.slice none 0 0), .b, .ic .i64 (0), .b], .cells 60 [.cst (.slice none 0 0), .ic .u64 (0), .b]]⟩
def o27_s1 : Sch := ⟨[(2, .v (.c (.i .i64))), (3, .v (.c (.i .u8))), (4, .v (.c (.i .i64))), (5, .v (.c (.ptr 2 0))), (6, .v (.c (.ptr 3 0))), (10, .v (.c (.ptr 4 0))), (11, .v (.c (.ptr 5 0))), (39, .v (.c (.b)))], [.row .y 5, .row (.p (.i .i64) (.p (.i .u8) (.p (.i .i64) (.i .u64)))) 42, .cells 56 [.i .i64, .own 0, .b, .i .i64, .b], .cells 60 [.own 1, .i .u64, .b], .cells 56 [.ic .i64 (0), .cst (.slice none 0 0), .b, .ic .i64 (0), .b], .cells 60 [.cst (.slice none 0 0), .ic .u64 (0), .b]]⟩
def o27_s2 : Sch := ⟨[(5, .v (.c (.ptr 2 0))), (6, .v (.c (.ptr 3 0))), (10, .v (.c (.ptr 4 0))), (11, .v (.c (.ptr 5 0))), (14, .v (.c (.ptr 6 0))), (15, .v (.c (.i .i64))), (61, .v (.c (.own 7))), (62, .v (.c (.i .i64))), (63, .v (.c (.i .i64)))], [.no, .row (.p (.i .i64) (.p (.i .u8) (.p (.i .i64) (.i .u64)))) 42, .cells 56 [.i .i64, .own 8, .b, .i .i64, .b], .cells 60 [.own 1, .i .u64, .b], .cells 56 [.ic .i64 (0), .cst (.slice none 0 0), .b, .ic .i64 (0), .b], .cells 60 [.cst (.slice none 0 0), .ic .u64 (0), .b], .cells 42 [.i .i64, .i .u8, .i .i64, .i .u64], .row .y 5, .row .y 5]⟩
def o27_s3 : Sch := ⟨[(5, .v (.c (.ptr 2 0))), (6, .v (.c (.ptr 3 0))), (10, .v (.c (.ptr 4 0))), (11, .v (.c (.ptr 5 0))), (14, .v (.c (.ptr 6 0))), (18, .v (.c (.own 7))), (85, .v (.c (.own 1))), (86, .v (.c (.i .i64))), (87, .v (.c (.i .i64)))], [.no, .row (.p (.i .i64) (.p (.i .u8) (.p (.i .i64) (.i .u64)))) 42, .cells 56 [.i .i64, .own 8, .b, .i .i64, .b], .cells 60 [.own 1, .i .u64, .b], .cells 56 [.ic .i64 (0), .cst (.slice none 0 0), .b, .ic .i64 (0), .b], .cells 60 [.cst (.slice none 0 0), .ic .u64 (0), .b], .cells 42 [.i .i64, .i .u8, .i .i64, .i .u64], .row (.p (.i .i64) (.p (.i .u8) (.p (.i .i64) (.i .u64)))) 42, .row .y 5]⟩
def p27 : Sch := ⟨[(0, .v (.agg [.i .i64, .own 0, .b, .i .i64, .b])), (1, .v (.agg [.own 1, .i .u64, .b])), (2, .v (.c (.i .i64))), (3, .v (.c (.i .u8))), (4, .v (.c (.i .i64)))], [.row .y 5, .row (.p (.i .i64) (.p (.i .u8) (.p (.i .i64) (.i .u64)))) 42]⟩
def r27 : List Sch := [⟨[(0, .tup [.agg [.i .i64, .own 2, .b, .i .i64, .b], .agg [.own 3, .i .u64, .b], .c (.i .u64), .c (.i .i64)])], [.no, .no, .row .y 5, .row (.p (.i .i64) (.p (.i .u8) (.p (.i .i64) (.i .u64)))) 42]⟩]
def o27 (a0 : Int) (a1 : Bool) (a2 : Int) (a3 : Bool) (a4 : Int) (a5 : Bool) (a6 : Int) (a7 : Int) (a8 : Int) (a9 : List UInt8) (a10 : List (Int × Int × Int × Int)) : Option (Int × Bool × Int × Bool × Int × Bool × Int × Int × List UInt8 × List (Int × Int × Int × Int)) :=
 (bd (α := (Int × Int × Int × Bool × List UInt8 × List (Int × Int × Int × Int) × Int × Bool × Int × Bool × Int × Bool × Bool × Bool × Bool)) (cnd (decide (a7 < (1 : Int))) (some (a6, a7, a8, true, a9, a10, a0, a1, a2, a3, a4, a5, false, false, false)) (some (a6, a7, a8, (decide (a7 > (8 : Int))), a9, a10, a0, a1, a2, a3, a4, a5, false, false, false))) (fun v1 => (cnd v1.2.2.2.1 (some (v1.2.2.2.2.2.2.1, v1.2.2.2.2.2.2.2.1, v1.2.2.2.2.2.2.2.2.1, v1.2.2.2.2.2.2.2.2.2.1, v1.2.2.2.2.2.2.2.2.2.2.1, v1.2.2.2.2.2.2.2.2.2.2.2.1, (0 : Int), (2 : Int), v1.2.2.2.2.1, v1.2.2.2.2.2.1)) (cnd (decide (v1.2.2.2.2.2.2.2.2.2.2.1 > (4611686018427387904 : Int))) (some (v1.2.2.2.2.2.2.1, v1.2.2.2.2.2.2.2.1, v1.2.2.2.2.2.2.2.2.1, v1.2.2.2.2.2.2.2.2.2.1, v1.2.2.2.2.2.2.2.2.2.2.1, v1.2.2.2.2.2.2.2.2.2.2.2.1, (0 : Int), (3 : Int), v1.2.2.2.2.1, v1.2.2.2.2.2.1)) (bd (α := (Int × Int × Int × Bool × List UInt8 × List (Int × Int × Int × Int) × Int × Bool × Int × Bool × Int × Bool × Bool × Bool × Bool)) (cnd v1.2.2.2.2.2.2.2.2.2.2.2.1 (some (v1.1, v1.2.1, v1.2.2.1, true, v1.2.2.2.2.1, v1.2.2.2.2.2.1, v1.2.2.2.2.2.2.1, v1.2.2.2.2.2.2.2.1, v1.2.2.2.2.2.2.2.2.1, v1.2.2.2.2.2.2.2.2.2.1, v1.2.2.2.2.2.2.2.2.2.2.1, v1.2.2.2.2.2.2.2.2.2.2.2.1, v1.2.2.2.2.2.2.2.2.2.2.2.2.1, v1.2.2.2.2.2.2.2.2.2.2.2.2.2.1, v1.2.2.2.2.2.2.2.2.2.2.2.2.2.2)) (some (v1.1, v1.2.1, v1.2.2.1, v1.2.2.2.2.2.2.2.2.2.1, v1.2.2.2.2.1, v1.2.2.2.2.2.1, v1.2.2.2.2.2.2.1, v1.2.2.2.2.2.2.2.1, v1.2.2.2.2.2.2.2.2.1, v1.2.2.2.2.2.2.2.2.2.1, v1.2.2.2.2.2.2.2.2.2.2.1, v1.2.2.2.2.2.2.2.2.2.2.2.1, v1.2.2.2.2.2.2.2.2.2.2.2.2.1, v1.2.2.2.2.2.2.2.2.2.2.2.2.2.1, v1.2.2.2.2.2.2.2.2.2.2.2.2.2.2))) (fun v2 => (cnd v2.2.2.2.1 (some (v2.2.2.2.2.2.2.1, v2.2.2.2.2.2.2.2.1, v2.2.2.2.2.2.2.2.2.1, v2.2.2.2.2.2.2.2.2.2.1, v2.2.2.2.2.2.2.2.2.2.2.1, true, (0 : Int), (19 : Int), v2.2.2.2.2.1, v2.2.2.2.2.2.1)) (gd (decide ((IntKind.wrap .u64 v2.2.2.2.2.2.2.1) ≠ 0)) (bd (α := (Int × Bool × Int × Bool × List UInt8)) (o51 v2.2.2.2.2.2.2.1 v2.2.2.2.2.2.2.2.1 v2.2.2.2.2.2.2.2.2.1 v2.2.2.2.2.2.2.2.2.2.1 (IntKind.wrap .i64 ((IntKind.wrap .i64 (Int.tmod v2.2.2.2.2.2.2.2.2.2.2.1 (IntKind.wrap .u64 v2.2.2.2.2.2.2.1))) * (30 : Int))) (0 : Int) v2.2.2.2.2.1) (fun v3 => (bd (α := (List UInt8)) (o52 v2.1 v2.2.1 v2.2.2.1 v2.2.2.2.2.2.2.2.2.2.2.1) (fun v4 => (loopO (σ := Int × Int × Int × List (Int × Int × Int × Int) × Int × Bool × Int × Bool × Int × Bool × Bool × Bool × Bool × Int × Int × Int × Int × List UInt8 × List UInt8) fuelN (fun (v7 : Int × Int × Int × List (Int × Int × Int × Int) × Int × Bool × Int × Bool × Int × Bool × Bool × Bool × Bool × Int × Int × Int × Int × List UInt8 × List UInt8) => (cnd (decide (v7.2.2.1 < v7.2.1)) (gd (decide ((0 : Int) ≤ v7.2.2.1 ∧ v7.2.2.1 < ((v7.2.2.2.2.2.2.2.2.2.2.2.2.2.2.2.2.2.1.length : Nat) : Int))) (bd (α := (Int × Bool × Int × Bool × List UInt8)) (o51 v7.2.2.2.2.1 v7.2.2.2.2.2.1 v7.2.2.2.2.2.2.1 v7.2.2.2.2.2.2.2.1 (IntKind.wrap .i64 ((IntKind.wrap .i64 (v7.1 + (1 : Int))) + v7.2.2.1)) ((UInt8.toNat (List.getD v7.2.2.2.2.2.2.2.2.2.2.2.2.2.2.2.2.2.1 v7.2.2.1.toNat (0 : UInt8)) : Nat) : Int) v7.2.2.2.2.2.2.2.2.2.2.2.2.2.2.2.2.2.2) (fun v8 => (some (Ctl.go (v7.1, v7.2.1, (IntKind.wrap .i64 (v7.2.2.1 + (1 : Int))), v7.2.2.2.1, v8.1, v8.2.1, v8.2.2.1, v8.2.2.2.1, v7.2.2.2.2.2.2.2.2.1, v7.2.2.2.2.2.2.2.2.2.1, v7.2.2.2.2.2.2.2.2.2.2.1, v7.2.2.2.2.2.2.2.2.2.2.2.1, v7.2.2.2.2.2.2.2.2.2.2.2.2.1, v7.2.2.2.2.2.2.2.2.2.2.2.2.2.1, v7.2.2.2.2.2.2.2.2.2.2.2.2.2.2.1, v7.2.2.2.2.2.2.2.2.2.2.2.2.2.2.2.1, v7.2.2.2.2.2.2.2.2.2.2.2.2.2.2.2.2.1, v7.2.2.2.2.2.2.2.2.2.2.2.2.2.2.2.2.2.1, v8.2.2.2.2)))))) (dnO (bd (α := (Int × Bool × Int × Bool × List UInt8)) (o51 v7.2.2.2.2.1 v7.2.2.2.2.2.1 v7.2.2.2.2.2.2.1 v7.2.2.2.2.2.2.2.1 v7.1 (195 : Int) v7.2.2.2.2.2.2.2.2.2.2.2.2.2.2.2.2.2.2) (fun v9 => (cnd v9.2.2.2.1 (some (v9.1, v9.2.1, v9.2.2.1, v9.2.2.2.1, v7.2.2.2.2.2.2.2.2.1, true, (0 : Int), (19 : Int), v9.2.2.2.2, v7.2.2.2.1)) (loopO (σ := Int × Int × List (Int × Int × Int × Int) × Int × Bool × Int × Bool × Int × Bool × Bool × Bool × Bool × Int × Int × Int × Int × List (Int × Int × Int × Int) × List UInt8) fuelN (fun (v11 : Int × Int × List (Int × Int × Int × Int) × Int × Bool × Int × Bool × Int × Bool × Bool × Bool × Bool × Int × Int × Int × Int × List (Int × Int × Int × Int) × List UInt8) => (cnd (decide (v11.2.1 < v11.1)) (gd (decide ((0 : Int) ≤ v11.2.1 ∧ v11.2.1 < ((v11.2.2.1.length : Nat) : Int))) (gd (decide ((IntKind.wrap .u64 v11.2.2.2.1) ≠ 0)) (gd (decide ((IntKind.wrap .u64 v11.2.2.2.1) ≠ 0)) (cnd ((Int.tmod ((((List.getD v11.2.2.1 v11.2.1.toNat ((0 : Int), ((0 : Int), ((0 : Int), (0 : Int))))).2).2).2) (IntKind.wrap .u64 v11.2.2.2.1)) != (Int.tmod v11.2.2.2.2.2.2.2.2.2.2.2.2.2.2.2.1 (IntKind.wrap .u64 v11.2.2.2.1))) (gd (decide ((v11.2.2.2.2.2.2.2.2.2.2.2.2.2.2.2.2.1.length + ([((List.getD v11.2.2.1 v11.2.1.toNat ((0 : Int), ((0 : Int), ((0 : Int), (0 : Int))))).1, (((List.getD v11.2.2.1 v11.2.1.toNat ((0 : Int), ((0 : Int), ((0 : Int), (0 : Int))))).2).1, ((((List.getD v11.2.2.1 v11.2.1.toNat ((0 : Int), ((0 : Int), ((0 : Int), (0 : Int))))).2).2).1, (((List.getD v11.2.2.1 v11.2.1.toNat ((0 : Int), ((0 : Int), ((0 : Int), (0 : Int))))).2).2).2)))] : List (Int × Int × Int × Int)).length) * 32 ≤ 140737488355328)) (some (Ctl.go (v11.1, (IntKind.wrap .i64 (v11.2.1 + (1 : Int))), v11.2.2.1, v11.2.2.2.1, v11.2.2.2.2.1, v11.2.2.2.2.2.1, v11.2.2.2.2.2.2.1, v11.2.2.2.2.2.2.2.1, v11.2.2.2.2.2.2.2.2.1, v11.2.2.2.2.2.2.2.2.2.1, v11.2.2.2.2.2.2.2.2.2.2.1, v11.2.2.2.2.2.2.2.2.2.2.2.1, v11.2.2.2.2.2.2.2.2.2.2.2.2.1, v11.2.2.2.2.2.2.2.2.2.2.2.2.2.1, v11.2.2.2.2.2.2.2.2.2.2.2.2.2.2.1, v11.2.2.2.2.2.2.2.2.2.2.2.2.2.2.2.1, (v11.2.2.2.2.2.2.2.2.2.2.2.2.2.2.2.2.1 ++ ([((List.getD v11.2.2.1 v11.2.1.toNat ((0 : Int), ((0 : Int), ((0 : Int), (0 : Int))))).1, (((List.getD v11.2.2.1 v11.2.1.toNat ((0 : Int), ((0 : Int), ((0 : Int), (0 : Int))))).2).1, ((((List.getD v11.2.2.1 v11.2.1.toNat ((0 : Int), ((0 : Int), ((0 : Int), (0 : Int))))).2).2).1, (((List.getD v11.2.2.1 v11.2.1.toNat ((0 : Int), ((0 : Int), ((0 : Int), (0 : Int))))).2).2).2)))] : List (Int × Int × Int × Int))), v11.2.2.2.2.2.2.2.2.2.2.2.2.2.2.2.2.2)))) (some (Ctl.go (v11.1, (IntKind.wrap .i64 (v11.2.1 + (1 : Int))), v11.2.2.1, v11.2.2.2.1, v11.2.2.2.2.1, v11.2.2.2.2.2.1, v11.2.2.2.2.2.2.1, v11.2.2.2.2.2.2.2.1, v11.2.2.2.2.2.2.2.2.1, v11.2.2.2.2.2.2.2.2.2.1, v11.2.2.2.2.2.2.2.2.2.2.1, v11.2.2.2.2.2.2.2.2.2.2.2.1, v11.2.2.2.2.2.2.2.2.2.2.2.2.1, v11.2.2.2.2.2.2.2.2.2.2.2.2.2.1, v11.2.2.2.2.2.2.2.2.2.2.2.2.2.2.1, v11.2.2.2.2.2.2.2.2.2.2.2.2.2.2.2.1, v11.2.2.2.2.2.2.2.2.2.2.2.2.2.2.2.2.1, v11.2.2.2.2.2.2.2.2.2.2.2.2.2.2.2.2.2))))))) (dnO (bd (α := (List (Int × Int × Int × Int))) (o50v1 v11.2.2.2.2.2.2.2.2.2.2.2.2.2.2.2.2.1 v11.2.2.2.2.2.2.2.2.2.2.2.2.1 v11.2.2.2.2.2.2.2.2.2.2.2.2.2.1 v11.2.2.2.2.2.2.2.2.2.2.2.2.2.2.1 v11.2.2.2.2.2.2.2.2.2.2.2.2.2.2.2.1) (fun v13 => (some (v11.2.2.2.1, v11.2.2.2.2.1, v11.2.2.2.2.2.1, v11.2.2.2.2.2.2.1, (IntKind.wrap .u64 (v11.2.2.2.2.2.2.2.1 + (1 : Int))), false, v11.2.2.2.2.2.2.2.2.2.2.2.2.2.2.2.1, (0 : Int), v11.2.2.2.2.2.2.2.2.2.2.2.2.2.2.2.2.2, v13))))))) (((v7.2.2.2.1.length : Nat) : Int), (0 : Int), v7.2.2.2.1, v9.1, v9.2.1, v9.2.2.1, v9.2.2.2.1, v7.2.2.2.2.2.2.2.2.1, v7.2.2.2.2.2.2.2.2.2.1, v7.2.2.2.2.2.2.2.2.2.2.1, v7.2.2.2.2.2.2.2.2.2.2.2.1, v7.2.2.2.2.2.2.2.2.2.2.2.2.1, v7.2.2.2.2.2.2.2.2.2.2.2.2.2.1, v7.2.2.2.2.2.2.2.2.2.2.2.2.2.2.1, v7.2.2.2.2.2.2.2.2.2.2.2.2.2.2.2.1, v7.2.2.2.2.2.2.2.2.2.2.2.2.2.2.2.2.1, ([] : List (Int × Int × Int × Int)), v9.2.2.2.2)))))))) ((IntKind.wrap .i64 ((IntKind.wrap .i64 (Int.tmod v2.2.2.2.2.2.2.2.2.2.2.1 (IntKind.wrap .u64 v2.2.2.2.2.2.2.1))) * (30 : Int))), ((v4.length : Nat) : Int), (0 : Int), v2.2.2.2.2.2.1, v3.1, v3.2.1, v3.2.2.1, v3.2.2.2.1, v2.2.2.2.2.2.2.2.2.2.2.1, v2.2.2.2.2.2.2.2.2.2.2.2.1, v2.2.2.2.2.2.2.2.2.2.2.2.2.1, v2.2.2.2.2.2.2.2.2.2.2.2.2.2.1, v2.2.2.2.2.2.2.2.2.2.2.2.2.2.2, v2.1, v2.2.1, v2.2.2.1, v2.2.2.2.2.2.2.2.2.2.2.1, v4, v3.2.2.2.2))))))))))))))
theorem e27 (t : Int × Bool × Int × Bool × Int × Bool × Int × Int × Int × List UInt8 × List (Int × Int × Int × Int)) : evF (stpT Tryd.prog T50 K50) Tryd.f27 p27 r27 (.s .d (.s (.s (.j false [o27_s0] .d) .d) (.s .d (.s (.s (.j false [o27_s1] .d) .d) (.s .d (.s .d (.s .d (.s (.s .d (.b (.l o27_s2 .d))) (.s .d (.s .d (.s .d (.s (.s .d (.b (.l o27_s3 .d))) (.s (.r 1) .d))))))))))))) t = (o27 t.1 t.2.1 t.2.2.1 t.2.2.2.1 t.2.2.2.2.1 t.2.2.2.2.2.1 t.2.2.2.2.2.2.1 t.2.2.2.2.2.2.2.1 t.2.2.2.2.2.2.2.2.1 t.2.2.2.2.2.2.2.2.2.1 t.2.2.2.2.2.2.2.2.2.2) := by kernel_rfl
theorem fo27 : FOk Tryd.prog 27 ⟨p27, r27, fun t => (o27 t.1 t.2.1 t.2.2.1 t.2.2.2.1 t.2.2.2.2.1 t.2.2.2.2.2.1 t.2.2.2.2.2.2.1 t.2.2.2.2.2.2.2.1 t.2.2.2.2.2.2.2.2.1 t.2.2.2.2.2.2.2.2.2.1 t.2.2.2.2.2.2.2.2.2.2)⟩ := FOk.run_eq (evF_ok (h := (.s .d (.s (.s (.j false [o27_s0] .d) .d) (.s .d (.s (.s (.j false [o27_s1] .d) .d) (.s .d (.s .d (.s .d (.s (.s .d (.b (.l o27_s2 .d))) (.s .d (.s .d (.s .d (.s (.s .d (.b (.l o27_s3 .d))) (.s (.r 1) .d)))))))))))))) (by kernel_rfl) (by kernel_rfl) (by kernel_rfl)) e27
def T51 : Tbl := (27, ⟨p27, r27, fun t => (o27 t.1 t.2.1 t.2.2.1 t.2.2.2.1 t.2.2.2.2.1 t.2.2.2.2.2.1 t.2.2.2.2.2.2.1 t.2.2.2.2.2.2.2.1 t.2.2.2.2.2.2.2.2.1 t.2.2.2.2.2.2.2.2.2.1 t.2.2.2.2.2.2.2.2.2.2)⟩) :: T50
theorem K51 : TOk Tryd.prog T51 := .cons K50 fo27
def p15v1 : Sch := ⟨[(0, .v (.c (.cst (.pointer none)))), (1, .v (.c (.i .i64)))], []⟩
def r15v1 : List Sch := [⟨[(0, .tup [])], []⟩]
def o15v1 (a0 : Int) : Option Unit :=
 (some ())
theorem e15v1 (t : Int) : evF (stpT Tryd.prog T51 K51) Tryd.f15 p15v1 r15v1 .d t = (o15v1 t) := by kernel_rfl
theorem fo15v1 : FOk Tryd.prog 15 ⟨p15v1, r15v1, fun t => (o15v1 t)⟩ := FOk.run_eq (evF_ok (h := .d) (by kernel_rfl) (by kernel_rfl) (by kernel_rfl)) e15v1
def T52 : Tbl := (15, ⟨p15v1, r15v1, fun t => (o15v1 t)⟩) :: T51
theorem K52 : TOk Tryd.prog T52 := .cons K51 fo15v1
def o28_s0 : Sch := ⟨[(1, .v (.c (.i .i64))), (2, .v (.c (.ptr 1 0))), (4, .v (.c (.ptr 2 0)))], [.row .y 5, .cells 56 [.i .i64, .own 0, .b, .i .i64, .b], .cells 56 [.ic .i64 (0), .cst (.slice none 0 0), .b, .ic .i64 (0), .b]]⟩
def p28 : Sch := ⟨[(0, .v (.agg [.i .i64, .own 0, .b, .i .i64, .b])), (1, .v (.c (.i .i64)))], [.row .y 5]⟩
def r28 : List Sch := [⟨[(0, .v (.agg [.i .i64, .own 0, .b, .i .i64, .b]))], [.row .y 5]⟩]
def o28 (a0 : Int) (a1 : Bool) (a2 : Int) (a3 : Bool) (a4 : Int) (a5 : List UInt8) : Option (Int × Bool × Int × Bool × List UInt8) :=
 (bd (α := (Int × List UInt8 × Int × Bool × Int × Bool × Bool × Bool)) (cnd (decide (a4 < (0 : Int))) (some ((0 : Int), a5, a0, a1, a2, a3, false, false)) (some (a4, a5, a0, a1, a2, a3, false, false))) (fun v1 => (some (v1.2.2.1, true, v1.1, v1.2.2.2.2.2.1, v1.2.1))))
theorem e28 (t : Int × Bool × Int × Bool × Int × List UInt8) : evF (stpT Tryd.prog T52 K52) Tryd.f28 p28 r28 (.s .d (.j false [o28_s0] .d)) t = (o28 t.1 t.2.1 t.2.2.1 t.2.2.2.1 t.2.2.2.2.1 t.2.2.2.2.2) := by kernel_rfl
theorem fo28 : FOk Tryd.prog 28 ⟨p28, r28, fun t => (o28 t.1 t.2.1 t.2.2.1 t.2.2.2.1 t.2.2.2.2.1 t.2.2.2.2.2)⟩ := FOk.run_eq (evF_ok (h := (.s .d (.j false [o28_s0] .d))) (by kernel_rfl) (by kernel_rfl) (by kernel_rfl)) e28
def T53 : Tbl := (28, ⟨p28, r28, fun t => (o28 t.1 t.2.1 t.2.2.1 t.2.2.2.1 t.2.2.2.2.1 t.2.2.2.2.2)⟩) :: T52
theorem K53 : TOk Tryd.prog T53 := .cons K52 fo28
def p17v1 : Sch := ⟨[(0, .v (.c (.cst (.pointer none))))], []⟩
def r17v1 : List Sch := [⟨[(0, .tup [])], []⟩]
def o17v1 : Option Unit :=
 (some ())
theorem e17v1 (t : Unit) : evF (stpT Tryd.prog T53 K53) Tryd.f17 p17v1 r17v1 .d t = o17v1 := by kernel_rfl
theorem fo17v1 : FOk Tryd.prog 17 ⟨p17v1, r17v1, fun t => o17v1⟩ := FOk.run_eq (evF_ok (h := .d) (by kernel_rfl) (by kernel_rfl) (by kernel_rfl)) e17v1
def T54 : Tbl := (17, ⟨p17v1, r17v1, fun t => o17v1⟩) :: T53
theorem K54 : TOk Tryd.prog T54 := .cons K53 fo17v1
def p29 : Sch := ⟨[(0, .v (.agg [.i .i64, .own 0, .b, .i .i64, .b]))], [.row .y 5]⟩
def r29 : List Sch := [⟨[(0, .v (.agg [.i .i64, .own 0, .b, .ic .i64 (0), .b]))], [.row .y 5]⟩]
def o29 (a0 : Int) (a1 : Bool) (a2 : Int) (a3 : Bool) (a4 : List UInt8) : Option (Int × Bool × Bool × List UInt8) :=
 (some (a0, false, false, a4))
theorem e29 (t : Int × Bool × Int × Bool × List UInt8) : evF (stpT Tryd.prog T54 K54) Tryd.f29 p29 r29 .d t = (o29 t.1 t.2.1 t.2.2.1 t.2.2.2.1 t.2.2.2.2) := by kernel_rfl
theorem fo29 : FOk Tryd.prog 29 ⟨p29, r29, fun t => (o29 t.1 t.2.1 t.2.2.1 t.2.2.2.1 t.2.2.2.2)⟩ := FOk.run_eq (evF_ok (h := .d) (by kernel_rfl) (by kernel_rfl) (by kernel_rfl)) e29
def T55 : Tbl := (29, ⟨p29, r29, fun t => (o29 t.1 t.2.1 t.2.2.1 t.2.2.2.1 t.2.2.2.2)⟩) :: T54
theorem K55 : TOk Tryd.prog T55 := .cons K54 fo29
def p21 : Sch := ⟨[(0, .v (.c (.cst (.pointer none))))], []⟩
def r21 : List Sch := [⟨[(0, .v (.c (.ic .i64 (1))))], []⟩]
def o21 : Option Unit :=
 (some ())
theorem e21 (t : Unit) : evF (stpT Tryd.prog T55 K55) Tryd.f21 p21 r21 .d t = o21 := by kernel_rfl
theorem fo21 : FOk Tryd.prog 21 ⟨p21, r21, fun t => o21⟩ := FOk.run_eq (evF_ok (h := .d) (by kernel_rfl) (by kernel_rfl) (by kernel_rfl)) e21
def T56 : Tbl := (21, ⟨p21, r21, fun t => o21⟩) :: T55
theorem K56 : TOk Tryd.prog T56 := .cons K55 fo21
def o30_s0 : Sch := ⟨[(2, .v (.c (.ptr 2 0))), (3, .v (.c (.ptr 3 0))), (4, .v (.c (.ptr 4 0))), (5, .v (.c (.ptr 5 0))), (13, .v (.c (.b)))], [.row .y 5, .row (.p (.i .i64) (.p (.i .u8) (.p (.i .i64) (.i .u64)))) 42, .cells 56 [.i .i64, .own 0, .b, .i .i64, .b], .cells 60 [.own 1, .i .u64, .b], .cells 56 [.ic .i64 (0), .cst (.slice none 0 0), .b, .ic .i64 (0), .b], .cells 60 [.cst (.slice none 0 0), .ic .u64 (0), .b]]⟩
def o30_s1 : Sch := ⟨[(2, .v (.c (.ptr 2 0))), (3, .v (.c (.ptr 3 0))), (4, .v (.c (.ptr 4 0))), (5, .v (.c (.ptr 5 0))), (7, .v (.c (.i .i64)))], [.no, .row (.p (.i .i64) (.p (.i .u8) (.p (.i .i64) (.i .u64)))) 42, .cells 56 [.i .i64, .own 6, .b, .i .i64, .b], .cells 60 [.own 1, .i .u64, .b], .cells 56 [.ic .i64 (0), .cst (.slice none 0 0), .b, .ic .i64 (0), .b], .cells 60 [.cst (.slice none 0 0), .ic .u64 (0), .b], .row .y 5]⟩
def p30 : Sch := ⟨[(0, .v (.agg [.i .i64, .own 0, .b, .i .i64, .b])), (1, .v (.agg [.own 1, .i .u64, .b]))], [.row .y 5, .row (.p (.i .i64) (.p (.i .u8) (.p (.i .i64) (.i .u64)))) 42]⟩
def r30 : List Sch := [⟨[(0, .tup [.agg [.i .i64, .own 2, .b, .i .i64, .b], .agg [.own 3, .i .u64, .b], .c (.i .i64)])], [.no, .no, .row .y 5, .row (.p (.i .i64) (.p (.i .u8) (.p (.i .i64) (.i .u64)))) 42]⟩]
def o30 (a0 : Int) (a1 : Bool) (a2 : Int) (a3 : Bool) (a4 : Int) (a5 : Bool) (a6 : List UInt8) (a7 : List (Int × Int × Int × Int)) : Option (Int × Bool × Int × Bool × Int × Bool × Int × List UInt8 × List (Int × Int × Int × Int)) :=
 (bd (α := (Bool × List UInt8 × List (Int × Int × Int × Int) × Int × Bool × Int × Bool × Int × Bool × Bool × Bool × Bool)) (cnd a5 (some (true, a6, a7, a0, a1, a2, a3, a4, a5, false, false, false)) (some (a3, a6, a7, a0, a1, a2, a3, a4, a5, false, false, false))) (fun v1 => (cnd v1.1 (some (v1.2.2.2.1, v1.2.2.2.2.1, v1.2.2.2.2.2.1, v1.2.2.2.2.2.2.1, v1.2.2.2.2.2.2.2.1, true, (19 : Int), v1.2.1, v1.2.2.1)) (loopO (σ := Int × List (Int × Int × Int × Int) × Int × Bool × Int × Bool × Int × Bool × Bool × Bool × Bool × List UInt8) fuelN (fun (v4 : Int × List (Int × Int × Int × Int) × Int × Bool × Int × Bool × Int × Bool × Bool × Bool × Bool × List UInt8) => (cnd (decide (v4.1 < v4.2.2.1)) (bd (α := (Int × Bool × Int × Bool × List UInt8)) (o51 v4.2.2.1 v4.2.2.2.1 v4.2.2.2.2.1 v4.2.2.2.2.2.1 (IntKind.wrap .i64 (v4.1 * (30 : Int))) (0 : Int) v4.2.2.2.2.2.2.2.2.2.2.2) (fun v5 => (some (Ctl.go ((IntKind.wrap .i64 (v4.1 + (1 : Int))), v4.2.1, v5.1, v5.2.1, v5.2.2.1, v5.2.2.2.1, v4.2.2.2.2.2.2.1, v4.2.2.2.2.2.2.2.1, v4.2.2.2.2.2.2.2.2.1, v4.2.2.2.2.2.2.2.2.2.1, v4.2.2.2.2.2.2.2.2.2.2.1, v5.2.2.2.2))))) (dnO (cnd v4.2.2.2.2.2.1 (some (v4.2.2.1, v4.2.2.2.1, v4.2.2.2.2.1, v4.2.2.2.2.2.1, v4.2.2.2.2.2.2.1, true, (19 : Int), v4.2.2.2.2.2.2.2.2.2.2.2, v4.2.1)) (some (v4.2.2.1, v4.2.2.2.1, v4.2.2.2.2.1, v4.2.2.2.2.2.1, v4.2.2.2.2.2.2.1, false, (0 : Int), v4.2.2.2.2.2.2.2.2.2.2.2, ([] : List (Int × Int × Int × Int)))))))) ((0 : Int), v1.2.2.1, v1.2.2.2.1, v1.2.2.2.2.1, v1.2.2.2.2.2.1, v1.2.2.2.2.2.2.1, v1.2.2.2.2.2.2.2.1, v1.2.2.2.2.2.2.2.2.1, v1.2.2.2.2.2.2.2.2.2.1, v1.2.2.2.2.2.2.2.2.2.2.1, v1.2.2.2.2.2.2.2.2.2.2.2, v1.2.1)))))
theorem e30 (t : Int × Bool × Int × Bool × Int × Bool × List UInt8 × List (Int × Int × Int × Int)) : evF (stpT Tryd.prog T56 K56) Tryd.f30 p30 r30 (.s .d (.s (.s (.j false [o30_s0] .d) .d) (.s (.s .d (.b (.l o30_s1 .d))) .d))) t = (o30 t.1 t.2.1 t.2.2.1 t.2.2.2.1 t.2.2.2.2.1 t.2.2.2.2.2.1 t.2.2.2.2.2.2.1 t.2.2.2.2.2.2.2) := by kernel_rfl
theorem fo30 : FOk Tryd.prog 30 ⟨p30, r30, fun t => (o30 t.1 t.2.1 t.2.2.1 t.2.2.2.1 t.2.2.2.2.1 t.2.2.2.2.2.1 t.2.2.2.2.2.2.1 t.2.2.2.2.2.2.2)⟩ := FOk.run_eq (evF_ok (h := (.s .d (.s (.s (.j false [o30_s0] .d) .d) (.s (.s .d (.b (.l o30_s1 .d))) .d)))) (by kernel_rfl) (by kernel_rfl) (by kernel_rfl)) e30
def T57 : Tbl := (30, ⟨p30, r30, fun t => (o30 t.1 t.2.1 t.2.2.1 t.2.2.2.1 t.2.2.2.2.1 t.2.2.2.2.2.1 t.2.2.2.2.2.2.1 t.2.2.2.2.2.2.2)⟩) :: T56
theorem K57 : TOk Tryd.prog T57 := .cons K56 fo30
def p24 : Sch := ⟨[(0, .v (.c (.cst (.pointer none)))), (1, .v (.c (.i .i64))), (2, .v (.c (.i .u32)))], []⟩
def r24 : List Sch := [⟨[(0, .v (.c (.ic .i64 (1))))], []⟩]
def o24 (a0 : Int) (a1 : Int) : Option Unit :=
 (some ())
theorem e24 (t : Int × Int) : evF (stpT Tryd.prog T57 K57) Tryd.f24 p24 r24 .d t = (o24 t.1 t.2) := by kernel_rfl
theorem fo24 : FOk Tryd.prog 24 ⟨p24, r24, fun t => (o24 t.1 t.2)⟩ := FOk.run_eq (evF_ok (h := .d) (by kernel_rfl) (by kernel_rfl) (by kernel_rfl)) e24
def T58 : Tbl := (24, ⟨p24, r24, fun t => (o24 t.1 t.2)⟩) :: T57
theorem K58 : TOk Tryd.prog T58 := .cons K57 fo24
def o53_s0 : Sch := ⟨[(0, .v (.c (.ro .y false))), (1, .v (.c (.i .i64))), (2, .v (.c (.i .u32))), (8, .v (.c (.own 0))), (9, .v (.c (.i .i64))), (35, .v (.c (.b)))], [.row .y 5]⟩
def o53_s1 : Sch := ⟨[(0, .v (.c (.ro .y false))), (1, .v (.c (.i .i64))), (2, .v (.c (.i .u32))), (8, .v (.c (.own 0))), (9, .v (.c (.i .i64)))], [.row .y 5]⟩
def p53 : Sch := ⟨[(0, .v (.c (.ro .y false))), (1, .v (.c (.i .i64))), (2, .v (.c (.i .u32)))], []⟩
def r53 : List Sch := [⟨[(0, .tup [.c (.own 0), .c (.i .i64)])], [.row .y 5]⟩]
def o53 (a0 : List UInt8) (a1 : Int) (a2 : Int) : Option (Int × List UInt8) :=
 (gd (decide ((([] : List UInt8).length + a0.length) * 1 ≤ 140737488355328)) (loopO (σ := List UInt8 × Int × Int × Int × List UInt8) fuelN (fun (v3 : List UInt8 × Int × Int × Int × List UInt8) => (cnd (decide (v3.2.2.2.1 < (32 : Int))) (gd (decide ((0 : Int) ≤ v3.2.2.2.1)) (cnd ((landK .u32 (shrK .u32 v3.2.2.1 v3.2.2.2.1) (1 : Int)) == (0 : Int)) (some (Ctl.go (v3.1, v3.2.1, v3.2.2.1, (IntKind.wrap .i64 (v3.2.2.2.1 + (1 : Int))), v3.2.2.2.2))) (bd (α := (List UInt8 × Int × Int × Int × Bool × List UInt8)) (cnd (decide (v3.2.1 < (IntKind.wrap .i64 ((0 : Int) - v3.2.2.2.1)))) (some (v3.1, v3.2.1, v3.2.2.1, v3.2.2.2.1, true, v3.2.2.2.2)) (some (v3.1, v3.2.1, v3.2.2.1, v3.2.2.2.1, (decide (v3.2.1 ≥ (IntKind.wrap .i64 ((IntKind.wrap .i64 ((8 : Int) * ((v3.1.length : Nat) : Int))) - v3.2.2.2.1)))), v3.2.2.2.2))) (fun v4 => (cnd v4.2.2.2.2.1 (dnO (some ((2 : Int), ([] : List UInt8)))) (gd (decide ((0 : Int) ≤ (IntKind.wrap .i64 (Int.tdiv (IntKind.wrap .i64 (v4.2.1 + v4.2.2.2.1)) (8 : Int))) ∧ (IntKind.wrap .i64 (Int.tdiv (IntKind.wrap .i64 (v4.2.1 + v4.2.2.2.1)) (8 : Int))) < ((v4.2.2.2.2.2.length : Nat) : Int))) (gd (decide ((0 : Int) ≤ (Int.tmod (IntKind.wrap .i64 (v4.2.1 + v4.2.2.2.1)) (8 : Int)))) (gd (decide ((0 : Int) ≤ (IntKind.wrap .i64 (Int.tdiv (IntKind.wrap .i64 (v4.2.1 + v4.2.2.2.1)) (8 : Int))) ∧ (IntKind.wrap .i64 (Int.tdiv (IntKind.wrap .i64 (v4.2.1 + v4.2.2.2.1)) (8 : Int))) < ((v4.2.2.2.2.2.length : Nat) : Int))) (some (Ctl.go (v4.1, v4.2.1, v4.2.2.1, (IntKind.wrap .i64 (v4.2.2.2.1 + (1 : Int))), (List.set v4.2.2.2.2.2 ((IntKind.wrap .i64 (Int.tdiv (IntKind.wrap .i64 (v4.2.1 + v4.2.2.2.1)) (8 : Int))).toNat) (u8 (lxorK .u8 ((UInt8.toNat (List.getD v4.2.2.2.2.2 ((IntKind.wrap .i64 (Int.tdiv (IntKind.wrap .i64 (v4.2.1 + v4.2.2.2.1)) (8 : Int))).toNat) (0 : UInt8)) : Nat) : Int) (shlK .u8 (1 : Int) (Int.tmod (IntKind.wrap .i64 (v4.2.1 + v4.2.2.2.1)) (8 : Int))))))))))))))))) (dnO (some ((0 : Int), v3.2.2.2.2))))) (a0, a1, a2, (0 : Int), (([] : List UInt8) ++ a0))))
theorem e53 (t : List UInt8 × Int × Int) : evF (stpT Tryd.prog T58 K58) Tryd.f53 p53 r53 (.s .d (.s .d (.s (.s .d (.b (.l o53_s1 (.s .d (.s (.b (.s .d (.s (.s (.j false [o53_s0] .d) .d) .d))) .d))))) .d))) t = (o53 t.1 t.2.1 t.2.2) := by kernel_rfl
theorem fo53 : FOk Tryd.prog 53 ⟨p53, r53, fun t => (o53 t.1 t.2.1 t.2.2)⟩ := FOk.run_eq (evF_ok (h := (.s .d (.s .d (.s (.s .d (.b (.l o53_s1 (.s .d (.s (.b (.s .d (.s (.s (.j false [o53_s0] .d) .d) .d))) .d))))) .d)))) (by kernel_rfl) (by kernel_rfl) (by kernel_rfl)) e53
def T59 : Tbl := (53, ⟨p53, r53, fun t => (o53 t.1 t.2.1 t.2.2)⟩) :: T58
theorem K59 : TOk Tryd.prog T59 := .cons K58 fo53
def p31 : Sch := ⟨[(0, .v (.agg [.i .i64, .own 0, .b, .i .i64, .b])), (1, .v (.c (.i .i64))), (2, .v (.c (.i .u32)))], [.row .y 5]⟩
def r31 : List Sch := [⟨[(0, .tup [.agg [.i .i64, .own 1, .b, .i .i64, .b], .c (.i .i64)])], [.no, .row .y 5]⟩]
def o31 (a0 : Int) (a1 : Bool) (a2 : Int) (a3 : Bool) (a4 : Int) (a5 : Int) (a6 : List UInt8) : Option (Int × Bool × Int × Bool × Int × List UInt8) :=
 (bd (α := (Int × List UInt8)) (o53 a6 a4 a5) (fun v1 => (cnd (v1.1 != (0 : Int)) (some (a0, a1, a2, a3, v1.1, a6)) (some (a0, a1, a2, a3, (0 : Int), v1.2)))))
theorem e31 (t : Int × Bool × Int × Bool × Int × Int × List UInt8) : evF (stpT Tryd.prog T59 K59) Tryd.f31 p31 r31 .d t = (o31 t.1 t.2.1 t.2.2.1 t.2.2.2.1 t.2.2.2.2.1 t.2.2.2.2.2.1 t.2.2.2.2.2.2) := by kernel_rfl
theorem fo31 : FOk Tryd.prog 31 ⟨p31, r31, fun t => (o31 t.1 t.2.1 t.2.2.1 t.2.2.2.1 t.2.2.2.2.1 t.2.2.2.2.2.1 t.2.2.2.2.2.2)⟩ := FOk.run_eq (evF_ok (h := .d) (by kernel_rfl) (by kernel_rfl) (by kernel_rfl)) e31
def T60 : Tbl := (31, ⟨p31, r31, fun t => (o31 t.1 t.2.1 t.2.2.1 t.2.2.2.1 t.2.2.2.2.1 t.2.2.2.2.2.1 t.2.2.2.2.2.2)⟩) :: T59
theorem K60 : TOk Tryd.prog T60 := .cons K59 fo31
def p23 : Sch := ⟨[(0, .v (.c (.cst (.pointer none))))], []⟩
def r23 : List Sch := [⟨[(0, .v (.c (.cst (.slice none 0 0))))], []⟩]
def o23 : Option Unit :=
 (some ())
theorem e23 (t : Unit) : evF (stpT Tryd.prog T60 K60) Tryd.f23 p23 r23 .d t = o23 := by kernel_rfl
theorem fo23 : FOk Tryd.prog 23 ⟨p23, r23, fun t => o23⟩ := FOk.run_eq (evF_ok (h := .d) (by kernel_rfl) (by kernel_rfl) (by kernel_rfl)) e23
def T61 : Tbl := (23, ⟨p23, r23, fun t => o23⟩) :: T60
theorem K61 : TOk Tryd.prog T61 := .cons K60 fo23
def p22 : Sch := ⟨[(0, .v (.c (.cst (.pointer none))))], []⟩
def r22 : List Sch := [⟨[(0, .v (.c (.b)))], []⟩]
def o22 : Option Bool :=
 (some false)
theorem e22 (t : Unit) : evF (stpT Tryd.prog T61 K61) Tryd.f22 p22 r22 .d t = o22 := by kernel_rfl
theorem fo22 : FOk Tryd.prog 22 ⟨p22, r22, fun t => o22⟩ := FOk.run_eq (evF_ok (h := .d) (by kernel_rfl) (by kernel_rfl) (by kernel_rfl)) e22
def T62 : Tbl := (22, ⟨p22, r22, fun t => o22⟩) :: T61
theorem K62 : TOk Tryd.prog T62 := .cons K61 fo22
def p32v1 : Sch := ⟨[(0, .v (.c (.cst (.pointer none))))], []⟩
def r32v1 : List Sch := [⟨[(0, .v (.c (.ic .i64 (0))))], []⟩]
def o32v1 : Option Unit :=
 (some ())
theorem e32v1 (t : Unit) : evF (stpT Tryd.prog T62 K62) Tryd.f32 p32v1 r32v1 .d t = o32v1 := by kernel_rfl
theorem fo32v1 : FOk Tryd.prog 32 ⟨p32v1, r32v1, fun t => o32v1⟩ := FOk.run_eq (evF_ok (h := .d) (by kernel_rfl) (by kernel_rfl) (by kernel_rfl)) e32v1
def T63 : Tbl := (32, ⟨p32v1, r32v1, fun t => o32v1⟩) :: T62
theorem K63 : TOk Tryd.prog T63 := .cons K62 fo32v1
def p20v1 : Sch := ⟨[(0, .v (.c (.cst (.pointer none))))], []⟩
def r20v1 : List Sch := [⟨[(0, .v (.c (.ic .u64 (0))))], []⟩]
def o20v1 : Option Unit :=
 (some ())
theorem e20v1 (t : Unit) : evF (stpT Tryd.prog T63 K63) Tryd.f20 p20v1 r20v1 .d t = o20v1 := by kernel_rfl
theorem fo20v1 : FOk Tryd.prog 20 ⟨p20v1, r20v1, fun t => o20v1⟩ := FOk.run_eq (evF_ok (h := .d) (by kernel_rfl) (by kernel_rfl) (by kernel_rfl)) e20v1
def T64 : Tbl := (20, ⟨p20v1, r20v1, fun t => o20v1⟩) :: T63
theorem K64 : TOk Tryd.prog T64 := .cons K63 fo20v1
def o48_s0 : Sch := ⟨[(0, .v (.c (.ro .y false))), (1, .v (.c (.i .i64))), (2, .v (.c (.i .u32))), (8, .v (.c (.own 0))), (24, .v (.c (.b)))], [.row .y 5]⟩
def o48_s1 : Sch := ⟨[(0, .v (.c (.ro .y false))), (1, .v (.c (.i .i64))), (2, .v (.c (.i .u32))), (8, .v (.c (.own 0))), (10, .v (.c (.i .i64))), (25, .v (.c (.i .i64))), (44, .v (.c (.b)))], [.row .y 5]⟩
def o48_s2 : Sch := ⟨[(0, .v (.c (.ro .y false))), (1, .v (.c (.i .i64))), (2, .v (.c (.i .u32))), (8, .v (.c (.own 0))), (25, .v (.c (.i .i64)))], [.row .y 5]⟩
def p48 : Sch := ⟨[(0, .v (.c (.ro .y false))), (1, .v (.c (.i .i64))), (2, .v (.c (.i .u32)))], []⟩
def r48 : List Sch := [⟨[(0, .tup [.c (.own 0), .c (.i .i64)])], [.row .y 5]⟩]
def o48 (a0 : List UInt8) (a1 : Int) (a2 : Int) : Option (Int × List UInt8) :=
 (bd (α := (List UInt8)) (o47 a0) (fun v1 => (cnd (a2 == (0 : Int)) (some ((0 : Int), v1)) (bd (α := (List UInt8 × Int × Int × Bool × List UInt8)) (cnd (decide (a1 < (-31 : Int))) (some (a0, a1, a2, true, v1)) (some (a0, a1, a2, (decide (a1 ≥ (IntKind.wrap .i64 ((8 : Int) * ((a0.length : Nat) : Int))))), v1))) (fun v2 => (cnd v2.2.2.2.1 (some ((2 : Int), ([] : List UInt8))) (loopO (σ := List UInt8 × Int × Int × Int × List UInt8) fuelN (fun (v5 : List UInt8 × Int × Int × Int × List UInt8) => (cnd (decide (v5.2.2.2.1 < (32 : Int))) (gd (decide ((0 : Int) ≤ v5.2.2.2.1)) (cnd ((landK .u32 (shrK .u32 v5.2.2.1 v5.2.2.2.1) (1 : Int)) == (0 : Int)) (some (Ctl.go (v5.1, v5.2.1, v5.2.2.1, (IntKind.wrap .i64 (v5.2.2.2.1 + (1 : Int))), v5.2.2.2.2))) (bd (α := (List UInt8 × Int × Int × Int × Int × Bool × List UInt8)) (cnd (decide ((IntKind.wrap .i64 (v5.2.1 + v5.2.2.2.1)) < (0 : Int))) (some (v5.1, v5.2.1, v5.2.2.1, (IntKind.wrap .i64 (v5.2.1 + v5.2.2.2.1)), v5.2.2.2.1, true, v5.2.2.2.2)) (some (v5.1, v5.2.1, v5.2.2.1, (IntKind.wrap .i64 (v5.2.1 + v5.2.2.2.1)), v5.2.2.2.1, (decide ((IntKind.wrap .i64 (v5.2.1 + v5.2.2.2.1)) ≥ (IntKind.wrap .i64 ((8 : Int) * ((v5.1.length : Nat) : Int))))), v5.2.2.2.2))) (fun v6 => (cnd v6.2.2.2.2.2.1 (dnO (some ((2 : Int), ([] : List UInt8)))) (gd (decide ((0 : Int) ≤ (IntKind.wrap .i64 (Int.tdiv v6.2.2.2.1 (8 : Int))) ∧ (IntKind.wrap .i64 (Int.tdiv v6.2.2.2.1 (8 : Int))) < ((v6.2.2.2.2.2.2.length : Nat) : Int))) (gd (decide ((0 : Int) ≤ (Int.tmod v6.2.2.2.1 (8 : Int)))) (gd (decide ((0 : Int) ≤ (IntKind.wrap .i64 (Int.tdiv v6.2.2.2.1 (8 : Int))) ∧ (IntKind.wrap .i64 (Int.tdiv v6.2.2.2.1 (8 : Int))) < ((v6.2.2.2.2.2.2.length : Nat) : Int))) (some (Ctl.go (v6.1, v6.2.1, v6.2.2.1, (IntKind.wrap .i64 (v6.2.2.2.2.1 + (1 : Int))), (List.set v6.2.2.2.2.2.2 ((IntKind.wrap .i64 (Int.tdiv v6.2.2.2.1 (8 : Int))).toNat) (u8 (lxorK .u8 ((UInt8.toNat (List.getD v6.2.2.2.2.2.2 ((IntKind.wrap .i64 (Int.tdiv v6.2.2.2.1 (8 : Int))).toNat) (0 : UInt8)) : Nat) : Int) (shlK .u8 (1 : Int) (Int.tmod v6.2.2.2.1 (8 : Int))))))))))))))))) (dnO (some ((0 : Int), v5.2.2.2.2))))) (v2.1, v2.2.1, v2.2.2.1, (0 : Int), v2.2.2.2.2))))))))
theorem e48 (t : List UInt8 × Int × Int) : evF (stpT Tryd.prog T64 K64) Tryd.f48 p48 r48 (.s .d (.s .d (.s .d (.s (.s (.j false [o48_s0] .d) .d) (.s (.s .d (.b (.l o48_s2 (.s .d (.s .d (.s (.b (.s .d (.s .d (.s .d (.s (.s (.j false [o48_s1] .d) .d) .d))))) .d)))))) .d))))) t = (o48 t.1 t.2.1 t.2.2) := by kernel_rfl
theorem fo48 : FOk Tryd.prog 48 ⟨p48, r48, fun t => (o48 t.1 t.2.1 t.2.2)⟩ := FOk.run_eq (evF_ok (h := (.s .d (.s .d (.s .d (.s (.s (.j false [o48_s0] .d) .d) (.s (.s .d (.b (.l o48_s2 (.s .d (.s .d (.s (.b (.s .d (.s .d (.s .d (.s (.s (.j false [o48_s1] .d) .d) .d))))) .d)))))) .d)))))) (by kernel_rfl) (by kernel_rfl) (by kernel_rfl)) e48
def T65 : Tbl := (48, ⟨p48, r48, fun t => (o48 t.1 t.2.1 t.2.2)⟩) :: T64
theorem K65 : TOk Tryd.prog T65 := .cons K64 fo48
def p24v1 : Sch := ⟨[(0, .v (.c (.ptr 0 0))), (1, .v (.c (.i .i64))), (2, .v (.c (.i .u32)))], [.cells 84 [.own 1, .i .i64, .b], .row .y 5]⟩
def r24v1 : List Sch := [⟨[(0, .v (.c (.i .i64)))], [.cells 84 [.own 1, .i .i64, .b], .row .y 5]⟩]
def o24v1 (a0 : Int) (a1 : Int) (a2 : Int) (a3 : Bool) (a4 : List UInt8) : Option (Int × Int × Bool × List UInt8) :=
 (bd (α := (Int × List UInt8)) (o48 a4 a0 a1) (fun v1 => (cnd (v1.1 == (0 : Int)) (some (v1.1, a2, a3, (ovrL a4 0 (List.take (a4.length - 0) v1.2)))) (some (v1.1, a2, a3, a4)))))
theorem e24v1 (t : Int × Int × Int × Bool × List UInt8) : evF (stpT Tryd.prog T65 K65) Tryd.f24 p24v1 r24v1 .d t = (o24v1 t.1 t.2.1 t.2.2.1 t.2.2.2.1 t.2.2.2.2) := by kernel_rfl
theorem fo24v1 : FOk Tryd.prog 24 ⟨p24v1, r24v1, fun t => (o24v1 t.1 t.2.1 t.2.2.1 t.2.2.2.1 t.2.2.2.2)⟩ := FOk.run_eq (evF_ok (h := .d) (by kernel_rfl) (by kernel_rfl) (by kernel_rfl)) e24v1
def T66 : Tbl := (24, ⟨p24v1, r24v1, fun t => (o24v1 t.1 t.2.1 t.2.2.1 t.2.2.2.1 t.2.2.2.2)⟩) :: T65
theorem K66 : TOk Tryd.prog T66 := .cons K65 fo24v1
def p23v1 : Sch := ⟨[(0, .v (.c (.ptr 0 0)))], [.lent [.ro .y false, .i .i64, .b]]⟩
def r23v1 : List Sch := [⟨[(0, .v (.c (.own 1)))], [.no, .row .y 5]⟩]
def o23v1 (a0 : List UInt8) (a1 : Int) (a2 : Bool) : Option (List UInt8) :=
 (bd (α := (List UInt8)) (o47 a0) (fun v1 => (some v1)))
theorem e23v1 (t : List UInt8 × Int × Bool) : evF (stpT Tryd.prog T66 K66) Tryd.f23 p23v1 r23v1 .d t = (o23v1 t.1 t.2.1 t.2.2) := by kernel_rfl
theorem fo23v1 : FOk Tryd.prog 23 ⟨p23v1, r23v1, fun t => (o23v1 t.1 t.2.1 t.2.2)⟩ := FOk.run_eq (evF_ok (h := .d) (by kernel_rfl) (by kernel_rfl) (by kernel_rfl)) e23v1
def T67 : Tbl := (23, ⟨p23v1, r23v1, fun t => (o23v1 t.1 t.2.1 t.2.2)⟩) :: T66
theorem K67 : TOk Tryd.prog T67 := .cons K66 fo23v1
def p22v1 : Sch := ⟨[(0, .v (.c (.ptr 0 0)))], [.lent [.ro .y false, .i .i64, .b]]⟩
def r22v1 : List Sch := [⟨[(0, .v (.c (.b)))], [.no]⟩]
def o22v1 (a0 : List UInt8) (a1 : Int) (a2 : Bool) : Option Bool :=
 (some a2)
theorem e22v1 (t : List UInt8 × Int × Bool) : evF (stpT Tryd.prog T67 K67) Tryd.f22 p22v1 r22v1 .d t = (o22v1 t.1 t.2.1 t.2.2) := by kernel_rfl
theorem fo22v1 : FOk Tryd.prog 22 ⟨p22v1, r22v1, fun t => (o22v1 t.1 t.2.1 t.2.2)⟩ := FOk.run_eq (evF_ok (h := .d) (by kernel_rfl) (by kernel_rfl) (by kernel_rfl)) e22v1
def T68 : Tbl := (22, ⟨p22v1, r22v1, fun t => (o22v1 t.1 t.2.1 t.2.2)⟩) :: T67
theorem K68 : TOk Tryd.prog T68 := .cons K67 fo22v1
def o21v1_s0 : Sch := ⟨[(0, .v (.c (.ptr 0 0))), (10, .v (.c (.i .i64))), (11, .v (.c (.i .i64))), (28, .v (.c (.b)))], [.cells 86 [.ptr 1 0, .own 3, .i .u64, .b], .cells 84 [.own 2, .i .i64, .b], .row .y 5, .row (.p (.i .i64) (.p (.i .u8) (.p (.i .i64) (.i .u64)))) 42]⟩
def o21v1_s1 : Sch := ⟨[(0, .v (.c (.ptr 0 0))), (10, .v (.c (.i .i64))), (11, .v (.c (.i .i64)))], [.cells 86 [.ptr 1 0, .own 3, .i .u64, .b], .cells 84 [.own 2, .i .i64, .b], .row .y 5, .row (.p (.i .i64) (.p (.i .u8) (.p (.i .i64) (.i .u64)))) 42]⟩
def p21v1 : Sch := ⟨[(0, .v (.c (.ptr 0 0)))], [.cells 86 [.ptr 1 0, .own 3, .i .u64, .b], .cells 84 [.own 2, .i .i64, .b], .row .y 5, .row (.p (.i .i64) (.p (.i .u8) (.p (.i .i64) (.i .u64)))) 42]⟩
def r21v1 : List Sch := [⟨[(0, .v (.c (.i .i64)))], [.cells 86 [.ptr 1 0, .own 4, .i .u64, .b], .cells 84 [.own 2, .i .i64, .b], .row .y 5, .no, .row (.p (.i .i64) (.p (.i .u8) (.p (.i .i64) (.i .u64)))) 42]⟩]
def o21v1 (a0 : Int) (a1 : Bool) (a2 : Int) (a3 : Bool) (a4 : List UInt8) (a5 : List (Int × Int × Int × Int)) : Option (Int × Int × Bool × Int × Bool × List UInt8 × List (Int × Int × Int × Int)) :=
 (bd (α := Int) (o32 a4 a2 a3) (fun v1 => (loopO (σ := Int × Int × Int × Bool × Int × Bool × List UInt8 × List (Int × Int × Int × Int)) fuelN (fun (v5 : Int × Int × Int × Bool × Int × Bool × List UInt8 × List (Int × Int × Int × Int)) => (cnd (decide (v5.2.1 < v5.1)) (bd (α := (Int × Int × Bool × Int × Bool × Int × Bool × List UInt8 × List (Int × Int × Int × Int))) (cnd v5.2.2.2.1 (some (v5.1, v5.2.1, true, v5.2.2.1, v5.2.2.2.1, v5.2.2.2.2.1, v5.2.2.2.2.2.1, v5.2.2.2.2.2.2.1, v5.2.2.2.2.2.2.2)) (bd (α := (Bool × Int × Bool × List UInt8)) (o42 (IntKind.wrap .i64 (v5.2.1 * (30 : Int))) ([(u8 (0 : Int))] : List UInt8) v5.2.2.2.2.1 v5.2.2.2.2.2.1 v5.2.2.2.2.2.2.1) (fun v6 => (some (v5.1, v5.2.1, (!v6.1), v5.2.2.1, v5.2.2.2.1, v6.2.1, v6.2.2.1, v6.2.2.2, v5.2.2.2.2.2.2.2))))) (fun v7 => (cnd v7.2.2.1 (dnO (some ((19 : Int), v7.2.2.2.1, true, v7.2.2.2.2.2.1, v7.2.2.2.2.2.2.1, v7.2.2.2.2.2.2.2.1, v7.2.2.2.2.2.2.2.2))) (some (Ctl.go (v7.1, (IntKind.wrap .i64 (v7.2.1 + (1 : Int))), v7.2.2.2.1, v7.2.2.2.2.1, v7.2.2.2.2.2.1, v7.2.2.2.2.2.2.1, v7.2.2.2.2.2.2.2.1, v7.2.2.2.2.2.2.2.2)))))) (dnO (some ((0 : Int), v5.2.2.1, v5.2.2.2.1, v5.2.2.2.2.1, v5.2.2.2.2.2.1, v5.2.2.2.2.2.2.1, ([] : List (Int × Int × Int × Int))))))) (v1, (0 : Int), a0, a1, a2, a3, a4, a5))))
theorem e21v1 (t : Int × Bool × Int × Bool × List UInt8 × List (Int × Int × Int × Int)) : evF (stpT Tryd.prog T68 K68) Tryd.f21 p21v1 r21v1 (.s .d (.s .d (.s (.s .d (.b (.l o21v1_s1 (.s .d (.s .d (.s (.b (.s .d (.s (.j false [o21v1_s0] .d) .d))) .d)))))) .d))) t = (o21v1 t.1 t.2.1 t.2.2.1 t.2.2.2.1 t.2.2.2.2.1 t.2.2.2.2.2) := by kernel_rfl
theorem fo21v1 : FOk Tryd.prog 21 ⟨p21v1, r21v1, fun t => (o21v1 t.1 t.2.1 t.2.2.1 t.2.2.2.1 t.2.2.2.2.1 t.2.2.2.2.2)⟩ := FOk.run_eq (evF_ok (h := (.s .d (.s .d (.s (.s .d (.b (.l o21v1_s1 (.s .d (.s .d (.s (.b (.s .d (.s (.j false [o21v1_s0] .d) .d))) .d)))))) .d)))) (by kernel_rfl) (by kernel_rfl) (by kernel_rfl)) e21v1
def T69 : Tbl := (21, ⟨p21v1, r21v1, fun t => (o21v1 t.1 t.2.1 t.2.2.1 t.2.2.2.1 t.2.2.2.2.1 t.2.2.2.2.2)⟩) :: T68
theorem K69 : TOk Tryd.prog T69 := .cons K68 fo21v1
def o8_s0 : Sch := ⟨[(0, .v (.c (.i .i64))), (1, .v (.c (.ro (.p (.i .u8) (.p (.i .i64) (.p (.i .u8) (.p (.i .i64) (.p (.i .i64) (.i .u32)))))) false))), (5, .v (.c (.cst (.pointer none)))), (6, .v (.c (.ic .i64 (1))))], []⟩
def o8_s1 : Sch := ⟨[(0, .v (.c (.i .i64))), (1, .v (.c (.ro (.p (.i .u8) (.p (.i .i64) (.p (.i .u8) (.p (.i .i64) (.p (.i .i64) (.i .u32)))))) false))), (5, .v (.c (.ptr 0 0))), (6, .v (.c (.ic .i64 (0))))], [.cells 84 [.own 1, .ic .i64 (-1), .b], .row .y 5]⟩
def o8_s2 : Sch := ⟨[(1, .v (.c (.ro (.p (.i .u8) (.p (.i .i64) (.p (.i .u8) (.p (.i .i64) (.p (.i .i64) (.i .u32)))))) false))), (5, .v (.c (.cst (.pointer none)))), (6, .v (.c (.ic .i64 (1)))), (7, .v (.c (.ptr 0 0))), (8, .v (.c (.i .i64))), (46, .v (.c (.b)))], [.cells 56 [.i .i64, .own 1, .b, .ic .i64 (0), .b], .row .y 5]⟩
def o8_s3 : Sch := ⟨[(4, .v (.c (.b)))], []⟩
def o8_s4 : Sch := ⟨[(1, .v (.c (.ro (.p (.i .u8) (.p (.i .i64) (.p (.i .u8) (.p (.i .i64) (.p (.i .i64) (.i .u32)))))) false))), (5, .v (.c (.cst (.pointer none)))), (7, .v (.c (.ptr 0 0))), (9, .v (.c (.cst (.pointer none)))), (11, .v (.c (.ptr 1 0))), (13, .v (.c (.i .i64))), (71, .v (.c (.b)))], [.cells 56 [.i .i64, .own 2, .b, .i .i64, .b], .cells 60 [.own 3, .i .u64, .b], .row .y 5, .row (.p (.i .i64) (.p (.i .u8) (.p (.i .i64) (.i .u64)))) 42]⟩
def o8_s5 : Sch := ⟨[(1, .v (.c (.ro (.p (.i .u8) (.p (.i .i64) (.p (.i .u8) (.p (.i .i64) (.p (.i .i64) (.i .u32)))))) false))), (5, .v (.c (.cst (.pointer none)))), (7, .v (.c (.ptr 0 0))), (9, .v (.c (.cst (.pointer none)))), (11, .v (.c (.ptr 1 0))), (13, .v (.c (.i .i64))), (118, .v (.c (.b)))], [.cells 56 [.i .i64, .own 2, .b, .i .i64, .b], .cells 60 [.own 3, .i .u64, .b], .row .y 5, .row (.p (.i .i64) (.p (.i .u8) (.p (.i .i64) (.i .u64)))) 42]⟩
def o8_s6 : Sch := ⟨[(1, .v (.c (.ro (.p (.i .u8) (.p (.i .i64) (.p (.i .u8) (.p (.i .i64) (.p (.i .i64) (.i .u32)))))) false))), (5, .v (.c (.cst (.pointer none)))), (7, .v (.c (.ptr 0 0))), (9, .v (.c (.cst (.pointer none)))), (11, .v (.c (.ptr 1 0))), (13, .v (.c (.i .i64))), (19, .v (.c (.cst (.pointer none)))), (20, .v (.c (.ic .i64 (1)))), (21, .v (.c (.ptr 2 0))), (159, .v (.c (.b)))], [.cells 56 [.i .i64, .own 3, .b, .i .i64, .b], .cells 60 [.own 4, .i .u64, .b], .cells 60 [.own 5, .i .u64, .b], .row .y 5, .row (.p (.i .i64) (.p (.i .u8) (.p (.i .i64) (.i .u64)))) 42, .row (.p (.i .i64) (.p (.i .u8) (.p (.i .i64) (.i .u64)))) 42]⟩
def o8_s7 : Sch := ⟨[(1, .v (.c (.ro (.p (.i .u8) (.p (.i .i64) (.p (.i .u8) (.p (.i .i64) (.p (.i .i64) (.i .u32)))))) false))), (5, .v (.c (.cst (.pointer none)))), (7, .v (.c (.ptr 0 0))), (9, .v (.c (.cst (.pointer none)))), (11, .v (.c (.ptr 1 0))), (13, .v (.c (.i .i64)))], [.cells 56 [.i .i64, .own 2, .b, .i .i64, .b], .cells 60 [.own 3, .i .u64, .b], .row .y 5, .row (.p (.i .i64) (.p (.i .u8) (.p (.i .i64) (.i .u64)))) 42]⟩
def o8_s8 : Sch := ⟨[(1, .v (.c (.ro (.p (.i .u8) (.p (.i .i64) (.p (.i .u8) (.p (.i .i64) (.p (.i .i64) (.i .u32)))))) false))), (5, .v (.c (.cst (.pointer none)))), (7, .v (.c (.ptr 0 0))), (9, .v (.c (.cst (.pointer none)))), (11, .v (.c (.ptr 1 0))), (13, .v (.c (.i .i64))), (14, .v (.c (.ptr 2 0))), (80, .v (.c (.i .u8))), (129, .v (.c (.b)))], [.cells 56 [.i .i64, .own 3, .b, .i .i64, .b], .cells 60 [.own 4, .i .u64, .b], .cells 24 [.i .u8, .i .i64, .i .u8, .i .i64, .i .i64, .i .u32], .row .y 5, .row (.p (.i .i64) (.p (.i .u8) (.p (.i .i64) (.i .u64)))) 42]⟩
def o8_s9 : Sch := ⟨[(1, .v (.c (.ro (.p (.i .u8) (.p (.i .i64) (.p (.i .u8) (.p (.i .i64) (.p (.i .i64) (.i .u32)))))) false))), (5, .v (.c (.cst (.pointer none)))), (7, .v (.c (.ptr 0 0))), (9, .v (.c (.cst (.pointer none)))), (11, .v (.c (.ptr 1 0))), (13, .v (.c (.i .i64))), (14, .v (.c (.ptr 2 0))), (80, .v (.c (.i .u8))), (81, .v (.c (.b)))], [.cells 56 [.i .i64, .own 3, .b, .i .i64, .b], .cells 60 [.own 4, .i .u64, .b], .cells 24 [.i .u8, .i .i64, .i .u8, .i .i64, .i .i64, .i .u32], .row .y 5, .row (.p (.i .i64) (.p (.i .u8) (.p (.i .i64) (.i .u64)))) 42]⟩
def o8_s10 : Sch := ⟨[(1, .v (.c (.ro (.p (.i .u8) (.p (.i .i64) (.p (.i .u8) (.p (.i .i64) (.p (.i .i64) (.i .u32)))))) false))), (5, .v (.c (.cst (.pointer none)))), (7, .v (.c (.ptr 0 0))), (9, .v (.c (.cst (.pointer none)))), (11, .v (.c (.ptr 1 0))), (13, .v (.c (.i .i64))), (234, .v (.c (.b)))], [.cells 56 [.i .i64, .own 2, .b, .i .i64, .b], .cells 60 [.own 3, .i .u64, .b], .row .y 5, .row (.p (.i .i64) (.p (.i .u8) (.p (.i .i64) (.i .u64)))) 42]⟩
def o8_s11 : Sch := ⟨[(1, .v (.c (.ro (.p (.i .u8) (.p (.i .i64) (.p (.i .u8) (.p (.i .i64) (.p (.i .i64) (.i .u32)))))) false))), (5, .v (.c (.ptr 0 0))), (6, .v (.c (.ic .i64 (0)))), (7, .v (.c (.ptr 1 0))), (8, .v (.c (.i .i64))), (46, .v (.c (.b)))], [.cells 84 [.own 2, .ic .i64 (-1), .b], .cells 56 [.i .i64, .own 3, .b, .ic .i64 (0), .b], .row .y 5, .row .y 5]⟩
def o8_s12 : Sch := ⟨[(1, .v (.c (.ro (.p (.i .u8) (.p (.i .i64) (.p (.i .u8) (.p (.i .i64) (.p (.i .i64) (.i .u32)))))) false))), (5, .v (.c (.ptr 0 0))), (7, .v (.c (.ptr 1 0))), (9, .v (.c (.cst (.pointer none))))], [.cells 84 [.own 2, .i .i64, .b], .cells 56 [.i .i64, .own 3, .b, .ic .i64 (0), .b], .row .y 5, .row .y 5]⟩
def o8_s13 : Sch := ⟨[(1, .v (.c (.ro (.p (.i .u8) (.p (.i .i64) (.p (.i .u8) (.p (.i .i64) (.p (.i .i64) (.i .u32)))))) false))), (5, .v (.c (.ptr 0 0))), (7, .v (.c (.ptr 1 0))), (9, .v (.c (.ptr 2 0)))], [.cells 84 [.own 3, .i .i64, .b], .cells 56 [.i .i64, .own 4, .b, .ic .i64 (0), .b], .cells 86 [.ptr 0 0, .own 5, .i .u64, .b], .row .y 5, .row .y 5, .row (.p (.i .i64) (.p (.i .u8) (.p (.i .i64) (.i .u64)))) 42]⟩
def o8_s14 : Sch := ⟨[(1, .v (.c (.ro (.p (.i .u8) (.p (.i .i64) (.p (.i .u8) (.p (.i .i64) (.p (.i .i64) (.i .u32)))))) false))), (5, .v (.c (.ptr 0 0))), (7, .v (.c (.ptr 1 0))), (9, .v (.c (.ptr 2 0))), (11, .v (.c (.ptr 3 0))), (13, .v (.c (.i .i64))), (71, .v (.c (.b)))], [.cells 84 [.own 4, .i .i64, .b], .cells 56 [.i .i64, .own 5, .b, .i .i64, .b], .cells 86 [.ptr 0 0, .own 6, .i .u64, .b], .cells 60 [.own 7, .i .u64, .b], .row .y 5, .row .y 5, .row (.p (.i .i64) (.p (.i .u8) (.p (.i .i64) (.i .u64)))) 42, .row (.p (.i .i64) (.p (.i .u8) (.p (.i .i64) (.i .u64)))) 42]⟩
def o8_s15 : Sch := ⟨[(1, .v (.c (.ro (.p (.i .u8) (.p (.i .i64) (.p (.i .u8) (.p (.i .i64) (.p (.i .i64) (.i .u32)))))) false))), (5, .v (.c (.ptr 0 0))), (7, .v (.c (.ptr 1 0))), (9, .v (.c (.ptr 2 0))), (11, .v (.c (.ptr 3 0))), (13, .v (.c (.i .i64))), (118, .v (.c (.b)))], [.cells 84 [.own 4, .i .i64, .b], .cells 56 [.i .i64, .own 5, .b, .i .i64, .b], .cells 86 [.ptr 0 0, .own 6, .i .u64, .b], .cells 60 [.own 7, .i .u64, .b], .row .y 5, .row .y 5, .row (.p (.i .i64) (.p (.i .u8) (.p (.i .i64) (.i .u64)))) 42, .row (.p (.i .i64) (.p (.i .u8) (.p (.i .i64) (.i .u64)))) 42]⟩
def o8_s16 : Sch := ⟨[(1, .v (.c (.ro (.p (.i .u8) (.p (.i .i64) (.p (.i .u8) (.p (.i .i64) (.p (.i .i64) (.i .u32)))))) false))), (5, .v (.c (.ptr 0 0))), (7, .v (.c (.ptr 1 0))), (9, .v (.c (.ptr 2 0))), (11, .v (.c (.ptr 3 0))), (13, .v (.c (.i .i64))), (19, .v (.c (.cst (.pointer none)))), (20, .v (.c (.ic .i64 (19))))], [.cells 84 [.own 4, .i .i64, .b], .cells 56 [.i .i64, .own 5, .b, .i .i64, .b], .cells 86 [.ptr 0 0, .own 6, .i .u64, .b], .cells 60 [.own 7, .i .u64, .b], .row .y 5, .row .y 5, .row (.p (.i .i64) (.p (.i .u8) (.p (.i .i64) (.i .u64)))) 42, .row (.p (.i .i64) (.p (.i .u8) (.p (.i .i64) (.i .u64)))) 42]⟩
def o8_s17 : Sch := ⟨[(1, .v (.c (.ro (.p (.i .u8) (.p (.i .i64) (.p (.i .u8) (.p (.i .i64) (.p (.i .i64) (.i .u32)))))) false))), (5, .v (.c (.ptr 0 0))), (7, .v (.c (.ptr 1 0))), (9, .v (.c (.ptr 2 0))), (11, .v (.c (.ptr 3 0))), (13, .v (.c (.i .i64))), (19, .v (.c (.ptr 4 0))), (20, .v (.c (.ic .i64 (0))))], [.cells 84 [.own 5, .i .i64, .b], .cells 56 [.i .i64, .own 6, .b, .i .i64, .b], .cells 86 [.ptr 0 0, .own 7, .i .u64, .b], .cells 60 [.own 8, .i .u64, .b], .cells 86 [.ptr 0 0, .own 9, .i .u64, .b], .row .y 5, .row .y 5, .row (.p (.i .i64) (.p (.i .u8) (.p (.i .i64) (.i .u64)))) 42, .row (.p (.i .i64) (.p (.i .u8) (.p (.i .i64) (.i .u64)))) 42, .row (.p (.i .i64) (.p (.i .u8) (.p (.i .i64) (.i .u64)))) 42]⟩
def o8_s18 : Sch := ⟨[(1, .v (.c (.ro (.p (.i .u8) (.p (.i .i64) (.p (.i .u8) (.p (.i .i64) (.p (.i .i64) (.i .u32)))))) false))), (5, .v (.c (.ptr 0 0))), (7, .v (.c (.ptr 1 0))), (9, .v (.c (.ptr 2 0))), (11, .v (.c (.ptr 3 0))), (13, .v (.c (.i .i64))), (19, .v (.c (.cst (.pointer none)))), (20, .v (.c (.ic .i64 (19)))), (21, .v (.c (.ptr 4 0))), (159, .v (.c (.b)))], [.cells 84 [.own 5, .i .i64, .b], .cells 56 [.i .i64, .own 6, .b, .i .i64, .b], .cells 86 [.ptr 0 0, .own 7, .i .u64, .b], .cells 60 [.own 8, .i .u64, .b], .cells 60 [.own 9, .i .u64, .b], .row .y 5, .row .y 5, .row (.p (.i .i64) (.p (.i .u8) (.p (.i .i64) (.i .u64)))) 42, .row (.p (.i .i64) (.p (.i .u8) (.p (.i .i64) (.i .u64)))) 42, .row (.p (.i .i64) (.p (.i .u8) (.p (.i .i64) (.i .u64)))) 42]⟩
def o8_s19 : Sch := ⟨[(1, .v (.c (.ro (.p (.i .u8) (.p (.i .i64) (.p (.i .u8) (.p (.i .i64) (.p (.i .i64) (.i .u32)))))) false))), (5, .v (.c (.ptr 0 0))), (7, .v (.c (.ptr 1 0))), (9, .v (.c (.ptr 2 0))), (11, .v (.c (.ptr 3 0))), (13, .v (.c (.i .i64))), (19, .v (.c (.ptr 4 0))), (20, .v (.c (.ic .i64 (0)))), (21, .v (.c (.ptr 5 0))), (159, .v (.c (.b)))], [.cells 84 [.own 6, .i .i64, .b], .cells 56 [.i .i64, .own 7, .b, .i .i64, .b], .cells 86 [.ptr 0 0, .own 8, .i .u64, .b], .cells 60 [.own 9, .i .u64, .b], .cells 86 [.ptr 0 0, .own 10, .i .u64, .b], .cells 60 [.own 11, .i .u64, .b], .row .y 5, .row .y 5, .row (.p (.i .i64) (.p (.i .u8) (.p (.i .i64) (.i .u64)))) 42, .row (.p (.i .i64) (.p (.i .u8) (.p (.i .i64) (.i .u64)))) 42, .row (.p (.i .i64) (.p (.i .u8) (.p (.i .i64) (.i .u64)))) 42, .row (.p (.i .i64) (.p (.i .u8) (.p (.i .i64) (.i .u64)))) 42]⟩
def o8_s20 : Sch := ⟨[(1, .v (.c (.ro (.p (.i .u8) (.p (.i .i64) (.p (.i .u8) (.p (.i .i64) (.p (.i .i64) (.i .u32)))))) false))), (5, .v (.c (.ptr 0 0))), (7, .v (.c (.ptr 1 0))), (9, .v (.c (.ptr 2 0))), (11, .v (.c (.ptr 3 0))), (13, .v (.c (.i .i64)))], [.cells 84 [.own 4, .i .i64, .b], .cells 56 [.i .i64, .own 5, .b, .i .i64, .b], .cells 86 [.ptr 0 0, .own 6, .i .u64, .b], .cells 60 [.own 7, .i .u64, .b], .row .y 5, .row .y 5, .row (.p (.i .i64) (.p (.i .u8) (.p (.i .i64) (.i .u64)))) 42, .row (.p (.i .i64) (.p (.i .u8) (.p (.i .i64) (.i .u64)))) 42]⟩
def o8_s21 : Sch := ⟨[(1, .v (.c (.ro (.p (.i .u8) (.p (.i .i64) (.p (.i .u8) (.p (.i .i64) (.p (.i .i64) (.i .u32)))))) false))), (5, .v (.c (.ptr 0 0))), (7, .v (.c (.ptr 1 0))), (9, .v (.c (.ptr 2 0))), (11, .v (.c (.ptr 3 0))), (13, .v (.c (.i .i64))), (14, .v (.c (.ptr 4 0))), (80, .v (.c (.i .u8))), (129, .v (.c (.b)))], [.cells 84 [.own 5, .i .i64, .b], .cells 56 [.i .i64, .own 6, .b, .i .i64, .b], .cells 86 [.ptr 0 0, .own 7, .i .u64, .b], .cells 60 [.own 8, .i .u64, .b], .cells 24 [.i .u8, .i .i64, .i .u8, .i .i64, .i .i64, .i .u32], .row .y 5, .row .y 5, .row (.p (.i .i64) (.p (.i .u8) (.p (.i .i64) (.i .u64)))) 42, .row (.p (.i .i64) (.p (.i .u8) (.p (.i .i64) (.i .u64)))) 42]⟩
def o8_s22 : Sch := ⟨[(1, .v (.c (.ro (.p (.i .u8) (.p (.i .i64) (.p (.i .u8) (.p (.i .i64) (.p (.i .i64) (.i .u32)))))) false))), (5, .v (.c (.ptr 0 0))), (7, .v (.c (.ptr 1 0))), (9, .v (.c (.ptr 2 0))), (11, .v (.c (.ptr 3 0))), (13, .v (.c (.i .i64))), (14, .v (.c (.ptr 4 0))), (80, .v (.c (.i .u8))), (81, .v (.c (.b)))], [.cells 84 [.own 5, .i .i64, .b], .cells 56 [.i .i64, .own 6, .b, .i .i64, .b], .cells 86 [.ptr 0 0, .own 7, .i .u64, .b], .cells 60 [.own 8, .i .u64, .b], .cells 24 [.i .u8, .i .i64, .i .u8, .i .i64, .i .i64, .i .u32], .row .y 5, .row .y 5, .row (.p (.i .i64) (.p (.i .u8) (.p (.i .i64) (.i .u64)))) 42, .row (.p (.i .i64) (.p (.i .u8) (.p (.i .i64) (.i .u64)))) 42]⟩
def o8_s23 : Sch := ⟨[(1, .v (.c (.ro (.p (.i .u8) (.p (.i .i64) (.p (.i .u8) (.p (.i .i64) (.p (.i .i64) (.i .u32)))))) false))), (5, .v (.c (.ptr 0 0))), (7, .v (.c (.ptr 1 0))), (9, .v (.c (.ptr 2 0))), (11, .v (.c (.ptr 3 0))), (13, .v (.c (.i .i64))), (234, .v (.c (.b)))], [.cells 84 [.own 4, .i .i64, .b], .cells 56 [.i .i64, .own 5, .b, .i .i64, .b], .cells 86 [.ptr 0 0, .own 6, .i .u64, .b], .cells 60 [.own 7, .i .u64, .b], .row .y 5, .row .y 5, .row (.p (.i .i64) (.p (.i .u8) (.p (.i .i64) (.i .u64)))) 42, .row (.p (.i .i64) (.p (.i .u8) (.p (.i .i64) (.i .u64)))) 42]⟩
def p8 : Sch := ⟨[(0, .v (.c (.i .i64))), (1, .v (.c (.ro (.p (.i .u8) (.p (.i .i64) (.p (.i .u8) (.p (.i .i64) (.p (.i .i64) (.i .u32)))))) false)))], []⟩
def r8 : List Sch := [⟨[(0, .v (.c (.b)))], []⟩]
def o8 (a0 : Int) (a1 : List (Int × Int × Int × Int × Int × Int)) : Option Bool :=
 (bd (α := Bool) o11 (fun v1 => (cnd (!v1) (some false) (bd (α := (Int × List (Int × Int × Int × Int × Int × Int)) ⊕ (Int × List (Int × Int × Int × Int × Int × Int) × Bool × List UInt8)) (bd (α := Unit ⊕ (Bool × List UInt8)) (o12 a0) (fun v2 => (sm v2 (fun v3 => (some (Sum.inl (a0, a1)))) (fun v4 => (some (Sum.inr (a0, a1, v4.1, v4.2))))))) (fun v5 => (sm v5 (fun v6 => (bd (α := (Int × Bool × Bool × Int × List UInt8)) (o25 v6.1) (fun v8 => (bd (α := (List (Int × Int × Int × Int × Int × Int) × Int × Bool × Int × Bool × Bool × List UInt8)) (cnd ((1 : Int) != v8.2.2.2.1) (some (v6.2, v8.2.2.2.1, true, v8.1, v8.2.1, v8.2.2.1, v8.2.2.2.2)) (some (v6.2, v8.2.2.2.1, true, v8.1, v8.2.1, v8.2.2.1, v8.2.2.2.2))) (fun v9 => (cnd v9.2.2.1 (bd (α := Bool) (cnd ((1 : Int) == v9.2.1) (some true) (some false)) (fun v10 => (some v10))) (bd (α := Unit) o13 (fun v11 => (bd (α := (Int × Bool × Int × List (Int × Int × Int × Int))) (o26 v9.2.2.2.1 v9.2.2.2.2.2.2 v9.2.2.2.2.1 (0 : Int) v9.2.2.2.2.2.1) (fun v12 => (loopO (σ := List (Int × Int × Int × Int × Int × Int) × Int × Int × Bool × Int × Bool × Int × Bool × List UInt8 × List (Int × Int × Int × Int)) fuelN (fun (v46 : List (Int × Int × Int × Int × Int × Int) × Int × Int × Bool × Int × Bool × Int × Bool × List UInt8 × List (Int × Int × Int × Int)) => (bd (α := (List (Int × Int × Int × Int × Int × Int) × Int × Bool × Int × Bool × Int × Bool × Int × Bool × List UInt8 × List (Int × Int × Int × Int))) (cnd (decide (v46.2.1 < ((v46.1.length : Nat) : Int))) (some (v46.1, v46.2.1, (decide (v46.2.1 < (24 : Int))), v46.2.2.1, v46.2.2.2.1, v46.2.2.2.2.1, v46.2.2.2.2.2.1, v46.2.2.2.2.2.2.1, v46.2.2.2.2.2.2.2.1, v46.2.2.2.2.2.2.2.2.1, v46.2.2.2.2.2.2.2.2.2)) (some (v46.1, v46.2.1, false, v46.2.2.1, v46.2.2.2.1, v46.2.2.2.2.1, v46.2.2.2.2.2.1, v46.2.2.2.2.2.2.1, v46.2.2.2.2.2.2.2.1, v46.2.2.2.2.2.2.2.2.1, v46.2.2.2.2.2.2.2.2.2))) (fun v47 => (cnd v47.2.2.1 (gd (decide ((0 : Int) ≤ v47.2.1 ∧ v47.2.1 < ((v47.1.length : Nat) : Int))) (jd (α := (List (Int × Int × Int × Int × Int × Int) × Int × Int × Bool × Int × Bool × Int × Bool × List UInt8 × List (Int × Int × Int × Int))) (bd (α := (List (Int × Int × Int × Int × Int × Int) × Int × Int × Bool × Int × Bool × Int × Bool × Int × Bool × Int × Int × Int × Int × Int × Int × List UInt8 × List (Int × Int × Int × Int))) (cnd ((Int.tmod ((List.getD v47.1 v47.2.1.toNat ((0 : Int), ((0 : Int), ((0 : Int), ((0 : Int), ((0 : Int), (0 : Int))))))).1) (9 : Int)) == (0 : Int)) (some (v47.1, v47.2.1, (Int.tmod ((List.getD v47.1 v47.2.1.toNat ((0 : Int), ((0 : Int), ((0 : Int), ((0 : Int), ((0 : Int), (0 : Int))))))).1) (9 : Int)), true, v47.2.2.2.1, v47.2.2.2.2.1, v47.2.2.2.2.2.1, v47.2.2.2.2.2.2.1, v47.2.2.2.2.2.2.2.1, v47.2.2.2.2.2.2.2.2.1, (List.getD v47.1 v47.2.1.toNat ((0 : Int), ((0 : Int), ((0 : Int), ((0 : Int), ((0 : Int), (0 : Int))))))).1, ((List.getD v47.1 v47.2.1.toNat ((0 : Int), ((0 : Int), ((0 : Int), ((0 : Int), ((0 : Int), (0 : Int))))))).2).1, (((List.getD v47.1 v47.2.1.toNat ((0 : Int), ((0 : Int), ((0 : Int), ((0 : Int), ((0 : Int), (0 : Int))))))).2).2).1, ((((List.getD v47.1 v47.2.1.toNat ((0 : Int), ((0 : Int), ((0 : Int), ((0 : Int), ((0 : Int), (0 : Int))))))).2).2).2).1, (((((List.getD v47.1 v47.2.1.toNat ((0 : Int), ((0 : Int), ((0 : Int), ((0 : Int), ((0 : Int), (0 : Int))))))).2).2).2).2).1, (((((List.getD v47.1 v47.2.1.toNat ((0 : Int), ((0 : Int), ((0 : Int), ((0 : Int), ((0 : Int), (0 : Int))))))).2).2).2).2).2, v47.2.2.2.2.2.2.2.2.2.1, v47.2.2.2.2.2.2.2.2.2.2)) (cnd ((Int.tmod ((List.getD v47.1 v47.2.1.toNat ((0 : Int), ((0 : Int), ((0 : Int), ((0 : Int), ((0 : Int), (0 : Int))))))).1) (9 : Int)) == (1 : Int)) (some (v47.1, v47.2.1, (Int.tmod ((List.getD v47.1 v47.2.1.toNat ((0 : Int), ((0 : Int), ((0 : Int), ((0 : Int), ((0 : Int), (0 : Int))))))).1) (9 : Int)), true, v47.2.2.2.1, v47.2.2.2.2.1, v47.2.2.2.2.2.1, v47.2.2.2.2.2.2.1, v47.2.2.2.2.2.2.2.1, v47.2.2.2.2.2.2.2.2.1, (List.getD v47.1 v47.2.1.toNat ((0 : Int), ((0 : Int), ((0 : Int), ((0 : Int), ((0 : Int), (0 : Int))))))).1, ((List.getD v47.1 v47.2.1.toNat ((0 : Int), ((0 : Int), ((0 : Int), ((0 : Int), ((0 : Int), (0 : Int))))))).2).1, (((List.getD v47.1 v47.2.1.toNat ((0 : Int), ((0 : Int), ((0 : Int), ((0 : Int), ((0 : Int), (0 : Int))))))).2).2).1, ((((List.getD v47.1 v47.2.1.toNat ((0 : Int), ((0 : Int), ((0 : Int), ((0 : Int), ((0 : Int), (0 : Int))))))).2).2).2).1, (((((List.getD v47.1 v47.2.1.toNat ((0 : Int), ((0 : Int), ((0 : Int), ((0 : Int), ((0 : Int), (0 : Int))))))).2).2).2).2).1, (((((List.getD v47.1 v47.2.1.toNat ((0 : Int), ((0 : Int), ((0 : Int), ((0 : Int), ((0 : Int), (0 : Int))))))).2).2).2).2).2, v47.2.2.2.2.2.2.2.2.2.1, v47.2.2.2.2.2.2.2.2.2.2)) (cnd ((Int.tmod ((List.getD v47.1 v47.2.1.toNat ((0 : Int), ((0 : Int), ((0 : Int), ((0 : Int), ((0 : Int), (0 : Int))))))).1) (9 : Int)) == (2 : Int)) (some (v47.1, v47.2.1, (Int.tmod ((List.getD v47.1 v47.2.1.toNat ((0 : Int), ((0 : Int), ((0 : Int), ((0 : Int), ((0 : Int), (0 : Int))))))).1) (9 : Int)), true, v47.2.2.2.1, v47.2.2.2.2.1, v47.2.2.2.2.2.1, v47.2.2.2.2.2.2.1, v47.2.2.2.2.2.2.2.1, v47.2.2.2.2.2.2.2.2.1, (List.getD v47.1 v47.2.1.toNat ((0 : Int), ((0 : Int), ((0 : Int), ((0 : Int), ((0 : Int), (0 : Int))))))).1, ((List.getD v47.1 v47.2.1.toNat ((0 : Int), ((0 : Int), ((0 : Int), ((0 : Int), ((0 : Int), (0 : Int))))))).2).1, (((List.getD v47.1 v47.2.1.toNat ((0 : Int), ((0 : Int), ((0 : Int), ((0 : Int), ((0 : Int), (0 : Int))))))).2).2).1, ((((List.getD v47.1 v47.2.1.toNat ((0 : Int), ((0 : Int), ((0 : Int), ((0 : Int), ((0 : Int), (0 : Int))))))).2).2).2).1, (((((List.getD v47.1 v47.2.1.toNat ((0 : Int), ((0 : Int), ((0 : Int), ((0 : Int), ((0 : Int), (0 : Int))))))).2).2).2).2).1, (((((List.getD v47.1 v47.2.1.toNat ((0 : Int), ((0 : Int), ((0 : Int), ((0 : Int), ((0 : Int), (0 : Int))))))).2).2).2).2).2, v47.2.2.2.2.2.2.2.2.2.1, v47.2.2.2.2.2.2.2.2.2.2)) (some (v47.1, v47.2.1, (Int.tmod ((List.getD v47.1 v47.2.1.toNat ((0 : Int), ((0 : Int), ((0 : Int), ((0 : Int), ((0 : Int), (0 : Int))))))).1) (9 : Int)), ((Int.tmod ((List.getD v47.1 v47.2.1.toNat ((0 : Int), ((0 : Int), ((0 : Int), ((0 : Int), ((0 : Int), (0 : Int))))))).1) (9 : Int)) == (3 : Int)), v47.2.2.2.1, v47.2.2.2.2.1, v47.2.2.2.2.2.1, v47.2.2.2.2.2.2.1, v47.2.2.2.2.2.2.2.1, v47.2.2.2.2.2.2.2.2.1, (List.getD v47.1 v47.2.1.toNat ((0 : Int), ((0 : Int), ((0 : Int), ((0 : Int), ((0 : Int), (0 : Int))))))).1, ((List.getD v47.1 v47.2.1.toNat ((0 : Int), ((0 : Int), ((0 : Int), ((0 : Int), ((0 : Int), (0 : Int))))))).2).1, (((List.getD v47.1 v47.2.1.toNat ((0 : Int), ((0 : Int), ((0 : Int), ((0 : Int), ((0 : Int), (0 : Int))))))).2).2).1, ((((List.getD v47.1 v47.2.1.toNat ((0 : Int), ((0 : Int), ((0 : Int), ((0 : Int), ((0 : Int), (0 : Int))))))).2).2).2).1, (((((List.getD v47.1 v47.2.1.toNat ((0 : Int), ((0 : Int), ((0 : Int), ((0 : Int), ((0 : Int), (0 : Int))))))).2).2).2).2).1, (((((List.getD v47.1 v47.2.1.toNat ((0 : Int), ((0 : Int), ((0 : Int), ((0 : Int), ((0 : Int), (0 : Int))))))).2).2).2).2).2, v47.2.2.2.2.2.2.2.2.2.1, v47.2.2.2.2.2.2.2.2.2.2))))) (fun v48 => (cnd v48.2.2.2.1 (bd (α := Unit) (o16v1 v48.2.2.2.2.2.2.2.2.2.2.2.1 v48.2.2.2.2.2.2.2.2.2.2.2.2.1 v48.2.2.2.2.2.2.2.2.2.2.2.2.2.1) (fun v49 => (bd (α := (Int × Bool × Int × Bool × Int × Bool × Int × Int × List UInt8 × List (Int × Int × Int × Int))) (o27 v48.2.2.2.2.1 v48.2.2.2.2.2.1 v48.2.2.2.2.2.2.1 v48.2.2.2.2.2.2.2.1 v48.2.2.2.2.2.2.2.2.1 v48.2.2.2.2.2.2.2.2.2.1 v48.2.2.2.2.2.2.2.2.2.2.2.1 v48.2.2.2.2.2.2.2.2.2.2.2.2.1 v48.2.2.2.2.2.2.2.2.2.2.2.2.2.1 v48.2.2.2.2.2.2.2.2.2.2.2.2.2.2.2.2.1 v48.2.2.2.2.2.2.2.2.2.2.2.2.2.2.2.2.2) (fun v50 => (bd (α := (List (Int × Int × Int × Int × Int × Int) × Int × Bool × Int × Bool × Int × Bool × Int × Bool × List UInt8 × List (Int × Int × Int × Int))) (cnd ((0 : Int) != v50.2.2.2.2.2.2.1) (some (v48.1, v48.2.1, true, v50.1, v50.2.1, v50.2.2.1, v50.2.2.2.1, v50.2.2.2.2.1, v50.2.2.2.2.2.1, v50.2.2.2.2.2.2.2.2.1, v50.2.2.2.2.2.2.2.2.2)) (some (v48.1, v48.2.1, ((1 : Int) != v50.2.2.2.2.2.2.2.1), v50.1, v50.2.1, v50.2.2.1, v50.2.2.2.1, v50.2.2.2.2.1, v50.2.2.2.2.2.1, v50.2.2.2.2.2.2.2.2.1, v50.2.2.2.2.2.2.2.2.2))) (fun v51 => (cnd v51.2.2.1 (dnO (dnO (some false))) (some (Ctl.go (v51.1, v51.2.1, v51.2.2.2.1, v51.2.2.2.2.1, v51.2.2.2.2.2.1, v51.2.2.2.2.2.2.1, v51.2.2.2.2.2.2.2.1, v51.2.2.2.2.2.2.2.2.1, v51.2.2.2.2.2.2.2.2.2.1, v51.2.2.2.2.2.2.2.2.2.2)))))))))) (cnd (v48.2.2.1 == (4 : Int)) (bd (α := Unit) (o15v1 v48.2.2.2.2.2.2.2.2.2.2.2.2.2.2.1) (fun v52 => (bd (α := (Int × Bool × Int × Bool × List UInt8)) (o28 v48.2.2.2.2.1 v48.2.2.2.2.2.1 v48.2.2.2.2.2.2.1 v48.2.2.2.2.2.2.2.1 v48.2.2.2.2.2.2.2.2.2.2.2.2.2.2.1 v48.2.2.2.2.2.2.2.2.2.2.2.2.2.2.2.2.1) (fun v53 => (some (Ctl.go (v48.1, v48.2.1, v53.1, v53.2.1, v53.2.2.1, v53.2.2.2.1, v48.2.2.2.2.2.2.2.2.1, v48.2.2.2.2.2.2.2.2.2.1, v53.2.2.2.2, v48.2.2.2.2.2.2.2.2.2.2.2.2.2.2.2.2.2))))))) (bd (α := (List (Int × Int × Int × Int × Int × Int) × Int × Int × Bool × Int × Bool × Int × Bool × Int × Bool × Int × Int × Int × Int × Int × Int × List UInt8 × List (Int × Int × Int × Int))) (cnd (v48.2.2.1 == (5 : Int)) (some (v48.1, v48.2.1, v48.2.2.1, true, v48.2.2.2.2.1, v48.2.2.2.2.2.1, v48.2.2.2.2.2.2.1, v48.2.2.2.2.2.2.2.1, v48.2.2.2.2.2.2.2.2.1, v48.2.2.2.2.2.2.2.2.2.1, v48.2.2.2.2.2.2.2.2.2.2.1, v48.2.2.2.2.2.2.2.2.2.2.2.1, v48.2.2.2.2.2.2.2.2.2.2.2.2.1, v48.2.2.2.2.2.2.2.2.2.2.2.2.2.1, v48.2.2.2.2.2.2.2.2.2.2.2.2.2.2.1, v48.2.2.2.2.2.2.2.2.2.2.2.2.2.2.2.1, v48.2.2.2.2.2.2.2.2.2.2.2.2.2.2.2.2.1, v48.2.2.2.2.2.2.2.2.2.2.2.2.2.2.2.2.2)) (some (v48.1, v48.2.1, v48.2.2.1, (v48.2.2.1 == (8 : Int)), v48.2.2.2.2.1, v48.2.2.2.2.2.1, v48.2.2.2.2.2.2.1, v48.2.2.2.2.2.2.2.1, v48.2.2.2.2.2.2.2.2.1, v48.2.2.2.2.2.2.2.2.2.1, v48.2.2.2.2.2.2.2.2.2.2.1, v48.2.2.2.2.2.2.2.2.2.2.2.1, v48.2.2.2.2.2.2.2.2.2.2.2.2.1, v48.2.2.2.2.2.2.2.2.2.2.2.2.2.1, v48.2.2.2.2.2.2.2.2.2.2.2.2.2.2.1, v48.2.2.2.2.2.2.2.2.2.2.2.2.2.2.2.1, v48.2.2.2.2.2.2.2.2.2.2.2.2.2.2.2.2.1, v48.2.2.2.2.2.2.2.2.2.2.2.2.2.2.2.2.2))) (fun v54 => (cnd v54.2.2.2.1 (bd (α := (List (Int × Int × Int × Int × Int × Int) × Int × Int × Bool × Int × Bool × Int × Bool × List UInt8 × List (Int × Int × Int × Int))) (cnd ((Int.tmod v54.2.2.2.2.2.2.2.2.2.2.1 (9 : Int)) == (5 : Int)) (bd (α := Unit) o17v1 (fun v55 => (bd (α := (Int × Bool × Bool × List UInt8)) (o29 v54.2.2.2.2.1 v54.2.2.2.2.2.1 v54.2.2.2.2.2.2.1 v54.2.2.2.2.2.2.2.1 v54.2.2.2.2.2.2.2.2.2.2.2.2.2.2.2.2.1) (fun v56 => (some (v54.1, v54.2.1, v56.1, v56.2.1, (0 : Int), v56.2.2.1, v54.2.2.2.2.2.2.2.2.1, v54.2.2.2.2.2.2.2.2.2.1, v56.2.2.2, v54.2.2.2.2.2.2.2.2.2.2.2.2.2.2.2.2.2)))))) (some (v54.1, v54.2.1, v54.2.2.2.2.1, v54.2.2.2.2.2.1, v54.2.2.2.2.2.2.1, v54.2.2.2.2.2.2.2.1, v54.2.2.2.2.2.2.2.2.1, v54.2.2.2.2.2.2.2.2.2.1, v54.2.2.2.2.2.2.2.2.2.2.2.2.2.2.2.2.1, v54.2.2.2.2.2.2.2.2.2.2.2.2.2.2.2.2.2))) (fun v57 => (bd (α := Unit) o13 (fun v58 => (bd (α := (Int × Bool × Int × List (Int × Int × Int × Int))) (o26 v57.2.2.1 v57.2.2.2.2.2.2.2.2.1 v57.2.2.2.1 v57.2.2.2.2.1 v57.2.2.2.2.2.1) (fun v59 => (bd (α := (List (Int × Int × Int × Int × Int × Int) × Int × Bool × Int × Bool × Int × Bool × Int × Bool × Int × Bool × List UInt8 × List (Int × Int × Int × Int) × List (Int × Int × Int × Int))) (cnd ((1 : Int) != v59.2.2.1) (some (v57.1, v57.2.1, true, v57.2.2.1, v57.2.2.2.1, v57.2.2.2.2.1, v57.2.2.2.2.2.1, v57.2.2.2.2.2.2.1, v57.2.2.2.2.2.2.2.1, v59.1, v59.2.1, v57.2.2.2.2.2.2.2.2.1, v57.2.2.2.2.2.2.2.2.2, v59.2.2.2)) (some (v57.1, v57.2.1, (!(true == true)), v57.2.2.1, v57.2.2.2.1, v57.2.2.2.2.1, v57.2.2.2.2.2.1, v57.2.2.2.2.2.2.1, v57.2.2.2.2.2.2.2.1, v59.1, v59.2.1, v57.2.2.2.2.2.2.2.2.1, v57.2.2.2.2.2.2.2.2.2, v59.2.2.2))) (fun v60 => (cnd v60.2.2.1 (dnO (dnO (some false))) (some (Ctl.go (v60.1, v60.2.1, v60.2.2.2.1, v60.2.2.2.2.1, v60.2.2.2.2.2.1, v60.2.2.2.2.2.2.1, v60.2.2.2.2.2.2.2.1, v60.2.2.2.2.2.2.2.2.1, v60.2.2.2.2.2.2.2.2.2.2.2.1, v60.2.2.2.2.2.2.2.2.2.2.2.2.1)))))))))))) (cnd (v54.2.2.1 == (6 : Int)) (bd (α := Unit) o21 (fun v61 => (bd (α := (Int × Bool × Int × Bool × Int × Bool × Int × List UInt8 × List (Int × Int × Int × Int))) (o30 v54.2.2.2.2.1 v54.2.2.2.2.2.1 v54.2.2.2.2.2.2.1 v54.2.2.2.2.2.2.2.1 v54.2.2.2.2.2.2.2.2.1 v54.2.2.2.2.2.2.2.2.2.1 v54.2.2.2.2.2.2.2.2.2.2.2.2.2.2.2.2.1 v54.2.2.2.2.2.2.2.2.2.2.2.2.2.2.2.2.2) (fun v62 => (cnd ((1 : Int) != v62.2.2.2.2.2.2.1) (dnO (dnO (some false))) (some (Ctl.go (v54.1, v54.2.1, v62.1, v62.2.1, v62.2.2.1, v62.2.2.2.1, v62.2.2.2.2.1, v62.2.2.2.2.2.1, v62.2.2.2.2.2.2.2.1, v62.2.2.2.2.2.2.2.2)))))))) (cnd (v54.2.2.1 == (7 : Int)) (bd (α := Unit) (o24 v54.2.2.2.2.2.2.2.2.2.2.2.2.2.2.1 v54.2.2.2.2.2.2.2.2.2.2.2.2.2.2.2.1) (fun v63 => (bd (α := (Int × Bool × Int × Bool × Int × List UInt8)) (o31 v54.2.2.2.2.1 v54.2.2.2.2.2.1 v54.2.2.2.2.2.2.1 v54.2.2.2.2.2.2.2.1 v54.2.2.2.2.2.2.2.2.2.2.2.2.2.2.1 v54.2.2.2.2.2.2.2.2.2.2.2.2.2.2.2.1 v54.2.2.2.2.2.2.2.2.2.2.2.2.2.2.2.2.1) (fun v64 => (cnd ((1 : Int) != v64.2.2.2.2.1) (dnO (dnO (some false))) (some (Ctl.go (v54.1, v54.2.1, v64.1, v64.2.1, v64.2.2.1, v64.2.2.2.1, v54.2.2.2.2.2.2.2.2.1, v54.2.2.2.2.2.2.2.2.2.1, v64.2.2.2.2.2, v54.2.2.2.2.2.2.2.2.2.2.2.2.2.2.2.2.2)))))))) (some (Ctl.go (v54.1, v54.2.1, v54.2.2.2.2.1, v54.2.2.2.2.2.1, v54.2.2.2.2.2.2.1, v54.2.2.2.2.2.2.2.1, v54.2.2.2.2.2.2.2.2.1, v54.2.2.2.2.2.2.2.2.2.1, v54.2.2.2.2.2.2.2.2.2.2.2.2.2.2.2.2.1, v54.2.2.2.2.2.2.2.2.2.2.2.2.2.2.2.2.2)))))))))))) (fun v65 => (bd (α := (List (Int × Int × Int × Int × Int × Int) × Int × Bool × Int × Bool × Int × Bool × Int × Bool × List UInt8 × List (Int × Int × Int × Int))) (bd (α := Unit) o23 (fun v72 => (cnd (!(([] : List UInt8) == v65.2.2.2.2.2.2.2.2.1)) (some (v65.1, v65.2.1, true, v65.2.2.1, v65.2.2.2.1, v65.2.2.2.2.1, v65.2.2.2.2.2.1, v65.2.2.2.2.2.2.1, v65.2.2.2.2.2.2.2.1, v65.2.2.2.2.2.2.2.2.1, v65.2.2.2.2.2.2.2.2.2)) (bd (α := Bool) o22 (fun v73 => (cnd (!(v73 == v65.2.2.2.2.2.1)) (some (v65.1, v65.2.1, true, v65.2.2.1, v65.2.2.2.1, v65.2.2.2.2.1, v65.2.2.2.2.2.1, v65.2.2.2.2.2.2.1, v65.2.2.2.2.2.2.2.1, v65.2.2.2.2.2.2.2.2.1, v65.2.2.2.2.2.2.2.2.2)) (bd (α := Unit) o32v1 (fun v74 => (cnd ((0 : Int) != v65.2.2.1) (some (v65.1, v65.2.1, true, v65.2.2.1, v65.2.2.2.1, v65.2.2.2.2.1, v65.2.2.2.2.2.1, v65.2.2.2.2.2.2.1, v65.2.2.2.2.2.2.2.1, v65.2.2.2.2.2.2.2.2.1, v65.2.2.2.2.2.2.2.2.2)) (bd (α := Unit) o19v1 (fun v75 => (bd (α := Bool) (o18 ([] : List (Int × Int × Int × Int)) v65.2.2.2.2.2.2.2.2.2) (fun v76 => (cnd (!v76) (some (v65.1, v65.2.1, true, v65.2.2.1, v65.2.2.2.1, v65.2.2.2.2.1, v65.2.2.2.2.2.1, v65.2.2.2.2.2.2.1, v65.2.2.2.2.2.2.2.1, v65.2.2.2.2.2.2.2.2.1, v65.2.2.2.2.2.2.2.2.2)) (bd (α := Unit) o20v1 (fun v77 => (some (v65.1, v65.2.1, ((0 : Int) != v65.2.2.2.2.2.2.1), v65.2.2.1, v65.2.2.2.1, v65.2.2.2.2.1, v65.2.2.2.2.2.1, v65.2.2.2.2.2.2.1, v65.2.2.2.2.2.2.2.1, v65.2.2.2.2.2.2.2.2.1, v65.2.2.2.2.2.2.2.2.2)))))))))))))))))) (fun v78 => (cnd v78.2.2.1 (dnO (some false)) (some (Ctl.go (v78.1, (IntKind.wrap .i64 (v78.2.1 + (1 : Int))), v78.2.2.2.1, v78.2.2.2.2.1, v78.2.2.2.2.2.1, v78.2.2.2.2.2.2.1, v78.2.2.2.2.2.2.2.1, v78.2.2.2.2.2.2.2.2.1, v78.2.2.2.2.2.2.2.2.2.1, v78.2.2.2.2.2.2.2.2.2.2))))))))) (dnO (some true)))))) (v9.1, (0 : Int), v9.2.2.2.1, v9.2.2.2.2.1, (0 : Int), v9.2.2.2.2.2.1, v12.1, v12.2.1, v9.2.2.2.2.2.2, v12.2.2.2)))))))))))) (fun v7 => (bd (α := (Int × Bool × Bool × Int × List UInt8)) (o25 v7.1) (fun v79 => (bd (α := (List (Int × Int × Int × Int × Int × Int) × Int × Bool × Bool × Int × Bool × Bool × List UInt8 × List UInt8)) (cnd ((0 : Int) != v79.2.2.2.1) (some (v7.2.1, v79.2.2.2.1, true, v7.2.2.1, v79.1, v79.2.1, v79.2.2.1, v7.2.2.2, v79.2.2.2.2)) (some (v7.2.1, v79.2.2.2.1, false, v7.2.2.1, v79.1, v79.2.1, v79.2.2.1, v7.2.2.2, v79.2.2.2.2))) (fun v80 => (cnd v80.2.2.1 (bd (α := Bool) (cnd ((0 : Int) == v80.2.1) (some false) (some false)) (fun v81 => (some v81))) (bd (α := (List (Int × Int × Int × Int × Int × Int) × Int × Bool × Int × Bool × Bool × List UInt8 × List UInt8) ⊕ (List (Int × Int × Int × Int × Int × Int) × Int × Bool × Int × Bool × Bool × Int × Bool × List UInt8 × List UInt8 × List (Int × Int × Int × Int))) (bd (α := (Int × Bool × List UInt8) ⊕ (Int × Bool × List UInt8 × Int × Bool × List (Int × Int × Int × Int))) (o13v1 (-1 : Int) v80.2.2.2.1 v80.2.2.2.2.2.2.2.1) (fun v82 => (sm v82 (fun v83 => (some (Sum.inl (v80.1, v83.1, v83.2.1, v80.2.2.2.2.1, v80.2.2.2.2.2.1, v80.2.2.2.2.2.2.1, v83.2.2, v80.2.2.2.2.2.2.2.2)))) (fun v84 => (some (Sum.inr (v80.1, v84.1, v84.2.1, v80.2.2.2.2.1, v80.2.2.2.2.2.1, v80.2.2.2.2.2.2.1, v84.2.2.2.1, v84.2.2.2.2.1, v84.2.2.1, v80.2.2.2.2.2.2.2.2, v84.2.2.2.2.2))))))) (fun v85 => (sm v85 (fun v86 => none) (fun v87 => (bd (α := (Int × Bool × Int × List (Int × Int × Int × Int))) (o26 v87.2.2.2.1 v87.2.2.2.2.2.2.2.2.2.1 v87.2.2.2.2.1 (0 : Int) v87.2.2.2.2.2.1) (fun v88 => (loopO (σ := List (Int × Int × Int × Int × Int × Int) × Int × Int × Bool × Int × Bool × Int × Bool × Int × Bool × Int × Bool × List UInt8 × List UInt8 × List (Int × Int × Int × Int) × List (Int × Int × Int × Int)) fuelN (fun (v129 : List (Int × Int × Int × Int × Int × Int) × Int × Int × Bool × Int × Bool × Int × Bool × Int × Bool × Int × Bool × List UInt8 × List UInt8 × List (Int × Int × Int × Int) × List (Int × Int × Int × Int)) => (bd (α := (List (Int × Int × Int × Int × Int × Int) × Int × Bool × Int × Bool × Int × Bool × Int × Bool × Int × Bool × Int × Bool × List UInt8 × List UInt8 × List (Int × Int × Int × Int) × List (Int × Int × Int × Int))) (cnd (decide (v129.2.1 < ((v129.1.length : Nat) : Int))) (some (v129.1, v129.2.1, (decide (v129.2.1 < (24 : Int))), v129.2.2.1, v129.2.2.2.1, v129.2.2.2.2.1, v129.2.2.2.2.2.1, v129.2.2.2.2.2.2.1, v129.2.2.2.2.2.2.2.1, v129.2.2.2.2.2.2.2.2.1, v129.2.2.2.2.2.2.2.2.2.1, v129.2.2.2.2.2.2.2.2.2.2.1, v129.2.2.2.2.2.2.2.2.2.2.2.1, v129.2.2.2.2.2.2.2.2.2.2.2.2.1, v129.2.2.2.2.2.2.2.2.2.2.2.2.2.1, v129.2.2.2.2.2.2.2.2.2.2.2.2.2.2.1, v129.2.2.2.2.2.2.2.2.2.2.2.2.2.2.2)) (some (v129.1, v129.2.1, false, v129.2.2.1, v129.2.2.2.1, v129.2.2.2.2.1, v129.2.2.2.2.2.1, v129.2.2.2.2.2.2.1, v129.2.2.2.2.2.2.2.1, v129.2.2.2.2.2.2.2.2.1, v129.2.2.2.2.2.2.2.2.2.1, v129.2.2.2.2.2.2.2.2.2.2.1, v129.2.2.2.2.2.2.2.2.2.2.2.1, v129.2.2.2.2.2.2.2.2.2.2.2.2.1, v129.2.2.2.2.2.2.2.2.2.2.2.2.2.1, v129.2.2.2.2.2.2.2.2.2.2.2.2.2.2.1, v129.2.2.2.2.2.2.2.2.2.2.2.2.2.2.2))) (fun v130 => (cnd v130.2.2.1 (gd (decide ((0 : Int) ≤ v130.2.1 ∧ v130.2.1 < ((v130.1.length : Nat) : Int))) (jd (α := (List (Int × Int × Int × Int × Int × Int) × Int × Int × Bool × Int × Bool × Int × Bool × Int × Bool × Int × Bool × List UInt8 × List UInt8 × List (Int × Int × Int × Int) × List (Int × Int × Int × Int))) (bd (α := (List (Int × Int × Int × Int × Int × Int) × Int × Int × Bool × Int × Bool × Int × Bool × Int × Bool × Int × Bool × Int × Bool × Int × Int × Int × Int × Int × Int × List UInt8 × List UInt8 × List (Int × Int × Int × Int) × List (Int × Int × Int × Int))) (cnd ((Int.tmod ((List.getD v130.1 v130.2.1.toNat ((0 : Int), ((0 : Int), ((0 : Int), ((0 : Int), ((0 : Int), (0 : Int))))))).1) (9 : Int)) == (0 : Int)) (some (v130.1, v130.2.1, (Int.tmod ((List.getD v130.1 v130.2.1.toNat ((0 : Int), ((0 : Int), ((0 : Int), ((0 : Int), ((0 : Int), (0 : Int))))))).1) (9 : Int)), true, v130.2.2.2.1, v130.2.2.2.2.1, v130.2.2.2.2.2.1, v130.2.2.2.2.2.2.1, v130.2.2.2.2.2.2.2.1, v130.2.2.2.2.2.2.2.2.1, v130.2.2.2.2.2.2.2.2.2.1, v130.2.2.2.2.2.2.2.2.2.2.1, v130.2.2.2.2.2.2.2.2.2.2.2.1, v130.2.2.2.2.2.2.2.2.2.2.2.2.1, (List.getD v130.1 v130.2.1.toNat ((0 : Int), ((0 : Int), ((0 : Int), ((0 : Int), ((0 : Int), (0 : Int))))))).1, ((List.getD v130.1 v130.2.1.toNat ((0 : Int), ((0 : Int), ((0 : Int), ((0 : Int), ((0 : Int), (0 : Int))))))).2).1, (((List.getD v130.1 v130.2.1.toNat ((0 : Int), ((0 : Int), ((0 : Int), ((0 : Int), ((0 : Int), (0 : Int))))))).2).2).1, ((((List.getD v130.1 v130.2.1.toNat ((0 : Int), ((0 : Int), ((0 : Int), ((0 : Int), ((0 : Int), (0 : Int))))))).2).2).2).1, (((((List.getD v130.1 v130.2.1.toNat ((0 : Int), ((0 : Int), ((0 : Int), ((0 : Int), ((0 : Int), (0 : Int))))))).2).2).2).2).1, (((((List.getD v130.1 v130.2.1.toNat ((0 : Int), ((0 : Int), ((0 : Int), ((0 : Int), ((0 : Int), (0 : Int))))))).2).2).2).2).2, v130.2.2.2.2.2.2.2.2.2.2.2.2.2.1, v130.2.2.2.2.2.2.2.2.2.2.2.2.2.2.1, v130.2.2.2.2.2.2.2.2.2.2.2.2.2.2.2.1, v130.2.2.2.2.2.2.2.2.2.2.2.2.2.2.2.2)) (cnd ((Int.tmod ((List.getD v130.1 v130.2.1.toNat ((0 : Int), ((0 : Int), ((0 : Int), ((0 : Int), ((0 : Int), (0 : Int))))))).1) (9 : Int)) == (1 : Int)) (some (v130.1, v130.2.1, (Int.tmod ((List.getD v130.1 v130.2.1.toNat ((0 : Int), ((0 : Int), ((0 : Int), ((0 : Int), ((0 : Int), (0 : Int))))))).1) (9 : Int)), true, v130.2.2.2.1, v130.2.2.2.2.1, v130.2.2.2.2.2.1, v130.2.2.2.2.2.2.1, v130.2.2.2.2.2.2.2.1, v130.2.2.2.2.2.2.2.2.1, v130.2.2.2.2.2.2.2.2.2.1, v130.2.2.2.2.2.2.2.2.2.2.1, v130.2.2.2.2.2.2.2.2.2.2.2.1, v130.2.2.2.2.2.2.2.2.2.2.2.2.1, (List.getD v130.1 v130.2.1.toNat ((0 : Int), ((0 : Int), ((0 : Int), ((0 : Int), ((0 : Int), (0 : Int))))))).1, ((List.getD v130.1 v130.2.1.toNat ((0 : Int), ((0 : Int), ((0 : Int), ((0 : Int), ((0 : Int), (0 : Int))))))).2).1, (((List.getD v130.1 v130.2.1.toNat ((0 : Int), ((0 : Int), ((0 : Int), ((0 : Int), ((0 : Int), (0 : Int))))))).2).2).1, ((((List.getD v130.1 v130.2.1.toNat ((0 : Int), ((0 : Int), ((0 : Int), ((0 : Int), ((0 : Int), (0 : Int))))))).2).2).2).1, (((((List.getD v130.1 v130.2.1.toNat ((0 : Int), ((0 : Int), ((0 : Int), ((0 : Int), ((0 : Int), (0 : Int))))))).2).2).2).2).1, (((((List.getD v130.1 v130.2.1.toNat ((0 : Int), ((0 : Int), ((0 : Int), ((0 : Int), ((0 : Int), (0 : Int))))))).2).2).2).2).2, v130.2.2.2.2.2.2.2.2.2.2.2.2.2.1, v130.2.2.2.2.2.2.2.2.2.2.2.2.2.2.1, v130.2.2.2.2.2.2.2.2.2.2.2.2.2.2.2.1, v130.2.2.2.2.2.2.2.2.2.2.2.2.2.2.2.2)) (cnd ((Int.tmod ((List.getD v130.1 v130.2.1.toNat ((0 : Int), ((0 : Int), ((0 : Int), ((0 : Int), ((0 : Int), (0 : Int))))))).1) (9 : Int)) == (2 : Int)) (some (v130.1, v130.2.1, (Int.tmod ((List.getD v130.1 v130.2.1.toNat ((0 : Int), ((0 : Int), ((0 : Int), ((0 : Int), ((0 : Int), (0 : Int))))))).1) (9 : Int)), true, v130.2.2.2.1, v130.2.2.2.2.1, v130.2.2.2.2.2.1, v130.2.2.2.2.2.2.1, v130.2.2.2.2.2.2.2.1, v130.2.2.2.2.2.2.2.2.1, v130.2.2.2.2.2.2.2.2.2.1, v130.2.2.2.2.2.2.2.2.2.2.1, v130.2.2.2.2.2.2.2.2.2.2.2.1, v130.2.2.2.2.2.2.2.2.2.2.2.2.1, (List.getD v130.1 v130.2.1.toNat ((0 : Int), ((0 : Int), ((0 : Int), ((0 : Int), ((0 : Int), (0 : Int))))))).1, ((List.getD v130.1 v130.2.1.toNat ((0 : Int), ((0 : Int), ((0 : Int), ((0 : Int), ((0 : Int), (0 : Int))))))).2).1, (((List.getD v130.1 v130.2.1.toNat ((0 : Int), ((0 : Int), ((0 : Int), ((0 : Int), ((0 : Int), (0 : Int))))))).2).2).1, ((((List.getD v130.1 v130.2.1.toNat ((0 : Int), ((0 : Int), ((0 : Int), ((0 : Int), ((0 : Int), (0 : Int))))))).2).2).2).1, (((((List.getD v130.1 v130.2.1.toNat ((0 : Int), ((0 : Int), ((0 : Int), ((0 : Int), ((0 : Int), (0 : Int))))))).2).2).2).2).1, (((((List.getD v130.1 v130.2.1.toNat ((0 : Int), ((0 : Int), ((0 : Int), ((0 : Int), ((0 : Int), (0 : Int))))))).2).2).2).2).2, v130.2.2.2.2.2.2.2.2.2.2.2.2.2.1, v130.2.2.2.2.2.2.2.2.2.2.2.2.2.2.1, v130.2.2.2.2.2.2.2.2.2.2.2.2.2.2.2.1, v130.2.2.2.2.2.2.2.2.2.2.2.2.2.2.2.2)) (some (v130.1, v130.2.1, (Int.tmod ((List.getD v130.1 v130.2.1.toNat ((0 : Int), ((0 : Int), ((0 : Int), ((0 : Int), ((0 : Int), (0 : Int))))))).1) (9 : Int)), ((Int.tmod ((List.getD v130.1 v130.2.1.toNat ((0 : Int), ((0 : Int), ((0 : Int), ((0 : Int), ((0 : Int), (0 : Int))))))).1) (9 : Int)) == (3 : Int)), v130.2.2.2.1, v130.2.2.2.2.1, v130.2.2.2.2.2.1, v130.2.2.2.2.2.2.1, v130.2.2.2.2.2.2.2.1, v130.2.2.2.2.2.2.2.2.1, v130.2.2.2.2.2.2.2.2.2.1, v130.2.2.2.2.2.2.2.2.2.2.1, v130.2.2.2.2.2.2.2.2.2.2.2.1, v130.2.2.2.2.2.2.2.2.2.2.2.2.1, (List.getD v130.1 v130.2.1.toNat ((0 : Int), ((0 : Int), ((0 : Int), ((0 : Int), ((0 : Int), (0 : Int))))))).1, ((List.getD v130.1 v130.2.1.toNat ((0 : Int), ((0 : Int), ((0 : Int), ((0 : Int), ((0 : Int), (0 : Int))))))).2).1, (((List.getD v130.1 v130.2.1.toNat ((0 : Int), ((0 : Int), ((0 : Int), ((0 : Int), ((0 : Int), (0 : Int))))))).2).2).1, ((((List.getD v130.1 v130.2.1.toNat ((0 : Int), ((0 : Int), ((0 : Int), ((0 : Int), ((0 : Int), (0 : Int))))))).2).2).2).1, (((((List.getD v130.1 v130.2.1.toNat ((0 : Int), ((0 : Int), ((0 : Int), ((0 : Int), ((0 : Int), (0 : Int))))))).2).2).2).2).1, (((((List.getD v130.1 v130.2.1.toNat ((0 : Int), ((0 : Int), ((0 : Int), ((0 : Int), ((0 : Int), (0 : Int))))))).2).2).2).2).2, v130.2.2.2.2.2.2.2.2.2.2.2.2.2.1, v130.2.2.2.2.2.2.2.2.2.2.2.2.2.2.1, v130.2.2.2.2.2.2.2.2.2.2.2.2.2.2.2.1, v130.2.2.2.2.2.2.2.2.2.2.2.2.2.2.2.2))))) (fun v131 => (cnd v131.2.2.2.1 (bd (α := (Int × Int × Int × Bool × Int × Bool × List UInt8 × List (Int × Int × Int × Int))) (o16 v131.2.2.2.2.2.2.2.2.2.2.2.2.2.2.2.1 v131.2.2.2.2.2.2.2.2.2.2.2.2.2.2.2.2.1 v131.2.2.2.2.2.2.2.2.2.2.2.2.2.2.2.2.2.1 v131.2.2.2.2.2.2.2.2.2.2.1 v131.2.2.2.2.2.2.2.2.2.2.2.1 v131.2.2.2.2.1 v131.2.2.2.2.2.1 v131.2.2.2.2.2.2.2.2.2.2.2.2.2.2.2.2.2.2.2.2.1 v131.2.2.2.2.2.2.2.2.2.2.2.2.2.2.2.2.2.2.2.2.2.2.1) (fun v132 => (bd (α := (Int × Bool × Int × Bool × Int × Bool × Int × Int × List UInt8 × List (Int × Int × Int × Int))) (o27 v131.2.2.2.2.2.2.1 v131.2.2.2.2.2.2.2.1 v131.2.2.2.2.2.2.2.2.1 v131.2.2.2.2.2.2.2.2.2.1 v131.2.2.2.2.2.2.2.2.2.2.2.2.1 v131.2.2.2.2.2.2.2.2.2.2.2.2.2.1 v131.2.2.2.2.2.2.2.2.2.2.2.2.2.2.2.1 v131.2.2.2.2.2.2.2.2.2.2.2.2.2.2.2.2.1 v131.2.2.2.2.2.2.2.2.2.2.2.2.2.2.2.2.2.1 v131.2.2.2.2.2.2.2.2.2.2.2.2.2.2.2.2.2.2.2.2.2.1 v131.2.2.2.2.2.2.2.2.2.2.2.2.2.2.2.2.2.2.2.2.2.2.2) (fun v133 => (bd (α := (List (Int × Int × Int × Int × Int × Int) × Int × Bool × Int × Bool × Int × Bool × Int × Bool × Int × Bool × Int × Bool × List UInt8 × List UInt8 × List (Int × Int × Int × Int) × List (Int × Int × Int × Int))) (cnd (v132.1 != v133.2.2.2.2.2.2.1) (some (v131.1, v131.2.1, true, v132.2.2.2.2.1, v132.2.2.2.2.2.1, v133.1, v133.2.1, v133.2.2.1, v133.2.2.2.1, v132.2.2.1, v132.2.2.2.1, v133.2.2.2.2.1, v133.2.2.2.2.2.1, v132.2.2.2.2.2.2.1, v133.2.2.2.2.2.2.2.2.1, v132.2.2.2.2.2.2.2, v133.2.2.2.2.2.2.2.2.2)) (some (v131.1, v131.2.1, (v132.2.1 != v133.2.2.2.2.2.2.2.1), v132.2.2.2.2.1, v132.2.2.2.2.2.1, v133.1, v133.2.1, v133.2.2.1, v133.2.2.2.1, v132.2.2.1, v132.2.2.2.1, v133.2.2.2.2.1, v133.2.2.2.2.2.1, v132.2.2.2.2.2.2.1, v133.2.2.2.2.2.2.2.2.1, v132.2.2.2.2.2.2.2, v133.2.2.2.2.2.2.2.2.2))) (fun v134 => (cnd v134.2.2.1 (dnO (dnO (some false))) (some (Ctl.go (v134.1, v134.2.1, v134.2.2.2.1, v134.2.2.2.2.1, v134.2.2.2.2.2.1, v134.2.2.2.2.2.2.1, v134.2.2.2.2.2.2.2.1, v134.2.2.2.2.2.2.2.2.1, v134.2.2.2.2.2.2.2.2.2.1, v134.2.2.2.2.2.2.2.2.2.2.1, v134.2.2.2.2.2.2.2.2.2.2.2.1, v134.2.2.2.2.2.2.2.2.2.2.2.2.1, v134.2.2.2.2.2.2.2.2.2.2.2.2.2.1, v134.2.2.2.2.2.2.2.2.2.2.2.2.2.2.1, v134.2.2.2.2.2.2.2.2.2.2.2.2.2.2.2.1, v134.2.2.2.2.2.2.2.2.2.2.2.2.2.2.2.2)))))))))) (cnd (v131.2.2.1 == (4 : Int)) (bd (α := (Int × Bool × List UInt8)) (o15 v131.2.2.2.2.2.2.2.2.2.2.2.2.2.2.2.2.2.2.1 v131.2.2.2.2.1 v131.2.2.2.2.2.1 v131.2.2.2.2.2.2.2.2.2.2.2.2.2.2.2.2.2.2.2.2.1) (fun v135 => (bd (α := (Int × Bool × Int × Bool × List UInt8)) (o28 v131.2.2.2.2.2.2.1 v131.2.2.2.2.2.2.2.1 v131.2.2.2.2.2.2.2.2.1 v131.2.2.2.2.2.2.2.2.2.1 v131.2.2.2.2.2.2.2.2.2.2.2.2.2.2.2.2.2.2.1 v131.2.2.2.2.2.2.2.2.2.2.2.2.2.2.2.2.2.2.2.2.2.1) (fun v136 => (some (Ctl.go (v131.1, v131.2.1, v135.1, v135.2.1, v136.1, v136.2.1, v136.2.2.1, v136.2.2.2.1, v131.2.2.2.2.2.2.2.2.2.2.1, v131.2.2.2.2.2.2.2.2.2.2.2.1, v131.2.2.2.2.2.2.2.2.2.2.2.2.1, v131.2.2.2.2.2.2.2.2.2.2.2.2.2.1, v135.2.2, v136.2.2.2.2, v131.2.2.2.2.2.2.2.2.2.2.2.2.2.2.2.2.2.2.2.2.2.2.1, v131.2.2.2.2.2.2.2.2.2.2.2.2.2.2.2.2.2.2.2.2.2.2.2))))))) (bd (α := (List (Int × Int × Int × Int × Int × Int) × Int × Int × Bool × Int × Bool × Int × Bool × Int × Bool × Int × Bool × Int × Bool × Int × Int × Int × Int × Int × Int × List UInt8 × List UInt8 × List (Int × Int × Int × Int) × List (Int × Int × Int × Int))) (cnd (v131.2.2.1 == (5 : Int)) (some (v131.1, v131.2.1, v131.2.2.1, true, v131.2.2.2.2.1, v131.2.2.2.2.2.1, v131.2.2.2.2.2.2.1, v131.2.2.2.2.2.2.2.1, v131.2.2.2.2.2.2.2.2.1, v131.2.2.2.2.2.2.2.2.2.1, v131.2.2.2.2.2.2.2.2.2.2.1, v131.2.2.2.2.2.2.2.2.2.2.2.1, v131.2.2.2.2.2.2.2.2.2.2.2.2.1, v131.2.2.2.2.2.2.2.2.2.2.2.2.2.1, v131.2.2.2.2.2.2.2.2.2.2.2.2.2.2.1, v131.2.2.2.2.2.2.2.2.2.2.2.2.2.2.2.1, v131.2.2.2.2.2.2.2.2.2.2.2.2.2.2.2.2.1, v131.2.2.2.2.2.2.2.2.2.2.2.2.2.2.2.2.2.1, v131.2.2.2.2.2.2.2.2.2.2.2.2.2.2.2.2.2.2.1, v131.2.2.2.2.2.2.2.2.2.2.2.2.2.2.2.2.2.2.2.1, v131.2.2.2.2.2.2.2.2.2.2.2.2.2.2.2.2.2.2.2.2.1, v131.2.2.2.2.2.2.2.2.2.2.2.2.2.2.2.2.2.2.2.2.2.1, v131.2.2.2.2.2.2.2.2.2.2.2.2.2.2.2.2.2.2.2.2.2.2.1, v131.2.2.2.2.2.2.2.2.2.2.2.2.2.2.2.2.2.2.2.2.2.2.2)) (some (v131.1, v131.2.1, v131.2.2.1, (v131.2.2.1 == (8 : Int)), v131.2.2.2.2.1, v131.2.2.2.2.2.1, v131.2.2.2.2.2.2.1, v131.2.2.2.2.2.2.2.1, v131.2.2.2.2.2.2.2.2.1, v131.2.2.2.2.2.2.2.2.2.1, v131.2.2.2.2.2.2.2.2.2.2.1, v131.2.2.2.2.2.2.2.2.2.2.2.1, v131.2.2.2.2.2.2.2.2.2.2.2.2.1, v131.2.2.2.2.2.2.2.2.2.2.2.2.2.1, v131.2.2.2.2.2.2.2.2.2.2.2.2.2.2.1, v131.2.2.2.2.2.2.2.2.2.2.2.2.2.2.2.1, v131.2.2.2.2.2.2.2.2.2.2.2.2.2.2.2.2.1, v131.2.2.2.2.2.2.2.2.2.2.2.2.2.2.2.2.2.1, v131.2.2.2.2.2.2.2.2.2.2.2.2.2.2.2.2.2.2.1, v131.2.2.2.2.2.2.2.2.2.2.2.2.2.2.2.2.2.2.2.1, v131.2.2.2.2.2.2.2.2.2.2.2.2.2.2.2.2.2.2.2.2.1, v131.2.2.2.2.2.2.2.2.2.2.2.2.2.2.2.2.2.2.2.2.2.1, v131.2.2.2.2.2.2.2.2.2.2.2.2.2.2.2.2.2.2.2.2.2.2.1, v131.2.2.2.2.2.2.2.2.2.2.2.2.2.2.2.2.2.2.2.2.2.2.2))) (fun v137 => (cnd v137.2.2.2.1 (bd (α := (List (Int × Int × Int × Int × Int × Int) × Int × Int × Bool × Int × Bool × Int × Bool × Int × Bool × Int × Bool × List UInt8 × List UInt8 × List (Int × Int × Int × Int) × List (Int × Int × Int × Int))) (cnd ((Int.tmod v137.2.2.2.2.2.2.2.2.2.2.2.2.2.2.1 (9 : Int)) == (5 : Int)) (bd (α := (Bool × List UInt8)) (o17 v137.2.2.2.2.1 v137.2.2.2.2.2.1 v137.2.2.2.2.2.2.2.2.2.2.2.2.2.2.2.2.2.2.2.2.1) (fun v138 => (bd (α := (Int × Bool × Bool × List UInt8)) (o29 v137.2.2.2.2.2.2.1 v137.2.2.2.2.2.2.2.1 v137.2.2.2.2.2.2.2.2.1 v137.2.2.2.2.2.2.2.2.2.1 v137.2.2.2.2.2.2.2.2.2.2.2.2.2.2.2.2.2.2.2.2.2.1) (fun v139 => (some (v137.1, v137.2.1, (-1 : Int), v138.1, v139.1, v139.2.1, (0 : Int), v139.2.2.1, v137.2.2.2.2.2.2.2.2.2.2.1, v137.2.2.2.2.2.2.2.2.2.2.2.1, v137.2.2.2.2.2.2.2.2.2.2.2.2.1, v137.2.2.2.2.2.2.2.2.2.2.2.2.2.1, v138.2, v139.2.2.2, v137.2.2.2.2.2.2.2.2.2.2.2.2.2.2.2.2.2.2.2.2.2.2.1, v137.2.2.2.2.2.2.2.2.2.2.2.2.2.2.2.2.2.2.2.2.2.2.2)))))) (some (v137.1, v137.2.1, v137.2.2.2.2.1, v137.2.2.2.2.2.1, v137.2.2.2.2.2.2.1, v137.2.2.2.2.2.2.2.1, v137.2.2.2.2.2.2.2.2.1, v137.2.2.2.2.2.2.2.2.2.1, v137.2.2.2.2.2.2.2.2.2.2.1, v137.2.2.2.2.2.2.2.2.2.2.2.1, v137.2.2.2.2.2.2.2.2.2.2.2.2.1, v137.2.2.2.2.2.2.2.2.2.2.2.2.2.1, v137.2.2.2.2.2.2.2.2.2.2.2.2.2.2.2.2.2.2.2.2.1, v137.2.2.2.2.2.2.2.2.2.2.2.2.2.2.2.2.2.2.2.2.2.1, v137.2.2.2.2.2.2.2.2.2.2.2.2.2.2.2.2.2.2.2.2.2.2.1, v137.2.2.2.2.2.2.2.2.2.2.2.2.2.2.2.2.2.2.2.2.2.2.2))) (fun v140 => (bd (α := (List (Int × Int × Int × Int × Int × Int) × Int × Int × Bool × Int × Bool × Int × Bool × Int × Bool × Int × Bool × List UInt8 × List UInt8 × List (Int × Int × Int × Int) × List (Int × Int × Int × Int)) ⊕ (List (Int × Int × Int × Int × Int × Int) × Int × Int × Bool × Int × Bool × Int × Bool × Int × Bool × Int × Bool × Int × Bool × List UInt8 × List UInt8 × List (Int × Int × Int × Int) × List (Int × Int × Int × Int) × List (Int × Int × Int × Int))) (bd (α := (Int × Bool × List UInt8) ⊕ (Int × Bool × List UInt8 × Int × Bool × List (Int × Int × Int × Int))) (o13v1 v140.2.2.1 v140.2.2.2.1 v140.2.2.2.2.2.2.2.2.2.2.2.2.1) (fun v141 => (sm v141 (fun v142 => (some (Sum.inl (v140.1, v140.2.1, v142.1, v142.2.1, v140.2.2.2.2.1, v140.2.2.2.2.2.1, v140.2.2.2.2.2.2.1, v140.2.2.2.2.2.2.2.1, v140.2.2.2.2.2.2.2.2.1, v140.2.2.2.2.2.2.2.2.2.1, v140.2.2.2.2.2.2.2.2.2.2.1, v140.2.2.2.2.2.2.2.2.2.2.2.1, v142.2.2, v140.2.2.2.2.2.2.2.2.2.2.2.2.2.1, v140.2.2.2.2.2.2.2.2.2.2.2.2.2.2.1, v140.2.2.2.2.2.2.2.2.2.2.2.2.2.2.2)))) (fun v143 => (some (Sum.inr (v140.1, v140.2.1, v143.1, v143.2.1, v140.2.2.2.2.1, v140.2.2.2.2.2.1, v140.2.2.2.2.2.2.1, v140.2.2.2.2.2.2.2.1, v140.2.2.2.2.2.2.2.2.1, v140.2.2.2.2.2.2.2.2.2.1, v140.2.2.2.2.2.2.2.2.2.2.1, v140.2.2.2.2.2.2.2.2.2.2.2.1, v143.2.2.2.1, v143.2.2.2.2.1, v143.2.2.1, v140.2.2.2.2.2.2.2.2.2.2.2.2.2.1, v140.2.2.2.2.2.2.2.2.2.2.2.2.2.2.1, v140.2.2.2.2.2.2.2.2.2.2.2.2.2.2.2, v143.2.2.2.2.2))))))) (fun v144 => (sm v144 (fun v145 => (bd (α := (Int × Bool × Int × List (Int × Int × Int × Int))) (o26 v145.2.2.2.2.1 v145.2.2.2.2.2.2.2.2.2.2.2.2.2.1 v145.2.2.2.2.2.1 v145.2.2.2.2.2.2.1 v145.2.2.2.2.2.2.2.1) (fun v147 => (bd (α := (List (Int × Int × Int × Int × Int × Int) × Int × Bool × Int × Bool × Int × Bool × Int × Bool × Int × Bool × Int × Bool × Int × Bool × List UInt8 × List UInt8 × List (Int × Int × Int × Int) × List (Int × Int × Int × Int) × List (Int × Int × Int × Int))) (cnd ((19 : Int) != v147.2.2.1) (some (v145.1, v145.2.1, true, v145.2.2.1, v145.2.2.2.1, v145.2.2.2.2.1, v145.2.2.2.2.2.1, v145.2.2.2.2.2.2.1, v145.2.2.2.2.2.2.2.1, v145.2.2.2.2.2.2.2.2.1, v145.2.2.2.2.2.2.2.2.2.1, v145.2.2.2.2.2.2.2.2.2.2.1, v145.2.2.2.2.2.2.2.2.2.2.2.1, v147.1, v147.2.1, v145.2.2.2.2.2.2.2.2.2.2.2.2.1, v145.2.2.2.2.2.2.2.2.2.2.2.2.2.1, v145.2.2.2.2.2.2.2.2.2.2.2.2.2.2.1, v145.2.2.2.2.2.2.2.2.2.2.2.2.2.2.2, v147.2.2.2)) (some (v145.1, v145.2.1, (!(true == true)), v145.2.2.1, v145.2.2.2.1, v145.2.2.2.2.1, v145.2.2.2.2.2.1, v145.2.2.2.2.2.2.1, v145.2.2.2.2.2.2.2.1, v145.2.2.2.2.2.2.2.2.1, v145.2.2.2.2.2.2.2.2.2.1, v145.2.2.2.2.2.2.2.2.2.2.1, v145.2.2.2.2.2.2.2.2.2.2.2.1, v147.1, v147.2.1, v145.2.2.2.2.2.2.2.2.2.2.2.2.1, v145.2.2.2.2.2.2.2.2.2.2.2.2.2.1, v145.2.2.2.2.2.2.2.2.2.2.2.2.2.2.1, v145.2.2.2.2.2.2.2.2.2.2.2.2.2.2.2, v147.2.2.2))) (fun v148 => (cnd v148.2.2.1 (dnO (dnO (some false))) (some (Ctl.go (v148.1, v148.2.1, v148.2.2.2.1, v148.2.2.2.2.1, v148.2.2.2.2.2.1, v148.2.2.2.2.2.2.1, v148.2.2.2.2.2.2.2.1, v148.2.2.2.2.2.2.2.2.1, v148.2.2.2.2.2.2.2.2.2.1, v148.2.2.2.2.2.2.2.2.2.2.1, v148.2.2.2.2.2.2.2.2.2.2.2.1, v148.2.2.2.2.2.2.2.2.2.2.2.2.1, v148.2.2.2.2.2.2.2.2.2.2.2.2.2.2.2.1, v148.2.2.2.2.2.2.2.2.2.2.2.2.2.2.2.2.1, v148.2.2.2.2.2.2.2.2.2.2.2.2.2.2.2.2.2.1, v148.2.2.2.2.2.2.2.2.2.2.2.2.2.2.2.2.2.2.1))))))))) (fun v146 => (bd (α := (Int × Bool × Int × List (Int × Int × Int × Int))) (o26 v146.2.2.2.2.1 v146.2.2.2.2.2.2.2.2.2.2.2.2.2.2.2.1 v146.2.2.2.2.2.1 v146.2.2.2.2.2.2.1 v146.2.2.2.2.2.2.2.1) (fun v149 => (bd (α := (List (Int × Int × Int × Int × Int × Int) × Int × Bool × Int × Bool × Int × Bool × Int × Bool × Int × Bool × Int × Bool × Int × Bool × Int × Bool × List UInt8 × List UInt8 × List (Int × Int × Int × Int) × List (Int × Int × Int × Int) × List (Int × Int × Int × Int) × List (Int × Int × Int × Int))) (cnd ((0 : Int) != v149.2.2.1) (some (v146.1, v146.2.1, true, v146.2.2.1, v146.2.2.2.1, v146.2.2.2.2.1, v146.2.2.2.2.2.1, v146.2.2.2.2.2.2.1, v146.2.2.2.2.2.2.2.1, v146.2.2.2.2.2.2.2.2.1, v146.2.2.2.2.2.2.2.2.2.1, v146.2.2.2.2.2.2.2.2.2.2.1, v146.2.2.2.2.2.2.2.2.2.2.2.1, v146.2.2.2.2.2.2.2.2.2.2.2.2.1, v146.2.2.2.2.2.2.2.2.2.2.2.2.2.1, v149.1, v149.2.1, v146.2.2.2.2.2.2.2.2.2.2.2.2.2.2.1, v146.2.2.2.2.2.2.2.2.2.2.2.2.2.2.2.1, v146.2.2.2.2.2.2.2.2.2.2.2.2.2.2.2.2.1, v146.2.2.2.2.2.2.2.2.2.2.2.2.2.2.2.2.2.1, v146.2.2.2.2.2.2.2.2.2.2.2.2.2.2.2.2.2.2, v149.2.2.2)) (some (v146.1, v146.2.1, (!(false == false)), v146.2.2.1, v146.2.2.2.1, v146.2.2.2.2.1, v146.2.2.2.2.2.1, v146.2.2.2.2.2.2.1, v146.2.2.2.2.2.2.2.1, v146.2.2.2.2.2.2.2.2.1, v146.2.2.2.2.2.2.2.2.2.1, v146.2.2.2.2.2.2.2.2.2.2.1, v146.2.2.2.2.2.2.2.2.2.2.2.1, v146.2.2.2.2.2.2.2.2.2.2.2.2.1, v146.2.2.2.2.2.2.2.2.2.2.2.2.2.1, v149.1, v149.2.1, v146.2.2.2.2.2.2.2.2.2.2.2.2.2.2.1, v146.2.2.2.2.2.2.2.2.2.2.2.2.2.2.2.1, v146.2.2.2.2.2.2.2.2.2.2.2.2.2.2.2.2.1, v146.2.2.2.2.2.2.2.2.2.2.2.2.2.2.2.2.2.1, v146.2.2.2.2.2.2.2.2.2.2.2.2.2.2.2.2.2.2, v149.2.2.2))) (fun v150 => (cnd v150.2.2.1 (dnO (dnO (some false))) (some (Ctl.go (v150.1, v150.2.1, v150.2.2.2.1, v150.2.2.2.2.1, v150.2.2.2.2.2.1, v150.2.2.2.2.2.2.1, v150.2.2.2.2.2.2.2.1, v150.2.2.2.2.2.2.2.2.1, v150.2.2.2.2.2.2.2.2.2.2.2.2.2.1, v150.2.2.2.2.2.2.2.2.2.2.2.2.2.2.1, v150.2.2.2.2.2.2.2.2.2.2.2.2.2.2.2.1, v150.2.2.2.2.2.2.2.2.2.2.2.2.2.2.2.2.1, v150.2.2.2.2.2.2.2.2.2.2.2.2.2.2.2.2.2.1, v150.2.2.2.2.2.2.2.2.2.2.2.2.2.2.2.2.2.2.1, v150.2.2.2.2.2.2.2.2.2.2.2.2.2.2.2.2.2.2.2.2.2.1, v150.2.2.2.2.2.2.2.2.2.2.2.2.2.2.2.2.2.2.2.2.2.2)))))))))))))) (cnd (v137.2.2.1 == (6 : Int)) (bd (α := (Int × Int × Bool × Int × Bool × List UInt8 × List (Int × Int × Int × Int))) (o21v1 v137.2.2.2.2.2.2.2.2.2.2.1 v137.2.2.2.2.2.2.2.2.2.2.2.1 v137.2.2.2.2.1 v137.2.2.2.2.2.1 v137.2.2.2.2.2.2.2.2.2.2.2.2.2.2.2.2.2.2.2.2.1 v137.2.2.2.2.2.2.2.2.2.2.2.2.2.2.2.2.2.2.2.2.2.2.1) (fun v151 => (bd (α := (Int × Bool × Int × Bool × Int × Bool × Int × List UInt8 × List (Int × Int × Int × Int))) (o30 v137.2.2.2.2.2.2.1 v137.2.2.2.2.2.2.2.1 v137.2.2.2.2.2.2.2.2.1 v137.2.2.2.2.2.2.2.2.2.1 v137.2.2.2.2.2.2.2.2.2.2.2.2.1 v137.2.2.2.2.2.2.2.2.2.2.2.2.2.1 v137.2.2.2.2.2.2.2.2.2.2.2.2.2.2.2.2.2.2.2.2.2.1 v137.2.2.2.2.2.2.2.2.2.2.2.2.2.2.2.2.2.2.2.2.2.2.2) (fun v152 => (cnd (v151.1 != v152.2.2.2.2.2.2.1) (dnO (dnO (some false))) (some (Ctl.go (v137.1, v137.2.1, v151.2.2.2.1, v151.2.2.2.2.1, v152.1, v152.2.1, v152.2.2.1, v152.2.2.2.1, v151.2.1, v151.2.2.1, v152.2.2.2.2.1, v152.2.2.2.2.2.1, v151.2.2.2.2.2.1, v152.2.2.2.2.2.2.2.1, v151.2.2.2.2.2.2, v152.2.2.2.2.2.2.2.2)))))))) (cnd (v137.2.2.1 == (7 : Int)) (bd (α := (Int × Int × Bool × List UInt8)) (o24v1 v137.2.2.2.2.2.2.2.2.2.2.2.2.2.2.2.2.2.2.1 v137.2.2.2.2.2.2.2.2.2.2.2.2.2.2.2.2.2.2.2.1 v137.2.2.2.2.1 v137.2.2.2.2.2.1 v137.2.2.2.2.2.2.2.2.2.2.2.2.2.2.2.2.2.2.2.2.1) (fun v153 => (bd (α := (Int × Bool × Int × Bool × Int × List UInt8)) (o31 v137.2.2.2.2.2.2.1 v137.2.2.2.2.2.2.2.1 v137.2.2.2.2.2.2.2.2.1 v137.2.2.2.2.2.2.2.2.2.1 v137.2.2.2.2.2.2.2.2.2.2.2.2.2.2.2.2.2.2.1 v137.2.2.2.2.2.2.2.2.2.2.2.2.2.2.2.2.2.2.2.1 v137.2.2.2.2.2.2.2.2.2.2.2.2.2.2.2.2.2.2.2.2.2.1) (fun v154 => (cnd (v153.1 != v154.2.2.2.2.1) (dnO (dnO (some false))) (some (Ctl.go (v137.1, v137.2.1, v153.2.1, v153.2.2.1, v154.1, v154.2.1, v154.2.2.1, v154.2.2.2.1, v137.2.2.2.2.2.2.2.2.2.2.1, v137.2.2.2.2.2.2.2.2.2.2.2.1, v137.2.2.2.2.2.2.2.2.2.2.2.2.1, v137.2.2.2.2.2.2.2.2.2.2.2.2.2.1, v153.2.2.2, v154.2.2.2.2.2, v137.2.2.2.2.2.2.2.2.2.2.2.2.2.2.2.2.2.2.2.2.2.2.1, v137.2.2.2.2.2.2.2.2.2.2.2.2.2.2.2.2.2.2.2.2.2.2.2)))))))) (some (Ctl.go (v137.1, v137.2.1, v137.2.2.2.2.1, v137.2.2.2.2.2.1, v137.2.2.2.2.2.2.1, v137.2.2.2.2.2.2.2.1, v137.2.2.2.2.2.2.2.2.1, v137.2.2.2.2.2.2.2.2.2.1, v137.2.2.2.2.2.2.2.2.2.2.1, v137.2.2.2.2.2.2.2.2.2.2.2.1, v137.2.2.2.2.2.2.2.2.2.2.2.2.1, v137.2.2.2.2.2.2.2.2.2.2.2.2.2.1, v137.2.2.2.2.2.2.2.2.2.2.2.2.2.2.2.2.2.2.2.2.1, v137.2.2.2.2.2.2.2.2.2.2.2.2.2.2.2.2.2.2.2.2.2.1, v137.2.2.2.2.2.2.2.2.2.2.2.2.2.2.2.2.2.2.2.2.2.2.1, v137.2.2.2.2.2.2.2.2.2.2.2.2.2.2.2.2.2.2.2.2.2.2.2)))))))))))) (fun v155 => (bd (α := (List (Int × Int × Int × Int × Int × Int) × Int × Bool × Int × Bool × Int × Bool × Int × Bool × Int × Bool × Int × Bool × List UInt8 × List UInt8 × List (Int × Int × Int × Int) × List (Int × Int × Int × Int))) (bd (α := (List UInt8)) (o23v1 v155.2.2.2.2.2.2.2.2.2.2.2.2.1 v155.2.2.1 v155.2.2.2.1) (fun v162 => (cnd (!(v162 == v155.2.2.2.2.2.2.2.2.2.2.2.2.2.1)) (some (v155.1, v155.2.1, true, v155.2.2.1, v155.2.2.2.1, v155.2.2.2.2.1, v155.2.2.2.2.2.1, v155.2.2.2.2.2.2.1, v155.2.2.2.2.2.2.2.1, v155.2.2.2.2.2.2.2.2.1, v155.2.2.2.2.2.2.2.2.2.1, v155.2.2.2.2.2.2.2.2.2.2.1, v155.2.2.2.2.2.2.2.2.2.2.2.1, v155.2.2.2.2.2.2.2.2.2.2.2.2.1, v155.2.2.2.2.2.2.2.2.2.2.2.2.2.1, v155.2.2.2.2.2.2.2.2.2.2.2.2.2.2.1, v155.2.2.2.2.2.2.2.2.2.2.2.2.2.2.2)) (bd (α := Bool) (o22v1 v155.2.2.2.2.2.2.2.2.2.2.2.2.1 v155.2.2.1 v155.2.2.2.1) (fun v163 => (cnd (!(v163 == v155.2.2.2.2.2.2.2.1)) (some (v155.1, v155.2.1, true, v155.2.2.1, v155.2.2.2.1, v155.2.2.2.2.1, v155.2.2.2.2.2.1, v155.2.2.2.2.2.2.1, v155.2.2.2.2.2.2.2.1, v155.2.2.2.2.2.2.2.2.1, v155.2.2.2.2.2.2.2.2.2.1, v155.2.2.2.2.2.2.2.2.2.2.1, v155.2.2.2.2.2.2.2.2.2.2.2.1, v155.2.2.2.2.2.2.2.2.2.2.2.2.1, v155.2.2.2.2.2.2.2.2.2.2.2.2.2.1, v155.2.2.2.2.2.2.2.2.2.2.2.2.2.2.1, v155.2.2.2.2.2.2.2.2.2.2.2.2.2.2.2)) (bd (α := Int) (o32 v155.2.2.2.2.2.2.2.2.2.2.2.2.1 v155.2.2.1 v155.2.2.2.1) (fun v164 => (cnd (v164 != v155.2.2.2.2.1) (some (v155.1, v155.2.1, true, v155.2.2.1, v155.2.2.2.1, v155.2.2.2.2.1, v155.2.2.2.2.2.1, v155.2.2.2.2.2.2.1, v155.2.2.2.2.2.2.2.1, v155.2.2.2.2.2.2.2.2.1, v155.2.2.2.2.2.2.2.2.2.1, v155.2.2.2.2.2.2.2.2.2.2.1, v155.2.2.2.2.2.2.2.2.2.2.2.1, v155.2.2.2.2.2.2.2.2.2.2.2.2.1, v155.2.2.2.2.2.2.2.2.2.2.2.2.2.1, v155.2.2.2.2.2.2.2.2.2.2.2.2.2.2.1, v155.2.2.2.2.2.2.2.2.2.2.2.2.2.2.2)) (bd (α := (List (Int × Int × Int × Int))) (o19 v155.2.2.2.2.2.2.2.2.2.2.2.2.2.2.1 v155.2.2.2.2.2.2.2.2.1 v155.2.2.2.2.2.2.2.2.2.1 v155.2.2.2.2.2.2.2.2.2.2.2.2.1 v155.2.2.1 v155.2.2.2.1) (fun v165 => (bd (α := Bool) (o18 v165 v155.2.2.2.2.2.2.2.2.2.2.2.2.2.2.2) (fun v166 => (cnd (!v166) (some (v155.1, v155.2.1, true, v155.2.2.1, v155.2.2.2.1, v155.2.2.2.2.1, v155.2.2.2.2.2.1, v155.2.2.2.2.2.2.1, v155.2.2.2.2.2.2.2.1, v155.2.2.2.2.2.2.2.2.1, v155.2.2.2.2.2.2.2.2.2.1, v155.2.2.2.2.2.2.2.2.2.2.1, v155.2.2.2.2.2.2.2.2.2.2.2.1, v155.2.2.2.2.2.2.2.2.2.2.2.2.1, v155.2.2.2.2.2.2.2.2.2.2.2.2.2.1, v155.2.2.2.2.2.2.2.2.2.2.2.2.2.2.1, v155.2.2.2.2.2.2.2.2.2.2.2.2.2.2.2)) (bd (α := Int) (o20 v155.2.2.2.2.2.2.2.2.2.2.2.2.2.2.1 v155.2.2.2.2.2.2.2.2.1 v155.2.2.2.2.2.2.2.2.2.1 v155.2.2.2.2.2.2.2.2.2.2.2.2.1 v155.2.2.1 v155.2.2.2.1) (fun v167 => (some (v155.1, v155.2.1, (v167 != v155.2.2.2.2.2.2.2.2.2.2.1), v155.2.2.1, v155.2.2.2.1, v155.2.2.2.2.1, v155.2.2.2.2.2.1, v155.2.2.2.2.2.2.1, v155.2.2.2.2.2.2.2.1, v155.2.2.2.2.2.2.2.2.1, v155.2.2.2.2.2.2.2.2.2.1, v155.2.2.2.2.2.2.2.2.2.2.1, v155.2.2.2.2.2.2.2.2.2.2.2.1, v155.2.2.2.2.2.2.2.2.2.2.2.2.1, v155.2.2.2.2.2.2.2.2.2.2.2.2.2.1, v155.2.2.2.2.2.2.2.2.2.2.2.2.2.2.1, v155.2.2.2.2.2.2.2.2.2.2.2.2.2.2.2)))))))))))))))))) (fun v168 => (cnd v168.2.2.1 (dnO (some false)) (some (Ctl.go (v168.1, (IntKind.wrap .i64 (v168.2.1 + (1 : Int))), v168.2.2.2.1, v168.2.2.2.2.1, v168.2.2.2.2.2.1, v168.2.2.2.2.2.2.1, v168.2.2.2.2.2.2.2.1, v168.2.2.2.2.2.2.2.2.1, v168.2.2.2.2.2.2.2.2.2.1, v168.2.2.2.2.2.2.2.2.2.2.1, v168.2.2.2.2.2.2.2.2.2.2.2.1, v168.2.2.2.2.2.2.2.2.2.2.2.2.1, v168.2.2.2.2.2.2.2.2.2.2.2.2.2.1, v168.2.2.2.2.2.2.2.2.2.2.2.2.2.2.1, v168.2.2.2.2.2.2.2.2.2.2.2.2.2.2.2.1, v168.2.2.2.2.2.2.2.2.2.2.2.2.2.2.2.2))))))))) (dnO (some true)))))) (v87.1, (0 : Int), v87.2.1, v87.2.2.1, v87.2.2.2.1, v87.2.2.2.2.1, (0 : Int), v87.2.2.2.2.2.1, v87.2.2.2.2.2.2.1, v87.2.2.2.2.2.2.2.1, v88.1, v88.2.1, v87.2.2.2.2.2.2.2.2.1, v87.2.2.2.2.2.2.2.2.2.1, v87.2.2.2.2.2.2.2.2.2.2, v88.2.2.2))))))))))))))))))))
theorem e8 (t : Int × List (Int × Int × Int × Int × Int × Int)) : evF (stpT Tryd.prog T69 K69) Tryd.f8 p8 r8 (.s .d (.s .d (.s (.j false [o8_s0, o8_s1] .d) (.on ⟨[(5, .v (.c (.cst (.pointer none))))], []⟩ (.s .d (.s (.s (.j false [o8_s2] .d) (.c (.s (.j false [o8_s3] .d) .d) .d)) (.s .d (.s .d (.s (.s .d (.b (.l o8_s7 (.s (.s (.j false [o8_s4] .d) .d) (.s (.b (.s .d (.j true [o8_s7] (.s (.s .d (.b (.j false [o8_s9] (.s .d (.c (.s .d (.s .d (.s .d (.s .d (.s (.j false [o8_s5] .d) .d))))) (.s .d (.c .d (.j false [o8_s8] (.s .d (.c (.j false [o8_s7] (.s .d (.s .d (.s .d (.s (.s (.j false [o8_s6] .d) .d) .d))))) .d)))))))))) (.s (.j false [o8_s10] (.r 2)) .d))))) .d))))) .d))))) (.s .d (.s (.s (.j false [o8_s11] .d) (.c (.s (.j false [o8_s3] .d) .d) .d)) (.s (.j false [o8_s12, o8_s13] .d) (.on ⟨[(9, .v (.c (.cst (.pointer none))))], []⟩ .cut (.s .d (.s (.s .d (.b (.l o8_s20 (.s (.s (.j false [o8_s14] .d) .d) (.s (.b (.s .d (.j true [o8_s20] (.s (.s .d (.b (.j false [o8_s22] (.s .d (.c (.s .d (.s .d (.s .d (.s .d (.s (.j false [o8_s15] .d) .d))))) (.s .d (.c .d (.j false [o8_s21] (.s .d (.c (.j false [o8_s20] (.s .d (.s (.j false [o8_s16, o8_s17] .d) (.on ⟨[(19, .v (.c (.cst (.pointer none))))], []⟩ (.s .d (.s (.s (.j false [o8_s18] .d) .d) .d)) (.s .d (.s (.s (.j false [o8_s19] .d) .d) .d)))))) .d)))))))))) (.s (.j false [o8_s23] (.r 2)) .d))))) .d))))) .d)))))))))) t = (o8 t.1 t.2) := by kernel_rfl
theorem fo8 : FOk Tryd.prog 8 ⟨p8, r8, fun t => (o8 t.1 t.2)⟩ := FOk.run_eq (evF_ok (h := (.s .d (.s .d (.s (.j false [o8_s0, o8_s1] .d) (.on ⟨[(5, .v (.c (.cst (.pointer none))))], []⟩ (.s .d (.s (.s (.j false [o8_s2] .d) (.c (.s (.j false [o8_s3] .d) .d) .d)) (.s .d (.s .d (.s (.s .d (.b (.l o8_s7 (.s (.s (.j false [o8_s4] .d) .d) (.s (.b (.s .d (.j true [o8_s7] (.s (.s .d (.b (.j false [o8_s9] (.s .d (.c (.s .d (.s .d (.s .d (.s .d (.s (.j false [o8_s5] .d) .d))))) (.s .d (.c .d (.j false [o8_s8] (.s .d (.c (.j false [o8_s7] (.s .d (.s .d (.s .d (.s (.s (.j false [o8_s6] .d) .d) .d))))) .d)))))))))) (.s (.j false [o8_s10] (.r 2)) .d))))) .d))))) .d))))) (.s .d (.s (.s (.j false [o8_s11] .d) (.c (.s (.j false [o8_s3] .d) .d) .d)) (.s (.j false [o8_s12, o8_s13] .d) (.on ⟨[(9, .v (.c (.cst (.pointer none))))], []⟩ .cut (.s .d (.s (.s .d (.b (.l o8_s20 (.s (.s (.j false [o8_s14] .d) .d) (.s (.b (.s .d (.j true [o8_s20] (.s (.s .d (.b (.j false [o8_s22] (.s .d (.c (.s .d (.s .d (.s .d (.s .d (.s (.j false [o8_s15] .d) .d))))) (.s .d (.c .d (.j false [o8_s21] (.s .d (.c (.j false [o8_s20] (.s .d (.s (.j false [o8_s16, o8_s17] .d) (.on ⟨[(19, .v (.c (.cst (.pointer none))))], []⟩ (.s .d (.s (.s (.j false [o8_s18] .d) .d) .d)) (.s .d (.s (.s (.j false [o8_s19] .d) .d) .d)))))) .d)))))))))) (.s (.j false [o8_s23] (.r 2)) .d))))) .d))))) .d))))))))))) (by kernel_rfl) (by kernel_rfl) (by kernel_rfl)) e8
end
end Go.Proofs.YtnkmijidneibnaaDoor
namespace Go.Proofs.YtnkmijidneibnaaDoor
set_option linter.unusedVariables false
set_option linter.unusedSimpArgs false
set_option maxRecDepth 100000
open Go.RowKit
theorem take_one {p : List UInt8} {k : Nat} (h : k < p.length) : p.take (k + 1) = p.take k ++ [p.getD k 0] := by rw [List.take_succ_eq_append_getElem h, getD_of h]
theorem natL_at (q : List UInt8) : ∀ (m i : Nat), i < m → natL q m / 256 ^ i % 256 = (q.getD i 0).toNat
  | 0, i, h => by omega
  | m + 1, i, h => by
    have hq := UInt8.toNat_lt (q.getD m 0)
    have hlt := natL_lt q m
    by_cases e : i = m
    · subst e
      have hpos : 0 < 256 ^ i := Nat.pow_pos (by decide)
      rw [natL, Nat.add_mul_div_right _ _ hpos, Nat.div_eq_of_lt hlt]
      omega
    · have ih := natL_at q m i (by omega)
      have e2 : 256 ^ m = 256 ^ (m - i - 1) * 256 * 256 ^ i := by
        rw [Nat.mul_assoc, Nat.mul_comm 256, ← Nat.mul_assoc, ← Nat.pow_add, ← Nat.pow_succ]
        congr 1; omega
      have hpos : 0 < 256 ^ i := Nat.pow_pos (by decide)
      rw [natL, e2, ← Nat.mul_assoc, Nat.add_mul_div_right _ _ hpos, ← Nat.mul_assoc, Nat.add_mul_mod_self_right]
      exact ih
theorem byteAt_natL (q : List UInt8) (m i : Nat) (h : i < m) (h8 : m ≤ 8) : byteAt ((natL q m : Nat) : Int) i = q.getD i 0 := by
  have e := byteAt_toNat ((natL q m : Nat) : Int) i (by omega)
  have e2 := natL_at q m i h
  have e3 : ((natL q m : Nat) : Int) / 256 ^ i % 256 = ((natL q m / 256 ^ i % 256 : Nat) : Int) := by simp
  rw [e3, e2] at e
  have e4 : (byteAt ((natL q m : Nat) : Int) i).toNat = (q.getD i 0).toNat := by omega
  exact UInt8.toNat_inj.1 e4
theorem map_take (q : List UInt8) : ∀ k, k ≤ q.length → (List.range k).map (fun i => q.getD i 0) = q.take k
  | 0, _ => rfl
  | k + 1, h => by
    rw [List.range_succ, List.map_append, map_take q k (by omega), take_one (by omega)]
    rfl
theorem putB_natL (q : List UInt8) (k : Nat) (h : k ≤ q.length) (h8 : k ≤ 8) : putB ((natL q k : Nat) : Int) k = q.take k := by
  unfold putB
  rw [← map_take q k h]
  apply List.map_congr_left
  intro i hi
  exact byteAt_natL q k i (List.mem_range.1 hi) h8
theorem o105_eq (r b : Int) : o105 r b = some (crcB r (IntKind.u32.wrap b)) := by
  unfold o105
  refine loop_cnt (n := 8) (fun i => (itS i (lxorK .u32 r (IntKind.u32.wrap b)), (i : Int))) (fun i hi => ?_) ?_ (by omega)
  · dsimp only
    rw [cndT (dt (by omega)), wr64 (x := (i : Int) + 1) (by omega), cnd_cond]
    show _ = some (Ctl.go (crcS (itS i _), _))
    unfold crcS
    cases (landK .u32 (itS i (lxorK .u32 r (IntKind.u32.wrap b))) 1 == 1) <;> rfl
  · dsimp only
    rw [cndF (df (by omega))]
    rfl
theorem o93_eq (c : Int) (p : List UInt8) (h : p.length ≤ 1000000) : o93 c p = some (lxorK .u32 4294967295 (crcR (lxorK .u32 4294967295 c) p)) := by
  unfold o93
  refine loop_cnt (n := p.length) (fun i => (crcR (lxorK .u32 4294967295 c) (p.take i), p, (p.length : Int), (i : Int))) (fun i hi => ?_) ?_ (by omega)
  · dsimp only
    have hb := UInt8.toNat_lt (p.getD i 0)
    rw [cndT (dt (by omega)), gdT (dt (by omega)), Int.toNat_natCast, bdS (o105_eq _ _), wr64 (by omega), wr_u32 (by omega), take_one hi]
    unfold crcR
    rw [List.foldl_append]
    rfl
  · dsimp only
    rw [cndF (df (by omega)), List.take_length]
    rfl
theorem o74_eq (p : List UInt8) (h : p.length ≤ 1000000) : o74 p = some (crcI p) := by
  unfold o74
  rw [bdS (o93_eq _ _ h)]
  rfl
theorem o72_eq (p : List UInt8) (h : p.length = 8) : o72 p = some (natL p 8 : Int) := by
  unfold o72
  refine loop_cnt (n := 8) (fun i => (getK p i, p, (p.length : Int), (i : Int))) (fun i hi => ?_) ?_ (by omega)
  · dsimp only
    rw [cndT (dt (by omega)), gdT (dt (by omega)), w8 (by omega), gdT (dt (by omega)), Int.toNat_natCast, wr64 (x := (i : Int) + 1) (by omega), wr_u64 (by have := UInt8.toNat_lt (p.getD i 0); omega)]
    rfl
  · dsimp only
    rw [cndF (df (by omega)), getK_eq p 8 (by omega)]
    rfl
theorem o73_eq (n : Int) (k : Nat) (hk : k ≤ 8) : o73 n (k : Int) = some (putB n k) := by
  unfold o73
  refine loop_cnt (n := k) (fun i => (n, (k : Int), (i : Int), putB n i)) (fun i hi => ?_) ?_ (by omega)
  · dsimp only
    have hl := putB_len n i
    rw [cndT (dt (by omega)), w8 (by omega), gdT (dt (by omega)), gdT (dt (by simp only [List.length_cons, List.length_nil]; omega)), wr64 (x := (i : Int) + 1) (by omega), putB_succ, byte_u64' n i (by omega)]
    rfl
  · dsimp only
    rw [cndF (df (by omega))]
    rfl
theorem seal4_eq {c : Nat} (hc : c < 2 ^ 32) : putB (c : Int) 4 = seal4 (c : Int) := by
  have s8 : shrK .u32 (c : Int) 8 = ((c >>> 8 : Nat) : Int) := shr_u32 c 8 (by decide)
  have s16 : shrK .u32 (c : Int) 16 = ((c >>> 16 : Nat) : Int) := shr_u32 c 16 (by decide)
  have s24 : shrK .u32 (c : Int) 24 = ((c >>> 24 : Nat) : Int) := shr_u32 c 24 (by decide)
  have e : putB (c : Int) 4 = [byteAt c 0, byteAt c 1, byteAt c 2, byteAt c 3] := rfl
  have hb : ∀ (i : Nat) (z : Nat), i < 8 → z = c / 256 ^ i → byteAt (c : Int) i = u8 (IntKind.u8.wrap (z : Int)) := fun i z hi hz => by
    unfold byteAt
    rw [shr_i64 _ i hi, hz]
    simp
  rw [e]
  unfold seal4
  rw [s8, s16, s24, hb 0 c (by decide) (by simp), hb 1 (c >>> 8) (by decide) (by rw [Nat.shiftRight_eq_div_pow]), hb 2 (c >>> 16) (by decide) (by rw [Nat.shiftRight_eq_div_pow]), hb 3 (c >>> 24) (by decide) (by rw [Nat.shiftRight_eq_div_pow])]
theorem crcI_nat (p : List UInt8) : ∃ c : Nat, c < 2 ^ 32 ∧ crcI p = (c : Int) := by
  obtain ⟨h1, h2⟩ := crcI_eq p
  exact ⟨_, Nat.xor_lt_two_pow (by decide) h2, h1⟩
theorem o52_eq (c ph t n : Int) : o52 c ph t n = some (contB c ph t n) := by
  unfold o52
  have e8 : ∀ n, o73 n 8 = some (putB n 8) := fun n => o73_eq n 8 (by decide)
  have hl := bodyB_len c ph t n
  have hp := fun n => putB_len n 8
  rw [bdS (e8 _), bdS (e8 _), gdT (dt (by rw [hp, hp]; decide)), bdS (e8 _), gdT (dt (by rw [List.length_append, hp, hp, hp]; decide)), gdT (dt (by rw [List.length_append, List.length_append, hp, hp, hp]; simp only [List.length_cons, List.length_nil]; decide))]
  show bd (o74 (bodyB c ph t n)) _ = _
  rw [bdS (o74_eq _ (by omega))]
  obtain ⟨x, hx, he⟩ := crcI_nat (bodyB c ph t n)
  have e4 : o73 (IntKind.u64.wrap (x : Int)) 4 = some (seal4 (x : Int)) := by
    rw [wr_u64 (by omega), ← seal4_eq hx]
    exact o73_eq _ 4 (by decide)
  rw [he, bdS e4, gdT]
  · unfold contB
    rw [he]
    rfl
  · refine dt ?_
    show ((bodyB c ph t n).length + 4) * 1 ≤ _
    omega
theorem bodyB_bodyF {q : List UInt8} (h : q.length = 25) : bodyB (bodyF q).1 (bodyF q).2.1 (bodyF q).2.2.1 (bodyF q).2.2.2 = q := by
  unfold bodyB bodyF
  have e : ∀ z : Nat, z < 18446744073709551616 → putB (IntKind.u64.wrap (IntKind.i64.wrap (z : Int))) 8 = putB (z : Int) 8 := fun z hz => by
    have : IntKind.u64.wrap (IntKind.i64.wrap (z : Int)) = (z : Int) := by rw [IntKind.wrap_i64, IntKind.wrap_u64]; omega
    rw [this]
  dsimp only
  rw [e _ (natL_lt64 _), e _ (natL_lt64 _), putB_natL q 8 (by omega) (by decide), putB_natL (q.drop 8) 8 (by rw [List.length_drop]; omega) (by decide), putB_natL (q.drop 16) 8 (by rw [List.length_drop]; omega) (by decide)]
  have e24 : ([u8 (rdB q 24)] : List UInt8) = q.drop 24 := by
    unfold rdB
    rw [u8_of_toNat, List.drop_eq_getElem_cons (by omega), getD_of (by omega), List.drop_of_length_le (by omega)]
  rw [e24, List.append_assoc, List.append_assoc]
  have h1 : q.drop 16 = (q.drop 8).drop 8 := by rw [List.drop_drop]
  have h2 : q.drop 24 = (q.drop 16).drop 8 := by rw [List.drop_drop]
  rw [h2, List.take_append_drop, h1, List.take_append_drop, List.take_append_drop]
end Go.Proofs.YtnkmijidneibnaaDoor
namespace Go.Proofs.YtnkmijidneibnaaDoor
set_option linter.unusedVariables false
set_option linter.unusedSimpArgs false
set_option maxRecDepth 100000
open Go.RowKit
theorem o49_eq {s i : Nat} {d : List UInt8} {ar off : Bool} {lf : Int} (h : d.length = 30 * s) (h1 : 1 ≤ s) (h64 : s ≤ 64) (hi : i < s) : ∃ x, o49 (s : Int) d ar lf off (i : Int) = some x ∧ flag5 x = rdS (slot d i) i s := by
  have w1 : IntKind.i64.wrap ((i : Int) * 30) = ((30 * i : Nat) : Int) := by rw [wr64 (by omega)]; omega
  have w2 : IntKind.i64.wrap ((i : Int) + 1) = ((i + 1 : Nat) : Int) := by rw [wr64 (by omega)]; omega
  have w3 : IntKind.i64.wrap (((i + 1 : Nat) : Int) * 30) = ((30 * i + 30 : Nat) : Int) := by rw [wr64 (by omega)]; omega
  have hsl : List.take (30 * i + 30 - 30 * i) (List.drop (30 * i) d) = slot d i := by
    rw [show 30 * i + 30 - 30 * i = 30 by omega]
    rfl
  have hP := slot_len h hi
  unfold o49
  rw [w1, w2, w3, Int.toNat_natCast, Int.toNat_natCast, hsl, gdT (dt (by omega))]
  generalize slot d i = P at *
  generalize hQ : (P.drop 1).take 25 = Q at *
  have hQl : Q.length = 25 := by rw [← hQ, List.length_take, List.length_drop, hP]; rfl
  have q0 : List.take ((9 : Int).toNat - (1 : Int).toNat) (List.drop (1 : Int).toNat P) = Q.take 8 := by
    rw [← hQ, List.take_take]
    rfl
  have q1 : List.take ((17 : Int).toNat - (9 : Int).toNat) (List.drop (9 : Int).toNat P) = (Q.drop 8).take 8 := by
    rw [← hQ, List.drop_take, List.drop_drop, List.take_take]
    rfl
  have q2 : List.take ((25 : Int).toNat - (17 : Int).toNat) (List.drop (17 : Int).toNat P) = (Q.drop 16).take 8 := by
    rw [← hQ, List.drop_take, List.drop_drop, List.take_take]
    rfl
  have q3 : (((P.getD (25 : Int).toNat 0).toNat : Nat) : Int) = rdB Q 24 := by
    unfold rdB
    rw [← hQ, List.getD_eq_getElem?_getD, List.getD_eq_getElem?_getD, List.getElem?_take, if_pos (by decide), List.getElem?_drop]
    rfl
  have q4 : List.take ((30 : Int).toNat - (1 : Int).toNat) (List.drop (1 : Int).toNat P) = P.drop 1 := List.take_of_length_le (by rw [List.length_drop, hP]; decide)
  have n0 : natL (Q.take 8) 8 = natL Q 8 := natL_take Q 8 8 (Nat.le_refl _)
  have n1 : natL ((Q.drop 8).take 8) 8 = natL (Q.drop 8) 8 := natL_take _ 8 8 (Nat.le_refl _)
  have n2 : natL ((Q.drop 16).take 8) 8 = natL (Q.drop 16) 8 := natL_take _ 8 8 (Nat.le_refl _)
  rw [q0, q1, q2, q3, q4, gdT (dt (by omega)), bdS (o72_eq _ (by rw [List.length_take]; omega)), gdT (dt (by omega)), bdS (o72_eq _ (by rw [List.length_take, List.length_drop]; omega)), gdT (dt (by omega)), bdS (o72_eq _ (by rw [List.length_take, List.length_drop]; omega)), gdT (dt (by omega)), gdT (dt (by omega)), n0, n1, n2]
  have k1 := natL_lt64 Q
  have hx : (0 : Int) ≤ (natL Q 8 : Int) := by omega
  have hd : P.head? = some (P.getD 0 0) := by
    cases P with
    | nil => simp at hP
    | cons a l => simp
  have hu : u8 (195 : Int) = 195 := rfl
  have e0 : P.getD (0 : Int).toNat 0 = P.getD 0 0 := rfl
  have h26 : P.drop 26 = (P.drop 1).drop 25 := by rw [List.drop_drop]
  have hco : contB (IntKind.i64.wrap (natL (Q.drop 16) 8)) (rdB Q 24) (IntKind.i64.wrap (natL (Q.drop 8) 8)) (natL Q 8) = Q ++ seal4 (crcI Q) := by
    have := bodyB_bodyF hQl
    unfold bodyF at this
    unfold contB
    rw [this]
  have hiff : P.drop 1 = Q ++ seal4 (crcI Q) ↔ P.drop 26 = seal4 (crcI Q) := by
    rw [h26]
    constructor
    · intro e
      rw [e]
      exact dropL hQl
    · intro e
      rw [← e, ← hQ, List.take_append_drop]
  have hg : goodF (bodyF Q) i s ↔ (1 ≤ rdB Q 24 ∧ rdB Q 24 ≤ 8 ∧ 1 ≤ (natL Q 8 : Int) ∧ (natL Q 8 : Int) ≤ 4611686018427387904 ∧ (natL Q 8 : Int) % (s : Int) = (i : Int)) := Iff.rfl
  have hbd : bodyF Q = (IntKind.i64.wrap (natL (Q.drop 16) 8), rdB Q 24, IntKind.i64.wrap (natL (Q.drop 8) 8), (natL Q 8 : Int)) := rfl
  unfold rdS
  rw [hd, e0, hQ]
  by_cases c0 : P.getD 0 0 = 195
  · rw [cndT (eq_t ((u8_eq_iff (by omega)).2 c0)), gdT (dt (by omega)), bdS (o52_eq _ _ _ _), hco]
    by_cases c1 : P.drop 1 = Q ++ seal4 (crcI Q)
    · rw [← c1, cndT (by simp)]
      have c1' := hiff.1 c1
      by_cases c2 : 1 ≤ rdB Q 24
      · rw [cndT (dt c2)]
        by_cases c3 : rdB Q 24 ≤ 8
        · rw [cndT (dt c3)]
          by_cases c4 : 1 ≤ (natL Q 8 : Int)
          · rw [cndT (dt c4)]
            by_cases c5 : (natL Q 8 : Int) ≤ 4611686018427387904
            · rw [cndT (dt c5), wr_u64 (x := (s : Int)) (by omega), wr_u64 (x := (i : Int)) (by omega), gdT (dt (by omega)), Int.tmod_eq_emod_of_nonneg hx, bdI]
              refine ⟨_, rfl, ?_⟩
              by_cases c6 : (natL Q 8 : Int) % (s : Int) = (i : Int)
              · rw [if_pos ⟨by rw [c0], c1', hg.2 ⟨c2, c3, c4, c5, c6⟩⟩]
                simp [flag5, c6, hbd]
              · rw [if_neg (fun e => c6 (hg.1 e.2.2).2.2.2.2)]
                simp [flag5, c6]
            · rw [cndF (df c5), bdI]
              exact ⟨_, rfl, by rw [if_neg (fun e => c5 (hg.1 e.2.2).2.2.2.1)]; rfl⟩
          · rw [cndF (df c4), bdI]
            exact ⟨_, rfl, by rw [if_neg (fun e => c4 (hg.1 e.2.2).2.2.1)]; rfl⟩
        · rw [cndF (df c3), bdI]
          exact ⟨_, rfl, by rw [if_neg (fun e => c3 (hg.1 e.2.2).2.1)]; rfl⟩
      · rw [cndF (df c2), bdI]
        exact ⟨_, rfl, by rw [if_neg (fun e => c2 (hg.1 e.2.2).1)]; rfl⟩
    · rw [cndF (by simpa using c1), bdI]
      exact ⟨_, rfl, by rw [if_neg (fun e => c1 (hiff.2 e.2.1))]; rfl⟩
  · rw [cndF (eq_f (fun e => c0 ((u8_eq_iff (by omega)).1 e))), bdI]
    exact ⟨_, rfl, by rw [if_neg (fun e => c0 (by have := e.1; injection this))]; rfl⟩
def geN (n : Int) (x : Flt) : Bool := !decide (x.2.2.2 < n)
theorem geN_f {n : Int} {x : Flt} (h : geN n x = false) : x.2.2.2 < n := by unfold geN at h; simpa using h
theorem geN_t {n : Int} {x : Flt} (h : geN n x = true) : ¬ x.2.2.2 < n := by unfold geN at h; simpa using h
def insR (l : List Flt) (f : Flt) : List Flt := (l.take (l.findIdx (geN f.2.2.2)) ++ [f]) ++ l.drop (l.findIdx (geN f.2.2.2))
theorem o50_eq {l : List Flt} {c ph t n : Int} (hl : l.length ≤ 1000000) : o50v1 l c ph t n = some (insR l (c, ph, t, n)) := by
  unfold o50v1 insR
  have hle : l.findIdx (geN n) ≤ l.length := List.findIdx_le_length
  dsimp only
  refine loop_cnt (n := l.findIdx (geN n)) (fun i => (l, (i : Int), c, ph, t, n)) (fun i hi => ?_) ?_ (by omega)
  · dsimp only
    have hlt : i < l.length := by omega
    have hx : l[i].2.2.2 < n := geN_f (List.not_of_lt_findIdx hi)
    rw [cndT (dt (by omega)), gdT (dt (by omega)), Int.toNat_natCast, getD_of hlt, dt hx, bdI]
    dsimp only
    rw [cnd_t, wr64 (by omega)]
    rfl
  · dsimp only
    have fin : ∀ (v : Flt), bd (some (l, ((l.findIdx (geN n) : Nat) : Int), false, c, ph, t, n)) (fun v4 => (cnd v4.2.2.1 (some (Ctl.go (v4.1, (IntKind.i64.wrap (v4.2.1 + 1)), v4.2.2.2.1, v4.2.2.2.2.1, v4.2.2.2.2.2.1, v4.2.2.2.2.2.2))) (dnO (gd (decide (0 ≤ v4.2.1 ∧ v4.2.1 ≤ ((v4.1.length : Nat) : Int))) (gd (decide ((([] : List (Flt)).length + (List.take v4.2.1.toNat v4.1).length) * 32 ≤ 140737488355328)) (gd (decide (((([] : List (Flt)) ++ (List.take v4.2.1.toNat v4.1)).length + ([(v4.2.2.2.1, (v4.2.2.2.2.1, (v4.2.2.2.2.2.1, v4.2.2.2.2.2.2)))] : List (Flt)).length) * 32 ≤ 140737488355328)) (gd (decide (0 ≤ v4.2.1 ∧ v4.2.1 ≤ ((v4.1.length : Nat) : Int))) (gd (decide ((((([] : List (Flt)) ++ (List.take v4.2.1.toNat v4.1)) ++ ([(v4.2.2.2.1, (v4.2.2.2.2.1, (v4.2.2.2.2.2.1, v4.2.2.2.2.2.2)))] : List (Flt))).length + (List.drop v4.2.1.toNat v4.1).length) * 32 ≤ 140737488355328)) (some (((([] : List (Flt)) ++ (List.take v4.2.1.toNat v4.1)) ++ ([(v4.2.2.2.1, (v4.2.2.2.2.1, (v4.2.2.2.2.2.1, v4.2.2.2.2.2.2)))] : List (Flt))) ++ (List.drop v4.2.1.toNat v4.1))))))))))) = (some (Ctl.done ((l.take (l.findIdx (geN n)) ++ [(c, ph, t, n)]) ++ l.drop (l.findIdx (geN n)))) : Option (Ctl (List Flt × Int × Int × Int × Int × Int) (List Flt))) := fun v => by
      rw [bdI]
      dsimp only
      rw [cnd_f, Int.toNat_natCast, gdT (dt (by omega)), gdT (dt (by simp; omega)), gdT (dt (by simp; omega)), gdT (dt (by omega)), gdT (dt (by simp; omega)), List.nil_append]
      rfl
    by_cases h : l.findIdx (geN n) < l.length
    · have hx : ¬ l[l.findIdx (geN n)].2.2.2 < n := geN_t (List.findIdx_getElem (w := h))
      rw [cndT (dt (by omega)), gdT (dt (by omega)), Int.toNat_natCast, getD_of h, df hx]
      exact fin (0, 0, 0, 0)
    · rw [cndF (df (by omega))]
      exact fin (0, 0, 0, 0)
theorem insR_top {l : List Flt} {f : Flt} (h : ∀ x ∈ l, x.2.2.2 < f.2.2.2) : insR l f = l ++ [f] := by
  unfold insR
  have : l.findIdx (geN f.2.2.2) = l.length := by
    rw [List.findIdx_eq_length]
    intro x hx
    unfold geN
    simp [h x hx]
  rw [this, List.take_length, List.drop_length, List.append_nil]
theorem insR_mem {l : List Flt} {f x : Flt} : x ∈ insR l f ↔ x ∈ l ∨ x = f := by
  unfold insR
  rw [List.mem_append, List.mem_append, List.mem_singleton]
  constructor
  · rintro ((h | h) | h)
    · exact .inl (List.mem_of_mem_take h)
    · exact .inr h
    · exact .inl (List.mem_of_mem_drop h)
  · rintro (h | h)
    · rw [← List.take_append_drop (l.findIdx (geN f.2.2.2)) l] at h
      rcases List.mem_append.1 h with h | h
      · exact .inl (.inl h)
      · exact .inr h
    · exact .inl (.inr h)
theorem insR_lt {l : List Flt} {f : Flt} (h : l.Pairwise ltN) (hn : ∀ x ∈ l, x.2.2.2 ≠ f.2.2.2) : (insR l f).Pairwise ltN := by
  unfold insR
  have ht : ∀ x ∈ l.take (l.findIdx (geN f.2.2.2)), x.2.2.2 < f.2.2.2 := fun x hx => by
    obtain ⟨i, hi, rfl⟩ := List.mem_iff_getElem.1 hx
    rw [List.length_take] at hi
    rw [List.getElem_take]
    have := List.not_of_lt_findIdx (p := geN f.2.2.2) (xs := l) (i := i) (by omega)
    exact geN_f this
  have hd : ∀ x ∈ l.drop (l.findIdx (geN f.2.2.2)), f.2.2.2 < x.2.2.2 := by
    by_cases hlt : l.findIdx (geN f.2.2.2) < l.length
    · have h1 : geN f.2.2.2 l[l.findIdx (geN f.2.2.2)] = true := List.findIdx_getElem (w := hlt)
      have h2 : f.2.2.2 < l[l.findIdx (geN f.2.2.2)].2.2.2 := by
        have := hn _ (List.getElem_mem hlt)
        have h1 := geN_t h1
        omega
      rw [List.drop_eq_getElem_cons hlt]
      intro x hx
      rcases List.mem_cons.1 hx with rfl | hx
      · exact h2
      · have hp : (l.drop (l.findIdx (geN f.2.2.2))).Pairwise ltN := h.drop
        rw [List.drop_eq_getElem_cons hlt, List.pairwise_cons] at hp
        have := hp.1 x hx
        unfold ltN at this
        omega
    · rw [List.drop_of_length_le (by omega)]
      intro x hx
      cases hx
  rw [List.pairwise_append, List.pairwise_append]
  refine ⟨⟨h.take, by simp, fun x hx y hy => ?_⟩, h.drop, fun x hx y hy => ?_⟩
  · rw [List.mem_singleton.1 hy]
    exact ht x hx
  · rcases List.mem_append.1 hx with hx | hx
    · have a := ht x hx
      have b := hd y hy
      show x.2.2.2 < y.2.2.2
      omega
    · rw [List.mem_singleton.1 hx]
      exact hd y hy
theorem o26_off (s lf : Int) (d : List UInt8) (ar : Bool) : o26 s d ar lf true = some (0, false, 19, []) := rfl
theorem o26_eq {s : Nat} {d : List UInt8} {ar : Bool} {lf : Int} (h : d.length = 30 * s) (h2 : 2 ≤ s) (h64 : s ≤ 64) : o26 (s : Int) d ar lf false = some (nxF (rdL d s s), false, 0, memF d s) := by
  unfold o26
  rw [cndF rfl]
  have hL := loop_inv (n := s)
    (fun i (st : Int × Int × List UInt8 × Bool × Int × Bool × Bool × Int × Bool × List Flt) => ∃ L, st = ((i : Int), (s : Int), d, ar, lf, false, false, nxF (rdL d s i), false, L) ∧ L.Pairwise ltN ∧ (∀ x, x ∈ L ↔ x ∈ rdL d s i) ∧ L.length ≤ i)
    (Q := fun r => r = (nxF (rdL d s s), false, 0, memF d s))
    (B := fun (v4 : Int × Int × List UInt8 × Bool × Int × Bool × Bool × Int × Bool × List (Int × Int × Int × Int)) => (cnd (decide (v4.1 < v4.2.1)) (bd (α := (Int × Int × Int × Int × Bool)) (o49 v4.2.1 v4.2.2.1 v4.2.2.2.1 v4.2.2.2.2.1 v4.2.2.2.2.2.1 v4.1) (fun v5 => (cnd v5.2.2.2.2 (bd (α := (List (Int × Int × Int × Int))) (o50v1 v4.2.2.2.2.2.2.2.2.2 v5.1 v5.2.1 v5.2.2.1 v5.2.2.2.1) (fun v6 => (cnd (decide (v5.2.2.2.1 ≥ v4.2.2.2.2.2.2.2.1)) (some (Ctl.go ((IntKind.wrap .i64 (v4.1 + (1 : Int))), v4.2.1, v4.2.2.1, v4.2.2.2.1, v4.2.2.2.2.1, v4.2.2.2.2.2.1, v4.2.2.2.2.2.2.1, (IntKind.wrap .u64 (v5.2.2.2.1 + (1 : Int))), v4.2.2.2.2.2.2.2.2.1, v6))) (some (Ctl.go ((IntKind.wrap .i64 (v4.1 + (1 : Int))), v4.2.1, v4.2.2.1, v4.2.2.2.1, v4.2.2.2.2.1, v4.2.2.2.2.2.1, v4.2.2.2.2.2.2.1, v4.2.2.2.2.2.2.2.1, v4.2.2.2.2.2.2.2.2.1, v6)))))) (some (Ctl.go ((IntKind.wrap .i64 (v4.1 + (1 : Int))), v4.2.1, v4.2.2.1, v4.2.2.2.1, v4.2.2.2.2.1, v4.2.2.2.2.2.1, v4.2.2.2.2.2.2.1, v4.2.2.2.2.2.2.2.1, v4.2.2.2.2.2.2.2.2.1, v4.2.2.2.2.2.2.2.2.2)))))) (dnO (some (v4.2.2.2.2.2.2.2.1, v4.2.2.2.2.2.2.2.2.1, (0 : Int), v4.2.2.2.2.2.2.2.2.2)))))
    (s0 := (0, (s : Int), d, ar, lf, false, false, 1, false, [])) ?_ ?_ (by omega) ⟨[], rfl, .nil, fun x => Iff.rfl, Nat.le_refl _⟩
  · obtain ⟨r, h1, h3⟩ := hL
    rw [h1, h3]
  · rintro i _ hi ⟨L, rfl, l1, l2, l3⟩
    dsimp only
    obtain ⟨x, h1, h3⟩ := o49_eq (d := d) (ar := ar) (off := false) (lf := lf) h (by omega) h64 hi
    have hw1 : IntKind.i64.wrap ((i : Int) + 1) = ((i + 1 : Nat) : Int) := by rw [wr64 (by omega)]; omega
    rw [cndT (dt (by omega)), bdS h1, hw1]
    obtain ⟨x1, x2, x3, x4, x5⟩ := x
    have hr : rdL d s (i + 1) = rdL d s i ++ (flag5 (x1, x2, x3, x4, x5)).toList := by rw [rdL, h3]
    cases x5 with
    | false =>
      have hr : rdL d s (i + 1) = rdL d s i := by rw [hr]; simp [flag5]
      rw [hr]
      exact ⟨_, by rw [cndF rfl], L, rfl, l1, l2, by omega⟩
    | true =>
      have hr : rdL d s (i + 1) = rdL d s i ++ [(x1, x2, x3, x4)] := by rw [hr]; simp [flag5]
      have hg := rdS_good (i := i) (s := s) (p := slot d i) (x := (x1, x2, x3, x4)) (by rw [← h3]; rfl)
      have h5 := hg.2.2.1
      have h6 := hg.2.2.2.1
      have h7 := hg.2.2.2.2
      dsimp only at h5 h6 h7
      have hne : ∀ y ∈ L, y.2.2.2 ≠ x4 := fun y hy e => by
        obtain ⟨j, hj, hh⟩ := rdL_mem.1 ((l2 y).1 hy)
        have := (rdS_good hh).2.2.2.2
        rw [e] at this
        omega
      rw [cndT rfl, bdS (o50_eq (by omega)), hr, nxF_app]
      have hmx : ∀ z : Int, (x4 ≥ z → maxI z (x4 + 1) = x4 + 1) ∧ (¬ x4 ≥ z → maxI z (x4 + 1) = z) := fun z => by
        unfold maxI
        constructor
        · intro hz; split <;> omega
        · intro hz; split <;> omega
      have hmem : ∀ y, y ∈ insR L (x1, x2, x3, x4) ↔ y ∈ rdL d s i ++ [(x1, x2, x3, x4)] := fun y => by rw [insR_mem, List.mem_append, List.mem_singleton, l2]
      have hlen : (insR L (x1, x2, x3, x4)).length ≤ i + 1 := by
        unfold insR
        have : L.findIdx (geN x4) ≤ L.length := List.findIdx_le_length
        simp only [List.length_append, List.length_take, List.length_drop, List.length_cons, List.length_nil]
        omega
      by_cases hz : x4 ≥ nxF (rdL d s i)
      · exact ⟨_, by rw [cndT (dt hz), wr_u64 (x := x4 + 1) (by omega)], _, by rw [(hmx _).1 hz], insR_lt l1 hne, hmem, hlen⟩
      · exact ⟨_, by rw [cndF (df hz)], _, by rw [(hmx _).2 hz], insR_lt l1 hne, hmem, hlen⟩
  · rintro _ ⟨L, rfl, l1, l2, l3⟩
    refine ⟨_, ?_, rfl⟩
    dsimp only
    have : L = memF d s := ext_lt l1 (memF_lt d s) fun x => by rw [l2, rdL_mem, memF_mem]
    rw [cndF (df (by omega)), this]
    rfl
end Go.Proofs.YtnkmijidneibnaaDoor
namespace Go.Proofs.YtnkmijidneibnaaDoor
set_option linter.unusedVariables false
set_option linter.unusedSimpArgs false
set_option maxRecDepth 100000
open Go.RowKit
abbrev RS := Bool × Int × Bool × List UInt8
def rw1 (at_ : Nat) (b : UInt8) (t : RS) : RS := if t.2.2.1 = true then t else if t.1 = true ∧ t.2.1 = 0 then (false, t.2.1, true, t.2.2.2) else (t.1, (if t.1 = true then t.2.1 - 1 else t.2.1), false, t.2.2.2.set at_ b)
def encR (ar : Bool) (lf : Int) : Int := if ar = true then lf else -1
def okS (t : RS) : Prop := (t.1 = true → 0 ≤ t.2.1) ∧ i64R t.2.1
theorem rw1_ok {at_ : Nat} {b : UInt8} {t : RS} (h : okS t) : okS (rw1 at_ b t) := by
  obtain ⟨ar, lf, off, d⟩ := t
  obtain ⟨h1, h2, h3⟩ := h
  unfold rw1
  dsimp only at h1 h2 h3 ⊢
  split
  · exact ⟨h1, h2, h3⟩
  · split
    · exact ⟨fun h => (by cases h), h2, h3⟩
    · rename_i h4 h5
      refine ⟨fun h => ?_, ?_⟩
      · dsimp only at h ⊢
        have := h1 h
        have : lf ≠ 0 := fun e => h5 ⟨h, e⟩
        rw [if_pos h]
        omega
      · show i64R (if ar = true then lf - 1 else lf)
        unfold i64R
        split
        · rename_i h
          have := h1 h
          have : lf ≠ 0 := fun e => h5 ⟨h, e⟩
          omega
        · exact ⟨h2, h3⟩
theorem rw1_len {at_ : Nat} {b : UInt8} {t : RS} : (rw1 at_ b t).2.2.2.length = t.2.2.2.length := by
  unfold rw1
  split
  · rfl
  · split
    · rfl
    · exact List.length_set
theorem o51_eq {s : Int} {ar off : Bool} {lf : Int} {at_ : Nat} {b : Int} {d : List UInt8} (hat : at_ < d.length) (hl : d.length ≤ 1000000) (ho : okS (ar, lf, off, d)) : o51 s ar lf off (at_ : Int) b d = some (s, rw1 at_ (u8 b) (ar, lf, off, d)) := by
  obtain ⟨h1, h2, h3⟩ := ho
  dsimp only at h1 h2 h3
  unfold o51 rw1
  dsimp only
  cases off with
  | true => rw [cndT rfl, if_pos rfl]
  | false =>
    rw [cndF rfl, if_neg (by simp)]
    cases ar with
    | true =>
      rw [cndT rfl, bdI]
      dsimp only
      by_cases h0 : lf = 0
      · rw [cndT (eq_t h0), if_pos ⟨rfl, h0⟩]
      · have := h1 rfl
        rw [cndF (eq_f h0), if_neg (fun e => h0 e.2), cndT rfl, bdI]
        dsimp only
        rw [wr64 (x := lf - 1) (by omega), gdT (dt (by simp; omega)), gdT (dt (by simp; omega)), Int.toNat_natCast, List.nil_append, if_pos rfl]
    | false =>
      rw [cndF rfl, bdI]
      dsimp only
      rw [cndF rfl, if_neg (by simp), cndF rfl, bdI]
      dsimp only
      rw [gdT (dt (by simp; omega)), gdT (dt (by simp; omega)), Int.toNat_natCast, List.nil_append, if_neg (by simp)]
theorem wrF_b {at_ : Nat} {b : UInt8} {a : Int} {off : Bool} {d : List UInt8} : wrF at_ [b] a off d = if off = true then (false, a, off, d) else if a = 0 then (false, -1, true, d) else (true, (if a > 0 then a - 1 else a), off, d.set at_ b) := rfl
theorem wrF_one {at_ : Nat} {b : UInt8} {ar off : Bool} {lf : Int} {d : List UInt8} (h : ar = true → 0 ≤ lf) : wrF at_ [b] (encR ar lf) off d = (!(rw1 at_ b (ar, lf, off, d)).2.2.1, encR (rw1 at_ b (ar, lf, off, d)).1 (rw1 at_ b (ar, lf, off, d)).2.1, (rw1 at_ b (ar, lf, off, d)).2.2.1, (rw1 at_ b (ar, lf, off, d)).2.2.2) := by
  rw [wrF_b]
  cases off with
  | true => rfl
  | false =>
    rw [if_neg (by simp)]
    cases ar with
    | true =>
      have h1 := h rfl
      have e : encR true lf = lf := rfl
      rw [e]
      by_cases h0 : lf = 0
      · have e1 : rw1 at_ b (true, lf, false, d) = (false, lf, true, d) := by
          unfold rw1
          rw [if_neg (by simp), if_pos ⟨rfl, h0⟩]
        rw [e1, if_pos h0]
        rfl
      · have e1 : rw1 at_ b (true, lf, false, d) = (true, lf - 1, false, d.set at_ b) := by
          unfold rw1
          rw [if_neg (by simp), if_neg (fun e => h0 e.2)]
          rfl
        rw [e1, if_neg h0, if_pos (by omega)]
        rfl
    | false => rfl
def rwL : Nat → List UInt8 → RS → RS
  | _, [], t => t
  | at_, b :: p, t => rwL (at_ + 1) p (rw1 at_ b t)
theorem rwL_snoc : ∀ (p : List UInt8) (at_ : Nat) (b : UInt8) (t : RS), rwL at_ (p ++ [b]) t = rw1 (at_ + p.length) b (rwL at_ p t)
  | [], at_, b, t => rfl
  | c :: p, at_, b, t => by
    show rwL (at_ + 1) (p ++ [b]) (rw1 at_ c t) = _
    rw [rwL_snoc p (at_ + 1) b, List.length_cons, show at_ + 1 + p.length = at_ + (p.length + 1) by omega]
    rfl
theorem rwL_okS : ∀ (p : List UInt8) (at_ : Nat) (t : RS), okS t → okS (rwL at_ p t)
  | [], _, _, h => h
  | _ :: p, at_, _, h => rwL_okS p (at_ + 1) _ (rw1_ok h)
theorem rwL_len : ∀ (p : List UInt8) (at_ : Nat) (t : RS), (rwL at_ p t).2.2.2.length = t.2.2.2.length
  | [], _, _ => rfl
  | b :: p, at_, t => by
    show (rwL (at_ + 1) p (rw1 at_ b t)).2.2.2.length = _
    rw [rwL_len p, rw1_len]
theorem rwL_off : ∀ (p : List UInt8) (at_ : Nat) (t : RS), t.2.2.1 = true → rwL at_ p t = t
  | [], _, _, _ => rfl
  | b :: p, at_, t, h => by
    have e : rw1 at_ b t = t := by unfold rw1; rw [if_pos h]
    show rwL (at_ + 1) p (rw1 at_ b t) = _
    rw [e]
    exact rwL_off p (at_ + 1) t h
theorem rwL_all : ∀ (p : List UInt8) (at_ : Nat) (ar : Bool) (lf : Int) (d : List UInt8), at_ + p.length ≤ d.length → (ar = false ∨ (p.length : Int) ≤ lf) → rwL at_ p (ar, lf, false, d) = (ar, (if ar = true then lf - p.length else lf), false, ovrL d at_ p)
  | [], at_, ar, lf, d, h, ha => by
    rw [ovr_nil]
    unfold rwL
    split <;> simp
  | b :: p, at_, ar, lf, d, h, ha => by
    have h' := h
    rw [List.length_cons] at h ha
    show rwL (at_ + 1) p (rw1 at_ b (ar, lf, false, d)) = _
    have e : rw1 at_ b (ar, lf, false, d) = (ar, (if ar = true then lf - 1 else lf), false, d.set at_ b) := by
      unfold rw1
      rw [if_neg (by simp), if_neg]
      rintro ⟨h1, h2⟩
      dsimp only at h1 h2
      rcases ha with ha | ha
      · rw [ha] at h1; cases h1
      · omega
    rw [e, rwL_all p (at_ + 1) ar _ (d.set at_ b) (by rw [List.length_set]; omega) (ha.imp id fun ha => (by split <;> omega)), ovr_cons h', List.length_cons]
    refine Prod.ext rfl (Prod.ext ?_ rfl)
    dsimp only
    cases ar with
    | true => simp only [if_true]; omega
    | false => rfl
theorem rwL_cut : ∀ (p : List UInt8) (at_ : Nat) (lf : Int) (d : List UInt8), at_ + p.length ≤ d.length → 0 ≤ lf → lf < (p.length : Int) → rwL at_ p (true, lf, false, d) = (false, 0, true, ovrL d at_ (p.take lf.toNat))
  | [], at_, lf, d, h, h0, ha => by simp at ha; omega
  | b :: p, at_, lf, d, h, h0, ha => by
    have h' := h
    rw [List.length_cons] at h ha
    show rwL (at_ + 1) p (rw1 at_ b (true, lf, false, d)) = _
    by_cases h1 : lf = 0
    · subst h1
      have e : rw1 at_ b (true, 0, false, d) = (false, 0, true, d) := rfl
      rw [e, rwL_off _ _ _ rfl]
      simp [ovr_nil]
    · have e : rw1 at_ b (true, lf, false, d) = (true, lf - 1, false, d.set at_ b) := by
        unfold rw1
        rw [if_neg (by simp), if_neg (fun e => h1 e.2)]
        rfl
      rw [e, rwL_cut p (at_ + 1) (lf - 1) (d.set at_ b) (by rw [List.length_set]; omega) (by omega) (by omega)]
      obtain ⟨k, rfl⟩ : ∃ k : Nat, lf = (k : Int) + 1 := ⟨(lf - 1).toNat, by omega⟩
      rw [show ((k : Int) + 1 - 1).toNat = k by omega, show ((k : Int) + 1).toNat = k + 1 by omega, List.take_succ_cons, ← ovr_cons]
      rw [List.length_cons, List.length_take]
      omega
end Go.Proofs.YtnkmijidneibnaaDoor
namespace Go.Proofs.YtnkmijidneibnaaDoor
set_option linter.unusedVariables false
set_option linter.unusedSimpArgs false
set_option maxRecDepth 100000
open Go.RowKit
theorem dnL {α β : Type} {x : Option β} {r : β} (h : x = some r) : dnO (α := α) x = some (.done r) := by subst h; rfl
theorem rwL_off' (p : List UInt8) (at_ : Nat) (ar : Bool) (lf : Int) (d : List UInt8) : rwL at_ p (ar, lf, true, d) = (ar, lf, true, d) := rwL_off p at_ (ar, lf, true, d) rfl
def wrT (c ph t n : Int) (k : Nat) (x : RS) : RS := rw1 (30 * k) 195 (rwL (30 * k + 1) (contB c ph t n) (rw1 (30 * k) 0 x))
theorem o27_go {c ph t n lf : Int} {ar : Bool} {d : List UInt8} {F : List Flt} {s k : Nat} (hp : 1 ≤ ph ∧ ph ≤ 8) (hn : 1 ≤ n ∧ n ≤ 4611686018427387904) (hd : d.length = 30 * s) (h2 : 2 ≤ s) (h64 : s ≤ 64) (hF : ∀ x ∈ F, 0 ≤ x.2.2.2 ∧ x.2.2.2 < n) (hl : F.length ≤ 1000)
    (ho : okS (ar, lf, false, d)) (hks : k < s) (hk : n % (s : Int) = (k : Int)) : o27 (s : Int) ar lf false n false c ph t d F = some (if (wrT c ph t n k (ar, lf, false, d)).2.2.1 = true then ((s : Int), (wrT c ph t n k (ar, lf, false, d)).1, (wrT c ph t n k (ar, lf, false, d)).2.1, true, n, true, 0, 19, (wrT c ph t n k (ar, lf, false, d)).2.2.2, F)
      else ((s : Int), (wrT c ph t n k (ar, lf, false, d)).1, (wrT c ph t n k (ar, lf, false, d)).2.1, false, n + 1, false, n, 0, (wrT c ph t n k (ar, lf, false, d)).2.2.2, others F s k ++ [(c, ph, t, n)])) := by
  have hu : IntKind.u64.wrap (s : Int) = (s : Int) := wr_u64 (by omega)
  have hat : IntKind.i64.wrap ((IntKind.i64.wrap (Int.tmod n (s : Int))) * 30) = ((30 * k : Nat) : Int) := by
    rw [Int.tmod_eq_emod_of_nonneg (by omega), hk, wr64 (x := (k : Int)) (by omega), wr64 (by omega)]
    omega
  have hat1 : IntKind.i64.wrap (((30 * k : Nat) : Int) + 1) = ((30 * k + 1 : Nat) : Int) := by rw [wr64 (by omega)]; omega
  have hC := contB_len c ph t n
  unfold o27
  rw [cndF (df (by omega)), df (show ¬ ph > 8 by omega), bdI]
  dsimp only
  rw [cnd_f, cndF (df (by omega)), cnd_f, bdI]
  dsimp only
  rw [cnd_f, hu, gdT (dt (by omega)), hat, bdS (o51_eq (by omega) (by omega) ho), bdS (o52_eq _ _ _ _)]
  dsimp only
  have hok1 : okS (rw1 (30 * k) (u8 0) (ar, lf, false, d)) := rw1_ok ho
  have hln1 : (rw1 (30 * k) (u8 0) (ar, lf, false, d)).2.2.2.length = 30 * s := by rw [rw1_len]; exact hd
  have hT : wrT c ph t n k (ar, lf, false, d) = rw1 (30 * k) 195 (rwL (30 * k + 1) (contB c ph t n) (rw1 (30 * k) (u8 0) (ar, lf, false, d))) := rfl
  rw [hT]
  generalize rw1 (30 * k) (u8 0) (ar, lf, false, d) = T1 at *
  generalize hCC : contB c ph t n = C at *
  refine loop_cnt (n := 29) (fun i => (((30 * k : Nat) : Int), (C.length : Int), (i : Int), F, (s : Int), (rwL (30 * k + 1) (C.take i) T1).1, (rwL (30 * k + 1) (C.take i) T1).2.1, (rwL (30 * k + 1) (C.take i) T1).2.2.1, n, false, false, false, false, c, ph, t, n, C, (rwL (30 * k + 1) (C.take i) T1).2.2.2)) (fun i hi => ?_) ?_ (by omega)
  · dsimp only
    have hw : IntKind.i64.wrap (((30 * k + 1 : Nat) : Int) + (i : Int)) = ((30 * k + 1 + i : Nat) : Int) := by rw [wr64 (by omega)]; omega
    have hln2 : (rwL (30 * k + 1) (C.take i) T1).2.2.2.length = 30 * s := by rw [rwL_len, hln1]
    have hok2 := rwL_okS (C.take i) (30 * k + 1) T1 hok1
    rw [take_one (by omega : i < C.length), rwL_snoc, List.length_take, Nat.min_eq_left (by omega)]
    generalize rwL (30 * k + 1) (C.take i) T1 = T2 at *
    obtain ⟨ar2, lf2, off2, d2⟩ := T2
    dsimp only at hln2 hok2 ⊢
    rw [cndT (dt (by omega)), gdT (dt (by omega)), hat1, hw, Int.toNat_natCast, bdS (o51_eq (by omega) (by omega) hok2), u8_of_toNat, wr64 (x := (i : Int) + 1) (by omega)]
    rfl
  · dsimp only
    have hln2 : (rwL (30 * k + 1) C T1).2.2.2.length = 30 * s := by rw [rwL_len, hln1]
    have hok2 := rwL_okS C (30 * k + 1) T1 hok1
    rw [List.take_of_length_le (by omega)]
    generalize rwL (30 * k + 1) C T1 = T2 at *
    obtain ⟨ar2, lf2, off2, d2⟩ := T2
    dsimp only at hln2 hok2 ⊢
    rw [cndF (df (by omega)), bdS (o51_eq (by omega) (by omega) hok2)]
    dsimp only
    have hu1 : u8 (195 : Int) = 195 := rfl
    rw [hu1]
    have hln3 : (rw1 (30 * k) 195 (ar2, lf2, off2, d2)).2.2.2.length = 30 * s := by rw [rw1_len]; exact hln2
    generalize rw1 (30 * k) 195 (ar2, lf2, off2, d2) = T3 at *
    obtain ⟨ar3, lf3, off3, d3⟩ := T3
    dsimp only
    cases off3 with
    | true =>
      rw [cnd_t, if_pos rfl]
      rfl
    | false =>
      rw [cnd_f, if_neg (by simp)]
      refine dnL ?_
      refine loop_cnt (n := F.length) (fun i => ((F.length : Int), (i : Int), F, (s : Int), ar3, lf3, false, n, false, false, false, false, c, ph, t, n, others (F.take i) s k, d3)) (fun i hi => ?_) ?_ (by omega)
      · dsimp only
        have hx := (hF _ (List.getElem_mem hi)).1
        have hol : (others (F.take i) s k).length ≤ i := by
          have := List.length_filter_le (fun x => !hitF s k x) (F.take i)
          rw [← others_eq, List.length_take] at this
          omega
        have hwi : IntKind.i64.wrap ((i : Int) + 1) = ((i + 1 : Nat) : Int) := by rw [wr64 (by omega)]; omega
        have hsn : others (F.take (i + 1)) s k = others (F.take i) s k ++ (if F[i].2.2.2 % (s : Int) ≠ (k : Int) then [F[i]] else []) := by
          unfold others
          rw [List.take_succ_eq_append_getElem hi, List.filter_append]
          congr 1
          by_cases h : F[i].2.2.2 % (s : Int) ≠ (k : Int)
          · rw [if_pos h, List.filter_cons_of_pos (by simpa using h), List.filter_nil]
          · rw [if_neg h, List.filter_cons_of_neg (by simpa using h), List.filter_nil]
        rw [cndT (dt (by omega)), gdT (dt (by omega)), hu, gdT (dt (by omega)), gdT (dt (by omega)), Int.toNat_natCast, getD_of hi, Int.tmod_eq_emod_of_nonneg hx, Int.tmod_eq_emod_of_nonneg (show 0 ≤ n by omega), hk, hwi, hsn]
        by_cases h : F[i].2.2.2 % (s : Int) ≠ (k : Int)
        · rw [if_pos h, cndT (neq_t h), gdT (dt (by simp only [List.length_cons, List.length_nil]; omega))]
        · rw [if_neg h, cndF (neq_f (by simpa using h)), List.append_nil]
      · dsimp only
        have hol : (others F s k).length ≤ F.length := by rw [others_eq]; exact List.length_filter_le _ _
        rw [cndF (df (by omega)), List.take_length, bdS (o50_eq (by omega)), insR_top (fun x hx => (hF x (mem_others.1 hx).1).2), wr_u64 (x := n + 1) (by omega)]
        rfl
theorem o27_rng {s c ph t n lf : Int} {ar off br : Bool} {d : List UInt8} {F : List Flt} (h : ph < 1 ∨ 8 < ph) : o27 s ar lf off n br c ph t d F = some (s, ar, lf, off, n, br, 0, 2, d, F) := by
  unfold o27
  by_cases h1 : ph < 1
  · rw [cndT (dt h1), bdI]
    rfl
  · rw [cndF (df h1), dt (show ph > 8 by omega), bdI]
    rfl
theorem o27_lim {s c ph t n lf : Int} {ar off br : Bool} {d : List UInt8} {F : List Flt} (h : 1 ≤ ph ∧ ph ≤ 8) (hn : 4611686018427387904 < n) : o27 s ar lf off n br c ph t d F = some (s, ar, lf, off, n, br, 0, 3, d, F) := by
  unfold o27
  rw [cndF (df (by omega)), df (show ¬ ph > 8 by omega), bdI]
  dsimp only
  rw [cnd_f, cndT (dt (by omega))]
theorem o27_br {s c ph t n lf : Int} {ar off br : Bool} {d : List UInt8} {F : List Flt} (h : 1 ≤ ph ∧ ph ≤ 8) (hn : n ≤ 4611686018427387904) (hb : br = true ∨ off = true) : o27 s ar lf off n br c ph t d F = some (s, ar, lf, off, n, true, 0, 19, d, F) := by
  unfold o27
  rw [cndF (df (by omega)), df (show ¬ ph > 8 by omega), bdI]
  dsimp only
  rw [cnd_f, cndF (df (by omega))]
  cases br with
  | true => rw [cndT rfl, bdI]; rfl
  | false =>
    obtain rfl : off = true := by simpa using hb
    rw [cndF rfl, bdI]
    rfl
theorem wrT_ok {c ph t n lf : Int} {ar : Bool} {d : List UInt8} {s k : Nat} (hd : d.length = 30 * s) (hks : k < s) (hfull : ar = false ∨ 31 ≤ lf) : wrT c ph t n k (ar, lf, false, d) = (ar, (if ar = true then lf - 31 else lf), false, ovrL d (30 * k) (195 :: contB c ph t n)) := by
  have hC := contB_len c ph t n
  have hw : wrT c ph t n k (ar, lf, false, d) = rwL (30 * k) [195] (rwL (30 * k + 1) (contB c ph t n) (rwL (30 * k) [0] (ar, lf, false, d))) := rfl
  have hlX : ∀ (b : UInt8) (p : List UInt8), p.length ≤ 29 → (30 * k) + (b :: p).length ≤ d.length := fun b p h => by rw [List.length_cons]; omega
  have hd1 : (ovrL d (30 * k) [0]).length = d.length := ovr_len (hlX 0 [] (by simp))
  have hd2 : (ovrL d (30 * k) (0 :: contB c ph t n)).length = d.length := ovr_len (hlX 0 _ (by omega))
  have hlC : (30 * k + 1) + (contB c ph t n).length ≤ d.length := by rw [hC]; omega
  rw [hw, rwL_all [0] _ _ _ _ (hlX 0 [] (by simp)) (hfull.imp id fun h => by simp; omega), rwL_all _ _ _ _ _ (by rw [hd1]; exact hlC) (hfull.imp id fun h => by rw [hC]; simp only [List.length_cons, List.length_nil]; split <;> omega), ovr_two (hlX 0 _ (by omega)),
    rwL_all [195] _ _ _ _ (by rw [hd2]; exact hlX 195 [] (by simp)) (hfull.imp id fun h => by rw [hC]; simp only [List.length_cons, List.length_nil]; (repeat' split) <;> omega), ovr_back (hlX 0 _ (by omega)), hC]
  refine Prod.ext rfl (Prod.ext ?_ rfl)
  dsimp only
  cases ar with
  | true => simp only [if_true, List.length_cons, List.length_nil]; omega
  | false => rfl
theorem wrT_cut {c ph t n lf : Int} {d : List UInt8} {s k : Nat} (hd : d.length = 30 * s) (hks : k < s) (h0 : 0 ≤ lf) (hlf : lf < 31) : wrT c ph t n k (true, lf, false, d) = (false, 0, true, if lf = 0 then d else ovrL d (30 * k) (0 :: (contB c ph t n).take (lf.toNat - 1))) := by
  have hC := contB_len c ph t n
  have hw : wrT c ph t n k (true, lf, false, d) = rwL (30 * k) [195] (rwL (30 * k + 1) (contB c ph t n) (rwL (30 * k) [0] (true, lf, false, d))) := rfl
  have hlX : ∀ (b : UInt8) (p : List UInt8), p.length ≤ 29 → (30 * k) + (b :: p).length ≤ d.length := fun b p h => by rw [List.length_cons]; omega
  have hd1 : (ovrL d (30 * k) [0]).length = d.length := ovr_len (hlX 0 [] (by simp))
  have hd2 : (ovrL d (30 * k) (0 :: contB c ph t n)).length = d.length := ovr_len (hlX 0 _ (by omega))
  have hlC : (30 * k + 1) + (contB c ph t n).length ≤ d.length := by rw [hC]; omega
  rw [hw]
  by_cases hz : lf = 0
  · rw [if_pos hz, rwL_cut [0] _ _ _ (hlX 0 [] (by simp)) (by omega) (by simp; omega), rwL_off', rwL_off', hz]
    simp [ovr_nil]
  · rw [if_neg hz, rwL_all [0] _ _ _ _ (hlX 0 [] (by simp)) (.inr (by simp; omega)), if_pos rfl]
    simp only [List.length_cons, List.length_nil]
    by_cases h30 : lf = 30
    · rw [rwL_all _ _ _ _ _ (by rw [hd1]; exact hlC) (.inr (by rw [hC]; omega)), ovr_two (hlX 0 _ (by omega)), if_pos rfl, hC, rwL_cut [195] _ _ _ (by rw [hd2]; exact hlX 195 [] (by simp)) (by omega) (by simp; omega)]
      subst h30
      have e : (contB c ph t n).take ((30 : Int).toNat - 1) = contB c ph t n := List.take_of_length_le (by rw [hC]; decide)
      rw [e]
      have e2 : List.take ((30 : Int) - ((0 + 1 : Nat) : Int) - ((29 : Nat) : Int)).toNat ([195] : List UInt8) = [] := rfl
      rw [e2, ovr_nil]
    · rw [rwL_cut _ _ _ _ (by rw [hd1]; exact hlC) (by omega) (by rw [hC]; omega), rwL_off', ovr_two (hlX 0 _ (by rw [List.length_take]; omega)), show (lf - ((0 + 1 : Nat) : Int)).toNat = lf.toNat - 1 by omega]
theorem app_both {c ph t n lf : Int} {ar off br : Bool} {d : List UInt8} {F : List Flt} {s : Nat} (hn : 1 ≤ n ∧ n ≤ 4611686018427387905) (hd : d.length = 30 * s) (h2 : 2 ≤ s) (h64 : s ≤ 64) (hF : ∀ x ∈ F, 0 ≤ x.2.2.2 ∧ x.2.2.2 < n) (hl : F.length ≤ 500) (ho : okS (ar, lf, off, d)) :
    ∃ num e n' br' ar' lf' off' d' F', o16 c ph t n br (encR ar lf) off d F = some (num, e, n', br', encR ar' lf', off', d', F') ∧ o27 (s : Int) ar lf off n br c ph t d F = some ((s : Int), ar', lf', off', n', br', num, e, d', F') ∧
      (1 ≤ n' ∧ n' ≤ 4611686018427387905) ∧ d'.length = 30 * s ∧ (∀ x ∈ F', 0 ≤ x.2.2.2 ∧ x.2.2.2 < n') ∧ F'.length ≤ F.length + 1 ∧ okS (ar', lf', off', d') := by
  by_cases hp : ph < 1 ∨ 8 < ph
  · exact ⟨_, _, _, _, _, _, _, _, _, o16_rng hp, o27_rng hp, hn, hd, hF, by omega, ho⟩
  by_cases hlim : 4611686018427387904 < n
  · exact ⟨_, _, _, _, _, _, _, _, _, o16_lim (by omega) hlim, o27_lim (by omega) hlim, hn, hd, hF, by omega, ho⟩
  obtain ⟨k, hks, hk⟩ := idx h2 n
  obtain ⟨h1, h3, h4⟩ := ho
  dsimp only at h1 h3 h4
  have he : -1 ≤ encR ar lf ∧ encR ar lf ≤ 9223372036854775807 := by
    unfold encR
    cases ar with
    | true => have := h1 rfl; rw [if_pos rfl]; omega
    | false => rw [if_neg (by simp)]; omega
  have hA := o16_eq (c := c) (ph := ph) (t := t) (n := n) (a := encR ar lf) (br := br) (off := off) (d := d) (F := F) (by omega) (by omega) hd h2 h64 (fun x hx => (hF x hx).1) (by omega) he hks hk
  unfold appF at hA
  by_cases hb : br = true ∨ off = true
  · rw [if_pos hb] at hA
    exact ⟨_, _, _, _, _, _, _, _, _, hA, o27_br (by omega) (by omega) hb, hn, hd, hF, by omega, h1, h3, h4⟩
  obtain ⟨rfl, rfl⟩ : br = false ∧ off = false := by
    cases br <;> cases off <;> simp_all
  rw [if_neg hb] at hA
  have hC := contB_len c ph t n
  have hB := o27_go (c := c) (ph := ph) (t := t) (n := n) (ar := ar) (lf := lf) (d := d) (F := F) (by omega) (by omega) hd h2 h64 hF (by omega) ⟨h1, h3, h4⟩ hks hk
  have hw : wrT c ph t n k (ar, lf, false, d) = rwL (30 * k) [195] (rwL (30 * k + 1) (contB c ph t n) (rwL (30 * k) [0] (ar, lf, false, d))) := rfl
  have hlX : ∀ (b : UInt8) (p : List UInt8), p.length ≤ 29 → (30 * k) + (b :: p).length ≤ d.length := fun b p h => by rw [List.length_cons]; omega
  have hd1 : (ovrL d (30 * k) [0]).length = d.length := ovr_len (hlX 0 [] (by simp))
  have hd2 : (ovrL d (30 * k) (0 :: contB c ph t n)).length = d.length := ovr_len (hlX 0 _ (by omega))
  have hlC : (30 * k + 1) + (contB c ph t n).length ≤ d.length := by rw [hC]; omega
  have hol : (others F s k).length ≤ F.length := by rw [others_eq]; exact List.length_filter_le _ _
  by_cases hfull : ar = false ∨ 31 ≤ lf
  · have e := wrT_ok (c := c) (ph := ph) (t := t) (n := n) (d := d) (lf := lf) (ar := ar) hd hks hfull
    rw [e] at hB
    have hc : encR ar lf < 0 ∨ 31 ≤ encR ar lf := by
      unfold encR
      cases ar with
      | true => rw [if_pos rfl]; right; simpa using hfull
      | false => left; show (-1 : Int) < 0; decide
    rw [if_pos hc] at hA
    rw [if_neg (by simp)] at hB
    refine ⟨_, _, _, _, ar, (if ar = true then lf - 31 else lf), _, _, _, ?_, hB, by omega, ?_, fun x hx => ?_, ?_, ?_⟩
    · rw [hA]
      refine congrArg some (Prod.ext rfl (Prod.ext rfl (Prod.ext rfl (Prod.ext rfl (Prod.ext ?_ rfl)))))
      unfold encR
      cases ar with
      | true =>
        have h31 : 31 ≤ lf := by simpa using hfull
        simp only [if_true]
        rw [if_neg (by omega)]
      | false => rfl
    · rw [ovr_len (hlX 195 _ (by omega))]; exact hd
    · rcases List.mem_append.1 hx with hx | hx
      · have := hF x (mem_others.1 hx).1
        omega
      · rw [List.mem_singleton.1 hx]
        show 0 ≤ n ∧ n < n + 1
        omega
    · simp only [List.length_append, List.length_cons, List.length_nil]; omega
    · refine ⟨fun h => ?_, ?_⟩
      · dsimp only at h ⊢
        subst h
        have h31 : 31 ≤ lf := by simpa using hfull
        simp only [if_true]
        omega
      · show i64R (if ar = true then lf - 31 else lf)
        unfold i64R
        split
        · rename_i h
          have := h1 h
          omega
        · exact ⟨h3, h4⟩
  · obtain rfl : ar = true := by
      cases ar with
      | true => rfl
      | false => exact absurd (.inl rfl) hfull
    have hlf : ¬ 31 ≤ lf := fun h => hfull (.inr h)
    have h0 := h1 rfl
    have hen : encR true lf = lf := rfl
    rw [hen] at hA
    rw [if_neg (by omega)] at hA
    have e := wrT_cut (c := c) (ph := ph) (t := t) (n := n) (d := d) (lf := lf) hd hks h0 (by omega)
    rw [e] at hB
    rw [if_pos rfl] at hB
    refine ⟨_, _, _, _, false, 0, _, _, _, hA, hB, hn, ?_, hF, by omega, fun h => (by cases h), by show (-9223372036854775808 : Int) ≤ 0; decide, by show (0 : Int) ≤ 9223372036854775807; decide⟩
    split
    · exact hd
    · rw [ovr_len (hlX 0 _ (by rw [List.length_take]; omega))]; exact hd
end Go.Proofs.YtnkmijidneibnaaDoor
namespace Go.Proofs.YtnkmijidneibnaaDoor
set_option linter.unusedVariables false
set_option linter.unusedSimpArgs false
set_option maxRecDepth 100000
open Go.RowKit
def clR : Nat → Nat → RS → RS
  | 0, _, t => t
  | r + 1, i, t => clR r (i + 1) (rw1 (30 * i) 0 t)
theorem clR_off : ∀ (r i : Nat) (t : RS), t.2.2.1 = true → clR r i t = t
  | 0, _, _, _ => rfl
  | r + 1, i, t, h => by
    have e : rw1 (30 * i) 0 t = t := by unfold rw1; rw [if_pos h]
    show clR r (i + 1) (rw1 (30 * i) 0 t) = _
    rw [e]
    exact clR_off r (i + 1) t h
theorem clR_ok : ∀ (r i : Nat) (t : RS), okS t → okS (clR r i t)
  | 0, _, _, h => h
  | r + 1, i, _, h => clR_ok r (i + 1) _ (rw1_ok h)
theorem clR_len : ∀ (r i : Nat) (t : RS), (clR r i t).2.2.2.length = t.2.2.2.length
  | 0, _, _ => rfl
  | r + 1, i, t => by
    show (clR r (i + 1) (rw1 (30 * i) 0 t)).2.2.2.length = _
    rw [clR_len r, rw1_len]
def clP (n : Int) (F : List Flt) (t : RS) : Int × Int × Bool × Int × Bool × List UInt8 × List Flt :=
  if t.2.2.1 = true then (19, n, true, encR t.1 t.2.1, t.2.2.1, t.2.2.2, F) else (0, n, false, encR t.1 t.2.1, t.2.2.1, t.2.2.2, [])
theorem o42_one {at_ : Nat} {b : UInt8} {ar off : Bool} {lf : Int} {d : List UInt8} (hat : at_ < d.length) (hl : d.length ≤ 1000000) (ho : okS (ar, lf, off, d)) :
    o42 (at_ : Int) [b] (encR ar lf) off d = some (!(rw1 at_ b (ar, lf, off, d)).2.2.1, encR (rw1 at_ b (ar, lf, off, d)).1 (rw1 at_ b (ar, lf, off, d)).2.1, (rw1 at_ b (ar, lf, off, d)).2.2.1, (rw1 at_ b (ar, lf, off, d)).2.2.2) := by
  obtain ⟨h1, h3, h4⟩ := ho
  dsimp only at h1 h3 h4
  have he : -1 ≤ encR ar lf ∧ encR ar lf ≤ 9223372036854775807 := by
    unfold encR
    cases ar with
    | true => have := h1 rfl; rw [if_pos rfl]; omega
    | false => rw [if_neg (by simp)]; omega
  rw [o42_eq (by simp; omega) hl he, wrF_one h1]
theorem o21_go {n lf : Int} {ar off : Bool} {d : List UInt8} {F : List Flt} {s : Nat} (hd : d.length = 30 * s) (h1 : 1 ≤ s) (h64 : s ≤ 64) (ho : okS (ar, lf, off, d)) : o21v1 n false (encR ar lf) off d F = some (clP n F (clR s 0 (ar, lf, off, d))) := by
  unfold o21v1
  rw [bdS (o32_eq _ _ hd (by omega))]
  refine loop_rec (n := s) (fun i (t : RS) => ((s : Int), (i : Int), n, false, encR t.1 t.2.1, t.2.2.1, t.2.2.2, F)) (fun i t => clP n F (clR (s - i) i t)) (fun i t => okS t ∧ t.2.2.2.length = 30 * s ∧ (0 < i → t.2.2.1 = false)) (fun i t hi ⟨ht, hln, hf⟩ => ?_) (fun t ⟨ht, hln, hf⟩ => ?_) (by omega) ⟨ho, hd, fun h => absurd h (by omega)⟩
  · obtain ⟨ar, lf, off, d⟩ := t
    dsimp only at ht hln hf ⊢
    have hat : IntKind.i64.wrap ((i : Int) * 30) = ((30 * i : Nat) : Int) := by rw [wr64 (by omega)]; omega
    have hu : u8 (0 : Int) = 0 := rfl
    have hr : clR (s - i) i (ar, lf, off, d) = clR (s - (i + 1)) (i + 1) (rw1 (30 * i) 0 (ar, lf, off, d)) := by
      rw [show s - i = (s - (i + 1)) + 1 by omega]
      rfl
    rw [cndT (dt (by omega)), cndF rfl, hat, hu, bdS (o42_one (by omega) (by omega) ht), bdI, hr]
    have ht2 : okS (rw1 (30 * i) 0 (ar, lf, off, d)) := rw1_ok ht
    have hl2 : (rw1 (30 * i) 0 (ar, lf, off, d)).2.2.2.length = 30 * s := by rw [rw1_len]; exact hln
    generalize rw1 (30 * i) 0 (ar, lf, off, d) = T at *
    obtain ⟨ar2, lf2, off2, d2⟩ := T
    dsimp only at ht2 hl2 ⊢
    cases off2 with
    | true =>
      refine .inr ?_
      rw [cndT (c := !(!true)) rfl, clR_off _ _ _ rfl]
      rfl
    | false =>
      refine .inl ⟨(ar2, lf2, false, d2), ?_, rfl, ht2, hl2, fun _ => rfl⟩
      rw [cndF (c := !(!false)) rfl, wr64 (by omega)]
      rfl
  · obtain ⟨ar, lf, off, d⟩ := t
    dsimp only at hf ⊢
    have := hf (by omega)
    subst this
    rw [cndF (df (by omega)), Nat.sub_self]
    rfl
theorem o30_go {n lf : Int} {ar : Bool} {d : List UInt8} {F : List Flt} {s : Nat} (hd : d.length = 30 * s) (h1 : 1 ≤ s) (h64 : s ≤ 64) (ho : okS (ar, lf, false, d)) : o30 (s : Int) ar lf false n false d F = some ((s : Int), (clR s 0 (ar, lf, false, d)).1, (clR s 0 (ar, lf, false, d)).2.1, (clR s 0 (ar, lf, false, d)).2.2.1, n, (clP n F (clR s 0 (ar, lf, false, d))).2.2.1, (clP n F (clR s 0 (ar, lf, false, d))).1, (clR s 0 (ar, lf, false, d)).2.2.2, (clP n F (clR s 0 (ar, lf, false, d))).2.2.2.2.2.2) := by
  unfold o30
  rw [cndF rfl, bdI]
  dsimp only
  rw [cndF rfl]
  refine loop_rec (n := s) (fun i (t : RS) => ((i : Int), F, (s : Int), t.1, t.2.1, t.2.2.1, n, false, false, false, false, t.2.2.2)) (fun i t => ((s : Int), (clR (s - i) i t).1, (clR (s - i) i t).2.1, (clR (s - i) i t).2.2.1, n, (clP n F (clR (s - i) i t)).2.2.1, (clP n F (clR (s - i) i t)).1, (clR (s - i) i t).2.2.2, (clP n F (clR (s - i) i t)).2.2.2.2.2.2)) (fun i t => okS t ∧ t.2.2.2.length = 30 * s) (fun i t hi ⟨ht, hln⟩ => .inl ⟨rw1 (30 * i) 0 t, ?_, ?_, rw1_ok ht, by rw [rw1_len]; exact hln⟩) (fun t ⟨ht, hln⟩ => ?_) (by omega) ⟨ho, hd⟩
  · obtain ⟨ar, lf, off, d⟩ := t
    dsimp only at ht hln ⊢
    have hat : IntKind.i64.wrap ((i : Int) * 30) = ((30 * i : Nat) : Int) := by rw [wr64 (by omega)]; omega
    rw [cndT (dt (by omega)), hat, bdS (o51_eq (by omega) (by omega) ht), wr64 (by omega)]
    rfl
  · rw [show s - i = (s - (i + 1)) + 1 by omega]
    rfl
  · obtain ⟨ar, lf, off, d⟩ := t
    dsimp only
    rw [cndF (df (by omega)), Nat.sub_self]
    cases off with
    | true => rfl
    | false => rfl
theorem o30_br {s n lf : Int} {ar off br : Bool} {d : List UInt8} {F : List Flt} (h : br = true ∨ off = true) : o30 s ar lf off n br d F = some (s, ar, lf, off, n, true, 19, d, F) := by
  unfold o30
  cases br with
  | true => rw [cndT rfl, bdI]; rfl
  | false =>
    obtain rfl : off = true := by simpa using h
    rw [cndF rfl, bdI]
    rfl
theorem o21_br {n a : Int} {off : Bool} {d : List UInt8} {F : List Flt} {s : Nat} (h : d.length = 30 * s) (h1 : 1 ≤ s) (h2 : s ≤ 64) : o21v1 n true a off d F = some (19, n, true, a, off, d, F) := by
  unfold o21v1
  rw [bdS (o32_eq _ _ h (by omega))]
  refine loopO_done ?_
  dsimp only
  rw [cndT (dt (by omega)), cndT rfl, bdI]
  rfl
theorem clear_both {n lf : Int} {ar off br : Bool} {d : List UInt8} {F : List Flt} {s : Nat} (hd : d.length = 30 * s) (h1 : 1 ≤ s) (h64 : s ≤ 64) (ho : okS (ar, lf, off, d)) :
    ∃ e br' ar' lf' off' d' F', o21v1 n br (encR ar lf) off d F = some (e, n, br', encR ar' lf', off', d', F') ∧ o30 (s : Int) ar lf off n br d F = some ((s : Int), ar', lf', off', n, br', e, d', F') ∧ d'.length = 30 * s ∧ (F' = F ∨ F' = []) ∧ okS (ar', lf', off', d') := by
  cases br with
  | true => exact ⟨_, _, _, _, _, _, _, o21_br hd h1 h64, o30_br (.inl rfl), hd, .inl rfl, ho⟩
  | false =>
    cases off with
    | true =>
      have := o21_go (n := n) (F := F) hd h1 h64 ho
      rw [clR_off _ _ _ rfl] at this
      exact ⟨_, _, _, _, _, _, _, this, o30_br (.inr rfl), hd, .inl rfl, ho⟩
    | false =>
      have hP := o21_go (n := n) (F := F) hd h1 h64 ho
      have hR := o30_go (n := n) (F := F) hd h1 h64 ho
      have hk := clR_ok s 0 _ ho
      have hln := clR_len s 0 (ar, lf, false, d)
      generalize clR s 0 (ar, lf, false, d) = T at *
      obtain ⟨ar2, lf2, off2, d2⟩ := T
      dsimp only at hk hln hP hR
      unfold clP at hP hR
      cases off2 with
      | true => exact ⟨_, _, _, _, _, _, _, hP, hR, by rw [← hd]; exact hln, .inl rfl, hk⟩
      | false => exact ⟨_, _, _, _, _, _, _, hP, hR, by rw [← hd]; exact hln, .inr rfl, hk⟩
theorem o48_eq {d : List UInt8} {bit : Int} {pat : Nat} (hp : pat < 2 ^ 32) (hl : d.length ≤ 100000) (hb : i64R bit) : o48 d bit (pat : Int) = some (if pat = 0 then (0, d) else if bit < -31 ∨ 8 * (d.length : Int) ≤ bit then (2, []) else flF bit pat 32 0 d) := by
  have h8 : IntKind.i64.wrap (8 * ((d.length : Nat) : Int)) = 8 * (d.length : Int) := wr64 (by omega)
  obtain ⟨hb1, hb2⟩ := hb
  unfold o48
  rw [bdS (o47_eq (by omega))]
  by_cases h0 : pat = 0
  · rw [if_pos h0, cndT (eq_t (by omega))]
  · rw [if_neg h0, cndF (eq_f (by omega)), h8]
    by_cases h1 : bit < -31 ∨ 8 * (d.length : Int) ≤ bit
    · rw [if_pos h1]
      by_cases h2 : bit < -31
      · rw [cndT (dt h2), bdI]
        rfl
      · rw [cndF (df h2), dt (show bit ≥ 8 * (d.length : Int) by omega), bdI]
        rfl
    · rw [if_neg h1, cndF (df (by omega)), df (show ¬ bit ≥ 8 * (d.length : Int) by omega), bdI]
      dsimp only
      rw [cnd_f]
      refine loop_rec (n := 32) (fun k t => (d, bit, (pat : Int), (k : Int), t)) (fun k t => flF bit pat (32 - k) k t) (fun k t => t.length = d.length) (fun k t hk ht => ?_) (fun t ht => ?_) (by decide) rfl
      · dsimp only
        rw [cndT (dt (by omega)), gdT (dt (by omega)), patbit hp hk, show 32 - k = (32 - (k + 1)) + 1 by omega, flF]
        cases hbt : pat.testBit k with
        | false =>
          refine .inl ⟨t, ?_, if_neg (by simp), ht⟩
          rw [cndT (c := !false) rfl, wr64 (by omega)]
          rfl
        | true =>
          rw [cndF (c := !true) rfl, if_pos rfl, wr64 (x := bit + (k : Int)) (by omega), h8, ht]
          by_cases h2 : bit + (k : Int) < 0 ∨ 8 * (d.length : Int) ≤ bit + (k : Int)
          · refine .inr ?_
            rw [if_pos h2]
            by_cases h3 : bit + (k : Int) < 0
            · rw [cndT (dt h3), bdI]
              rfl
            · rw [cndF (df h3), dt (show bit + (k : Int) ≥ 8 * (d.length : Int) by omega), bdI]
              rfl
          · refine .inl ⟨flip1 t (bit + (k : Int)), ?_, if_neg h2, by rw [flip1_len, ht]⟩
            rw [cndF (df (by omega)), df (show ¬ bit + (k : Int) ≥ 8 * (d.length : Int) by omega), bdI]
            dsimp only
            have hq : IntKind.i64.wrap (Int.tdiv (bit + (k : Int)) 8) = (bit + (k : Int)) / 8 := by
              rw [Int.tdiv_eq_ediv_of_nonneg (by omega), wr64 (by omega)]
            rw [cnd_f, hq, Int.tmod_eq_emod_of_nonneg (by omega), gdT (dt (by omega)), gdT (dt (by omega)), gdT (dt (by omega)), wr64 (x := (k : Int) + 1) (by omega)]
            rfl
      · dsimp only
        rw [cndF (df (by omega))]
        rfl
theorem fl_eq {d : List UInt8} {bit : Int} {pat : Nat} (hp : pat < 2 ^ 32) : (if pat = 0 then ((0 : Int), d) else if bit < -31 ∨ 8 * (d.length : Int) ≤ bit then (2, []) else flF bit pat 32 0 d) = flF bit pat 32 0 d := by
  by_cases h0 : pat = 0
  · rw [if_pos h0, h0, flF_none]
  · rw [if_neg h0]
    by_cases h1 : bit < -31 ∨ 8 * (d.length : Int) ≤ bit
    · rw [if_pos h1, flF_out 32 0 d (fun i hi => by omega) (bit_of hp h0) (by decide)]
    · rw [if_neg h1]
theorem o53_eq {d : List UInt8} {bit : Int} {pat : Nat} (hp : pat < 2 ^ 32) (hl : d.length ≤ 100000) (hb : i64R bit) : o53 d bit (pat : Int) = some (flF bit pat 32 0 d) := by
  have h8 : IntKind.i64.wrap (8 * ((d.length : Nat) : Int)) = 8 * (d.length : Int) := wr64 (by omega)
  obtain ⟨hb1, hb2⟩ := hb
  unfold o53
  rw [gdT (dt (by simp; omega)), List.nil_append]
  refine loop_rec (n := 32) (fun k t => (d, bit, (pat : Int), (k : Int), t)) (fun k t => flF bit pat (32 - k) k t) (fun k t => t.length = d.length) (fun k t hk ht => ?_) (fun t ht => ?_) (by decide) rfl
  · dsimp only
    rw [cndT (dt (by omega)), gdT (dt (by omega)), patbit hp hk, show 32 - k = (32 - (k + 1)) + 1 by omega, flF]
    cases hbt : pat.testBit k with
    | false =>
      refine .inl ⟨t, ?_, if_neg (by simp), ht⟩
      rw [cndT (c := !false) rfl, wr64 (by omega)]
      rfl
    | true =>
      rw [cndF (c := !true) rfl, if_pos rfl, h8, ht, wr64 (x := 0 - (k : Int)) (by omega), wr64 (x := 8 * (d.length : Int) - (k : Int)) (by omega)]
      by_cases h2 : bit + (k : Int) < 0 ∨ 8 * (d.length : Int) ≤ bit + (k : Int)
      · refine .inr ?_
        rw [if_pos h2]
        by_cases h3 : bit < 0 - (k : Int)
        · rw [cndT (dt h3), bdI]
          rfl
        · rw [cndF (df h3), dt (show bit ≥ 8 * (d.length : Int) - (k : Int) by omega), bdI]
          rfl
      · refine .inl ⟨flip1 t (bit + (k : Int)), ?_, if_neg h2, by rw [flip1_len, ht]⟩
        rw [cndF (df (by omega)), df (show ¬ bit ≥ 8 * (d.length : Int) - (k : Int) by omega), bdI]
        dsimp only
        have hs : IntKind.i64.wrap (bit + (k : Int)) = bit + (k : Int) := wr64 (by omega)
        have hq : IntKind.i64.wrap (Int.tdiv (bit + (k : Int)) 8) = (bit + (k : Int)) / 8 := by
          rw [Int.tdiv_eq_ediv_of_nonneg (by omega), wr64 (by omega)]
        rw [cnd_f, hs, hq, Int.tmod_eq_emod_of_nonneg (by omega), gdT (dt (by omega)), gdT (dt (by omega)), gdT (dt (by omega)), wr64 (x := (k : Int) + 1) (by omega)]
        rfl
  · dsimp only
    rw [cndF (df (by omega))]
    rfl
theorem flF_two {bit : Int} {pat : Nat} : ∀ (r k : Nat) (d : List UInt8), (∃ d', flF bit pat r k d = (0, d') ∧ d'.length = d.length) ∨ flF bit pat r k d = (2, [])
  | 0, k, d => .inl ⟨d, rfl, rfl⟩
  | r + 1, k, d => by
    rw [flF]
    split
    · split
      · exact .inr rfl
      · rcases flF_two r (k + 1) (flip1 d (bit + (k : Int))) with ⟨d', h1, h2⟩ | h
        · exact .inl ⟨d', h1, by rw [h2, flip1_len]⟩
        · exact .inr h
    · exact flF_two r (k + 1) d
theorem flip_both {bit a lf : Int} {pat : Nat} {s : Nat} {ar off : Bool} {d : List UInt8} (hp : pat < 2 ^ 32) (hd : d.length = 30 * s) (h64 : s ≤ 64) (hb : i64R bit) :
    ∃ e d', o24v1 bit (pat : Int) a off d = some (e, a, off, d') ∧ o31 (s : Int) ar lf off bit (pat : Int) d = some ((s : Int), ar, lf, off, e, d') ∧ d'.length = 30 * s := by
  unfold o24v1 o31
  rw [bdS (o48_eq hp (by omega) hb), fl_eq hp, bdS (o53_eq hp (by omega) hb)]
  rcases flF_two (bit := bit) (pat := pat) 32 0 d with ⟨d', h1, h2⟩ | h
  · rw [h1]
    have e : List.take (d.length - 0) d' = d' := List.take_of_length_le (by omega)
    refine ⟨0, d', ?_, ?_, by omega⟩
    · dsimp only
      rw [cndT (eq_t rfl), e, ovr_all h2]
    · dsimp only
      rw [cndF (neq_f rfl)]
  · rw [h]
    exact ⟨2, d, rfl, rfl, hd⟩
theorem o15_enc {x a : Int} {off : Bool} {d : List UInt8} : o15 x a off d = some (encR true (maxI x 0), off, d) := rfl
theorem o28_eq {s x lf : Int} {ar off : Bool} {d : List UInt8} : o28 s ar lf off x d = some (s, true, maxI x 0, off, d) := by
  unfold o28
  by_cases h : x < 0
  · have hm : maxI x 0 = 0 := by unfold maxI; split <;> omega
    rw [cndT (dt h), bdI, hm]
  · have hm : maxI x 0 = x := by unfold maxI; split <;> omega
    rw [cndF (df h), bdI, hm]
theorem o25_bad {s : Int} (h : s < 2 ∨ 64 < s) : o25 s = some (0, false, false, 1, []) := by
  unfold o25
  by_cases h1 : s < 2
  · rw [cndT (dt h1), bdI]
    rfl
  · rw [cndF (df h1), dt (show s > 64 by omega), bdI]
    rfl
theorem o25_ok {s : Nat} (h2 : 2 ≤ s) (h64 : s ≤ 64) : o25 (s : Int) = some ((s : Int), false, false, 0, List.replicate (30 * s) 0) := by
  unfold o25
  rw [cndF (df (by omega)), df (show ¬ (s : Int) > 64 by omega), bdI]
  dsimp only
  have : IntKind.i64.wrap ((s : Int) * 30) = ((30 * s : Nat) : Int) := by rw [wr64 (by omega)]; omega
  rw [cndF rfl, this, gdT (dt (by omega)), Int.toNat_natCast]
  rfl
theorem o12_bad {s : Int} (h : s < 2 ∨ 64 < s) : o12 s = some (Sum.inl ()) := by
  unfold o12
  by_cases h1 : s < 2
  · rw [cndT (dt h1), bdI]
    rfl
  · rw [cndF (df h1), dt (show s > 64 by omega), bdI]
    rfl
end Go.Proofs.YtnkmijidneibnaaDoor
namespace Go.Proofs.YtnkmijidneibnaaDoor
set_option linter.unusedVariables false
set_option linter.unusedSimpArgs false
set_option maxRecDepth 100000
set_option maxHeartbeats 1000000
open Go.RowKit
theorem jd_ex {α β : Type} {x : Option (Ctl α β)} {k : α → Option β} {G : α → Prop} {Q : Option β → Prop} (h : ∃ t, x = some (.go t) ∧ G t) (hk : ∀ t, G t → Q (k t)) : Q (jd x k) := by
  obtain ⟨t, rfl, h2⟩ := h
  exact hk t h2
abbrev Act := Int × Int × Int × Int × Int × Int
def okAct (x : Act) : Prop := (0 ≤ x.1 ∧ x.1 ≤ 255) ∧ i64R x.2.2.2.2.1 ∧ (0 ≤ x.2.2.2.2.2 ∧ x.2.2.2.2.2 < 4294967296)
def Alike (acts : List Act) (s i m : Nat) (st : List Act × Int × Int × Bool × Int × Bool × Int × Bool × Int × Bool × Int × Bool × List UInt8 × List UInt8 × List Flt × List Flt) : Prop :=
  ∃ (ar : Bool) (lf : Int) (off : Bool) (n : Int) (br : Bool) (d : List UInt8) (F : List Flt), st = (acts, (i : Int), encR ar lf, off, (s : Int), ar, lf, off, n, br, n, br, d, d, F, F) ∧ (1 ≤ n ∧ n ≤ 4611686018427387905) ∧ d.length = 30 * s ∧ (∀ x ∈ F, 0 ≤ x.2.2.2 ∧ x.2.2.2 < n) ∧ F.length ≤ 64 + m ∧ okS (ar, lf, off, d)
theorem open_both {a lf : Int} {ar : Bool} {d : List UInt8} {s : Nat} (hd : d.length = 30 * s) (h2 : 2 ≤ s) (h64 : s ≤ 64) : ∃ n F, o13v1 a false d = some (.inr (a, false, d, n, false, F)) ∧ o26 (s : Int) d ar lf false = some (n, false, 0, F) ∧ (1 ≤ n ∧ n ≤ 4611686018427387905) ∧ (∀ x ∈ F, 0 ≤ x.2.2.2 ∧ x.2.2.2 < n) ∧ F.length ≤ 64 := by
  have hM := MemS.of hd h2 h64
  have hc := hM.cnt
  refine ⟨_, _, open_eq hM, o26_eq hd h2 h64, ⟨nxF_one _, nx_le hM (by decide) fun x hx => ?_⟩, fun x hx => ⟨nonneg hM x hx, nxF_lt (rdL_mem.2 (memF_mem.1 hx))⟩, by omega⟩
  obtain ⟨i, _, hg⟩ := hM.good hx
  have := hg.2.2.2.1
  omega
theorem plays_plain (a0 : Int) (acts : List Act) (hlen : acts.length ≤ 140737488355328) (hA : ∀ x ∈ acts, okAct x) : o8 a0 acts = some true := by
  unfold o8
  rw [bdS awake_yes, cndF (c := !true) rfl]
  by_cases hs : a0 < 2 ∨ 64 < a0
  · rw [bdS (o12_bad hs)]
    simp only [smL, bdI]
    rw [bdS (o25_bad hs)]
    rfl
  · obtain ⟨s, rfl⟩ : ∃ s : Nat, a0 = (s : Int) := ⟨a0.toNat, by omega⟩
    have h2 : 2 ≤ s := by omega
    have h64 : s ≤ 64 := by omega
    have h00 := MemS.zero h2 h64
    have e0 := o26_eq (s := s) (d := List.replicate (30 * s) 0) (ar := false) (lf := 0) h00.len h2 h64
    rw [h00.memF, nx_nil h00] at e0
    rw [bdS (o12_ok h2 h64)]
    simp only [smR, bdI]
    rw [bdS (o25_ok h2 h64)]
    dsimp only
    rw [cndF (neq_f rfl), bdI]
    dsimp only
    rw [cnd_f, bdS (open_eq h00), nx_nil h00]
    simp only [smR, bdI]
    rw [bdS e0]
    have hL := loop_inv (n := min 24 acts.length)
      (fun i st => Alike acts s i i st)
      (Q := fun r => r = true)
      (B := fun (v129 : List (Int × Int × Int × Int × Int × Int) × Int × Int × Bool × Int × Bool × Int × Bool × Int × Bool × Int × Bool × List UInt8 × List UInt8 × List (Int × Int × Int × Int) × List (Int × Int × Int × Int)) => (bd (α := (List (Int × Int × Int × Int × Int × Int) × Int × Bool × Int × Bool × Int × Bool × Int × Bool × Int × Bool × Int × Bool × List UInt8 × List UInt8 × List (Int × Int × Int × Int) × List (Int × Int × Int × Int))) (cnd (decide (v129.2.1 < ((v129.1.length : Nat) : Int))) (some (v129.1, v129.2.1, (decide (v129.2.1 < (24 : Int))), v129.2.2.1, v129.2.2.2.1, v129.2.2.2.2.1, v129.2.2.2.2.2.1, v129.2.2.2.2.2.2.1, v129.2.2.2.2.2.2.2.1, v129.2.2.2.2.2.2.2.2.1, v129.2.2.2.2.2.2.2.2.2.1, v129.2.2.2.2.2.2.2.2.2.2.1, v129.2.2.2.2.2.2.2.2.2.2.2.1, v129.2.2.2.2.2.2.2.2.2.2.2.2.1, v129.2.2.2.2.2.2.2.2.2.2.2.2.2.1, v129.2.2.2.2.2.2.2.2.2.2.2.2.2.2.1, v129.2.2.2.2.2.2.2.2.2.2.2.2.2.2.2)) (some (v129.1, v129.2.1, false, v129.2.2.1, v129.2.2.2.1, v129.2.2.2.2.1, v129.2.2.2.2.2.1, v129.2.2.2.2.2.2.1, v129.2.2.2.2.2.2.2.1, v129.2.2.2.2.2.2.2.2.1, v129.2.2.2.2.2.2.2.2.2.1, v129.2.2.2.2.2.2.2.2.2.2.1, v129.2.2.2.2.2.2.2.2.2.2.2.1, v129.2.2.2.2.2.2.2.2.2.2.2.2.1, v129.2.2.2.2.2.2.2.2.2.2.2.2.2.1, v129.2.2.2.2.2.2.2.2.2.2.2.2.2.2.1, v129.2.2.2.2.2.2.2.2.2.2.2.2.2.2.2))) (fun v130 => (cnd v130.2.2.1 (gd (decide ((0 : Int) ≤ v130.2.1 ∧ v130.2.1 < ((v130.1.length : Nat) : Int))) (jd (α := (List (Int × Int × Int × Int × Int × Int) × Int × Int × Bool × Int × Bool × Int × Bool × Int × Bool × Int × Bool × List UInt8 × List UInt8 × List (Int × Int × Int × Int) × List (Int × Int × Int × Int))) (bd (α := (List (Int × Int × Int × Int × Int × Int) × Int × Int × Bool × Int × Bool × Int × Bool × Int × Bool × Int × Bool × Int × Bool × Int × Int × Int × Int × Int × Int × List UInt8 × List UInt8 × List (Int × Int × Int × Int) × List (Int × Int × Int × Int))) (cnd ((Int.tmod ((List.getD v130.1 v130.2.1.toNat ((0 : Int), ((0 : Int), ((0 : Int), ((0 : Int), ((0 : Int), (0 : Int))))))).1) (9 : Int)) == (0 : Int)) (some (v130.1, v130.2.1, (Int.tmod ((List.getD v130.1 v130.2.1.toNat ((0 : Int), ((0 : Int), ((0 : Int), ((0 : Int), ((0 : Int), (0 : Int))))))).1) (9 : Int)), true, v130.2.2.2.1, v130.2.2.2.2.1, v130.2.2.2.2.2.1, v130.2.2.2.2.2.2.1, v130.2.2.2.2.2.2.2.1, v130.2.2.2.2.2.2.2.2.1, v130.2.2.2.2.2.2.2.2.2.1, v130.2.2.2.2.2.2.2.2.2.2.1, v130.2.2.2.2.2.2.2.2.2.2.2.1, v130.2.2.2.2.2.2.2.2.2.2.2.2.1, (List.getD v130.1 v130.2.1.toNat ((0 : Int), ((0 : Int), ((0 : Int), ((0 : Int), ((0 : Int), (0 : Int))))))).1, ((List.getD v130.1 v130.2.1.toNat ((0 : Int), ((0 : Int), ((0 : Int), ((0 : Int), ((0 : Int), (0 : Int))))))).2).1, (((List.getD v130.1 v130.2.1.toNat ((0 : Int), ((0 : Int), ((0 : Int), ((0 : Int), ((0 : Int), (0 : Int))))))).2).2).1, ((((List.getD v130.1 v130.2.1.toNat ((0 : Int), ((0 : Int), ((0 : Int), ((0 : Int), ((0 : Int), (0 : Int))))))).2).2).2).1, (((((List.getD v130.1 v130.2.1.toNat ((0 : Int), ((0 : Int), ((0 : Int), ((0 : Int), ((0 : Int), (0 : Int))))))).2).2).2).2).1, (((((List.getD v130.1 v130.2.1.toNat ((0 : Int), ((0 : Int), ((0 : Int), ((0 : Int), ((0 : Int), (0 : Int))))))).2).2).2).2).2, v130.2.2.2.2.2.2.2.2.2.2.2.2.2.1, v130.2.2.2.2.2.2.2.2.2.2.2.2.2.2.1, v130.2.2.2.2.2.2.2.2.2.2.2.2.2.2.2.1, v130.2.2.2.2.2.2.2.2.2.2.2.2.2.2.2.2)) (cnd ((Int.tmod ((List.getD v130.1 v130.2.1.toNat ((0 : Int), ((0 : Int), ((0 : Int), ((0 : Int), ((0 : Int), (0 : Int))))))).1) (9 : Int)) == (1 : Int)) (some (v130.1, v130.2.1, (Int.tmod ((List.getD v130.1 v130.2.1.toNat ((0 : Int), ((0 : Int), ((0 : Int), ((0 : Int), ((0 : Int), (0 : Int))))))).1) (9 : Int)), true, v130.2.2.2.1, v130.2.2.2.2.1, v130.2.2.2.2.2.1, v130.2.2.2.2.2.2.1, v130.2.2.2.2.2.2.2.1, v130.2.2.2.2.2.2.2.2.1, v130.2.2.2.2.2.2.2.2.2.1, v130.2.2.2.2.2.2.2.2.2.2.1, v130.2.2.2.2.2.2.2.2.2.2.2.1, v130.2.2.2.2.2.2.2.2.2.2.2.2.1, (List.getD v130.1 v130.2.1.toNat ((0 : Int), ((0 : Int), ((0 : Int), ((0 : Int), ((0 : Int), (0 : Int))))))).1, ((List.getD v130.1 v130.2.1.toNat ((0 : Int), ((0 : Int), ((0 : Int), ((0 : Int), ((0 : Int), (0 : Int))))))).2).1, (((List.getD v130.1 v130.2.1.toNat ((0 : Int), ((0 : Int), ((0 : Int), ((0 : Int), ((0 : Int), (0 : Int))))))).2).2).1, ((((List.getD v130.1 v130.2.1.toNat ((0 : Int), ((0 : Int), ((0 : Int), ((0 : Int), ((0 : Int), (0 : Int))))))).2).2).2).1, (((((List.getD v130.1 v130.2.1.toNat ((0 : Int), ((0 : Int), ((0 : Int), ((0 : Int), ((0 : Int), (0 : Int))))))).2).2).2).2).1, (((((List.getD v130.1 v130.2.1.toNat ((0 : Int), ((0 : Int), ((0 : Int), ((0 : Int), ((0 : Int), (0 : Int))))))).2).2).2).2).2, v130.2.2.2.2.2.2.2.2.2.2.2.2.2.1, v130.2.2.2.2.2.2.2.2.2.2.2.2.2.2.1, v130.2.2.2.2.2.2.2.2.2.2.2.2.2.2.2.1, v130.2.2.2.2.2.2.2.2.2.2.2.2.2.2.2.2)) (cnd ((Int.tmod ((List.getD v130.1 v130.2.1.toNat ((0 : Int), ((0 : Int), ((0 : Int), ((0 : Int), ((0 : Int), (0 : Int))))))).1) (9 : Int)) == (2 : Int)) (some (v130.1, v130.2.1, (Int.tmod ((List.getD v130.1 v130.2.1.toNat ((0 : Int), ((0 : Int), ((0 : Int), ((0 : Int), ((0 : Int), (0 : Int))))))).1) (9 : Int)), true, v130.2.2.2.1, v130.2.2.2.2.1, v130.2.2.2.2.2.1, v130.2.2.2.2.2.2.1, v130.2.2.2.2.2.2.2.1, v130.2.2.2.2.2.2.2.2.1, v130.2.2.2.2.2.2.2.2.2.1, v130.2.2.2.2.2.2.2.2.2.2.1, v130.2.2.2.2.2.2.2.2.2.2.2.1, v130.2.2.2.2.2.2.2.2.2.2.2.2.1, (List.getD v130.1 v130.2.1.toNat ((0 : Int), ((0 : Int), ((0 : Int), ((0 : Int), ((0 : Int), (0 : Int))))))).1, ((List.getD v130.1 v130.2.1.toNat ((0 : Int), ((0 : Int), ((0 : Int), ((0 : Int), ((0 : Int), (0 : Int))))))).2).1, (((List.getD v130.1 v130.2.1.toNat ((0 : Int), ((0 : Int), ((0 : Int), ((0 : Int), ((0 : Int), (0 : Int))))))).2).2).1, ((((List.getD v130.1 v130.2.1.toNat ((0 : Int), ((0 : Int), ((0 : Int), ((0 : Int), ((0 : Int), (0 : Int))))))).2).2).2).1, (((((List.getD v130.1 v130.2.1.toNat ((0 : Int), ((0 : Int), ((0 : Int), ((0 : Int), ((0 : Int), (0 : Int))))))).2).2).2).2).1, (((((List.getD v130.1 v130.2.1.toNat ((0 : Int), ((0 : Int), ((0 : Int), ((0 : Int), ((0 : Int), (0 : Int))))))).2).2).2).2).2, v130.2.2.2.2.2.2.2.2.2.2.2.2.2.1, v130.2.2.2.2.2.2.2.2.2.2.2.2.2.2.1, v130.2.2.2.2.2.2.2.2.2.2.2.2.2.2.2.1, v130.2.2.2.2.2.2.2.2.2.2.2.2.2.2.2.2)) (some (v130.1, v130.2.1, (Int.tmod ((List.getD v130.1 v130.2.1.toNat ((0 : Int), ((0 : Int), ((0 : Int), ((0 : Int), ((0 : Int), (0 : Int))))))).1) (9 : Int)), ((Int.tmod ((List.getD v130.1 v130.2.1.toNat ((0 : Int), ((0 : Int), ((0 : Int), ((0 : Int), ((0 : Int), (0 : Int))))))).1) (9 : Int)) == (3 : Int)), v130.2.2.2.1, v130.2.2.2.2.1, v130.2.2.2.2.2.1, v130.2.2.2.2.2.2.1, v130.2.2.2.2.2.2.2.1, v130.2.2.2.2.2.2.2.2.1, v130.2.2.2.2.2.2.2.2.2.1, v130.2.2.2.2.2.2.2.2.2.2.1, v130.2.2.2.2.2.2.2.2.2.2.2.1, v130.2.2.2.2.2.2.2.2.2.2.2.2.1, (List.getD v130.1 v130.2.1.toNat ((0 : Int), ((0 : Int), ((0 : Int), ((0 : Int), ((0 : Int), (0 : Int))))))).1, ((List.getD v130.1 v130.2.1.toNat ((0 : Int), ((0 : Int), ((0 : Int), ((0 : Int), ((0 : Int), (0 : Int))))))).2).1, (((List.getD v130.1 v130.2.1.toNat ((0 : Int), ((0 : Int), ((0 : Int), ((0 : Int), ((0 : Int), (0 : Int))))))).2).2).1, ((((List.getD v130.1 v130.2.1.toNat ((0 : Int), ((0 : Int), ((0 : Int), ((0 : Int), ((0 : Int), (0 : Int))))))).2).2).2).1, (((((List.getD v130.1 v130.2.1.toNat ((0 : Int), ((0 : Int), ((0 : Int), ((0 : Int), ((0 : Int), (0 : Int))))))).2).2).2).2).1, (((((List.getD v130.1 v130.2.1.toNat ((0 : Int), ((0 : Int), ((0 : Int), ((0 : Int), ((0 : Int), (0 : Int))))))).2).2).2).2).2, v130.2.2.2.2.2.2.2.2.2.2.2.2.2.1, v130.2.2.2.2.2.2.2.2.2.2.2.2.2.2.1, v130.2.2.2.2.2.2.2.2.2.2.2.2.2.2.2.1, v130.2.2.2.2.2.2.2.2.2.2.2.2.2.2.2.2))))) (fun v131 => (cnd v131.2.2.2.1 (bd (α := (Int × Int × Int × Bool × Int × Bool × List UInt8 × List (Int × Int × Int × Int))) (o16 v131.2.2.2.2.2.2.2.2.2.2.2.2.2.2.2.1 v131.2.2.2.2.2.2.2.2.2.2.2.2.2.2.2.2.1 v131.2.2.2.2.2.2.2.2.2.2.2.2.2.2.2.2.2.1 v131.2.2.2.2.2.2.2.2.2.2.1 v131.2.2.2.2.2.2.2.2.2.2.2.1 v131.2.2.2.2.1 v131.2.2.2.2.2.1 v131.2.2.2.2.2.2.2.2.2.2.2.2.2.2.2.2.2.2.2.2.1 v131.2.2.2.2.2.2.2.2.2.2.2.2.2.2.2.2.2.2.2.2.2.2.1) (fun v132 => (bd (α := (Int × Bool × Int × Bool × Int × Bool × Int × Int × List UInt8 × List (Int × Int × Int × Int))) (o27 v131.2.2.2.2.2.2.1 v131.2.2.2.2.2.2.2.1 v131.2.2.2.2.2.2.2.2.1 v131.2.2.2.2.2.2.2.2.2.1 v131.2.2.2.2.2.2.2.2.2.2.2.2.1 v131.2.2.2.2.2.2.2.2.2.2.2.2.2.1 v131.2.2.2.2.2.2.2.2.2.2.2.2.2.2.2.1 v131.2.2.2.2.2.2.2.2.2.2.2.2.2.2.2.2.1 v131.2.2.2.2.2.2.2.2.2.2.2.2.2.2.2.2.2.1 v131.2.2.2.2.2.2.2.2.2.2.2.2.2.2.2.2.2.2.2.2.2.1 v131.2.2.2.2.2.2.2.2.2.2.2.2.2.2.2.2.2.2.2.2.2.2.2) (fun v133 => (bd (α := (List (Int × Int × Int × Int × Int × Int) × Int × Bool × Int × Bool × Int × Bool × Int × Bool × Int × Bool × Int × Bool × List UInt8 × List UInt8 × List (Int × Int × Int × Int) × List (Int × Int × Int × Int))) (cnd (v132.1 != v133.2.2.2.2.2.2.1) (some (v131.1, v131.2.1, true, v132.2.2.2.2.1, v132.2.2.2.2.2.1, v133.1, v133.2.1, v133.2.2.1, v133.2.2.2.1, v132.2.2.1, v132.2.2.2.1, v133.2.2.2.2.1, v133.2.2.2.2.2.1, v132.2.2.2.2.2.2.1, v133.2.2.2.2.2.2.2.2.1, v132.2.2.2.2.2.2.2, v133.2.2.2.2.2.2.2.2.2)) (some (v131.1, v131.2.1, (v132.2.1 != v133.2.2.2.2.2.2.2.1), v132.2.2.2.2.1, v132.2.2.2.2.2.1, v133.1, v133.2.1, v133.2.2.1, v133.2.2.2.1, v132.2.2.1, v132.2.2.2.1, v133.2.2.2.2.1, v133.2.2.2.2.2.1, v132.2.2.2.2.2.2.1, v133.2.2.2.2.2.2.2.2.1, v132.2.2.2.2.2.2.2, v133.2.2.2.2.2.2.2.2.2))) (fun v134 => (cnd v134.2.2.1 (dnO (dnO (some false))) (some (Ctl.go (v134.1, v134.2.1, v134.2.2.2.1, v134.2.2.2.2.1, v134.2.2.2.2.2.1, v134.2.2.2.2.2.2.1, v134.2.2.2.2.2.2.2.1, v134.2.2.2.2.2.2.2.2.1, v134.2.2.2.2.2.2.2.2.2.1, v134.2.2.2.2.2.2.2.2.2.2.1, v134.2.2.2.2.2.2.2.2.2.2.2.1, v134.2.2.2.2.2.2.2.2.2.2.2.2.1, v134.2.2.2.2.2.2.2.2.2.2.2.2.2.1, v134.2.2.2.2.2.2.2.2.2.2.2.2.2.2.1, v134.2.2.2.2.2.2.2.2.2.2.2.2.2.2.2.1, v134.2.2.2.2.2.2.2.2.2.2.2.2.2.2.2.2)))))))))) (cnd (v131.2.2.1 == (4 : Int)) (bd (α := (Int × Bool × List UInt8)) (o15 v131.2.2.2.2.2.2.2.2.2.2.2.2.2.2.2.2.2.2.1 v131.2.2.2.2.1 v131.2.2.2.2.2.1 v131.2.2.2.2.2.2.2.2.2.2.2.2.2.2.2.2.2.2.2.2.1) (fun v135 => (bd (α := (Int × Bool × Int × Bool × List UInt8)) (o28 v131.2.2.2.2.2.2.1 v131.2.2.2.2.2.2.2.1 v131.2.2.2.2.2.2.2.2.1 v131.2.2.2.2.2.2.2.2.2.1 v131.2.2.2.2.2.2.2.2.2.2.2.2.2.2.2.2.2.2.1 v131.2.2.2.2.2.2.2.2.2.2.2.2.2.2.2.2.2.2.2.2.2.1) (fun v136 => (some (Ctl.go (v131.1, v131.2.1, v135.1, v135.2.1, v136.1, v136.2.1, v136.2.2.1, v136.2.2.2.1, v131.2.2.2.2.2.2.2.2.2.2.1, v131.2.2.2.2.2.2.2.2.2.2.2.1, v131.2.2.2.2.2.2.2.2.2.2.2.2.1, v131.2.2.2.2.2.2.2.2.2.2.2.2.2.1, v135.2.2, v136.2.2.2.2, v131.2.2.2.2.2.2.2.2.2.2.2.2.2.2.2.2.2.2.2.2.2.2.1, v131.2.2.2.2.2.2.2.2.2.2.2.2.2.2.2.2.2.2.2.2.2.2.2))))))) (bd (α := (List (Int × Int × Int × Int × Int × Int) × Int × Int × Bool × Int × Bool × Int × Bool × Int × Bool × Int × Bool × Int × Bool × Int × Int × Int × Int × Int × Int × List UInt8 × List UInt8 × List (Int × Int × Int × Int) × List (Int × Int × Int × Int))) (cnd (v131.2.2.1 == (5 : Int)) (some (v131.1, v131.2.1, v131.2.2.1, true, v131.2.2.2.2.1, v131.2.2.2.2.2.1, v131.2.2.2.2.2.2.1, v131.2.2.2.2.2.2.2.1, v131.2.2.2.2.2.2.2.2.1, v131.2.2.2.2.2.2.2.2.2.1, v131.2.2.2.2.2.2.2.2.2.2.1, v131.2.2.2.2.2.2.2.2.2.2.2.1, v131.2.2.2.2.2.2.2.2.2.2.2.2.1, v131.2.2.2.2.2.2.2.2.2.2.2.2.2.1, v131.2.2.2.2.2.2.2.2.2.2.2.2.2.2.1, v131.2.2.2.2.2.2.2.2.2.2.2.2.2.2.2.1, v131.2.2.2.2.2.2.2.2.2.2.2.2.2.2.2.2.1, v131.2.2.2.2.2.2.2.2.2.2.2.2.2.2.2.2.2.1, v131.2.2.2.2.2.2.2.2.2.2.2.2.2.2.2.2.2.2.1, v131.2.2.2.2.2.2.2.2.2.2.2.2.2.2.2.2.2.2.2.1, v131.2.2.2.2.2.2.2.2.2.2.2.2.2.2.2.2.2.2.2.2.1, v131.2.2.2.2.2.2.2.2.2.2.2.2.2.2.2.2.2.2.2.2.2.1, v131.2.2.2.2.2.2.2.2.2.2.2.2.2.2.2.2.2.2.2.2.2.2.1, v131.2.2.2.2.2.2.2.2.2.2.2.2.2.2.2.2.2.2.2.2.2.2.2)) (some (v131.1, v131.2.1, v131.2.2.1, (v131.2.2.1 == (8 : Int)), v131.2.2.2.2.1, v131.2.2.2.2.2.1, v131.2.2.2.2.2.2.1, v131.2.2.2.2.2.2.2.1, v131.2.2.2.2.2.2.2.2.1, v131.2.2.2.2.2.2.2.2.2.1, v131.2.2.2.2.2.2.2.2.2.2.1, v131.2.2.2.2.2.2.2.2.2.2.2.1, v131.2.2.2.2.2.2.2.2.2.2.2.2.1, v131.2.2.2.2.2.2.2.2.2.2.2.2.2.1, v131.2.2.2.2.2.2.2.2.2.2.2.2.2.2.1, v131.2.2.2.2.2.2.2.2.2.2.2.2.2.2.2.1, v131.2.2.2.2.2.2.2.2.2.2.2.2.2.2.2.2.1, v131.2.2.2.2.2.2.2.2.2.2.2.2.2.2.2.2.2.1, v131.2.2.2.2.2.2.2.2.2.2.2.2.2.2.2.2.2.2.1, v131.2.2.2.2.2.2.2.2.2.2.2.2.2.2.2.2.2.2.2.1, v131.2.2.2.2.2.2.2.2.2.2.2.2.2.2.2.2.2.2.2.2.1, v131.2.2.2.2.2.2.2.2.2.2.2.2.2.2.2.2.2.2.2.2.2.1, v131.2.2.2.2.2.2.2.2.2.2.2.2.2.2.2.2.2.2.2.2.2.2.1, v131.2.2.2.2.2.2.2.2.2.2.2.2.2.2.2.2.2.2.2.2.2.2.2))) (fun v137 => (cnd v137.2.2.2.1 (bd (α := (List (Int × Int × Int × Int × Int × Int) × Int × Int × Bool × Int × Bool × Int × Bool × Int × Bool × Int × Bool × List UInt8 × List UInt8 × List (Int × Int × Int × Int) × List (Int × Int × Int × Int))) (cnd ((Int.tmod v137.2.2.2.2.2.2.2.2.2.2.2.2.2.2.1 (9 : Int)) == (5 : Int)) (bd (α := (Bool × List UInt8)) (o17 v137.2.2.2.2.1 v137.2.2.2.2.2.1 v137.2.2.2.2.2.2.2.2.2.2.2.2.2.2.2.2.2.2.2.2.1) (fun v138 => (bd (α := (Int × Bool × Bool × List UInt8)) (o29 v137.2.2.2.2.2.2.1 v137.2.2.2.2.2.2.2.1 v137.2.2.2.2.2.2.2.2.1 v137.2.2.2.2.2.2.2.2.2.1 v137.2.2.2.2.2.2.2.2.2.2.2.2.2.2.2.2.2.2.2.2.2.1) (fun v139 => (some (v137.1, v137.2.1, (-1 : Int), v138.1, v139.1, v139.2.1, (0 : Int), v139.2.2.1, v137.2.2.2.2.2.2.2.2.2.2.1, v137.2.2.2.2.2.2.2.2.2.2.2.1, v137.2.2.2.2.2.2.2.2.2.2.2.2.1, v137.2.2.2.2.2.2.2.2.2.2.2.2.2.1, v138.2, v139.2.2.2, v137.2.2.2.2.2.2.2.2.2.2.2.2.2.2.2.2.2.2.2.2.2.2.1, v137.2.2.2.2.2.2.2.2.2.2.2.2.2.2.2.2.2.2.2.2.2.2.2)))))) (some (v137.1, v137.2.1, v137.2.2.2.2.1, v137.2.2.2.2.2.1, v137.2.2.2.2.2.2.1, v137.2.2.2.2.2.2.2.1, v137.2.2.2.2.2.2.2.2.1, v137.2.2.2.2.2.2.2.2.2.1, v137.2.2.2.2.2.2.2.2.2.2.1, v137.2.2.2.2.2.2.2.2.2.2.2.1, v137.2.2.2.2.2.2.2.2.2.2.2.2.1, v137.2.2.2.2.2.2.2.2.2.2.2.2.2.1, v137.2.2.2.2.2.2.2.2.2.2.2.2.2.2.2.2.2.2.2.2.1, v137.2.2.2.2.2.2.2.2.2.2.2.2.2.2.2.2.2.2.2.2.2.1, v137.2.2.2.2.2.2.2.2.2.2.2.2.2.2.2.2.2.2.2.2.2.2.1, v137.2.2.2.2.2.2.2.2.2.2.2.2.2.2.2.2.2.2.2.2.2.2.2))) (fun v140 => (bd (α := (List (Int × Int × Int × Int × Int × Int) × Int × Int × Bool × Int × Bool × Int × Bool × Int × Bool × Int × Bool × List UInt8 × List UInt8 × List (Int × Int × Int × Int) × List (Int × Int × Int × Int)) ⊕ (List (Int × Int × Int × Int × Int × Int) × Int × Int × Bool × Int × Bool × Int × Bool × Int × Bool × Int × Bool × Int × Bool × List UInt8 × List UInt8 × List (Int × Int × Int × Int) × List (Int × Int × Int × Int) × List (Int × Int × Int × Int))) (bd (α := (Int × Bool × List UInt8) ⊕ (Int × Bool × List UInt8 × Int × Bool × List (Int × Int × Int × Int))) (o13v1 v140.2.2.1 v140.2.2.2.1 v140.2.2.2.2.2.2.2.2.2.2.2.2.1) (fun v141 => (sm v141 (fun v142 => (some (Sum.inl (v140.1, v140.2.1, v142.1, v142.2.1, v140.2.2.2.2.1, v140.2.2.2.2.2.1, v140.2.2.2.2.2.2.1, v140.2.2.2.2.2.2.2.1, v140.2.2.2.2.2.2.2.2.1, v140.2.2.2.2.2.2.2.2.2.1, v140.2.2.2.2.2.2.2.2.2.2.1, v140.2.2.2.2.2.2.2.2.2.2.2.1, v142.2.2, v140.2.2.2.2.2.2.2.2.2.2.2.2.2.1, v140.2.2.2.2.2.2.2.2.2.2.2.2.2.2.1, v140.2.2.2.2.2.2.2.2.2.2.2.2.2.2.2)))) (fun v143 => (some (Sum.inr (v140.1, v140.2.1, v143.1, v143.2.1, v140.2.2.2.2.1, v140.2.2.2.2.2.1, v140.2.2.2.2.2.2.1, v140.2.2.2.2.2.2.2.1, v140.2.2.2.2.2.2.2.2.1, v140.2.2.2.2.2.2.2.2.2.1, v140.2.2.2.2.2.2.2.2.2.2.1, v140.2.2.2.2.2.2.2.2.2.2.2.1, v143.2.2.2.1, v143.2.2.2.2.1, v143.2.2.1, v140.2.2.2.2.2.2.2.2.2.2.2.2.2.1, v140.2.2.2.2.2.2.2.2.2.2.2.2.2.2.1, v140.2.2.2.2.2.2.2.2.2.2.2.2.2.2.2, v143.2.2.2.2.2))))))) (fun v144 => (sm v144 (fun v145 => (bd (α := (Int × Bool × Int × List (Int × Int × Int × Int))) (o26 v145.2.2.2.2.1 v145.2.2.2.2.2.2.2.2.2.2.2.2.2.1 v145.2.2.2.2.2.1 v145.2.2.2.2.2.2.1 v145.2.2.2.2.2.2.2.1) (fun v147 => (bd (α := (List (Int × Int × Int × Int × Int × Int) × Int × Bool × Int × Bool × Int × Bool × Int × Bool × Int × Bool × Int × Bool × Int × Bool × List UInt8 × List UInt8 × List (Int × Int × Int × Int) × List (Int × Int × Int × Int) × List (Int × Int × Int × Int))) (cnd ((19 : Int) != v147.2.2.1) (some (v145.1, v145.2.1, true, v145.2.2.1, v145.2.2.2.1, v145.2.2.2.2.1, v145.2.2.2.2.2.1, v145.2.2.2.2.2.2.1, v145.2.2.2.2.2.2.2.1, v145.2.2.2.2.2.2.2.2.1, v145.2.2.2.2.2.2.2.2.2.1, v145.2.2.2.2.2.2.2.2.2.2.1, v145.2.2.2.2.2.2.2.2.2.2.2.1, v147.1, v147.2.1, v145.2.2.2.2.2.2.2.2.2.2.2.2.1, v145.2.2.2.2.2.2.2.2.2.2.2.2.2.1, v145.2.2.2.2.2.2.2.2.2.2.2.2.2.2.1, v145.2.2.2.2.2.2.2.2.2.2.2.2.2.2.2, v147.2.2.2)) (some (v145.1, v145.2.1, (!(true == true)), v145.2.2.1, v145.2.2.2.1, v145.2.2.2.2.1, v145.2.2.2.2.2.1, v145.2.2.2.2.2.2.1, v145.2.2.2.2.2.2.2.1, v145.2.2.2.2.2.2.2.2.1, v145.2.2.2.2.2.2.2.2.2.1, v145.2.2.2.2.2.2.2.2.2.2.1, v145.2.2.2.2.2.2.2.2.2.2.2.1, v147.1, v147.2.1, v145.2.2.2.2.2.2.2.2.2.2.2.2.1, v145.2.2.2.2.2.2.2.2.2.2.2.2.2.1, v145.2.2.2.2.2.2.2.2.2.2.2.2.2.2.1, v145.2.2.2.2.2.2.2.2.2.2.2.2.2.2.2, v147.2.2.2))) (fun v148 => (cnd v148.2.2.1 (dnO (dnO (some false))) (some (Ctl.go (v148.1, v148.2.1, v148.2.2.2.1, v148.2.2.2.2.1, v148.2.2.2.2.2.1, v148.2.2.2.2.2.2.1, v148.2.2.2.2.2.2.2.1, v148.2.2.2.2.2.2.2.2.1, v148.2.2.2.2.2.2.2.2.2.1, v148.2.2.2.2.2.2.2.2.2.2.1, v148.2.2.2.2.2.2.2.2.2.2.2.1, v148.2.2.2.2.2.2.2.2.2.2.2.2.1, v148.2.2.2.2.2.2.2.2.2.2.2.2.2.2.2.1, v148.2.2.2.2.2.2.2.2.2.2.2.2.2.2.2.2.1, v148.2.2.2.2.2.2.2.2.2.2.2.2.2.2.2.2.2.1, v148.2.2.2.2.2.2.2.2.2.2.2.2.2.2.2.2.2.2.1))))))))) (fun v146 => (bd (α := (Int × Bool × Int × List (Int × Int × Int × Int))) (o26 v146.2.2.2.2.1 v146.2.2.2.2.2.2.2.2.2.2.2.2.2.2.2.1 v146.2.2.2.2.2.1 v146.2.2.2.2.2.2.1 v146.2.2.2.2.2.2.2.1) (fun v149 => (bd (α := (List (Int × Int × Int × Int × Int × Int) × Int × Bool × Int × Bool × Int × Bool × Int × Bool × Int × Bool × Int × Bool × Int × Bool × Int × Bool × List UInt8 × List UInt8 × List (Int × Int × Int × Int) × List (Int × Int × Int × Int) × List (Int × Int × Int × Int) × List (Int × Int × Int × Int))) (cnd ((0 : Int) != v149.2.2.1) (some (v146.1, v146.2.1, true, v146.2.2.1, v146.2.2.2.1, v146.2.2.2.2.1, v146.2.2.2.2.2.1, v146.2.2.2.2.2.2.1, v146.2.2.2.2.2.2.2.1, v146.2.2.2.2.2.2.2.2.1, v146.2.2.2.2.2.2.2.2.2.1, v146.2.2.2.2.2.2.2.2.2.2.1, v146.2.2.2.2.2.2.2.2.2.2.2.1, v146.2.2.2.2.2.2.2.2.2.2.2.2.1, v146.2.2.2.2.2.2.2.2.2.2.2.2.2.1, v149.1, v149.2.1, v146.2.2.2.2.2.2.2.2.2.2.2.2.2.2.1, v146.2.2.2.2.2.2.2.2.2.2.2.2.2.2.2.1, v146.2.2.2.2.2.2.2.2.2.2.2.2.2.2.2.2.1, v146.2.2.2.2.2.2.2.2.2.2.2.2.2.2.2.2.2.1, v146.2.2.2.2.2.2.2.2.2.2.2.2.2.2.2.2.2.2, v149.2.2.2)) (some (v146.1, v146.2.1, (!(false == false)), v146.2.2.1, v146.2.2.2.1, v146.2.2.2.2.1, v146.2.2.2.2.2.1, v146.2.2.2.2.2.2.1, v146.2.2.2.2.2.2.2.1, v146.2.2.2.2.2.2.2.2.1, v146.2.2.2.2.2.2.2.2.2.1, v146.2.2.2.2.2.2.2.2.2.2.1, v146.2.2.2.2.2.2.2.2.2.2.2.1, v146.2.2.2.2.2.2.2.2.2.2.2.2.1, v146.2.2.2.2.2.2.2.2.2.2.2.2.2.1, v149.1, v149.2.1, v146.2.2.2.2.2.2.2.2.2.2.2.2.2.2.1, v146.2.2.2.2.2.2.2.2.2.2.2.2.2.2.2.1, v146.2.2.2.2.2.2.2.2.2.2.2.2.2.2.2.2.1, v146.2.2.2.2.2.2.2.2.2.2.2.2.2.2.2.2.2.1, v146.2.2.2.2.2.2.2.2.2.2.2.2.2.2.2.2.2.2, v149.2.2.2))) (fun v150 => (cnd v150.2.2.1 (dnO (dnO (some false))) (some (Ctl.go (v150.1, v150.2.1, v150.2.2.2.1, v150.2.2.2.2.1, v150.2.2.2.2.2.1, v150.2.2.2.2.2.2.1, v150.2.2.2.2.2.2.2.1, v150.2.2.2.2.2.2.2.2.1, v150.2.2.2.2.2.2.2.2.2.2.2.2.2.1, v150.2.2.2.2.2.2.2.2.2.2.2.2.2.2.1, v150.2.2.2.2.2.2.2.2.2.2.2.2.2.2.2.1, v150.2.2.2.2.2.2.2.2.2.2.2.2.2.2.2.2.1, v150.2.2.2.2.2.2.2.2.2.2.2.2.2.2.2.2.2.1, v150.2.2.2.2.2.2.2.2.2.2.2.2.2.2.2.2.2.2.1, v150.2.2.2.2.2.2.2.2.2.2.2.2.2.2.2.2.2.2.2.2.2.1, v150.2.2.2.2.2.2.2.2.2.2.2.2.2.2.2.2.2.2.2.2.2.2)))))))))))))) (cnd (v137.2.2.1 == (6 : Int)) (bd (α := (Int × Int × Bool × Int × Bool × List UInt8 × List (Int × Int × Int × Int))) (o21v1 v137.2.2.2.2.2.2.2.2.2.2.1 v137.2.2.2.2.2.2.2.2.2.2.2.1 v137.2.2.2.2.1 v137.2.2.2.2.2.1 v137.2.2.2.2.2.2.2.2.2.2.2.2.2.2.2.2.2.2.2.2.1 v137.2.2.2.2.2.2.2.2.2.2.2.2.2.2.2.2.2.2.2.2.2.2.1) (fun v151 => (bd (α := (Int × Bool × Int × Bool × Int × Bool × Int × List UInt8 × List (Int × Int × Int × Int))) (o30 v137.2.2.2.2.2.2.1 v137.2.2.2.2.2.2.2.1 v137.2.2.2.2.2.2.2.2.1 v137.2.2.2.2.2.2.2.2.2.1 v137.2.2.2.2.2.2.2.2.2.2.2.2.1 v137.2.2.2.2.2.2.2.2.2.2.2.2.2.1 v137.2.2.2.2.2.2.2.2.2.2.2.2.2.2.2.2.2.2.2.2.2.1 v137.2.2.2.2.2.2.2.2.2.2.2.2.2.2.2.2.2.2.2.2.2.2.2) (fun v152 => (cnd (v151.1 != v152.2.2.2.2.2.2.1) (dnO (dnO (some false))) (some (Ctl.go (v137.1, v137.2.1, v151.2.2.2.1, v151.2.2.2.2.1, v152.1, v152.2.1, v152.2.2.1, v152.2.2.2.1, v151.2.1, v151.2.2.1, v152.2.2.2.2.1, v152.2.2.2.2.2.1, v151.2.2.2.2.2.1, v152.2.2.2.2.2.2.2.1, v151.2.2.2.2.2.2, v152.2.2.2.2.2.2.2.2)))))))) (cnd (v137.2.2.1 == (7 : Int)) (bd (α := (Int × Int × Bool × List UInt8)) (o24v1 v137.2.2.2.2.2.2.2.2.2.2.2.2.2.2.2.2.2.2.1 v137.2.2.2.2.2.2.2.2.2.2.2.2.2.2.2.2.2.2.2.1 v137.2.2.2.2.1 v137.2.2.2.2.2.1 v137.2.2.2.2.2.2.2.2.2.2.2.2.2.2.2.2.2.2.2.2.1) (fun v153 => (bd (α := (Int × Bool × Int × Bool × Int × List UInt8)) (o31 v137.2.2.2.2.2.2.1 v137.2.2.2.2.2.2.2.1 v137.2.2.2.2.2.2.2.2.1 v137.2.2.2.2.2.2.2.2.2.1 v137.2.2.2.2.2.2.2.2.2.2.2.2.2.2.2.2.2.2.1 v137.2.2.2.2.2.2.2.2.2.2.2.2.2.2.2.2.2.2.2.1 v137.2.2.2.2.2.2.2.2.2.2.2.2.2.2.2.2.2.2.2.2.2.1) (fun v154 => (cnd (v153.1 != v154.2.2.2.2.1) (dnO (dnO (some false))) (some (Ctl.go (v137.1, v137.2.1, v153.2.1, v153.2.2.1, v154.1, v154.2.1, v154.2.2.1, v154.2.2.2.1, v137.2.2.2.2.2.2.2.2.2.2.1, v137.2.2.2.2.2.2.2.2.2.2.2.1, v137.2.2.2.2.2.2.2.2.2.2.2.2.1, v137.2.2.2.2.2.2.2.2.2.2.2.2.2.1, v153.2.2.2, v154.2.2.2.2.2, v137.2.2.2.2.2.2.2.2.2.2.2.2.2.2.2.2.2.2.2.2.2.2.1, v137.2.2.2.2.2.2.2.2.2.2.2.2.2.2.2.2.2.2.2.2.2.2.2)))))))) (some (Ctl.go (v137.1, v137.2.1, v137.2.2.2.2.1, v137.2.2.2.2.2.1, v137.2.2.2.2.2.2.1, v137.2.2.2.2.2.2.2.1, v137.2.2.2.2.2.2.2.2.1, v137.2.2.2.2.2.2.2.2.2.1, v137.2.2.2.2.2.2.2.2.2.2.1, v137.2.2.2.2.2.2.2.2.2.2.2.1, v137.2.2.2.2.2.2.2.2.2.2.2.2.1, v137.2.2.2.2.2.2.2.2.2.2.2.2.2.1, v137.2.2.2.2.2.2.2.2.2.2.2.2.2.2.2.2.2.2.2.2.1, v137.2.2.2.2.2.2.2.2.2.2.2.2.2.2.2.2.2.2.2.2.2.1, v137.2.2.2.2.2.2.2.2.2.2.2.2.2.2.2.2.2.2.2.2.2.2.1, v137.2.2.2.2.2.2.2.2.2.2.2.2.2.2.2.2.2.2.2.2.2.2.2)))))))))))) (fun v155 => (bd (α := (List (Int × Int × Int × Int × Int × Int) × Int × Bool × Int × Bool × Int × Bool × Int × Bool × Int × Bool × Int × Bool × List UInt8 × List UInt8 × List (Int × Int × Int × Int) × List (Int × Int × Int × Int))) (bd (α := (List UInt8)) (o23v1 v155.2.2.2.2.2.2.2.2.2.2.2.2.1 v155.2.2.1 v155.2.2.2.1) (fun v162 => (cnd (!(v162 == v155.2.2.2.2.2.2.2.2.2.2.2.2.2.1)) (some (v155.1, v155.2.1, true, v155.2.2.1, v155.2.2.2.1, v155.2.2.2.2.1, v155.2.2.2.2.2.1, v155.2.2.2.2.2.2.1, v155.2.2.2.2.2.2.2.1, v155.2.2.2.2.2.2.2.2.1, v155.2.2.2.2.2.2.2.2.2.1, v155.2.2.2.2.2.2.2.2.2.2.1, v155.2.2.2.2.2.2.2.2.2.2.2.1, v155.2.2.2.2.2.2.2.2.2.2.2.2.1, v155.2.2.2.2.2.2.2.2.2.2.2.2.2.1, v155.2.2.2.2.2.2.2.2.2.2.2.2.2.2.1, v155.2.2.2.2.2.2.2.2.2.2.2.2.2.2.2)) (bd (α := Bool) (o22v1 v155.2.2.2.2.2.2.2.2.2.2.2.2.1 v155.2.2.1 v155.2.2.2.1) (fun v163 => (cnd (!(v163 == v155.2.2.2.2.2.2.2.1)) (some (v155.1, v155.2.1, true, v155.2.2.1, v155.2.2.2.1, v155.2.2.2.2.1, v155.2.2.2.2.2.1, v155.2.2.2.2.2.2.1, v155.2.2.2.2.2.2.2.1, v155.2.2.2.2.2.2.2.2.1, v155.2.2.2.2.2.2.2.2.2.1, v155.2.2.2.2.2.2.2.2.2.2.1, v155.2.2.2.2.2.2.2.2.2.2.2.1, v155.2.2.2.2.2.2.2.2.2.2.2.2.1, v155.2.2.2.2.2.2.2.2.2.2.2.2.2.1, v155.2.2.2.2.2.2.2.2.2.2.2.2.2.2.1, v155.2.2.2.2.2.2.2.2.2.2.2.2.2.2.2)) (bd (α := Int) (o32 v155.2.2.2.2.2.2.2.2.2.2.2.2.1 v155.2.2.1 v155.2.2.2.1) (fun v164 => (cnd (v164 != v155.2.2.2.2.1) (some (v155.1, v155.2.1, true, v155.2.2.1, v155.2.2.2.1, v155.2.2.2.2.1, v155.2.2.2.2.2.1, v155.2.2.2.2.2.2.1, v155.2.2.2.2.2.2.2.1, v155.2.2.2.2.2.2.2.2.1, v155.2.2.2.2.2.2.2.2.2.1, v155.2.2.2.2.2.2.2.2.2.2.1, v155.2.2.2.2.2.2.2.2.2.2.2.1, v155.2.2.2.2.2.2.2.2.2.2.2.2.1, v155.2.2.2.2.2.2.2.2.2.2.2.2.2.1, v155.2.2.2.2.2.2.2.2.2.2.2.2.2.2.1, v155.2.2.2.2.2.2.2.2.2.2.2.2.2.2.2)) (bd (α := (List (Int × Int × Int × Int))) (o19 v155.2.2.2.2.2.2.2.2.2.2.2.2.2.2.1 v155.2.2.2.2.2.2.2.2.1 v155.2.2.2.2.2.2.2.2.2.1 v155.2.2.2.2.2.2.2.2.2.2.2.2.1 v155.2.2.1 v155.2.2.2.1) (fun v165 => (bd (α := Bool) (o18 v165 v155.2.2.2.2.2.2.2.2.2.2.2.2.2.2.2) (fun v166 => (cnd (!v166) (some (v155.1, v155.2.1, true, v155.2.2.1, v155.2.2.2.1, v155.2.2.2.2.1, v155.2.2.2.2.2.1, v155.2.2.2.2.2.2.1, v155.2.2.2.2.2.2.2.1, v155.2.2.2.2.2.2.2.2.1, v155.2.2.2.2.2.2.2.2.2.1, v155.2.2.2.2.2.2.2.2.2.2.1, v155.2.2.2.2.2.2.2.2.2.2.2.1, v155.2.2.2.2.2.2.2.2.2.2.2.2.1, v155.2.2.2.2.2.2.2.2.2.2.2.2.2.1, v155.2.2.2.2.2.2.2.2.2.2.2.2.2.2.1, v155.2.2.2.2.2.2.2.2.2.2.2.2.2.2.2)) (bd (α := Int) (o20 v155.2.2.2.2.2.2.2.2.2.2.2.2.2.2.1 v155.2.2.2.2.2.2.2.2.1 v155.2.2.2.2.2.2.2.2.2.1 v155.2.2.2.2.2.2.2.2.2.2.2.2.1 v155.2.2.1 v155.2.2.2.1) (fun v167 => (some (v155.1, v155.2.1, (v167 != v155.2.2.2.2.2.2.2.2.2.2.1), v155.2.2.1, v155.2.2.2.1, v155.2.2.2.2.1, v155.2.2.2.2.2.1, v155.2.2.2.2.2.2.1, v155.2.2.2.2.2.2.2.1, v155.2.2.2.2.2.2.2.2.1, v155.2.2.2.2.2.2.2.2.2.1, v155.2.2.2.2.2.2.2.2.2.2.1, v155.2.2.2.2.2.2.2.2.2.2.2.1, v155.2.2.2.2.2.2.2.2.2.2.2.2.1, v155.2.2.2.2.2.2.2.2.2.2.2.2.2.1, v155.2.2.2.2.2.2.2.2.2.2.2.2.2.2.1, v155.2.2.2.2.2.2.2.2.2.2.2.2.2.2.2)))))))))))))))))) (fun v168 => (cnd v168.2.2.1 (dnO (some false)) (some (Ctl.go (v168.1, (IntKind.wrap .i64 (v168.2.1 + (1 : Int))), v168.2.2.2.1, v168.2.2.2.2.1, v168.2.2.2.2.2.1, v168.2.2.2.2.2.2.1, v168.2.2.2.2.2.2.2.1, v168.2.2.2.2.2.2.2.2.1, v168.2.2.2.2.2.2.2.2.2.1, v168.2.2.2.2.2.2.2.2.2.2.1, v168.2.2.2.2.2.2.2.2.2.2.2.1, v168.2.2.2.2.2.2.2.2.2.2.2.2.1, v168.2.2.2.2.2.2.2.2.2.2.2.2.2.1, v168.2.2.2.2.2.2.2.2.2.2.2.2.2.2.1, v168.2.2.2.2.2.2.2.2.2.2.2.2.2.2.2.1, v168.2.2.2.2.2.2.2.2.2.2.2.2.2.2.2.2))))))))) (dnO (some true))))))
      (s0 := (acts, 0, -1, false, (s : Int), false, 0, false, 1, false, 1, false, List.replicate (30 * s) 0, List.replicate (30 * s) 0, [], [])) ?_ ?_ (by omega) ⟨false, 0, false, 1, false, _, [], rfl, by decide, h00.len, fun x hx => (by cases hx), by decide, fun h => (by cases h), by show (-9223372036854775808 : Int) ≤ 0; decide, by show (0 : Int) ≤ 9223372036854775807; decide⟩
    · obtain ⟨r, h1, h3⟩ := hL
      rw [h3] at h1
      exact h1
    · rintro i _ hi ⟨ar, lf, off, n, br, d, F, rfl, hn, hd, hF, hl, ho⟩
      have hia : i < acts.length := by omega
      have hx := hA _ (List.getElem_mem hia)
      dsimp only
      rw [cndT (dt (by omega)), dt (show (i : Int) < 24 by omega), bdI]
      dsimp only
      rw [cnd_t, gdT (dt (by omega)), Int.toNat_natCast, getD_of hia]
      generalize acts[i] = x at *
      obtain ⟨x1, x2, x3, x4, x5, x6⟩ := x
      obtain ⟨hx1, hx5, hx6⟩ := hx
      dsimp only at hx1 hx5 hx6 ⊢
      refine jd_ex (G := Alike acts s i (i + 1)) (Q := fun y => ∃ s', y = some (Ctl.go s') ∧ Alike acts s (i + 1) (i + 1) s') ?_ ?_
      · have hκ : Int.tmod x1 9 = 0 ∨ Int.tmod x1 9 = 1 ∨ Int.tmod x1 9 = 2 ∨ Int.tmod x1 9 = 3 ∨ Int.tmod x1 9 = 4 ∨ Int.tmod x1 9 = 5 ∨ Int.tmod x1 9 = 6 ∨ Int.tmod x1 9 = 7 ∨ Int.tmod x1 9 = 8 := by
          rw [Int.tmod_eq_emod_of_nonneg hx1.1]
          omega
        generalize hke : Int.tmod x1 9 = κ at *
        obtain ⟨x6, rfl⟩ : ∃ y : Nat, x6 = (y : Int) := ⟨x6.toNat, by omega⟩
        have e01 : ((0 : Int) == 0) = true := rfl
        rcases hκ with rfl | rfl | rfl | rfl | rfl | rfl | rfl | rfl | rfl
        · obtain ⟨num, e, n', br', ar', lf', off', d', F', hP, hR, q1, q2, q3, q4, q5⟩ := app_both (c := x2) (ph := x3) (t := x4) hn hd h2 h64 hF (by omega) ho
          rw [cndT (eq_t rfl), bdI]
          dsimp only
          rw [cnd_t, bdS hP, bdS hR]
          dsimp only
          rw [cndF (neq_f rfl), neq_f (show e = e from rfl), bdI]
          dsimp only
          rw [cnd_f]
          exact ⟨_, rfl, ar', lf', off', n', br', d', F', rfl, q1, q2, q3, by omega, q5⟩
        · obtain ⟨num, e, n', br', ar', lf', off', d', F', hP, hR, q1, q2, q3, q4, q5⟩ := app_both (c := x2) (ph := x3) (t := x4) hn hd h2 h64 hF (by omega) ho
          rw [cndF (eq_f (by decide)), cndT (eq_t rfl), bdI]
          dsimp only
          rw [cnd_t, bdS hP, bdS hR]
          dsimp only
          rw [cndF (neq_f rfl), neq_f (show e = e from rfl), bdI]
          dsimp only
          rw [cnd_f]
          exact ⟨_, rfl, ar', lf', off', n', br', d', F', rfl, q1, q2, q3, by omega, q5⟩
        · obtain ⟨num, e, n', br', ar', lf', off', d', F', hP, hR, q1, q2, q3, q4, q5⟩ := app_both (c := x2) (ph := x3) (t := x4) hn hd h2 h64 hF (by omega) ho
          rw [cndF (eq_f (by decide)), cndF (eq_f (by decide)), cndT (eq_t rfl), bdI]
          dsimp only
          rw [cnd_t, bdS hP, bdS hR]
          dsimp only
          rw [cndF (neq_f rfl), neq_f (show e = e from rfl), bdI]
          dsimp only
          rw [cnd_f]
          exact ⟨_, rfl, ar', lf', off', n', br', d', F', rfl, q1, q2, q3, by omega, q5⟩
        · obtain ⟨num, e, n', br', ar', lf', off', d', F', hP, hR, q1, q2, q3, q4, q5⟩ := app_both (c := x2) (ph := x3) (t := x4) hn hd h2 h64 hF (by omega) ho
          rw [cndF (eq_f (by decide)), cndF (eq_f (by decide)), cndF (eq_f (by decide)), eq_t (show (3 : Int) = 3 from rfl), bdI]
          dsimp only
          rw [cnd_t, bdS hP, bdS hR]
          dsimp only
          rw [cndF (neq_f rfl), neq_f (show e = e from rfl), bdI]
          dsimp only
          rw [cnd_f]
          exact ⟨_, rfl, ar', lf', off', n', br', d', F', rfl, q1, q2, q3, by omega, q5⟩
        · rw [cndF (eq_f (by decide)), cndF (eq_f (by decide)), cndF (eq_f (by decide)), eq_f (show (4 : Int) ≠ 3 by decide), bdI]
          dsimp only
          rw [cnd_f, cndT (eq_t rfl), bdS o15_enc, bdS o28_eq]
          refine ⟨_, rfl, true, maxI x5 0, off, n, br, d, F, rfl, hn, hd, hF, by omega, fun _ => ?_, ?_, ?_⟩
          · show 0 ≤ maxI x5 0
            unfold maxI; split <;> omega
          · show -9223372036854775808 ≤ maxI x5 0
            have := hx5.1
            unfold maxI; split <;> omega
          · show maxI x5 0 ≤ 9223372036854775807
            have := hx5.2
            unfold maxI; split <;> omega
        · rw [cndF (eq_f (by decide)), cndF (eq_f (by decide)), cndF (eq_f (by decide)), eq_f (show (5 : Int) ≠ 3 by decide), bdI]
          dsimp only
          rw [cnd_f, cndF (eq_f (by decide)), cndT (eq_t rfl), bdI]
          dsimp only
          rw [cnd_t, hke, cndT (eq_t rfl)]
          unfold o17 o29
          simp only [bdI]
          obtain ⟨n', F', hP, hR, q1, q2, q3⟩ := open_both (a := -1) (ar := false) (lf := 0) hd h2 h64
          rw [bdS hP]
          simp only [smR, bdI]
          rw [bdS hR]
          dsimp only
          rw [cndF (neq_f rfl), bdI]
          dsimp only
          rw [cndF (c := !((false : Bool) == false)) rfl]
          exact ⟨_, rfl, false, 0, false, n', false, d, F', rfl, q1, hd, q2, by omega, fun h => (by cases h), by show (-9223372036854775808 : Int) ≤ 0; decide, by show (0 : Int) ≤ 9223372036854775807; decide⟩
        · obtain ⟨e, br', ar', lf', off', d', F', hP, hR, q1, q2, q3⟩ := clear_both (n := n) (br := br) (F := F) hd (by omega) h64 ho
          rw [cndF (eq_f (by decide)), cndF (eq_f (by decide)), cndF (eq_f (by decide)), eq_f (show (6 : Int) ≠ 3 by decide), bdI]
          dsimp only
          rw [cnd_f, cndF (eq_f (by decide)), cndF (eq_f (by decide)), eq_f (show (6 : Int) ≠ 8 by decide), bdI]
          dsimp only
          rw [cnd_f, cndT (eq_t rfl), bdS hP, bdS hR]
          dsimp only
          rw [cndF (neq_f rfl)]
          refine ⟨_, rfl, ar', lf', off', n, br', d', F', rfl, hn, q1, ?_, ?_, q3⟩
          · rcases q2 with rfl | rfl
            · exact hF
            · intro x hx; cases hx
          · rcases q2 with rfl | rfl
            · omega
            · simp only [List.length_nil]; omega
        · obtain ⟨e, d', hP, hR, q1⟩ := flip_both (bit := x5) (a := encR ar lf) (lf := lf) (pat := x6) (ar := ar) (off := off) (by omega) hd h64 hx5
          rw [cndF (eq_f (by decide)), cndF (eq_f (by decide)), cndF (eq_f (by decide)), eq_f (show (7 : Int) ≠ 3 by decide), bdI]
          dsimp only
          rw [cnd_f, cndF (eq_f (by decide)), cndF (eq_f (by decide)), eq_f (show (7 : Int) ≠ 8 by decide), bdI]
          dsimp only
          rw [cnd_f, cndF (eq_f (by decide)), cndT (eq_t rfl), bdS hP, bdS hR]
          dsimp only
          rw [cndF (neq_f rfl)]
          exact ⟨_, rfl, ar, lf, off, n, br, d', F, rfl, hn, q1, hF, by omega, ho.1, ho.2⟩
        · rw [cndF (eq_f (by decide)), cndF (eq_f (by decide)), cndF (eq_f (by decide)), eq_f (show (8 : Int) ≠ 3 by decide), bdI]
          dsimp only
          rw [cnd_f, cndF (eq_f (by decide)), cndF (eq_f (by decide)), eq_t (show (8 : Int) = 8 from rfl), bdI]
          dsimp only
          rw [cnd_t, hke, cndF (eq_f (by decide)), bdI]
          dsimp only
          cases off with
          | true =>
            rw [bdS (o13_off _ _)]
            simp only [smL, bdI]
            rw [bdS (o26_off _ _ _ _)]
            dsimp only
            rw [cndF (neq_f rfl), bdI]
            dsimp only
            rw [cndF (c := !((true : Bool) == true)) rfl]
            exact ⟨_, rfl, ar, lf, true, n, br, d, F, rfl, hn, hd, hF, by omega, ho⟩
          | false =>
            obtain ⟨n', F', hP, hR, q1, q2, q3⟩ := open_both (a := encR ar lf) (ar := ar) (lf := lf) hd h2 h64
            rw [bdS hP]
            simp only [smR, bdI]
            rw [bdS hR]
            dsimp only
            rw [cndF (neq_f rfl), bdI]
            dsimp only
            rw [cndF (c := !((false : Bool) == false)) rfl]
            exact ⟨_, rfl, ar, lf, false, n', false, d, F', rfl, q1, hd, q2, by omega, ho⟩
      · rintro _ ⟨ar, lf, off, n, br, d, F, rfl, hn, hd, hF, hl, ho⟩
        refine ⟨(acts, ((i + 1 : Nat) : Int), encR ar lf, off, (s : Int), ar, lf, off, n, br, n, br, d, d, F, F), ?_, ar, lf, off, n, br, d, F, rfl, hn, hd, hF, hl, ho⟩
        unfold o23v1 o22v1 o20
        dsimp only
        rw [bdS (o47_eq (by omega)), bdI, beq_self_eq_true, cndF (c := !true) rfl, bdI, beq_self_eq_true, cndF (c := !true) rfl, bdS (o32_eq _ _ hd (by omega)), cndF (neq_f rfl), bdS (o19_eq (by omega)), bdS (same_refl (by omega)), cndF (c := !true) rfl, bdI, neq_f rfl, bdI]
        dsimp only
        rw [cnd_f, wr64 (by omega)]
        rfl
    · rintro _ ⟨ar, lf, off, n, br, d, F, rfl, hn, hd, hF, hl, ho⟩
      refine ⟨true, ?_, rfl⟩
      dsimp only
      by_cases h : (min 24 acts.length : Nat) < acts.length
      · rw [cndT (dt (by omega)), df (show ¬ ((min 24 acts.length : Nat) : Int) < 24 by omega), bdI]
        rfl
      · rw [cndF (df (by omega)), bdI]
        rfl
theorem repAct {p : Psi} {cs : List Value} {x : Int × Int × Int × Int × Int × Int} (h : (Cd.ty (.p (.i .u8) (.p (.i .i64) (.p (.i .u8) (.p (.i .i64) (.p (.i .i64) (.i .u32))))))).rep p cs x) : inK .u8 x.1 ∧ inK .i64 x.2.1 ∧ inK .u8 x.2.2.1 ∧ inK .i64 x.2.2.2.1 ∧ inK .i64 x.2.2.2.2.1 ∧ inK .u32 x.2.2.2.2.2 := by
  obtain ⟨c1, c2, rfl, ⟨rfl, h1⟩, d1, d2, rfl, ⟨rfl, h2⟩, e1, e2, rfl, ⟨rfl, h3⟩, f1, f2, rfl, ⟨rfl, h4⟩, g1, g2, rfl, ⟨rfl, h5⟩, ⟨rfl, h6⟩⟩ := h
  exact ⟨h1, h2, h3, h4, h5, h6⟩
theorem plays_law {p : Psi} {A : Option Addr} {c : Nat} {slots : Int} {xs : List Act} (h : Arr p (Cd.ty (.p (.i .u8) (.p (.i .i64) (.p (.i .u8) (.p (.i .i64) (.p (.i .i64) (.i .u32))))))) A c xs) : o8 slots xs = some true :=
  plays_plain slots xs h.len fun x hx => by
    obtain ⟨i, hi, rfl⟩ := List.mem_iff_getElem.1 hx
    obtain ⟨_, _, _, hr, _⟩ := h.at_ (List.getElem?_eq_getElem hi)
    obtain ⟨h1, h2, h3, h4, h5, h6⟩ := repAct hr
    have h1 : 0 ≤ xs[i].1 ∧ xs[i].1 ≤ 255 := ⟨h1.1, h1.2⟩
    have h6 : 0 ≤ xs[i].2.2.2.2.2 ∧ xs[i].2.2.2.2.2 ≤ 4294967295 := ⟨h6.1, h6.2⟩
    exact ⟨h1, ⟨h5.1, h5.2⟩, h6.1, by omega⟩
end Go.Proofs.YtnkmijidneibnaaDoor
namespace Go.Proofs.YtnkmijidneibnaaDoor
set_option linter.unusedVariables false
set_option linter.unusedSimpArgs false
open Go.RowKit
theorem slots_of {g : Gh} {ρ : Env} {bl : List BV} : ∀ {l : List SV} {vs : List Value} (i : Nat), All2 (RealS g ρ bl) l vs → ∀ t sv, getH (argH i l) t = some sv → ∃ v, getS (argS i vs) t = some v ∧ RealS g ρ bl sv v
  | [], [], i, _, t, sv, e => by cases e
  | s :: l, v :: vs, i, h, t, sv, e => by
    have e : cond (Nat.beq i t) (some s) (getH (argH (i + 1) l) t) = some sv := e
    show ∃ u, cond (Nat.beq i t) (some v) (getS (argS (i + 1) vs) t) = some u ∧ _
    cases hb : Nat.beq i t with
    | true => rw [hb] at e; injection e with e; subst e; exact ⟨v, rfl, h.1⟩
    | false => rw [hb] at e; exact slots_of (i + 1) h.2 t sv e
  | [], _ :: _, _, h, _, _, _ => h.elim
  | _ :: _, [], _, h, _, _, _ => h.elim
def r0 : List Sch := [⟨[(0, .v (.c .b))], []⟩]
theorem law_of_fok {P : Program} {f : FuncId} {ps : Sch} {run : HL ps.lv → Option Bool} (h : FOk P f ⟨ps, r0, run⟩) {t : HL ps.lv} (hr : run t = some true) (l : List SV) (hc : conT ps t = some ⟨argH 0 l, []⟩) {W : World} (hW : GI (psiOf W)) {vs : List Value}
    (hv : All2 (RealS (gh0 W) (fun _ => (none, 0)) []) l vs) (hl : vs.length = ps.sl.length) : Calls P f vs.toArray W fun e w' => e = .returned (.bool true) ∧ Below W.heap.size W w' := by
  have hR : Rl (gh0 W) (fun _ => (none, 0)) ⟨argH 0 l, []⟩ [] (argS 0 vs) := ⟨rfl, fun i bv k e => (by cases e), fun t sv e => slots_of 0 hv t sv e, hW⟩
  refine law_of_ctr (P := P) (f := f) (args := vs) ((h t true _ hr hc (gh0 W) _ [] vs hR hl).mono fun v ψ o hle ⟨str, ρ', h1, h2, h3, h4⟩ => ?_)
  have e : altC r0 true = some ⟨[(0, vC (.bool true))], []⟩ := rfl
  have h1 : altC r0 true = some str := h1
  rw [e] at h1
  injection h1 with h1; subst h1
  obtain ⟨u, h5, h6⟩ := h3.slot 0 _ rfl
  injection h5 with h5
  have h6 : u = .bool true := h6
  have hlen : o.length = 0 := h3.len
  exact ⟨List.length_eq_zero_iff.1 hlen, by rw [h5, h6]⟩
section
variable {P : Program} {t : TypeId}
theorem opIR {k : IntKind} (ht : P.underlying t = some (.int k)) : Opens P t (tyIR k) (fun _ => True) := fun h hw => by
  obtain ⟨x, h1, h2⟩ := opens_int ht h hw
  exact ⟨x, ⟨h1, h2⟩, trivial⟩
end
end Go.Proofs.YtnkmijidneibnaaDoor
namespace Go.Proofs.YtnkmijidneibnaaDoor
set_option linter.unusedVariables false
set_option linter.unusedSimpArgs false
open Go.RowKit Go.WideShapes Go.ChangeShapes Go.ChangeAt
def laidU : List (String × DataW Unit) := Rows.maintlogNilRow.laid
theorem door_met (os : Os) (args : Array Value) : laidMetH Tryd.prog laidU ((World.doorLaid Tryd.prog 400 os).forCall (fun _ _ => 0) ⟨#[], args, []⟩).memory :=
  laidMetH_of_parts3 (fuel := 8) (laidMet_of_run' 8 (by kernel_rfl) (by kernel_rfl)) (by kernel_rfl) (by kernel_rfl)
theorem gw_of_laid {W : World} (h : laidMetH Tryd.prog laidU W) : GW W := by
  rw [MakeChecks.laidMetH_plain _ _ _ (by kernel_rfl)] at h
  have e : laidU = [("math/bits.deBruijn32tab", Rows.laid_math_bits_deBruijn32tab), ("math/bits.deBruijn64tab", Rows.laid_math_bits_deBruijn64tab), ("internal/strconv.uint64pow10", Lib.tabData .u64 Lib.pow10Tab)] := by kernel_rfl
  rw [e] at h
  exact Lib.tabIs_of_head (g := 0) (t := 153) (e := 38) (n := 20) (by kernel_rfl) (by kernel_rfl) Tryd.underlying153 Tryd.underlying38 (by kernel_rfl) (by kernel_rfl) h.tail.tail
theorem gw_mono {W w : World} (h : GW W) (k : (psiOf W).In w) : GW w := by
  unfold GW Lib.TabIs World.var? at h ⊢
  rw [Option.bind_eq_some_iff] at h ⊢
  obtain ⟨g, h1, h2⟩ := h
  refine ⟨g, h1, ?_⟩
  cases e : W.heap[g]? with
  | none => rw [e] at h2; cases h2
  | some o => rw [k.m g o e]; rw [e] at h2; exact h2
theorem gi_of {W : World} (h : laidMetH Tryd.prog laidU W) : GI (psiOf W) := fun w k => gw_mono (gw_of_laid h) k
end Go.Proofs.YtnkmijidneibnaaDoor
namespace Go.Proofs.YtnkmijidneibnaaDoor
set_option linter.unusedVariables false
set_option linter.unusedSimpArgs false
set_option maxRecDepth 100000
open Go.RowKit Go.WideShapes Go.ChangeShapes Go.ChangeAt
theorem opH24 : Opens Tryd.prog 24 (Cd.ty (.p (.i .u8) (.p (.i .i64) (.p (.i .u8) (.p (.i .i64) (.p (.i .i64) (.i .u32))))))) (fun _ => True) := by
  intro H enc w base spare held fuel cs d pl h hw
  obtain ⟨hlen, hf⟩ := struct_fields Tryd.underlying24 h hw
  rw [show Tryd.prog.cellsOf 24 = 6 by kernel_rfl] at hlen
  match cs, hlen with
  | [c0, c1, c2, c3, c4, c5], _ =>
    obtain ⟨n0, d0, p0, h0, w0⟩ := hf 0 _ rfl
    simp [show Tryd.prog.cellsOf 5 = 1 by kernel_rfl] at h0
    obtain ⟨x0, r0, _⟩ := (opIR Tryd.underlying5) h0 w0
    obtain ⟨n1, d1, p1, h1, w1⟩ := hf 1 _ rfl
    simp [show Tryd.prog.cellsOf 2 = 1 by kernel_rfl] at h1
    obtain ⟨x1, r1, _⟩ := (opIR Tryd.underlying2) h1 w1
    obtain ⟨n2, d2, p2, h2, w2⟩ := hf 2 _ rfl
    simp [show Tryd.prog.cellsOf 5 = 1 by kernel_rfl] at h2
    obtain ⟨x2, r2, _⟩ := (opIR Tryd.underlying5) h2 w2
    obtain ⟨n3, d3, p3, h3, w3⟩ := hf 3 _ rfl
    simp [show Tryd.prog.cellsOf 2 = 1 by kernel_rfl] at h3
    obtain ⟨x3, r3, _⟩ := (opIR Tryd.underlying2) h3 w3
    obtain ⟨n4, d4, p4, h4, w4⟩ := hf 4 _ rfl
    simp [show Tryd.prog.cellsOf 3 = 1 by kernel_rfl] at h4
    obtain ⟨x4, r4, _⟩ := (opIR Tryd.underlying3) h4 w4
    obtain ⟨n5, d5, p5, h5, w5⟩ := hf 5 _ rfl
    simp [show Tryd.prog.cellsOf 22 = 1 by kernel_rfl] at h5
    obtain ⟨x5, r5, _⟩ := (opIR Tryd.underlying22) h5 w5
    exact ⟨(x0, x1, x2, x3, x4, x5), ⟨[c0], [c1] ++ [c2] ++ [c3] ++ [c4] ++ [c5], rfl, r0, ⟨[c1], [c2] ++ [c3] ++ [c4] ++ [c5], rfl, r1, ⟨[c2], [c3] ++ [c4] ++ [c5], rfl, r2, ⟨[c3], [c4] ++ [c5], rfl, r3, ⟨[c4], [c5], rfl, r4, r5⟩⟩⟩⟩⟩, trivial⟩
theorem maintlogPlays_lifted (os : Os) (started : os.Started) (H : Type) (enc : TypeId × Value → H) :
    ReturnsInHanded {} Tryd.checked os 8 .any (fun w args => (Rows.maintlogPlaysSpec.pre enc Tryd.prog Tryd.f8 [] false w args ∧ laidMetH Tryd.prog laidU w) ∧ sizedMet enc Tryd.prog Tryd.f8 (OpenSpec.ofChange Rows.maintlogPlaysSpec) false w args) (Rows.maintlogPlaysSpec.post enc Tryd.prog Tryd.f8 false true false false) := by
  refine returnsInHanded_of_change_and (C := Tryd.checked) (X := fun w _ => laidMetH Tryd.prog laidU w) (fun _ _ _ hh h => h.of_heap hh) Tryd.own started (by kernel_rfl) Tryd.func8
    (ChangeSpec.witness_shaped (enc := enc) (C := Tryd.checked) (os := os) (X := fun w _ => laidMetH Tryd.prog laidU w) false (World.doorLaid Tryd.prog 400 os) #[.int .i64 0, .slice none 0 0] 8 rfl (World.shaped_of_RefB (by kernel_rfl) (by kernel_rfl)) (by kernel_rfl) (by kernel_rfl) (by kernel_rfl) (door_met os _)) ?_
  intro W base args ds gs before hval0 hW hcnd hsz0 hL _
  have hval : ∀ (j : Nat) t v, Tryd.f8.params[j]? = some t → args[j]? = some v → Value.okWide Tryd.prog W .any base t v := hval0
  have hW' := hW
  obtain ⟨p, q, hA0, hV, rfl, hfz, hnd⟩ := hW
  have hA : DataW.TrodAll enc Tryd.prog W 0 (fun _ => true) true Tryd.f8.params.toList args.toList ds p := hA0
  have hA1 := hA
  rw [Tryd.params8] at hA hval
  obtain ⟨v0, vs0, d0, ds0, p0, q0, hargs, rfl, rfl, h0, r0⟩ := trodAll_cons hA
  obtain ⟨v1, vs1, d1, ds1, p1, q1, rfl, rfl, rfl, h1, r1⟩ := trodAll_cons r0
  obtain ⟨rfl, rfl, rfl⟩ := trodAll_nil r1
  obtain rfl : args = #[v0, v1] := by cases args; simp_all
  obtain ⟨rfl, rfl⟩ := trodVars_none hV
  have hsz : ∀ m ∈ DataW.weightsEach Tryd.prog [3, 54] [d0, d1], m ≤ reachBytes := fun m hm => by
    have h9 : (DataW.weightsEach Tryd.prog (Tryd.f8.params.toList ++ []) ([d0, d1] ++ [])).all (· ≤ reachBytes) = true := hsz0
    rw [Tryd.params8, List.append_nil, List.append_nil] at h9
    have := List.all_eq_true.1 h9 m hm
    simpa using this
  obtain ⟨x0, rfl, rfl, rfl, w0⟩ := open_int Tryd.underlying3 (hval 0 3 v0 rfl rfl) h0
  have k0 := lit_wf w0
  obtain ⟨B1, n1, e1, rfl⟩ := okWide_slice Tryd.underlying54 (hval 1 54 v1 rfl rfl)
  obtain ⟨f1, g1⟩ := h1
  obtain ⟨x1, ⟨A1, c1, z1, fl1⟩, k1⟩ := (opens_sized 48 (by kernel_rfl) opH24 Tryd.underlying54 (by kernel_rfl) (by kernel_rfl)) g1 (fun m hm => hsz m (DataW.weights_mem_each (j := 1) rfl rfl m hm))
  obtain ⟨rfl, rfl, rfl⟩ : B1 = A1 ∧ n1 = x1.length ∧ e1 = c1 := by simpa [Value.cells] using z1
  simp only [List.append_nil] at hW' hA1
  have hrun := law_of_fok fo8 (t := (x0, x1)) ((plays_law fl1)) [vC (.int .i64 x0), vC (.ro (.p (.i .u8) (.p (.i .i64) (.p (.i .u8) (.p (.i .i64) (.p (.i .i64) (.i .u32)))))) x1 false)] rfl (W := W) (gi_of hL) (vs := [_, _]) (⟨⟨rfl, k0⟩, ⟨B1, e1, rfl, Arr.toM fl1 (.refl _)⟩, trivial⟩) rfl
  refine hrun.mono fun e W' ⟨he, hg⟩ => ?_
  subst he
  exact ⟨_, rfl, law_post Tryd.laidOut (by intro t ht; simp only [Tryd.params8] at ht; revert t; decide +kernel) rfl rfl Tryd.underlying4 rfl hW' hA1 hg⟩
theorem maintlogPlays_holds : Rows.MaintlogPlaysSaid :=
  OpenClaim.holds_of_wide 8 Tryd.f8 rfl rfl rfl rfl rfl rfl rfl ⟨rfl, rfl, rfl, rfl, rfl⟩ rfl rfl rfl rfl rfl (by kernel_rfl) Tryd.func8 (by kernel_rfl)
    (of_decide_eq_true (by kernel_rfl)) (by unfold Func.isWrapper; first | (rw [if_pos (by decide +kernel)]; kernel_rfl) | (rw [if_neg (by decide +kernel)]; exact ⟨rfl, rfl⟩))
    (fun os started H enc _ => maintlogPlays_lifted os started H enc)
theorem maintlogPlays_card : Rows.MaintlogPlaysCardSaid :=
  Claim7.holds_tied_plain_at .later [] [.data, .data, .data] true (true, "832b923533147a2e716e87db4360d74f12a86c126f950c923bbe595a342cd697") false
    maintlogPlays_holds (fun _ h => by cases h) (by kernel_rfl) (fun _ h => by cases h) maintlogPlays_row_tie rfl ⟨rfl, rfl⟩ (by kernel_rfl) rfl
    (fun f fn hf hfn => by
      obtain rfl : f = 8 := Option.some.inj ((show Tryd.prog.funcNamed Tryd.f8.name = some 8 by kernel_rfl).symm.trans hf) |>.symm
      obtain rfl : fn = Tryd.f8 := (Option.some.inj (Tryd.func8.symm.trans hfn)).symm
      exact ⟨by kernel_rfl, fun j t ht => by
        rw [Tryd.params8] at ht
        have hm : t ∈ [3, 54] := by simpa using Array.mem_of_getElem? ht
        have hall : ([3, 54].all fun u => !Tryd.prog.wantsStandIn u) = true := by kernel_rfl
        exact (show Tryd.prog.wantsStandIn t = false by simpa using List.all_eq_true.1 hall t hm)⟩)
    (by kernel_rfl)
end Go.Proofs.YtnkmijidneibnaaDoor
