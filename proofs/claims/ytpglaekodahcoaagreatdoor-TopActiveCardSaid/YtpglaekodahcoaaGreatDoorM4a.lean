/-
What functions compute, printed by wip/h/py. Conditions: each theorem's own.
-/
import Derived.Test.YtpglaekodahcoaaGreatDoorM3
import Derived.Test.YtpglaekodahcoaaGreatDoorProg
namespace Go.Proofs.YtpglaekodahcoaaGreatDoor
set_option linter.unusedVariables false
set_option linter.unusedSimpArgs false
set_option maxRecDepth 100000
open Go.RowKit
abbrev T0 : Tbl := []
theorem K0 : TOk Tryz.prog T0 := .nil
noncomputable section
def T1 : Tbl := (286, ⟨p286, rI, fun t => (o286 t.1 t.2)⟩) :: T0
theorem K1 : TOk Tryz.prog T1 := .cons K0 fo286
def T2 : Tbl := (174, ⟨p174, rI, fun t => (o174 t.1 t.2)⟩) :: T1
theorem K2 : TOk Tryz.prog T2 := .cons K1 fo174
def T3 : Tbl := (204, ⟨p204, rI, fun t => (o204 t.1 t.2)⟩) :: T2
theorem K3 : TOk Tryz.prog T3 := .cons K2 fo204
def T4 : Tbl := (53, ⟨p53, rS, fun t => (o53 t.1 t.2)⟩) :: T3
theorem K4 : TOk Tryz.prog T4 := .cons K3 fo53
def o253_s0 : Sch := ⟨[(0, .v (.c (.s))), (1, .v (.c (.s))), (5, .v (.c (.i .i64))), (16, .v (.c (.b)))], []⟩
def p253 : Sch := ⟨[(0, .v (.c (.s))), (1, .v (.c (.s)))], []⟩
def r253 : List Sch := [⟨[(0, .v (.c (.i .i64)))], []⟩]
def o253 (a0 : List UInt8) (a1 : List UInt8) : Option Int :=
 (bd (α := ((List UInt8 × List UInt8) × Int × Bool)) (cnd (((a1.length : Nat) : Int) == (0 : Int)) (some ((a0, a1), ((a1.length : Nat) : Int), true)) (some ((a0, a1), ((a1.length : Nat) : Int), (a1 == a0)))) (fun v1 => (cnd v1.2.2 (some (0 : Int)) (cnd (v1.2.1 == (1 : Int)) (gd (decide ((0 : Int) ≤ (0 : Int) ∧ (0 : Int) < ((v1.1.2.length : Nat) : Int))) (bd (α := Int) (o286 v1.1.1 (((List.getD v1.1.2 (0 : Int).toNat 0).toNat : Nat) : Int)) (fun v2 => (some v2)))) (cnd (decide (v1.2.1 ≥ ((v1.1.1.length : Nat) : Int))) (some (-1 : Int)) none)))))
def h253 : HC := (.s .d (.s .d (.s (.b (.s (.j false [o253_s0] .d) (.c .d (.s .d (.c .d (.s .d (.c .d .cut))))))) .d)))
theorem e253 (t : List UInt8 × List UInt8) : evF (stpT Tryz.prog T4 K4) Tryz.f253 p253 r253 h253 t = (o253 t.1 t.2) := by kernel_rfl
theorem fo253 : FOk Tryz.prog 253 ⟨p253, r253, fun t => (o253 t.1 t.2)⟩ := FOk.run_eq (evF_ok (h := h253) (by kernel_rfl) (by kernel_rfl) (by kernel_rfl)) e253
def T5 : Tbl := (253, ⟨p253, r253, fun t => (o253 t.1 t.2)⟩) :: T4
theorem K5 : TOk Tryz.prog T5 := .cons K4 fo253
def p205 : Sch := ⟨[(0, .v (.c (.s))), (1, .v (.c (.s)))], []⟩
def r205 : List Sch := [⟨[(0, .v (.c (.i .i64)))], []⟩]
def o205 (a0 : List UInt8) (a1 : List UInt8) : Option Int :=
 (bd (α := Int) (o253 a0 a1) (fun v1 => (some v1)))
theorem e205 (t : List UInt8 × List UInt8) : evF (stpT Tryz.prog T5 K5) Tryz.f205 p205 r205 .d t = (o205 t.1 t.2) := by kernel_rfl
theorem fo205 : FOk Tryz.prog 205 ⟨p205, r205, fun t => (o205 t.1 t.2)⟩ := FOk.run_eq (evF_ok (h := .d) (by kernel_rfl) (by kernel_rfl) (by kernel_rfl)) e205
def T6 : Tbl := (205, ⟨p205, r205, fun t => (o205 t.1 t.2)⟩) :: T5
theorem K6 : TOk Tryz.prog T6 := .cons K5 fo205
abbrev Ty9ed45e : Type := (List UInt8 × List UInt8 × Int) × Int × Int × List (List UInt8)
def o152_s0 : Sch := ⟨[(0, .v (.c (.s))), (1, .v (.c (.s))), (2, .v (.c (.i .i64))), (3, .v (.c (.i .i64))), (9, .v (.c (.own 0))), (10, .v (.c (.i .i64)))], [.row .s 9]⟩
def o152_s1 : Sch := ⟨[(0, .v (.c (.s))), (9, .v (.c (.own 0))), (10, .v (.c (.i .i64)))], [.row .s 9]⟩
def o152_s2 : Sch := ⟨[(0, .v (.c (.s))), (1, .v (.c (.s))), (2, .v (.c (.i .i64))), (3, .v (.c (.i .i64)))], []⟩
def p152 : Sch := ⟨[(0, .v (.c (.s))), (1, .v (.c (.s))), (2, .v (.c (.i .i64))), (3, .v (.c (.i .i64)))], []⟩
def r152 : List Sch := [⟨[(0, .v (.c (.own 0)))], [.row .s 9]⟩]
def o152 (a0 : List UInt8) (a1 : List UInt8) (a2 : Int) (a3 : Int) : Option (List (List UInt8)) :=
 (cnd (a3 == (0 : Int)) (some ([] : List (List UInt8))) (cnd (a1 == ([] : List UInt8)) none (bd (α := ((List UInt8 × List UInt8) × Int × Int)) (cnd (decide (a3 < (0 : Int))) (bd (α := Int) (o204 a0 a1) (fun v1 => (some ((a0, a1), a2, (IntKind.wrap .i64 (v1 + (1 : Int))))))) (some ((a0, a1), a2, a3))) (fun v2 => (gd (decide ((0 : Int) ≤ (minI v2.2.2 (IntKind.wrap .i64 (((v2.1.1.length : Nat) : Int) + (1 : Int)))) ∧ (minI v2.2.2 (IntKind.wrap .i64 (((v2.1.1.length : Nat) : Int) + (1 : Int)))) * (16 : Int) ≤ (140737488355328 : Int))) (bd (α := (List UInt8 × Int × List (List UInt8))) (loopO (σ := Ty9ed45e) fuelN (fun (v4 : Ty9ed45e) => (cnd (decide (v4.2.2.1 < v4.2.1)) (bd (α := Int) (o205 v4.1.1 v4.1.2.1) (fun v5 => (cnd (decide (v5 < (0 : Int))) (dnO (some (v4.1.1, v4.2.2))) (gd (decide ((0 : Int) ≤ (IntKind.wrap .i64 (v5 + v4.1.2.2)) ∧ (IntKind.wrap .i64 (v5 + v4.1.2.2)) ≤ ((v4.1.1.length : Nat) : Int))) (gd (decide ((0 : Int) ≤ v4.2.2.1 ∧ v4.2.2.1 < ((v4.2.2.2.length : Nat) : Int))) (gd (decide ((0 : Int) ≤ (IntKind.wrap .i64 (v5 + ((v4.1.2.1.length : Nat) : Int))) ∧ (IntKind.wrap .i64 (v5 + ((v4.1.2.1.length : Nat) : Int))) ≤ ((v4.1.1.length : Nat) : Int))) (some (Ctl.go (((List.drop (IntKind.wrap .i64 (v5 + ((v4.1.2.1.length : Nat) : Int))).toNat v4.1.1), v4.1.2), v4.2.1, (IntKind.wrap .i64 (v4.2.2.1 + (1 : Int))), (List.set v4.2.2.2 v4.2.2.1.toNat (List.take (IntKind.wrap .i64 (v5 + v4.1.2.2)).toNat v4.1.1))))))))))) (dnO (some (v4.1.1, v4.2.2))))) ((v2.1.1, v2.1.2, v2.2.1), (IntKind.wrap .i64 ((minI v2.2.2 (IntKind.wrap .i64 (((v2.1.1.length : Nat) : Int) + (1 : Int)))) - (1 : Int))), (0 : Int), (List.replicate (minI v2.2.2 (IntKind.wrap .i64 (((v2.1.1.length : Nat) : Int) + (1 : Int)))).toNat ([] : List UInt8)))) (fun v6 => (gd (decide ((0 : Int) ≤ v6.2.1 ∧ v6.2.1 < ((v6.2.2.length : Nat) : Int))) (gd (decide ((0 : Int) ≤ (IntKind.wrap .i64 (v6.2.1 + (1 : Int))) ∧ (IntKind.wrap .i64 (v6.2.1 + (1 : Int))) ≤ (((List.set v6.2.2 v6.2.1.toNat v6.1).length : Nat) : Int))) (some (List.take ((IntKind.wrap .i64 (v6.2.1 + (1 : Int))).toNat) (List.set v6.2.2 v6.2.1.toNat v6.1))))))))))))
def h152 : HC := (.s .d (.s .d (.s (.s .d (.c .cut .d)) (.j false [o152_s2] (.s .d (.s .d (.s .d (.s .d (.s .d (.j false [o152_s1] (.s (.b (.l [o152_s0] .d)) .d)))))))))))
theorem e152 (t : (List UInt8 × List UInt8) × Int × Int) : evF (stpT Tryz.prog T6 K6) Tryz.f152 p152 r152 h152 t = (o152 t.1.1 t.1.2 t.2.1 t.2.2) := by kernel_rfl
theorem fo152 : FOk Tryz.prog 152 ⟨p152, r152, fun t => (o152 t.1.1 t.1.2 t.2.1 t.2.2)⟩ := FOk.run_eq (evF_ok (h := h152) (by kernel_rfl) (by kernel_rfl) (by kernel_rfl)) e152
def T7 : Tbl := (152, ⟨p152, r152, fun t => (o152 t.1.1 t.1.2 t.2.1 t.2.2)⟩) :: T6
theorem K7 : TOk Tryz.prog T7 := .cons K6 fo152
def p92 : Sch := ⟨[(0, .v (.c (.s))), (1, .v (.c (.s)))], []⟩
def r92 : List Sch := [⟨[(0, .v (.c (.own 0)))], [.row .s 9]⟩]
def o92 (a0 : List UInt8) (a1 : List UInt8) : Option (List (List UInt8)) :=
 (bd (α := (List (List UInt8))) (o152 a0 a1 (0 : Int) (-1 : Int)) (fun v1 => (some v1)))
theorem e92 (t : List UInt8 × List UInt8) : evF (stpT Tryz.prog T7 K7) Tryz.f92 p92 r92 .d t = (o92 t.1 t.2) := by kernel_rfl
theorem fo92 : FOk Tryz.prog 92 ⟨p92, r92, fun t => (o92 t.1 t.2)⟩ := FOk.run_eq (evF_ok (h := .d) (by kernel_rfl) (by kernel_rfl) (by kernel_rfl)) e92
def T8 : Tbl := (92, ⟨p92, r92, fun t => (o92 t.1 t.2)⟩) :: T7
theorem K8 : TOk Tryz.prog T8 := .cons K7 fo92
def p206 : Sch := ⟨[(0, .v (.c (.s))), (1, .v (.c (.s)))], []⟩
def r206 : List Sch := [⟨[(0, .tup [.c (.s), .c (.s), .c (.b)])], []⟩]
def o206 (a0 : List UInt8) (a1 : List UInt8) : Option (List UInt8 × List UInt8 × Bool) :=
 (bd (α := Int) (o253 a0 a1) (fun v1 => (cnd (decide (v1 ≥ (0 : Int))) (gd (decide ((0 : Int) ≤ v1 ∧ v1 ≤ ((a0.length : Nat) : Int))) (gd (decide ((0 : Int) ≤ (IntKind.wrap .i64 (v1 + ((a1.length : Nat) : Int))) ∧ (IntKind.wrap .i64 (v1 + ((a1.length : Nat) : Int))) ≤ ((a0.length : Nat) : Int))) (some ((List.take v1.toNat a0), (List.drop (IntKind.wrap .i64 (v1 + ((a1.length : Nat) : Int))).toNat a0), true)))) (some (a0, ([] : List UInt8), false)))))
theorem e206 (t : List UInt8 × List UInt8) : evF (stpT Tryz.prog T8 K8) Tryz.f206 p206 r206 .d t = (o206 t.1 t.2) := by kernel_rfl
theorem fo206 : FOk Tryz.prog 206 ⟨p206, r206, fun t => (o206 t.1 t.2)⟩ := FOk.run_eq (evF_ok (h := .d) (by kernel_rfl) (by kernel_rfl) (by kernel_rfl)) e206
def T9 : Tbl := (206, ⟨p206, r206, fun t => (o206 t.1 t.2)⟩) :: T8
theorem K9 : TOk Tryz.prog T9 := .cons K8 fo206
def p153 : Sch := ⟨[(0, .v (.c (.s))), (1, .v (.c (.s)))], []⟩
def r153 : List Sch := [⟨[(0, .tup [.c (.s), .c (.s), .c (.b)])], []⟩]
def o153 (a0 : List UInt8) (a1 : List UInt8) : Option (List UInt8 × List UInt8 × Bool) :=
 (bd (α := (List UInt8 × List UInt8 × Bool)) (o206 a0 a1) (fun v1 => (some v1)))
theorem e153 (t : List UInt8 × List UInt8) : evF (stpT Tryz.prog T9 K9) Tryz.f153 p153 r153 .d t = (o153 t.1 t.2) := by kernel_rfl
theorem fo153 : FOk Tryz.prog 153 ⟨p153, r153, fun t => (o153 t.1 t.2)⟩ := FOk.run_eq (evF_ok (h := .d) (by kernel_rfl) (by kernel_rfl) (by kernel_rfl)) e153
def T10 : Tbl := (153, ⟨p153, r153, fun t => (o153 t.1 t.2)⟩) :: T9
theorem K10 : TOk Tryz.prog T10 := .cons K9 fo153
def Ssf05661 : SSh := .tup [.c (.own 0), .c (.i .i64), .c (.i .i64)]
def o93_s0 : Sch := ⟨[(0, .v (.c (.s))), (5, .v (.c (.i .i64))), (13, .v (.c (.i .i64))), (14, .v (.c (.i .i64))), (26, .v (.c (.b)))], []⟩
def o93_s1 : Sch := ⟨[(0, .v (.c (.s))), (13, .v (.c (.i .i64))), (14, .v (.c (.i .i64)))], []⟩
def o93_s2 : Sch := ⟨[(0, .v (.c (.s))), (6, .v (.c (.own 0))), (7, .v (.c (.i .i64))), (8, .v (.c (.i .i64))), (56, .v (.c (.b)))], [.row (.p .s (.i .i64)) 189]⟩
def o93_s3 : Sch := ⟨[(0, .v (.c (.s))), (6, .v (.c (.own 0))), (7, .v (.c (.i .i64))), (8, .v (.c (.i .i64)))], [.row (.p .s (.i .i64)) 189]⟩
def o93_s4 : Sch := ⟨[(0, .v (.c (.s))), (6, .v (.c (.own 0))), (7, .v (.c (.i .i64)))], [.row (.p .s (.i .i64)) 189]⟩
def p93 : Sch := ⟨[(0, .v (.c (.s)))], []⟩
def r93 : List Sch := [⟨[(0, Ssf05661)], [.row (.p .s (.i .i64)) 189]⟩]
def o93 (a0 : List UInt8) : Option ((Int × Int) × List (List UInt8 × Int)) :=
 (cnd (decide (((a0.length : Nat) : Int) > (200 : Int))) (some (((201 : Int), (3 : Int)), ([] : List (List UInt8 × Int)))) (loopO (σ := List UInt8 × Int × Int) fuelN (fun (v2 : List UInt8 × Int × Int) => (cnd (decide (v2.2.2 < v2.2.1)) (bd (α := ((List UInt8 × Int) × Int × Int × Bool)) (gd (decide ((0 : Int) ≤ v2.2.2 ∧ v2.2.2 < ((v2.1.length : Nat) : Int))) (cnd (decide ((((List.getD v2.1 v2.2.2.toNat 0).toNat : Nat) : Int) < (32 : Int))) (some ((v2.1, v2.2.2), v2.2.1, v2.2.2, true)) (gd (decide ((0 : Int) ≤ v2.2.2 ∧ v2.2.2 < ((v2.1.length : Nat) : Int))) (some ((v2.1, v2.2.2), v2.2.1, v2.2.2, (decide ((((List.getD v2.1 v2.2.2.toNat 0).toNat : Nat) : Int) > (126 : Int)))))))) (fun v3 => (cnd v3.2.2.2 (dnO (some (((IntKind.wrap .i64 (v3.1.2 + (1 : Int))), (4 : Int)), ([] : List (List UInt8 × Int))))) (some (Ctl.go (v3.1.1, v3.2.1, (IntKind.wrap .i64 (v3.2.2.1 + (1 : Int))))))))) (dnO (bd (α := (List UInt8 × List UInt8 × Bool)) (o153 v2.1 ([35] : List UInt8)) (fun v4 => (loopO (σ := List UInt8 × Int × List (List UInt8 × Int)) fuelN (fun (v6 : List UInt8 × Int × List (List UInt8 × Int)) => (cnd (decide (v6.2.1 < ((v6.1.length : Nat) : Int))) (gd (decide ((0 : Int) ≤ v6.2.1 ∧ v6.2.1 < ((v6.1.length : Nat) : Int))) (cnd ((((List.getD v6.1 v6.2.1.toNat 0).toNat : Nat) : Int) == (32 : Int)) (some (Ctl.go (v6.1, (IntKind.wrap .i64 (v6.2.1 + (1 : Int))), v6.2.2))) (loopO (σ := (List UInt8 × Int) × Int × List (List UInt8 × Int)) fuelN (fun (v7 : (List UInt8 × Int) × Int × List (List UInt8 × Int)) => (bd (α := ((List UInt8 × Int) × Int × Bool × List (List UInt8 × Int))) (cnd (decide (v7.1.2 < ((v7.1.1.length : Nat) : Int))) (gd (decide ((0 : Int) ≤ v7.1.2 ∧ v7.1.2 < ((v7.1.1.length : Nat) : Int))) (some (v7.1, v7.2.1, ((((List.getD v7.1.1 v7.1.2.toNat 0).toNat : Nat) : Int) != (32 : Int)), v7.2.2))) (some (v7.1, v7.2.1, false, v7.2.2))) (fun v8 => (cnd v8.2.2.1 (some (Ctl.go ((v8.1.1, (IntKind.wrap .i64 (v8.1.2 + (1 : Int)))), v8.2.1, v8.2.2.2))) (dnO (gd (decide ((0 : Int) ≤ v8.2.1 ∧ v8.2.1 ≤ v8.1.2 ∧ v8.1.2 ≤ ((v8.1.1.length : Nat) : Int))) (gd (decide ((v8.2.2.2.length + ([((List.take (v8.1.2.toNat - v8.2.1.toNat) (List.drop v8.2.1.toNat v8.1.1)), (IntKind.wrap .i64 (v8.2.1 + (1 : Int))))] : List (List UInt8 × Int)).length) * 24 ≤ 140737488355328)) (some (Ctl.go (v8.1.1, v8.1.2, (v8.2.2.2 ++ ([((List.take (v8.1.2.toNat - v8.2.1.toNat) (List.drop v8.2.1.toNat v8.1.1)), (IntKind.wrap .i64 (v8.2.1 + (1 : Int))))] : List (List UInt8 × Int))))))))))))) ((v6.1, v6.2.1), v6.2)))) (dnO (some (((0 : Int), (0 : Int)), v6.2.2))))) (v4.1, (0 : Int), ([] : List (List UInt8 × Int))))))))) (a0, ((a0.length : Nat) : Int), (0 : Int))))
def h93 : HC := (.s .d (.s .d (.s (.s .d (.b (.l [o93_s1] (.s .d (.s .d (.s (.b (.s .d (.s (.j false [o93_s0] .d) .d))) .d)))))) (.s .d (.s .d (.s (.s .d (.b (.l [o93_s4] (.s .d (.b (.s .d (.s .d (.s (.b (.l [o93_s3] (.s (.s (.j false [o93_s2] .d) .d) .d))) .d)))))))) .d))))))
theorem e93 (t : List UInt8) : evF (stpT Tryz.prog T10 K10) Tryz.f93 p93 r93 h93 t = (o93 t) := by kernel_rfl
theorem fo93 : FOk Tryz.prog 93 ⟨p93, r93, fun t => (o93 t)⟩ := FOk.run_eq (evF_ok (h := h93) (by kernel_rfl) (by kernel_rfl) (by kernel_rfl)) e93
def T11 : Tbl := (93, ⟨p93, r93, fun t => (o93 t)⟩) :: T10
theorem K11 : TOk Tryz.prog T11 := .cons K10 fo93
def Bs042cd5 : BSh := .row (.p (.i .i64) (.a (.p .s (.i .i64)))) 120
def Bs353f73 : BSh := .row (.p (.i .i64) (.p (.i .i64) (.i .i64))) 112
abbrev Ty34097b : Type := (List (Int × List (List UInt8 × Int))) × List (Int × Int × Int)
abbrev Ty06d9c1 : Type := (Int × Int) × (List (Int × List (List UInt8 × Int))) × (List (Int × Int × Int)) × List (List UInt8)
def o42_s0 : Sch := ⟨[(4, .v (.c (.own 0))), (5, .v (.c (.own 1))), (17, .v (.c (.own 2))), (18, .v (.c (.i .i64))), (19, .v (.c (.i .i64)))], [Bs042cd5, Bs353f73, .row .s 9]⟩
def p42 : Sch := ⟨[(0, .v (.c (.s)))], []⟩
def r42 : List Sch := [⟨[(0, .tup [.c (.own 0), .c (.own 1)])], [Bs042cd5, Bs353f73]⟩]
def o42 (a0 : List UInt8) : Option Ty34097b :=
 (cnd (decide (((a0.length : Nat) : Int) > (262144 : Int))) (some (([] : List (Int × List (List UInt8 × Int))), ([((1 : Int), ((1 : Int), (3 : Int)))] : List (Int × Int × Int)))) (bd (α := (List (List UInt8))) (o92 a0 ([10] : List UInt8)) (fun v1 => (loopO (σ := Ty06d9c1) fuelN (fun (v3 : Ty06d9c1) => (cnd (decide (v3.1.2 < v3.1.1)) (gd (decide ((0 : Int) ≤ v3.1.2 ∧ v3.1.2 < ((v3.2.2.2.length : Nat) : Int))) (bd (α := ((Int × Int) × List (List UInt8 × Int))) (o93 (List.getD v3.2.2.2 v3.1.2.toNat ([] : List UInt8))) (fun v4 => (cnd (v4.1.2 != (0 : Int)) (cnd (decide (((v3.2.2.1.length : Nat) : Int) < (50 : Int))) (gd (decide ((v3.2.2.1.length + ([((IntKind.wrap .i64 (v3.1.2 + (1 : Int))), (v4.1.1, v4.1.2))] : List (Int × Int × Int)).length) * 24 ≤ 140737488355328)) (some (Ctl.go ((v3.1.1, (IntKind.wrap .i64 (v3.1.2 + (1 : Int)))), v3.2.1, (v3.2.2.1 ++ ([((IntKind.wrap .i64 (v3.1.2 + (1 : Int))), (v4.1.1, v4.1.2))] : List (Int × Int × Int))), v3.2.2.2)))) (some (Ctl.go ((v3.1.1, (IntKind.wrap .i64 (v3.1.2 + (1 : Int)))), v3.2)))) (cnd (decide (((v4.2.length : Nat) : Int) > (0 : Int))) (gd (decide ((v3.2.1.length + ([((IntKind.wrap .i64 (v3.1.2 + (1 : Int))), v4.2)] : List (Int × List (List UInt8 × Int))).length) * 32 ≤ 140737488355328)) (some (Ctl.go ((v3.1.1, (IntKind.wrap .i64 (v3.1.2 + (1 : Int)))), (v3.2.1 ++ ([((IntKind.wrap .i64 (v3.1.2 + (1 : Int))), v4.2)] : List (Int × List (List UInt8 × Int)))), v3.2.2)))) (some (Ctl.go ((v3.1.1, (IntKind.wrap .i64 (v3.1.2 + (1 : Int)))), v3.2)))))))) (dnO (some (v3.2.1, v3.2.2.1))))) ((((v1.length : Nat) : Int), (0 : Int)), ([] : List (Int × List (List UInt8 × Int))), ([] : List (Int × Int × Int)), v1)))))
def h42 : HC := (.s .d (.s .d (.s .d (.s .d (.s (.s .d (.b (.l [o42_s0] .d))) .d)))))
theorem e42 (t : List UInt8) : evF (stpT Tryz.prog T11 K11) Tryz.f42 p42 r42 h42 t = (o42 t) := by kernel_rfl
theorem fo42 : FOk Tryz.prog 42 ⟨p42, r42, fun t => (o42 t)⟩ := FOk.run_eq (evF_ok (h := h42) (by kernel_rfl) (by kernel_rfl) (by kernel_rfl)) e42
def T12 : Tbl := (42, ⟨p42, r42, fun t => (o42 t)⟩) :: T11
theorem K12 : TOk Tryz.prog T12 := .cons K11 fo42
def Ss49286e : SSh := .v (.agg [.i .i64, .ro (.p .s (.i .i64)) false])
def Bsbe033e : BSh := .cells 299 [.i .i64, .own 1, .ic .i64 (0), .ic .i64 (1), .ic .i64 (0), .ic .i64 (0), .ic .i64 (0)]
def p154 : Sch := ⟨[(0, Ss49286e)], []⟩
def r154 : List Sch := [⟨[(0, .v (.c (.ptr 0 0)))], [Bsbe033e, .row (.p .s (.i .i64)) 189]⟩]
def o154 (a0 : Int × List (List UInt8 × Int)) : Option (Int × List (List UInt8 × Int)) :=
 (gd (decide (a0.2.length * 24 ≤ 140737488355328)) (some a0))
theorem e154 (t : Int × List (List UInt8 × Int)) : evF (stpT Tryz.prog T12 K12) Tryz.f154 p154 r154 (.s .d (.s (.r 2) .d)) t = (o154 t) := by kernel_rfl
theorem fo154 : FOk Tryz.prog 154 ⟨p154, r154, fun t => (o154 t)⟩ := FOk.run_eq (evF_ok (h := (.s .d (.s (.r 2) .d))) (by kernel_rfl) (by kernel_rfl) (by kernel_rfl)) e154
def T13 : Tbl := (154, ⟨p154, r154, fun t => (o154 t)⟩) :: T12
theorem K13 : TOk Tryz.prog T13 := .cons K12 fo154
def Bs4a7285 : BSh := .lent [.i .i64, .ro (.p .s (.i .i64)) false, .i .i64, .i .i64, .i .i64, .i .i64, .i .i64]
abbrev Tyb7899a : Type := (Int × (List (List UInt8 × Int)) × Int) × (Int × Int) × Int × Int
def p217 : Sch := ⟨[(0, .v (.c (.ptr 0 0)))], [Bs4a7285]⟩
def r217 : List Sch := [⟨[(0, .v (.c (.b)))], [.no]⟩]
def o217 (a0 : Tyb7899a) : Option Bool :=
 (some (a0.2.2.2 != (0 : Int)))
theorem e217 (t : Tyb7899a) : evF (stpT Tryz.prog T13 K13) Tryz.f217 p217 r217 .d t = (o217 t) := by kernel_rfl
theorem fo217 : FOk Tryz.prog 217 ⟨p217, r217, fun t => (o217 t)⟩ := FOk.run_eq (evF_ok (h := .d) (by kernel_rfl) (by kernel_rfl) (by kernel_rfl)) e217
def T14 : Tbl := (217, ⟨p217, r217, fun t => (o217 t)⟩) :: T13
theorem K14 : TOk Tryz.prog T14 := .cons K13 fo217
def Bs9ecd83 : BSh := .cells 299 [.i .i64, .own 1, .i .i64, .i .i64, .i .i64, .i .i64, .i .i64]
abbrev Tyb2691e : Type := ((Int × Int × Int) × Int × Int × Int) × List (List UInt8 × Int)
abbrev Tyd888e4 : Type := (Int × Int) × Bool × ((Int × Int × Int) × Int × Int × Int) × List (List UInt8 × Int)
abbrev Ty930446 : Type := (Int × Int) × ((Int × Int × Int) × Int × Int × Int) × List (List UInt8 × Int)
def o211_s0 : Sch := ⟨[(0, .v (.c (.ptr 0 0))), (1, .v (.c (.i .i64))), (2, .v (.c (.i .i64))), (12, .v (.c (.b)))], [Bs9ecd83, .row (.p .s (.i .i64)) 189]⟩
def p211 : Sch := ⟨[(0, .v (.c (.ptr 0 0))), (1, .v (.c (.i .i64))), (2, .v (.c (.i .i64)))], [Bs9ecd83, .row (.p .s (.i .i64)) 189]⟩
def r211 : List Sch := [⟨[(0, .tup [])], [Bs9ecd83, .row (.p .s (.i .i64)) 189]⟩]
def o211 (a0 : Int) (a1 : Int) (a2 : (Int × Int × Int) × Int × Int × Int) (a3 : List (List UInt8 × Int)) : Option Tyb2691e :=
 (bd (α := Tyd888e4) (bd (α := Bool) (o217 ((a2.1.1, a3, a2.1.2.1), (a2.1.2.2, a2.2.1), a2.2.2)) (fun v1 => (cnd (!v1) (some ((a0, a1), (a1 != (0 : Int)), a2, a3)) (some ((a0, a1), false, a2, a3))))) (fun v2 => (cnd v2.2.1 (some ((v2.2.2.1.1, v2.2.2.1.1.1, v2.1), v2.2.2.2)) (some v2.2.2))))
theorem e211 (t : Ty930446) : evF (stpT Tryz.prog T14 K14) Tryz.f211 p211 r211 (.s (.j false [o211_s0] .d) .d) t = (o211 t.1.1 t.1.2 t.2.1 t.2.2) := by kernel_rfl
theorem fo211 : FOk Tryz.prog 211 ⟨p211, r211, fun t => (o211 t.1.1 t.1.2 t.2.1 t.2.2)⟩ := FOk.run_eq (evF_ok (h := (.s (.j false [o211_s0] .d) .d)) (by kernel_rfl) (by kernel_rfl) (by kernel_rfl)) e211
def T15 : Tbl := (211, ⟨p211, r211, fun t => (o211 t.1.1 t.1.2 t.2.1 t.2.2)⟩) :: T14
theorem K15 : TOk Tryz.prog T15 := .cons K14 fo211
abbrev Tyefbed8 : Type := (List UInt8 × Bool) × ((Int × Int × Int) × Int × Int × Int) × List (List UInt8 × Int)
abbrev Tybb31a5 : Type := Int × ((Int × Int × Int) × Int × Int × Int) × List (List UInt8 × Int)
def o207_s0 : Sch := ⟨[(0, .v (.c (.ptr 0 0))), (5, .v (.c (.i .i64)))], [Bs9ecd83, .row (.p .s (.i .i64)) 189]⟩
def p207 : Sch := ⟨[(0, .v (.c (.ptr 0 0)))], [Bs9ecd83, .row (.p .s (.i .i64)) 189]⟩
def r207 : List Sch := [⟨[(0, .tup [.c (.s), .c (.b)])], [Bs9ecd83, .row (.p .s (.i .i64)) 189]⟩]
def o207 (a0 : (Int × Int × Int) × Int × Int × Int) (a1 : List (List UInt8 × Int)) : Option Tyefbed8 :=
 (bd (α := Bool) (o217 ((a0.1.1, a1, a0.1.2.1), (a0.1.2.2, a0.2.1), a0.2.2)) (fun v1 => (cnd v1 (some ((([] : List UInt8), false), a0, a1)) (cnd (a0.1.2.1 == ((a1.length : Nat) : Int)) (bd (α := Tybb31a5) (cnd (decide (((a1.length : Nat) : Int) > (0 : Int))) (gd (decide ((0 : Int) ≤ (IntKind.wrap .i64 (((a1.length : Nat) : Int) - (1 : Int))) ∧ (IntKind.wrap .i64 (((a1.length : Nat) : Int) - (1 : Int))) < ((a1.length : Nat) : Int))) (bd (α := List UInt8 × Int) (some (List.getD a1 ((IntKind.wrap .i64 (((a1.length : Nat) : Int) - (1 : Int))).toNat) (([] : List UInt8), (0 : Int)))) (fun v2 => (some ((IntKind.wrap .i64 (v2.2 + ((v2.1.length : Nat) : Int))), a0, a1))))) (some ((1 : Int), a0, a1))) (fun v3 => (bd (α := Tyb2691e) (o211 v3.1 (4 : Int) v3.2.1 v3.2.2) (fun v4 => (some ((([] : List UInt8), false), v4)))))) (gd (decide ((0 : Int) ≤ a0.1.2.1 ∧ a0.1.2.1 < ((a1.length : Nat) : Int))) (bd (α := List UInt8 × Int) (some (List.getD a1 a0.1.2.1.toNat (([] : List UInt8), (0 : Int)))) (fun v6 => (some ((v6.1, true), ((a0.1.1, (IntKind.wrap .i64 (a0.1.2.1 + (1 : Int))), v6.2), a0.2), a1)))))))))
def h207 : HC := (.s .d (.s .d (.s .d (.s (.s .d (.c (.s .d (.j false [o207_s0] .d)) .d)) (.s (.r 1) .d)))))
theorem e207 (t : Tyb2691e) : evF (stpT Tryz.prog T15 K15) Tryz.f207 p207 r207 h207 t = (o207 t.1 t.2) := by kernel_rfl
theorem fo207 : FOk Tryz.prog 207 ⟨p207, r207, fun t => (o207 t.1 t.2)⟩ := FOk.run_eq (evF_ok (h := h207) (by kernel_rfl) (by kernel_rfl) (by kernel_rfl)) e207
def T16 : Tbl := (207, ⟨p207, r207, fun t => (o207 t.1 t.2)⟩) :: T15
theorem K16 : TOk Tryz.prog T16 := .cons K15 fo207
abbrev Ty8e1fe2 : Type := List UInt8 × ((Int × Int × Int) × Int × Int × Int) × List (List UInt8 × Int)
def p155 : Sch := ⟨[(0, .v (.c (.ptr 0 0)))], [Bs9ecd83, .row (.p .s (.i .i64)) 189]⟩
def r155 : List Sch := [⟨[(0, .v (.c (.s)))], [Bs9ecd83, .row (.p .s (.i .i64)) 189]⟩]
def o155 (a0 : (Int × Int × Int) × Int × Int × Int) (a1 : List (List UInt8 × Int)) : Option Ty8e1fe2 :=
 (bd (α := Tyefbed8) (o207 a0 a1) (fun v1 => (some (v1.1.1, v1.2))))
theorem e155 (t : Tyb2691e) : evF (stpT Tryz.prog T16 K16) Tryz.f155 p155 r155 .d t = (o155 t.1 t.2) := by kernel_rfl
theorem fo155 : FOk Tryz.prog 155 ⟨p155, r155, fun t => (o155 t.1 t.2)⟩ := FOk.run_eq (evF_ok (h := .d) (by kernel_rfl) (by kernel_rfl) (by kernel_rfl)) e155
def T17 : Tbl := (155, ⟨p155, r155, fun t => (o155 t.1 t.2)⟩) :: T16
theorem K17 : TOk Tryz.prog T17 := .cons K16 fo155
def o130_s0 : Sch := ⟨[(0, .v (.c (.s))), (24, .v (.c (.b)))], []⟩
def o130_s1 : Sch := ⟨[(0, .v (.c (.s))), (26, .v (.c (.i .i64))), (27, .v (.c (.i .i64))), (51, .v (.c (.b)))], []⟩
def o130_s2 : Sch := ⟨[(0, .v (.c (.s))), (26, .v (.c (.i .i64))), (27, .v (.c (.i .i64)))], []⟩
def p130 : Sch := ⟨[(0, .v (.c (.s))), (1, .v (.c (.i .i64)))], []⟩
def r130 : List Sch := [⟨[(0, .v (.c (.b)))], []⟩]
def o130 (a0 : List UInt8) (a1 : Int) : Option Bool :=
 (bd (α := (List UInt8 × Bool)) (cnd (((a0.length : Nat) : Int) == (0 : Int)) (some (a0, true)) (cnd (decide (((a0.length : Nat) : Int) > a1)) (some (a0, true)) (gd (decide ((0 : Int) ≤ (0 : Int) ∧ (0 : Int) < ((a0.length : Nat) : Int))) (cnd (decide ((((List.getD a0 (0 : Int).toNat 0).toNat : Nat) : Int) < (65 : Int))) (some (a0, true)) (gd (decide ((0 : Int) ≤ (0 : Int) ∧ (0 : Int) < ((a0.length : Nat) : Int))) (some (a0, (decide ((((List.getD a0 (0 : Int).toNat 0).toNat : Nat) : Int) > (90 : Int)))))))))) (fun v1 => (cnd v1.2 (some false) (loopO (σ := List UInt8 × Int × Int) fuelN (fun (v3 : List UInt8 × Int × Int) => (cnd (decide (v3.2.2 < v3.2.1)) (bd (α := ((List UInt8 × Int) × Int × Bool)) (gd (decide ((0 : Int) ≤ v3.2.2 ∧ v3.2.2 < ((v3.1.length : Nat) : Int))) (cnd (decide ((((List.getD v3.1 v3.2.2.toNat 0).toNat : Nat) : Int) < (65 : Int))) (gd (decide ((0 : Int) ≤ v3.2.2 ∧ v3.2.2 < ((v3.1.length : Nat) : Int))) (cnd (decide ((((List.getD v3.1 v3.2.2.toNat 0).toNat : Nat) : Int) < (48 : Int))) (some ((v3.1, v3.2.1), v3.2.2, true)) (gd (decide ((0 : Int) ≤ v3.2.2 ∧ v3.2.2 < ((v3.1.length : Nat) : Int))) (some ((v3.1, v3.2.1), v3.2.2, (decide ((((List.getD v3.1 v3.2.2.toNat 0).toNat : Nat) : Int) > (57 : Int)))))))) (gd (decide ((0 : Int) ≤ v3.2.2 ∧ v3.2.2 < ((v3.1.length : Nat) : Int))) (cnd (decide ((((List.getD v3.1 v3.2.2.toNat 0).toNat : Nat) : Int) > (90 : Int))) (gd (decide ((0 : Int) ≤ v3.2.2 ∧ v3.2.2 < ((v3.1.length : Nat) : Int))) (cnd (decide ((((List.getD v3.1 v3.2.2.toNat 0).toNat : Nat) : Int) < (48 : Int))) (some ((v3.1, v3.2.1), v3.2.2, true)) (gd (decide ((0 : Int) ≤ v3.2.2 ∧ v3.2.2 < ((v3.1.length : Nat) : Int))) (some ((v3.1, v3.2.1), v3.2.2, (decide ((((List.getD v3.1 v3.2.2.toNat 0).toNat : Nat) : Int) > (57 : Int)))))))) (some ((v3.1, v3.2.1), v3.2.2, false)))))) (fun v4 => (cnd v4.2.2 (dnO (some false)) (some (Ctl.go (v4.1.1, v4.1.2, (IntKind.wrap .i64 (v4.2.1 + (1 : Int))))))))) (dnO (some true)))) (v1.1, ((v1.1.length : Nat) : Int), (0 : Int))))))
def h130 : HC := (.s .d (.s (.s (.j false [o130_s0] .d) .d) (.s (.s .d (.b (.l [o130_s2] (.s .d (.s .d (.s (.b (.s .d (.s (.j false [o130_s1] .d) .d))) .d)))))) .d)))
theorem e130 (t : List UInt8 × Int) : evF (stpT Tryz.prog T17 K17) Tryz.f130 p130 r130 h130 t = (o130 t.1 t.2) := by kernel_rfl
theorem fo130 : FOk Tryz.prog 130 ⟨p130, r130, fun t => (o130 t.1 t.2)⟩ := FOk.run_eq (evF_ok (h := h130) (by kernel_rfl) (by kernel_rfl) (by kernel_rfl)) e130
def T18 : Tbl := (130, ⟨p130, r130, fun t => (o130 t.1 t.2)⟩) :: T17
theorem K18 : TOk Tryz.prog T18 := .cons K17 fo130
def p209 : Sch := ⟨[(0, .v (.c (.s))), (1, .v (.c (.ptr 0 0)))], [.lent [.i .i64]]⟩
def r209 : List Sch := [⟨[(0, .tup [.c (.s), .c (.i .i64)])], [.no]⟩]
def o209 (a0 : List UInt8) (a1 : Int) : Option (List UInt8 × Int) :=
 (bd (α := Bool) (o130 a0 a1) (fun v1 => (cnd (!v1) (some (([] : List UInt8), (5 : Int))) (some (a0, (0 : Int))))))
theorem e209 (t : List UInt8 × Int) : evF (stpT Tryz.prog T18 K18) Tryz.f209 p209 r209 .d t = (o209 t.1 t.2) := by kernel_rfl
theorem fo209 : FOk Tryz.prog 209 ⟨p209, r209, fun t => (o209 t.1 t.2)⟩ := FOk.run_eq (evF_ok (h := .d) (by kernel_rfl) (by kernel_rfl) (by kernel_rfl)) e209
def T19 : Tbl := (209, ⟨p209, r209, fun t => (o209 t.1 t.2)⟩) :: T18
theorem K19 : TOk Tryz.prog T19 := .cons K18 fo209
def Ss42e6b2 : SSh := .v (.c (.cap (.fn 209) (.ptr 2 0)))
abbrev Tye97d97 : Type := (List UInt8 × (Int × Int × Int) × Int × Int × Int) × (List (List UInt8 × Int)) × Int
abbrev Ty16b778 : Type := ((Int × Int × Int) × Int × Int × Int) × (List (List UInt8 × Int)) × Int
def p208 : Sch := ⟨[(0, .v (.c (.ptr 0 0))), (1, Ss42e6b2)], [Bs9ecd83, .row (.p .s (.i .i64)) 189, .cells 3 [.i .i64]]⟩
def r208 : List Sch := [⟨[(0, .v (.c (.s)))], [Bs9ecd83, .row (.p .s (.i .i64)) 189, .cells 3 [.i .i64]]⟩]
def o208 (a0 : (Int × Int × Int) × Int × Int × Int) (a1 : List (List UInt8 × Int)) (a2 : Int) : Option Tye97d97 :=
 (bd (α := Tyefbed8) (o207 a0 a1) (fun v1 => (cnd (!v1.1.2) (some ((([] : List UInt8), v1.2.1), v1.2.2, a2)) (bd (α := (List UInt8 × Int)) (o209 v1.1.1 a2) (fun v2 => (cnd (v2.2 != (0 : Int)) (bd (α := Tyb2691e) (o211 v1.2.1.1.2.2 v2.2 v1.2.1 v1.2.2) (fun v3 => (some ((([] : List UInt8), v3.1), v3.2, a2)))) (some ((v2.1, v1.2.1), v1.2.2, a2))))))))
theorem e208 (t : Ty16b778) : evF (stpT Tryz.prog T19 K19) Tryz.f208 p208 r208 .d t = (o208 t.1 t.2.1 t.2.2) := by kernel_rfl
theorem fo208 : FOk Tryz.prog 208 ⟨p208, r208, fun t => (o208 t.1 t.2.1 t.2.2)⟩ := FOk.run_eq (evF_ok (h := .d) (by kernel_rfl) (by kernel_rfl) (by kernel_rfl)) e208
def T20 : Tbl := (208, ⟨p208, r208, fun t => (o208 t.1 t.2.1 t.2.2)⟩) :: T19
theorem K20 : TOk Tryz.prog T20 := .cons K19 fo208
def p156 : Sch := ⟨[(0, .v (.c (.ptr 0 0))), (1, .v (.c (.i .i64)))], [Bs9ecd83, .row (.p .s (.i .i64)) 189]⟩
def r156 : List Sch := [⟨[(0, .v (.c (.s)))], [Bs9ecd83, .row (.p .s (.i .i64)) 189]⟩]
def o156 (a0 : Int) (a1 : (Int × Int × Int) × Int × Int × Int) (a2 : List (List UInt8 × Int)) : Option Ty8e1fe2 :=
 (bd (α := Tye97d97) (o208 a1 a2 a0) (fun v1 => (some (v1.1.1, v1.1.2, v1.2.1))))
theorem e156 (t : Tybb31a5) : evF (stpT Tryz.prog T20 K20) Tryz.f156 p156 r156 .d t = (o156 t.1 t.2.1 t.2.2) := by kernel_rfl
theorem fo156 : FOk Tryz.prog 156 ⟨p156, r156, fun t => (o156 t.1 t.2.1 t.2.2)⟩ := FOk.run_eq (evF_ok (h := .d) (by kernel_rfl) (by kernel_rfl) (by kernel_rfl)) e156
def T21 : Tbl := (156, ⟨p156, r156, fun t => (o156 t.1 t.2.1 t.2.2)⟩) :: T20
theorem K21 : TOk Tryz.prog T21 := .cons K20 fo156
def o210_s0 : Sch := ⟨[(0, .v (.c (.s))), (4, .v (.c (.i .i64))), (5, .v (.c (.i .i64))), (7, .v (.c (.i .i64))), (8, .v (.c (.i .i64))), (20, .v (.c (.b)))], []⟩
def o210_s1 : Sch := ⟨[(0, .v (.c (.s))), (4, .v (.c (.i .i64))), (7, .v (.c (.i .i64))), (8, .v (.c (.i .i64)))], []⟩
def p210 : Sch := ⟨[(0, .v (.c (.s)))], []⟩
def r210 : List Sch := [⟨[(0, .tup [.c (.i .i64), .c (.b)])], []⟩]
def o210 (a0 : List UInt8) : Option (Int × Bool) :=
 (loopO (σ := (List UInt8 × Int) × Int × Int) fuelN (fun (v2 : (List UInt8 × Int) × Int × Int) => (cnd (decide (v2.2.2 < v2.2.1)) (bd (α := ((List UInt8 × Int × Int) × Int × Int × Bool)) (gd (decide ((0 : Int) ≤ v2.2.2 ∧ v2.2.2 < ((v2.1.1.length : Nat) : Int))) (cnd (decide ((((List.getD v2.1.1 v2.2.2.toNat 0).toNat : Nat) : Int) < (48 : Int))) (some ((v2.1.1, v2.1.2, v2.2.2), v2.2.1, v2.2.2, true)) (gd (decide ((0 : Int) ≤ v2.2.2 ∧ v2.2.2 < ((v2.1.1.length : Nat) : Int))) (some ((v2.1.1, v2.1.2, v2.2.2), v2.2.1, v2.2.2, (decide ((((List.getD v2.1.1 v2.2.2.toNat 0).toNat : Nat) : Int) > (57 : Int)))))))) (fun v3 => (cnd v3.2.2.2 (dnO (some ((0 : Int), false))) (gd (decide ((0 : Int) ≤ v3.1.2.2 ∧ v3.1.2.2 < ((v3.1.1.length : Nat) : Int))) (some (Ctl.go ((v3.1.1, (IntKind.wrap .i64 ((IntKind.wrap .i64 ((10 : Int) * v3.1.2.1)) + (IntKind.wrap .i64 (IntKind.wrap .u8 ((((List.getD v3.1.1 v3.1.2.2.toNat 0).toNat : Nat) : Int) - (48 : Int))))))), v3.2.1, (IntKind.wrap .i64 (v3.2.2.1 + (1 : Int)))))))))) (dnO (some (v2.1.2, true))))) ((a0, (0 : Int)), ((a0.length : Nat) : Int), (0 : Int)))
def h210 : HC := (.s .d (.s .d (.s (.s .d (.b (.l [o210_s1] (.s .d (.s .d (.s (.b (.s .d (.s (.s (.j false [o210_s0] .d) .d) .d))) .d)))))) .d)))
theorem e210 (t : List UInt8) : evF (stpT Tryz.prog T21 K21) Tryz.f210 p210 r210 h210 t = (o210 t) := by kernel_rfl
theorem fo210 : FOk Tryz.prog 210 ⟨p210, r210, fun t => (o210 t)⟩ := FOk.run_eq (evF_ok (h := h210) (by kernel_rfl) (by kernel_rfl) (by kernel_rfl)) e210
def T22 : Tbl := (210, ⟨p210, r210, fun t => (o210 t)⟩) :: T21
theorem K22 : TOk Tryz.prog T22 := .cons K21 fo210
def p146 : Sch := ⟨[(0, .v (.c (.i .i64)))], []⟩
def r146 : List Sch := [⟨[(0, .v (.c (.i .i64)))], []⟩]
def o146 (a0 : Int) : Option Int :=
 (some (IntKind.wrap .i64 ((IntKind.wrap .i64 ((365 : Int) * (IntKind.wrap .i64 (a0 - (2000 : Int))))) + (IntKind.wrap .i64 (Int.tdiv (IntKind.wrap .i64 ((IntKind.wrap .i64 (a0 - (2000 : Int))) + (3 : Int))) (4 : Int))))))
theorem e146 (t : Int) : evF (stpT Tryz.prog T22 K22) Tryz.f146 p146 r146 .d t = (o146 t) := by kernel_rfl
theorem fo146 : FOk Tryz.prog 146 ⟨p146, r146, fun t => (o146 t)⟩ := FOk.run_eq (evF_ok (h := .d) (by kernel_rfl) (by kernel_rfl) (by kernel_rfl)) e146
def T23 : Tbl := (146, ⟨p146, r146, fun t => (o146 t)⟩) :: T22
theorem K23 : TOk Tryz.prog T23 := .cons K22 fo146
def p77 : Sch := ⟨[(0, .v (.c (.i .i64)))], []⟩
def r77 : List Sch := [⟨[(0, .v (.c (.i .i64)))], []⟩]
def o77 (a0 : Int) : Option Int :=
 (bd (α := Int) (o146 a0) (fun v1 => (cnd (decide ((IntKind.wrap .i64 (v1 - (26 : Int))) ≤ (0 : Int))) (some (26 : Int)) (some (IntKind.wrap .i64 ((26 : Int) + (IntKind.wrap .i64 ((IntKind.wrap .i64 (Int.tdiv (IntKind.wrap .i64 ((IntKind.wrap .i64 ((IntKind.wrap .i64 (v1 - (26 : Int))) + (28 : Int))) - (1 : Int))) (28 : Int))) * (28 : Int)))))))))
theorem e77 (t : Int) : evF (stpT Tryz.prog T23 K23) Tryz.f77 p77 r77 .d t = (o77 t) := by kernel_rfl
theorem fo77 : FOk Tryz.prog 77 ⟨p77, r77, fun t => (o77 t)⟩ := FOk.run_eq (evF_ok (h := .d) (by kernel_rfl) (by kernel_rfl) (by kernel_rfl)) e77
def T24 : Tbl := (77, ⟨p77, r77, fun t => (o77 t)⟩) :: T23
theorem K24 : TOk Tryz.prog T24 := .cons K23 fo77
def o200_s0 : Sch := ⟨[(2, .v (.c (.b)))], []⟩
def p200 : Sch := ⟨[(0, .v (.c (.i .i64)))], []⟩
def r200 : List Sch := [⟨[(0, .v (.c (.b)))], []⟩]
def o200 (a0 : Int) : Option Bool :=
 (bd (α := Bool) (cnd (decide (a0 ≥ (2000 : Int))) (cnd (decide (a0 ≤ (2099 : Int))) (some ((Int.tmod a0 (4 : Int)) == (0 : Int))) (some false)) (some false)) (fun v1 => (some v1)))
theorem e200 (t : Int) : evF (stpT Tryz.prog T24 K24) Tryz.f200 p200 r200 (.s .d (.s (.j false [o200_s0] .d) .d)) t = (o200 t) := by kernel_rfl
theorem fo200 : FOk Tryz.prog 200 ⟨p200, r200, fun t => (o200 t)⟩ := FOk.run_eq (evF_ok (h := (.s .d (.s (.j false [o200_s0] .d) .d))) (by kernel_rfl) (by kernel_rfl) (by kernel_rfl)) e200
def T25 : Tbl := (200, ⟨p200, r200, fun t => (o200 t)⟩) :: T24
theorem K25 : TOk Tryz.prog T25 := .cons K24 fo200
def o147_s0 : Sch := ⟨[(0, .v (.c (.i .i64))), (1, .v (.c (.i .i64))), (18, .v (.c (.b)))], []⟩
def o147_s1 : Sch := ⟨[(1, .v (.c (.i .i64))), (24, .v (.c (.b)))], []⟩
def o147_s2 : Sch := ⟨[(4, .v (.c (.i .i64)))], []⟩
def p147 : Sch := ⟨[(0, .v (.c (.i .i64))), (1, .v (.c (.i .i64)))], []⟩
def r147 : List Sch := [⟨[(0, .v (.c (.i .i64)))], []⟩]
def o147 (a0 : Int) (a1 : Int) : Option Int :=
 (bd (α := (Int × Int × Bool)) (cnd (decide (a0 < (2000 : Int))) (some (a0, a1, true)) (cnd (decide (a0 > (2099 : Int))) (some (a0, a1, true)) (cnd (decide (a1 < (1 : Int))) (some (a0, a1, true)) (some (a0, a1, (decide (a1 > (12 : Int)))))))) (fun v1 => (cnd v1.2.2 (some (0 : Int)) (bd (α := (Int × Bool)) (cnd (v1.2.1 == (2 : Int)) (bd (α := Bool) (o200 v1.1) (fun v2 => (some (v1.2.1, v2)))) (some (v1.2.1, false))) (fun v3 => (cnd v3.2 (some (29 : Int)) (bd (α := Int) (sm (isZ (IntKind.wrap .i64 (v3.1 - (1 : Int))) 0) (fun _ => (some (31 : Int))) (fun _ => (sm (isZ (IntKind.wrap .i64 (v3.1 - (1 : Int))) 1) (fun _ => (some (28 : Int))) (fun _ => (sm (isZ (IntKind.wrap .i64 (v3.1 - (1 : Int))) 2) (fun _ => (some (31 : Int))) (fun _ => (sm (isZ (IntKind.wrap .i64 (v3.1 - (1 : Int))) 3) (fun _ => (some (30 : Int))) (fun _ => (sm (isZ (IntKind.wrap .i64 (v3.1 - (1 : Int))) 4) (fun _ => (some (31 : Int))) (fun _ => (sm (isZ (IntKind.wrap .i64 (v3.1 - (1 : Int))) 5) (fun _ => (some (30 : Int))) (fun _ => (sm (isZ (IntKind.wrap .i64 (v3.1 - (1 : Int))) 6) (fun _ => (some (31 : Int))) (fun _ => (sm (isZ (IntKind.wrap .i64 (v3.1 - (1 : Int))) 7) (fun _ => (some (31 : Int))) (fun _ => (sm (isZ (IntKind.wrap .i64 (v3.1 - (1 : Int))) 8) (fun _ => (some (30 : Int))) (fun _ => (sm (isZ (IntKind.wrap .i64 (v3.1 - (1 : Int))) 9) (fun _ => (some (31 : Int))) (fun _ => (sm (isZ (IntKind.wrap .i64 (v3.1 - (1 : Int))) 10) (fun _ => (some (30 : Int))) (fun _ => (sm (isZ (IntKind.wrap .i64 (v3.1 - (1 : Int))) 11) (fun _ => (some (31 : Int))) (fun _ => none)))))))))))))))))))))))) (fun v4 => (some v4)))))))))
def h147 : HC := (.s .d (.s (.s (.j false [o147_s0] .d) .d) (.s (.s (.j false [o147_s1] .d) .d) (.s (.j false [o147_s2] .d) .d))))
theorem e147 (t : Int × Int) : evF (stpT Tryz.prog T25 K25) Tryz.f147 p147 r147 h147 t = (o147 t.1 t.2) := by kernel_rfl
theorem fo147 : FOk Tryz.prog 147 ⟨p147, r147, fun t => (o147 t.1 t.2)⟩ := FOk.run_eq (evF_ok (h := h147) (by kernel_rfl) (by kernel_rfl) (by kernel_rfl)) e147
def T26 : Tbl := (147, ⟨p147, r147, fun t => (o147 t.1 t.2)⟩) :: T25
theorem K26 : TOk Tryz.prog T26 := .cons K25 fo147
def Ss9d89e0 : SSh := .tup [.c (.i .i64), .c (.i .i64), .c (.i .i64), .c (.i .i64)]
def o76_s0 : Sch := ⟨[(0, .v (.c (.i .i64))), (12, .v (.c (.b)))], []⟩
def o76_s1 : Sch := ⟨[(0, .v (.c (.i .i64))), (2, .v (.c (.i .i64)))], []⟩
def o76_s2 : Sch := ⟨[(2, .v (.c (.i .i64))), (3, .v (.c (.i .i64))), (6, .v (.c (.i .i64)))], []⟩
def p76 : Sch := ⟨[(0, .v (.c (.i .i64)))], []⟩
def r76 : List Sch := [⟨[(0, Ss9d89e0)], []⟩]
def o76 (a0 : Int) : Option ((Int × Int) × Int × Int) :=
 (bd (α := (Int × Bool)) (cnd (decide (a0 < (0 : Int))) (some (a0, true)) (some (a0, (decide (a0 > (36524 : Int)))))) (fun v1 => (cnd v1.2 (some (((0 : Int), (0 : Int)), (0 : Int), (2 : Int))) (loopO (σ := Int × Int) fuelN (fun (v2 : Int × Int) => (bd (α := Int) (o146 (IntKind.wrap .i64 (v2.2 + (1 : Int)))) (fun v3 => (cnd (decide (v3 ≤ v2.1)) (some (Ctl.go (v2.1, (IntKind.wrap .i64 (v2.2 + (1 : Int)))))) (dnO (bd (α := Int) (o146 v2.2) (fun v4 => (loopO (σ := Int × Int × Int) fuelN (fun (v6 : Int × Int × Int) => (bd (α := Int) (o147 v6.1 v6.2.1) (fun v7 => (cnd (decide (v6.2.2 ≥ v7)) (bd (α := Int) (o147 v6.1 v6.2.1) (fun v8 => (some (Ctl.go (v6.1, (IntKind.wrap .i64 (v6.2.1 + (1 : Int))), (IntKind.wrap .i64 (v6.2.2 - v8))))))) (dnO (some ((v6.1, v6.2.1), (IntKind.wrap .i64 (v6.2.2 + (1 : Int))), (0 : Int)))))))) (v2.2, (1 : Int), (IntKind.wrap .i64 (v2.1 - v4))))))))))) (v1.1, (IntKind.wrap .i64 ((2000 : Int) + (IntKind.wrap .i64 (Int.tdiv v1.1 (366 : Int))))))))))
def h76 : HC := (.s .d (.s (.s (.j false [o76_s0] .d) .d) (.s .d (.s (.b (.l [o76_s1] .d)) (.s .d (.s (.s .d (.b (.l [o76_s2] .d))) .d))))))
theorem e76 (t : Int) : evF (stpT Tryz.prog T26 K26) Tryz.f76 p76 r76 h76 t = (o76 t) := by kernel_rfl
theorem fo76 : FOk Tryz.prog 76 ⟨p76, r76, fun t => (o76 t)⟩ := FOk.run_eq (evF_ok (h := h76) (by kernel_rfl) (by kernel_rfl) (by kernel_rfl)) e76
def T27 : Tbl := (76, ⟨p76, r76, fun t => (o76 t)⟩) :: T26
theorem K27 : TOk Tryz.prog T27 := .cons K26 fo76
def p36 : Sch := ⟨[(0, .v (.c (.i .i64)))], []⟩
def r36 : List Sch := [⟨[(0, .v (.c (.i .i64)))], []⟩]
def o36 (a0 : Int) : Option Int :=
 (bd (α := ((Int × Int) × Int × Int)) (o76 a0) (fun v1 => (bd (α := Int) (o77 v1.1.1) (fun v2 => (some (IntKind.wrap .i64 ((IntKind.wrap .i64 ((IntKind.wrap .i64 ((Int.tmod v1.1.1 (100 : Int)) * (100 : Int))) + (IntKind.wrap .i64 (Int.tdiv (IntKind.wrap .i64 (a0 - v2)) (28 : Int))))) + (1 : Int))))))))
theorem e36 (t : Int) : evF (stpT Tryz.prog T27 K27) Tryz.f36 p36 r36 .d t = (o36 t) := by kernel_rfl
theorem fo36 : FOk Tryz.prog 36 ⟨p36, r36, fun t => (o36 t)⟩ := FOk.run_eq (evF_ok (h := .d) (by kernel_rfl) (by kernel_rfl) (by kernel_rfl)) e36
def T28 : Tbl := (36, ⟨p36, r36, fun t => (o36 t)⟩) :: T27
theorem K28 : TOk Tryz.prog T28 := .cons K27 fo36
def Ss198141 : SSh := .tup [.c (.i .i64), .c (.i .i64), .c (.i .i64)]
def o115_s0 : Sch := ⟨[(0, .v (.c (.i .i64))), (10, .v (.c (.b)))], []⟩
def o115_s1 : Sch := ⟨[(2, .v (.c (.i .i64))), (36, .v (.c (.b)))], []⟩
def p115 : Sch := ⟨[(0, .v (.c (.i .i64)))], []⟩
def r115 : List Sch := [⟨[(0, Ss198141)], []⟩]
def o115 (a0 : Int) : Option (Int × Int × Int) :=
 (bd (α := (Int × Bool)) (cnd (decide (a0 < (0 : Int))) (some (a0, true)) (some (a0, (decide (a0 > (9999 : Int)))))) (fun v1 => (cnd v1.2 (some ((0 : Int), (0 : Int), (2 : Int))) (bd (α := Int) (o77 (IntKind.wrap .i64 ((2000 : Int) + (IntKind.wrap .i64 (Int.tdiv v1.1 (100 : Int)))))) (fun v2 => (bd (α := (Int × Bool)) (cnd ((Int.tmod v1.1 (100 : Int)) == (0 : Int)) (some ((IntKind.wrap .i64 (v2 + (IntKind.wrap .i64 ((IntKind.wrap .i64 ((Int.tmod v1.1 (100 : Int)) - (1 : Int))) * (28 : Int))))), true)) (cnd (decide ((IntKind.wrap .i64 (v2 + (IntKind.wrap .i64 ((IntKind.wrap .i64 ((Int.tmod v1.1 (100 : Int)) - (1 : Int))) * (28 : Int))))) < (26 : Int))) (some ((IntKind.wrap .i64 (v2 + (IntKind.wrap .i64 ((IntKind.wrap .i64 ((Int.tmod v1.1 (100 : Int)) - (1 : Int))) * (28 : Int))))), true)) (cnd (decide ((IntKind.wrap .i64 (v2 + (IntKind.wrap .i64 ((IntKind.wrap .i64 ((Int.tmod v1.1 (100 : Int)) - (1 : Int))) * (28 : Int))))) > (36524 : Int))) (some ((IntKind.wrap .i64 (v2 + (IntKind.wrap .i64 ((IntKind.wrap .i64 ((Int.tmod v1.1 (100 : Int)) - (1 : Int))) * (28 : Int))))), true)) (bd (α := Int) (o36 (IntKind.wrap .i64 (v2 + (IntKind.wrap .i64 ((IntKind.wrap .i64 ((Int.tmod v1.1 (100 : Int)) - (1 : Int))) * (28 : Int)))))) (fun v3 => (some ((IntKind.wrap .i64 (v2 + (IntKind.wrap .i64 ((IntKind.wrap .i64 ((Int.tmod v1.1 (100 : Int)) - (1 : Int))) * (28 : Int))))), (v3 != v1.1)))))))) (fun v4 => (cnd v4.2 (some ((0 : Int), (0 : Int), (6 : Int))) (some (v4.1, (IntKind.wrap .i64 (v4.1 + (28 : Int))), (0 : Int)))))))))))
def h115 : HC := (.s .d (.s (.s (.j false [o115_s0] .d) .d) (.s .d (.s (.s (.j false [o115_s1] .d) .d) .d))))
theorem e115 (t : Int) : evF (stpT Tryz.prog T28 K28) Tryz.f115 p115 r115 h115 t = (o115 t) := by kernel_rfl
theorem fo115 : FOk Tryz.prog 115 ⟨p115, r115, fun t => (o115 t)⟩ := FOk.run_eq (evF_ok (h := h115) (by kernel_rfl) (by kernel_rfl) (by kernel_rfl)) e115
def T29 : Tbl := (115, ⟨p115, r115, fun t => (o115 t)⟩) :: T28
theorem K29 : TOk Tryz.prog T29 := .cons K28 fo115
def o157_s0 : Sch := ⟨[(4, .v (.c (.i .i64))), (20, .v (.c (.b)))], []⟩
def p157 : Sch := ⟨[(0, .v (.c (.s)))], []⟩
def r157 : List Sch := [⟨[(0, .tup [.c (.i .i64), .c (.i .i64)])], []⟩]
def o157 (a0 : List UInt8) : Option (Int × Int) :=
 (bd (α := (Int × Bool)) (o210 a0) (fun v1 => (bd (α := (Int × Bool)) (cnd (((a0.length : Nat) : Int) != (4 : Int)) (some (v1.1, true)) (some (v1.1, (!v1.2)))) (fun v2 => (cnd v2.2 (some ((0 : Int), (4 : Int))) (bd (α := (Int × Int × Int)) (o115 v2.1) (fun v3 => (cnd (v3.2.2 != (0 : Int)) (some ((0 : Int), v3.2.2)) (some (v2.1, (0 : Int)))))))))))
def h157 : HC := (.s .d (.s .d (.s (.s (.j false [o157_s0] .d) .d) .d)))
theorem e157 (t : List UInt8) : evF (stpT Tryz.prog T29 K29) Tryz.f157 p157 r157 h157 t = (o157 t) := by kernel_rfl
theorem fo157 : FOk Tryz.prog 157 ⟨p157, r157, fun t => (o157 t)⟩ := FOk.run_eq (evF_ok (h := h157) (by kernel_rfl) (by kernel_rfl) (by kernel_rfl)) e157
def T30 : Tbl := (157, ⟨p157, r157, fun t => (o157 t)⟩) :: T29
theorem K30 : TOk Tryz.prog T30 := .cons K29 fo157
def p158 : Sch := ⟨[(0, .v (.c (.ptr 0 0))), (1, .v (.c (.i .i64)))], [Bs9ecd83, .row (.p .s (.i .i64)) 189]⟩
def r158 : List Sch := [⟨[(0, .tup [])], [Bs9ecd83, .row (.p .s (.i .i64)) 189]⟩]
def o158 (a0 : Int) (a1 : (Int × Int × Int) × Int × Int × Int) (a2 : List (List UInt8 × Int)) : Option Tyb2691e :=
 (bd (α := Tyb2691e) (o211 a1.1.2.2 a0 a1 a2) (fun v1 => (some v1)))
theorem e158 (t : Tybb31a5) : evF (stpT Tryz.prog T30 K30) Tryz.f158 p158 r158 .d t = (o158 t.1 t.2.1 t.2.2) := by kernel_rfl
theorem fo158 : FOk Tryz.prog 158 ⟨p158, r158, fun t => (o158 t.1 t.2.1 t.2.2)⟩ := FOk.run_eq (evF_ok (h := .d) (by kernel_rfl) (by kernel_rfl) (by kernel_rfl)) e158
def T31 : Tbl := (158, ⟨p158, r158, fun t => (o158 t.1 t.2.1 t.2.2)⟩) :: T30
theorem K31 : TOk Tryz.prog T31 := .cons K30 fo158
def o316_s0 : Sch := ⟨[(0, .v (.c (.s))), (4, .v (.c (.i .i64))), (5, .v (.c (.i .i64))), (7, .v (.c (.i .i64))), (8, .v (.c (.i .i64))), (20, .v (.c (.b)))], []⟩
def o316_s1 : Sch := ⟨[(0, .v (.c (.s))), (4, .v (.c (.i .i64))), (7, .v (.c (.i .i64))), (8, .v (.c (.i .i64)))], []⟩
def p316 : Sch := ⟨[(0, .v (.c (.s)))], []⟩
def r316 : List Sch := [⟨[(0, .tup [.c (.i .i64), .c (.b)])], []⟩]
def o316 (a0 : List UInt8) : Option (Int × Bool) :=
 (loopO (σ := (List UInt8 × Int) × Int × Int) fuelN (fun (v2 : (List UInt8 × Int) × Int × Int) => (cnd (decide (v2.2.2 < v2.2.1)) (bd (α := ((List UInt8 × Int × Int) × Int × Int × Bool)) (gd (decide ((0 : Int) ≤ v2.2.2 ∧ v2.2.2 < ((v2.1.1.length : Nat) : Int))) (cnd (decide ((((List.getD v2.1.1 v2.2.2.toNat 0).toNat : Nat) : Int) < (48 : Int))) (some ((v2.1.1, v2.1.2, v2.2.2), v2.2.1, v2.2.2, true)) (gd (decide ((0 : Int) ≤ v2.2.2 ∧ v2.2.2 < ((v2.1.1.length : Nat) : Int))) (some ((v2.1.1, v2.1.2, v2.2.2), v2.2.1, v2.2.2, (decide ((((List.getD v2.1.1 v2.2.2.toNat 0).toNat : Nat) : Int) > (57 : Int)))))))) (fun v3 => (cnd v3.2.2.2 (dnO (some ((0 : Int), false))) (gd (decide ((0 : Int) ≤ v3.1.2.2 ∧ v3.1.2.2 < ((v3.1.1.length : Nat) : Int))) (some (Ctl.go ((v3.1.1, (IntKind.wrap .i64 ((IntKind.wrap .i64 ((10 : Int) * v3.1.2.1)) + (IntKind.wrap .i64 (IntKind.wrap .u8 ((((List.getD v3.1.1 v3.1.2.2.toNat 0).toNat : Nat) : Int) - (48 : Int))))))), v3.2.1, (IntKind.wrap .i64 (v3.2.2.1 + (1 : Int)))))))))) (dnO (some (v2.1.2, true))))) ((a0, (0 : Int)), ((a0.length : Nat) : Int), (0 : Int)))
def h316 : HC := (.s .d (.s .d (.s (.s .d (.b (.l [o316_s1] (.s .d (.s .d (.s (.b (.s .d (.s (.s (.j false [o316_s0] .d) .d) .d))) .d)))))) .d)))
theorem e316 (t : List UInt8) : evF (stpT Tryz.prog T31 K31) Tryz.f316 p316 r316 h316 t = (o316 t) := by kernel_rfl
theorem fo316 : FOk Tryz.prog 316 ⟨p316, r316, fun t => (o316 t)⟩ := FOk.run_eq (evF_ok (h := h316) (by kernel_rfl) (by kernel_rfl) (by kernel_rfl)) e316
def T32 : Tbl := (316, ⟨p316, r316, fun t => (o316 t)⟩) :: T31
theorem K32 : TOk Tryz.prog T32 := .cons K31 fo316
def o296_s0 : Sch := ⟨[(8, .v (.c (.i .i64))), (10, .v (.c (.i .i64))), (12, .v (.c (.i .i64))), (14, .v (.c (.i .i64))), (67, .v (.c (.b)))], []⟩
def p296 : Sch := ⟨[(0, .v (.c (.s))), (1, .v (.c (.i .i64)))], []⟩
def r296 : List Sch := [⟨[(0, .tup [.c (.i .i64), .c (.b)])], []⟩]
def o296 (a0 : List UInt8) (a1 : Int) : Option (Int × Bool) :=
 (cnd (((a0.length : Nat) : Int) != (IntKind.wrap .i64 (a1 + (6 : Int)))) (some ((0 : Int), false)) (bd (α := (Int × Bool)) (o316 a0) (fun v1 => (cnd (!v1.2) (some ((0 : Int), false)) (gd (decide ((0 : Int) ≤ a1 ∧ a1 ≤ ((a0.length : Nat) : Int))) (bd (α := (Int × Bool)) (o316 (List.take a1.toNat a0)) (fun v2 => (gd (decide ((0 : Int) ≤ a1 ∧ a1 ≤ (IntKind.wrap .i64 (a1 + (2 : Int))) ∧ (IntKind.wrap .i64 (a1 + (2 : Int))) ≤ ((a0.length : Nat) : Int))) (bd (α := (Int × Bool)) (o316 (List.take ((IntKind.wrap .i64 (a1 + (2 : Int))).toNat - a1.toNat) (List.drop a1.toNat a0))) (fun v3 => (gd (decide ((0 : Int) ≤ (IntKind.wrap .i64 (a1 + (2 : Int))) ∧ (IntKind.wrap .i64 (a1 + (2 : Int))) ≤ (IntKind.wrap .i64 (a1 + (4 : Int))) ∧ (IntKind.wrap .i64 (a1 + (4 : Int))) ≤ ((a0.length : Nat) : Int))) (bd (α := (Int × Bool)) (o316 (List.take ((IntKind.wrap .i64 (a1 + (4 : Int))).toNat - (IntKind.wrap .i64 (a1 + (2 : Int))).toNat) (List.drop (IntKind.wrap .i64 (a1 + (2 : Int))).toNat a0))) (fun v4 => (gd (decide ((0 : Int) ≤ (IntKind.wrap .i64 (a1 + (4 : Int))) ∧ (IntKind.wrap .i64 (a1 + (4 : Int))) ≤ ((a0.length : Nat) : Int))) (bd (α := (Int × Bool)) (o316 (List.drop (IntKind.wrap .i64 (a1 + (4 : Int))).toNat a0)) (fun v5 => (bd (α := ((Int × Int) × Int × Int × Bool)) (cnd (decide (v3.1 ≥ (60 : Int))) (some ((v2.1, v3.1), v4.1, v5.1, true)) (some ((v2.1, v3.1), v4.1, v5.1, (decide (v4.1 ≥ (60 : Int)))))) (fun v6 => (cnd v6.2.2.2 (some ((0 : Int), false)) (some ((IntKind.wrap .i64 ((IntKind.wrap .i64 ((IntKind.wrap .i64 ((IntKind.wrap .i64 (v6.1.1 * (360000 : Int))) + (IntKind.wrap .i64 (v6.1.2 * (6000 : Int))))) + (IntKind.wrap .i64 (v6.2.1 * (100 : Int))))) + v6.2.2.1)), true)))))))))))))))))))))
def h296 : HC := (.s .d (.s .d (.s .d (.s .d (.s .d (.s .d (.s .d (.s (.s (.j false [o296_s0] .d) .d) .d))))))))
theorem e296 (t : List UInt8 × Int) : evF (stpT Tryz.prog T32 K32) Tryz.f296 p296 r296 h296 t = (o296 t.1 t.2) := by kernel_rfl
theorem fo296 : FOk Tryz.prog 296 ⟨p296, r296, fun t => (o296 t.1 t.2)⟩ := FOk.run_eq (evF_ok (h := h296) (by kernel_rfl) (by kernel_rfl) (by kernel_rfl)) e296
def T33 : Tbl := (296, ⟨p296, r296, fun t => (o296 t.1 t.2)⟩) :: T32
theorem K33 : TOk Tryz.prog T33 := .cons K32 fo296
def o290_s0 : Sch := ⟨[(0, .v (.c (.s))), (2, .v (.c (.i .u8))), (3, .v (.c (.i .i64))), (28, .v (.c (.b)))], []⟩
def o290_s1 : Sch := ⟨[(0, .v (.c (.s))), (2, .v (.c (.i .u8))), (10, .v (.c (.i .i64))), (47, .v (.c (.b)))], []⟩
def p290 : Sch := ⟨[(0, .v (.c (.s))), (1, .v (.c (.i .u8))), (2, .v (.c (.i .u8))), (3, .v (.c (.i .i64)))], []⟩
def r290 : List Sch := [⟨[(0, .tup [.c (.i .i64), .c (.b)])], []⟩]
def o290 (a0 : List UInt8) (a1 : Int) (a2 : Int) (a3 : Int) : Option (Int × Bool) :=
 (bd (α := ((List UInt8 × Int) × Int × Bool)) (cnd (((a0.length : Nat) : Int) != (IntKind.wrap .i64 (a3 + (7 : Int)))) (some ((a0, a2), a3, true)) (gd (decide ((0 : Int) ≤ (0 : Int) ∧ (0 : Int) < ((a0.length : Nat) : Int))) (cnd ((((List.getD a0 (0 : Int).toNat 0).toNat : Nat) : Int) != a1) (gd (decide ((0 : Int) ≤ (0 : Int) ∧ (0 : Int) < ((a0.length : Nat) : Int))) (some ((a0, a2), a3, ((((List.getD a0 (0 : Int).toNat 0).toNat : Nat) : Int) != a2)))) (some ((a0, a2), a3, false))))) (fun v1 => (cnd v1.2.2 (some ((0 : Int), false)) (gd (decide ((0 : Int) ≤ (1 : Int) ∧ (1 : Int) ≤ ((v1.1.1.length : Nat) : Int))) (bd (α := (Int × Bool)) (o296 (List.drop (1 : Int).toNat v1.1.1) v1.2.1) (fun v2 => (bd (α := ((List UInt8 × Int) × Int × Bool)) (cnd (!v2.2) (some (v1.1, v2.1, true)) (gd (decide ((0 : Int) ≤ (0 : Int) ∧ (0 : Int) < ((v1.1.1.length : Nat) : Int))) (cnd ((((List.getD v1.1.1 (0 : Int).toNat 0).toNat : Nat) : Int) == v1.1.2) (some (v1.1, v2.1, (v2.1 == (0 : Int)))) (some (v1.1, v2.1, false))))) (fun v3 => (cnd v3.2.2 (some ((0 : Int), false)) (gd (decide ((0 : Int) ≤ (0 : Int) ∧ (0 : Int) < ((v3.1.1.length : Nat) : Int))) (cnd ((((List.getD v3.1.1 (0 : Int).toNat 0).toNat : Nat) : Int) == v3.1.2) (some ((IntKind.wrap .i64 ((0 : Int) - v3.2.1)), true)) (some (v3.2.1, true)))))))))))))
def h290 : HC := (.s .d (.s (.s (.j false [o290_s0] .d) .d) (.s .d (.s (.s (.j false [o290_s1] .d) .d) .d))))
theorem e290 (t : (List UInt8 × Int) × Int × Int) : evF (stpT Tryz.prog T33 K33) Tryz.f290 p290 r290 h290 t = (o290 t.1.1 t.1.2 t.2.1 t.2.2) := by kernel_rfl
theorem fo290 : FOk Tryz.prog 290 ⟨p290, r290, fun t => (o290 t.1.1 t.1.2 t.2.1 t.2.2)⟩ := FOk.run_eq (evF_ok (h := h290) (by kernel_rfl) (by kernel_rfl) (by kernel_rfl)) e290
def T34 : Tbl := (290, ⟨p290, r290, fun t => (o290 t.1.1 t.1.2 t.2.1 t.2.2)⟩) :: T33
theorem K34 : TOk Tryz.prog T34 := .cons K33 fo290
def o178_s0 : Sch := ⟨[(2, .v (.c (.b)))], []⟩
def p178 : Sch := ⟨[(0, .v (.c (.i .i64)))], []⟩
def r178 : List Sch := [⟨[(0, .v (.c (.b)))], []⟩]
def o178 (a0 : Int) : Option Bool :=
 (bd (α := Bool) (cnd (decide (a0 ≥ (-32400000 : Int))) (some (decide (a0 ≤ (32400000 : Int)))) (some false)) (fun v1 => (some v1)))
theorem e178 (t : Int) : evF (stpT Tryz.prog T34 K34) Tryz.f178 p178 r178 (.s .d (.s (.j false [o178_s0] .d) .d)) t = (o178 t) := by kernel_rfl
theorem fo178 : FOk Tryz.prog 178 ⟨p178, r178, fun t => (o178 t)⟩ := FOk.run_eq (evF_ok (h := (.s .d (.s (.j false [o178_s0] .d) .d))) (by kernel_rfl) (by kernel_rfl) (by kernel_rfl)) e178
def T35 : Tbl := (178, ⟨p178, r178, fun t => (o178 t)⟩) :: T34
theorem K35 : TOk Tryz.prog T35 := .cons K34 fo178
def p254 : Sch := ⟨[(0, .v (.c (.s)))], []⟩
def r254 : List Sch := [⟨[(0, .tup [.c (.i .i64), .c (.i .i64)])], []⟩]
def o254 (a0 : List UInt8) : Option (Int × Int) :=
 (bd (α := (Int × Bool)) (o290 a0 (78 : Int) (83 : Int) (2 : Int)) (fun v1 => (cnd (!v1.2) (some ((0 : Int), (4 : Int))) (bd (α := Bool) (o178 v1.1) (fun v2 => (cnd (!v2) (some ((0 : Int), (2 : Int))) (some (v1.1, (0 : Int)))))))))
theorem e254 (t : List UInt8) : evF (stpT Tryz.prog T35 K35) Tryz.f254 p254 r254 .d t = (o254 t) := by kernel_rfl
theorem fo254 : FOk Tryz.prog 254 ⟨p254, r254, fun t => (o254 t)⟩ := FOk.run_eq (evF_ok (h := .d) (by kernel_rfl) (by kernel_rfl) (by kernel_rfl)) e254
def T36 : Tbl := (254, ⟨p254, r254, fun t => (o254 t)⟩) :: T35
theorem K36 : TOk Tryz.prog T36 := .cons K35 fo254
def o180_s0 : Sch := ⟨[(2, .v (.c (.b)))], []⟩
def p180 : Sch := ⟨[(0, .v (.c (.i .i64)))], []⟩
def r180 : List Sch := [⟨[(0, .v (.c (.b)))], []⟩]
def o180 (a0 : Int) : Option Bool :=
 (bd (α := Bool) (cnd (decide (a0 > (-64800000 : Int))) (some (decide (a0 ≤ (64800000 : Int)))) (some false)) (fun v1 => (some v1)))
theorem e180 (t : Int) : evF (stpT Tryz.prog T36 K36) Tryz.f180 p180 r180 (.s .d (.s (.j false [o180_s0] .d) .d)) t = (o180 t) := by kernel_rfl
theorem fo180 : FOk Tryz.prog 180 ⟨p180, r180, fun t => (o180 t)⟩ := FOk.run_eq (evF_ok (h := (.s .d (.s (.j false [o180_s0] .d) .d))) (by kernel_rfl) (by kernel_rfl) (by kernel_rfl)) e180
def T37 : Tbl := (180, ⟨p180, r180, fun t => (o180 t)⟩) :: T36
theorem K37 : TOk Tryz.prog T37 := .cons K36 fo180
def p255 : Sch := ⟨[(0, .v (.c (.s)))], []⟩
def r255 : List Sch := [⟨[(0, .tup [.c (.i .i64), .c (.i .i64)])], []⟩]
def o255 (a0 : List UInt8) : Option (Int × Int) :=
 (bd (α := (Int × Bool)) (o290 a0 (69 : Int) (87 : Int) (3 : Int)) (fun v1 => (cnd (!v1.2) (some ((0 : Int), (4 : Int))) (bd (α := Bool) (o180 v1.1) (fun v2 => (cnd (!v2) (some ((0 : Int), (2 : Int))) (some (v1.1, (0 : Int)))))))))
theorem e255 (t : List UInt8) : evF (stpT Tryz.prog T37 K37) Tryz.f255 p255 r255 .d t = (o255 t) := by kernel_rfl
theorem fo255 : FOk Tryz.prog 255 ⟨p255, r255, fun t => (o255 t)⟩ := FOk.run_eq (evF_ok (h := .d) (by kernel_rfl) (by kernel_rfl) (by kernel_rfl)) e255
def T38 : Tbl := (255, ⟨p255, r255, fun t => (o255 t)⟩) :: T37
theorem K38 : TOk Tryz.prog T38 := .cons K37 fo255
def Ssf45581 : SSh := .tup [.agg [.i .i64, .i .i64], .c (.i .i64)]
def p213 : Sch := ⟨[(0, .v (.c (.s)))], []⟩
def r213 : List Sch := [⟨[(0, Ssf45581)], []⟩]
def o213 (a0 : List UInt8) : Option (Int × Int × Int) :=
 (cnd (((a0.length : Nat) : Int) != (19 : Int)) (some ((0 : Int), (0 : Int), (4 : Int))) (gd (decide ((0 : Int) ≤ (9 : Int) ∧ (9 : Int) ≤ ((a0.length : Nat) : Int))) (bd (α := (Int × Int)) (o254 (List.take (9 : Int).toNat a0)) (fun v1 => (cnd (v1.2 != (0 : Int)) (some ((0 : Int), (0 : Int), v1.2)) (gd (decide ((0 : Int) ≤ (9 : Int) ∧ (9 : Int) ≤ ((a0.length : Nat) : Int))) (bd (α := (Int × Int)) (o255 (List.drop (9 : Int).toNat a0)) (fun v2 => (cnd (v2.2 != (0 : Int)) (some ((0 : Int), (0 : Int), v2.2)) (some (v1.1, v2.1, (0 : Int))))))))))))
theorem e213 (t : List UInt8) : evF (stpT Tryz.prog T38 K38) Tryz.f213 p213 r213 .d t = (o213 t) := by kernel_rfl
theorem fo213 : FOk Tryz.prog 213 ⟨p213, r213, fun t => (o213 t)⟩ := FOk.run_eq (evF_ok (h := .d) (by kernel_rfl) (by kernel_rfl) (by kernel_rfl)) e213
def T39 : Tbl := (213, ⟨p213, r213, fun t => (o213 t)⟩) :: T38
theorem K39 : TOk Tryz.prog T39 := .cons K38 fo213
def p212 : Sch := ⟨[(0, .v (.c (.ptr 0 0))), (1, .v (.c (.fn 213)))], [Bs9ecd83, .row (.p .s (.i .i64)) 189]⟩
def r212 : List Sch := [⟨[(0, .v (.agg [.i .i64, .i .i64]))], [Bs9ecd83, .row (.p .s (.i .i64)) 189]⟩]
def o212 (a0 : (Int × Int × Int) × Int × Int × Int) (a1 : List (List UInt8 × Int)) : Option Ty930446 :=
 (bd (α := Tyefbed8) (o207 a0 a1) (fun v1 => (cnd (!v1.1.2) (some (((0 : Int), (0 : Int)), v1.2)) (bd (α := (Int × Int × Int)) (o213 v1.1.1) (fun v2 => (cnd (v2.2.2 != (0 : Int)) (bd (α := Tyb2691e) (o211 v1.2.1.1.2.2 v2.2.2 v1.2.1 v1.2.2) (fun v3 => (some (((0 : Int), (0 : Int)), v3)))) (some ((v2.1, v2.2.1), v1.2))))))))
theorem e212 (t : Tyb2691e) : evF (stpT Tryz.prog T39 K39) Tryz.f212 p212 r212 .d t = (o212 t.1 t.2) := by kernel_rfl
theorem fo212 : FOk Tryz.prog 212 ⟨p212, r212, fun t => (o212 t.1 t.2)⟩ := FOk.run_eq (evF_ok (h := .d) (by kernel_rfl) (by kernel_rfl) (by kernel_rfl)) e212
def T40 : Tbl := (212, ⟨p212, r212, fun t => (o212 t.1 t.2)⟩) :: T39
theorem K40 : TOk Tryz.prog T40 := .cons K39 fo212
def p159 : Sch := ⟨[(0, .v (.c (.ptr 0 0)))], [Bs9ecd83, .row (.p .s (.i .i64)) 189]⟩
def r159 : List Sch := [⟨[(0, .v (.agg [.i .i64, .i .i64]))], [Bs9ecd83, .row (.p .s (.i .i64)) 189]⟩]
def o159 (a0 : (Int × Int × Int) × Int × Int × Int) (a1 : List (List UInt8 × Int)) : Option Ty930446 :=
 (bd (α := Ty930446) (o212 a0 a1) (fun v1 => (some v1)))
theorem e159 (t : Tyb2691e) : evF (stpT Tryz.prog T40 K40) Tryz.f159 p159 r159 .d t = (o159 t.1 t.2) := by kernel_rfl
theorem fo159 : FOk Tryz.prog 159 ⟨p159, r159, fun t => (o159 t.1 t.2)⟩ := FOk.run_eq (evF_ok (h := .d) (by kernel_rfl) (by kernel_rfl) (by kernel_rfl)) e159
def T41 : Tbl := (159, ⟨p159, r159, fun t => (o159 t.1 t.2)⟩) :: T40
theorem K41 : TOk Tryz.prog T41 := .cons K40 fo159
def Ssae8f8b : SSh := .tup [.agg [.i .i64, .i .i64, .i .i64], .c (.b)]
def p164 : Sch := ⟨[(0, .v (.c (.ptr 0 0)))], [Bs4a7285]⟩
def r164 : List Sch := [⟨[(0, Ssae8f8b)], [.no]⟩]
def o164 (a0 : Tyb7899a) : Option ((Int × Int) × Int × Bool) :=
 (bd (α := Bool) (o217 a0) (fun v1 => (cnd v1 (some ((a0.2.1.2, a0.2.2.1), a0.2.2.2, true)) (cnd (decide (a0.1.2.2 < ((a0.1.2.1.length : Nat) : Int))) (gd (decide ((0 : Int) ≤ a0.1.2.2 ∧ a0.1.2.2 < ((a0.1.2.1.length : Nat) : Int))) (some ((a0.1.1, (List.getD a0.1.2.1 a0.1.2.2.toNat (([] : List UInt8), (0 : Int))).2), (4 : Int), true))) (some (((0 : Int), (0 : Int)), (0 : Int), false))))))
theorem e164 (t : Tyb7899a) : evF (stpT Tryz.prog T41 K41) Tryz.f164 p164 r164 .d t = (o164 t) := by kernel_rfl
theorem fo164 : FOk Tryz.prog 164 ⟨p164, r164, fun t => (o164 t)⟩ := FOk.run_eq (evF_ok (h := .d) (by kernel_rfl) (by kernel_rfl) (by kernel_rfl)) e164
def T42 : Tbl := (164, ⟨p164, r164, fun t => (o164 t)⟩) :: T41
theorem K42 : TOk Tryz.prog T42 := .cons K41 fo164
def Bs250194 : BSh := .cells 116 [.own 1, .cst (.slice none 0 0), .s, .i .i64, .i .i64, .i .i64, .i .i64, .i .i64, .cst (.slice none 0 0), .b, .b, .b]
def Bs1b5922 : BSh := .cells 116 [.own 1, .own 3, .s, .i .i64, .i .i64, .i .i64, .i .i64, .i .i64, .cst (.slice none 0 0), .b, .b, .b]
abbrev Ty895a9a : Type := ((List UInt8 × Int) × Int × Int) × (Int × Int) × Bool × Bool × Bool
abbrev Ty17bea0 : Type := Ty895a9a × (List (Int × List (List UInt8 × Int))) × List (Int × Int × Int)
def p160 : Sch := ⟨[(0, .v (.c (.ptr 0 0))), (1, .v (.c (.ptr 2 0)))], [Bs250194, Bs042cd5, Bs4a7285]⟩
def r160 : List Sch := [⟨[(0, .tup [])], [Bs1b5922, Bs042cd5, .no, Bs353f73]⟩]
def o160 (a0 : Ty895a9a) (a1 : List (Int × List (List UInt8 × Int))) (a2 : Tyb7899a) : Option Ty17bea0 :=
 (bd (α := ((Int × Int) × Int × Bool)) (o164 a2) (fun v1 => (cnd v1.2.2 (gd (decide (([(v1.1.1, (v1.1.2, v1.2.1))] : List (Int × Int × Int)).length * 24 ≤ 140737488355328)) (some (a0, a1, ([(v1.1.1, (v1.1.2, v1.2.1))] : List (Int × Int × Int))))) (some (a0, a1, ([] : List (Int × Int × Int)))))))
theorem e160 (t : Ty895a9a × (List (Int × List (List UInt8 × Int))) × Tyb7899a) : evF (stpT Tryz.prog T42 K42) Tryz.f160 p160 r160 (.s .d (.s .d (.c (.r 2) .d))) t = (o160 t.1 t.2.1 t.2.2) := by kernel_rfl
theorem fo160 : FOk Tryz.prog 160 ⟨p160, r160, fun t => (o160 t.1 t.2.1 t.2.2)⟩ := FOk.run_eq (evF_ok (h := (.s .d (.s .d (.c (.r 2) .d)))) (by kernel_rfl) (by kernel_rfl) (by kernel_rfl)) e160
def T43 : Tbl := (160, ⟨p160, r160, fun t => (o160 t.1 t.2.1 t.2.2)⟩) :: T42
theorem K43 : TOk Tryz.prog T43 := .cons K42 fo160
def Bs38dfe2 : BSh := .cells 116 [.own 1, .own 2, .s, .i .i64, .i .i64, .i .i64, .i .i64, .i .i64, .cst (.slice none 0 0), .b, .b, .b]
abbrev Tya26393 : Type := (Int × List (List UInt8 × Int)) × Ty895a9a × List (Int × List (List UInt8 × Int))
def p94 : Sch := ⟨[(0, .v (.c (.ptr 0 0))), (1, Ss49286e)], [Bs250194, Bs042cd5]⟩
def r94 : List Sch := [⟨[(0, .tup [])], [Bs38dfe2, Bs042cd5, Bs353f73]⟩]
def o94 (a0 : Int × List (List UInt8 × Int)) (a1 : Ty895a9a) (a2 : List (Int × List (List UInt8 × Int))) : Option Ty17bea0 :=
 (bd (α := (Int × List (List UInt8 × Int))) (o154 a0) (fun v1 => (bd (α := Ty8e1fe2) (o155 ((v1.1, (0 : Int), (1 : Int)), (0 : Int), (0 : Int), (0 : Int)) v1.2) (fun v2 => (bd (α := Ty8e1fe2) (o156 (8 : Int) v2.2.1 v2.2.2) (fun v3 => (bd (α := Ty8e1fe2) (o155 v3.2.1 v3.2.2) (fun v4 => (bd (α := (Int × Int)) (o157 v4.1) (fun v5 => (bd (α := Tyb2691e) (o158 v5.2 v4.2.1 v4.2.2) (fun v6 => (bd (α := (Int × Int × Int)) (o115 v5.1) (fun v7 => (bd (α := Ty930446) (o159 v6.1 v6.2) (fun v8 => (bd (α := Ty17bea0) (o160 (((v3.1, v5.1), v7.1, v7.2.1), v8.1, a1.2.2) a2 ((v8.2.1.1.1, v8.2.2, v8.2.1.1.2.1), (v8.2.1.1.2.2, v8.2.1.2.1), v8.2.1.2.2)) (fun v9 => (some v9)))))))))))))))))))
theorem e94 (t : Tya26393) : evF (stpT Tryz.prog T43 K43) Tryz.f94 p94 r94 .d t = (o94 t.1 t.2.1 t.2.2) := by kernel_rfl
theorem fo94 : FOk Tryz.prog 94 ⟨p94, r94, fun t => (o94 t.1 t.2.1 t.2.2)⟩ := FOk.run_eq (evF_ok (h := .d) (by kernel_rfl) (by kernel_rfl) (by kernel_rfl)) e94
def T44 : Tbl := (94, ⟨p94, r94, fun t => (o94 t.1 t.2.1 t.2.2)⟩) :: T43
theorem K44 : TOk Tryz.prog T44 := .cons K43 fo94
abbrev Tyc2bf6a : Type := ((Int × List (List UInt8 × Int)) × Int) × Ty895a9a × List (Int × List (List UInt8 × Int))
def p101 : Sch := ⟨[(0, .v (.c (.ptr 0 0))), (1, Ss49286e), (2, .v (.c (.i .i64)))], [Bs250194, Bs042cd5]⟩
def r101 : List Sch := [⟨[(0, .tup [])], [Bs38dfe2, Bs042cd5, Bs353f73]⟩]
def o101 (a0 : Int × List (List UInt8 × Int)) (a1 : Int) (a2 : Ty895a9a) (a3 : List (Int × List (List UInt8 × Int))) : Option Ty17bea0 :=
 (cnd (a1 != (0 : Int)) (gd (decide ((0 : Int) ≤ (0 : Int) ∧ (0 : Int) < ((a0.2.length : Nat) : Int))) (gd (decide (([(a0.1, ((List.getD a0.2 (0 : Int).toNat (([] : List UInt8), (0 : Int))).2, a1))] : List (Int × Int × Int)).length * 24 ≤ 140737488355328)) (some (a2, a3, ([(a0.1, ((List.getD a0.2 (0 : Int).toNat (([] : List UInt8), (0 : Int))).2, a1))] : List (Int × Int × Int)))))) (some (a2, a3, ([] : List (Int × Int × Int)))))
theorem e101 (t : Tyc2bf6a) : evF (stpT Tryz.prog T44 K44) Tryz.f101 p101 r101 (.s .d (.s .d (.c (.r 2) .d))) t = (o101 t.1.1 t.1.2 t.2.1 t.2.2) := by kernel_rfl
theorem fo101 : FOk Tryz.prog 101 ⟨p101, r101, fun t => (o101 t.1.1 t.1.2 t.2.1 t.2.2)⟩ := FOk.run_eq (evF_ok (h := (.s .d (.s .d (.c (.r 2) .d)))) (by kernel_rfl) (by kernel_rfl) (by kernel_rfl)) e101
def T45 : Tbl := (101, ⟨p101, r101, fun t => (o101 t.1.1 t.1.2 t.2.1 t.2.2)⟩) :: T44
theorem K45 : TOk Tryz.prog T45 := .cons K44 fo101
abbrev Ty4ce3ec : Type := ((Int × List (List UInt8 × Int)) × Int) × Ty895a9a × (List (Int × List (List UInt8 × Int))) × List (Int × Int × Int)
def p101v1 : Sch := ⟨[(0, .v (.c (.ptr 0 0))), (1, Ss49286e), (2, .v (.c (.i .i64)))], [Bs38dfe2, Bs042cd5, Bs353f73]⟩
def r101v1 : List Sch := [⟨[(0, .tup [])], [Bs1b5922, Bs042cd5, .no, Bs353f73]⟩]
def o101v1 (a0 : Int × List (List UInt8 × Int)) (a1 : Int) (a2 : Ty895a9a) (a3 : List (Int × List (List UInt8 × Int))) (a4 : List (Int × Int × Int)) : Option Ty17bea0 :=
 (cnd (a1 != (0 : Int)) (gd (decide ((0 : Int) ≤ (0 : Int) ∧ (0 : Int) < ((a0.2.length : Nat) : Int))) (gd (decide ((a4.length + ([(a0.1, ((List.getD a0.2 (0 : Int).toNat (([] : List UInt8), (0 : Int))).2, a1))] : List (Int × Int × Int)).length) * 24 ≤ 140737488355328)) (some (a2, a3, (a4 ++ ([(a0.1, ((List.getD a0.2 (0 : Int).toNat (([] : List UInt8), (0 : Int))).2, a1))] : List (Int × Int × Int))))))) (some (a2, a3, a4)))
theorem e101v1 (t : Ty4ce3ec) : evF (stpT Tryz.prog T45 K45) Tryz.f101 p101v1 r101v1 (.s .d (.s .d (.c (.r 2) .d))) t = (o101v1 t.1.1 t.1.2 t.2.1 t.2.2.1 t.2.2.2) := by kernel_rfl
theorem fo101v1 : FOk Tryz.prog 101 ⟨p101v1, r101v1, fun t => (o101v1 t.1.1 t.1.2 t.2.1 t.2.2.1 t.2.2.2)⟩ := FOk.run_eq (evF_ok (h := (.s .d (.s .d (.c (.r 2) .d)))) (by kernel_rfl) (by kernel_rfl) (by kernel_rfl)) e101v1
def T46 : Tbl := (101, ⟨p101v1, r101v1, fun t => (o101v1 t.1.1 t.1.2 t.2.1 t.2.2.1 t.2.2.2)⟩) :: T45
theorem K46 : TOk Tryz.prog T46 := .cons K45 fo101v1
def Bs4a51a0 : BSh := .cells 116 [.own 1, .own 4, .s, .i .i64, .i .i64, .i .i64, .i .i64, .i .i64, .cst (.slice none 0 0), .b, .b, .b]
abbrev Tyb9fedd : Type := (Ty895a9a × List (Int × List (List UInt8 × Int))) × (List (Int × Int × Int)) × Tyb7899a
def p160v1 : Sch := ⟨[(0, .v (.c (.ptr 0 0))), (1, .v (.c (.ptr 3 0)))], [Bs38dfe2, Bs042cd5, Bs353f73, Bs4a7285]⟩
def r160v1 : List Sch := [⟨[(0, .tup [])], [Bs4a51a0, Bs042cd5, .no, .no, Bs353f73]⟩]
def o160v1 (a0 : Ty895a9a) (a1 : List (Int × List (List UInt8 × Int))) (a2 : List (Int × Int × Int)) (a3 : Tyb7899a) : Option Ty17bea0 :=
 (bd (α := ((Int × Int) × Int × Bool)) (o164 a3) (fun v1 => (cnd v1.2.2 (gd (decide ((a2.length + ([(v1.1.1, (v1.1.2, v1.2.1))] : List (Int × Int × Int)).length) * 24 ≤ 140737488355328)) (some (a0, a1, (a2 ++ ([(v1.1.1, (v1.1.2, v1.2.1))] : List (Int × Int × Int)))))) (some (a0, a1, a2)))))
theorem e160v1 (t : Tyb9fedd) : evF (stpT Tryz.prog T46 K46) Tryz.f160 p160v1 r160v1 (.s .d (.s .d (.c (.r 2) .d))) t = (o160v1 t.1.1 t.1.2 t.2.1 t.2.2) := by kernel_rfl
theorem fo160v1 : FOk Tryz.prog 160 ⟨p160v1, r160v1, fun t => (o160v1 t.1.1 t.1.2 t.2.1 t.2.2)⟩ := FOk.run_eq (evF_ok (h := (.s .d (.s .d (.c (.r 2) .d)))) (by kernel_rfl) (by kernel_rfl) (by kernel_rfl)) e160v1
def T47 : Tbl := (160, ⟨p160v1, r160v1, fun t => (o160v1 t.1.1 t.1.2 t.2.1 t.2.2)⟩) :: T46
theorem K47 : TOk Tryz.prog T47 := .cons K46 fo160v1
abbrev Tydc96d6 : Type := ((Int × List (List UInt8 × Int)) × Ty895a9a) × (List (Int × List (List UInt8 × Int))) × List (Int × Int × Int)
def p94v1 : Sch := ⟨[(0, .v (.c (.ptr 0 0))), (1, Ss49286e)], [Bs38dfe2, Bs042cd5, Bs353f73]⟩
def r94v1 : List Sch := [⟨[(0, .tup [])], [Bs1b5922, Bs042cd5, .no, Bs353f73]⟩]
def o94v1 (a0 : Int × List (List UInt8 × Int)) (a1 : Ty895a9a) (a2 : List (Int × List (List UInt8 × Int))) (a3 : List (Int × Int × Int)) : Option Ty17bea0 :=
 (bd (α := (Int × List (List UInt8 × Int))) (o154 a0) (fun v1 => (bd (α := Ty8e1fe2) (o155 ((v1.1, (0 : Int), (1 : Int)), (0 : Int), (0 : Int), (0 : Int)) v1.2) (fun v2 => (bd (α := Ty8e1fe2) (o156 (8 : Int) v2.2.1 v2.2.2) (fun v3 => (bd (α := Ty8e1fe2) (o155 v3.2.1 v3.2.2) (fun v4 => (bd (α := (Int × Int)) (o157 v4.1) (fun v5 => (bd (α := Tyb2691e) (o158 v5.2 v4.2.1 v4.2.2) (fun v6 => (bd (α := (Int × Int × Int)) (o115 v5.1) (fun v7 => (bd (α := Ty930446) (o159 v6.1 v6.2) (fun v8 => (bd (α := Ty17bea0) (o160v1 (((v3.1, v5.1), v7.1, v7.2.1), v8.1, a1.2.2) a2 a3 ((v8.2.1.1.1, v8.2.2, v8.2.1.1.2.1), (v8.2.1.1.2.2, v8.2.1.2.1), v8.2.1.2.2)) (fun v9 => (some v9)))))))))))))))))))
theorem e94v1 (t : Tydc96d6) : evF (stpT Tryz.prog T47 K47) Tryz.f94 p94v1 r94v1 .d t = (o94v1 t.1.1 t.1.2 t.2.1 t.2.2) := by kernel_rfl
theorem fo94v1 : FOk Tryz.prog 94 ⟨p94v1, r94v1, fun t => (o94v1 t.1.1 t.1.2 t.2.1 t.2.2)⟩ := FOk.run_eq (evF_ok (h := .d) (by kernel_rfl) (by kernel_rfl) (by kernel_rfl)) e94v1
def T48 : Tbl := (94, ⟨p94v1, r94v1, fun t => (o94v1 t.1.1 t.1.2 t.2.1 t.2.2)⟩) :: T47
theorem K48 : TOk Tryz.prog T48 := .cons K47 fo94v1
def Bse8605e : BSh := .cells 116 [.own 1, .cst (.slice none 0 0), .s, .i .i64, .i .i64, .i .i64, .i .i64, .i .i64, .cst (.slice none 0 0), .b, .bc false, .bc false]
def Bs3ab281 : BSh := .cells 120 [.i .i64, .ro (.p .s (.i .i64)) true]
def Bsc3b075 : BSh := .cells 116 [.own 1, .cst (.slice none 0 0), .s, .i .i64, .i .i64, .i .i64, .i .i64, .i .i64, .cst (.slice none 0 0), .bc false, .b, .bc true]
def Bsa8b2fc : BSh := .cells 116 [.own 1, .cst (.slice none 0 0), .s, .i .i64, .i .i64, .i .i64, .i .i64, .i .i64, .cst (.slice none 0 0), .bc false, .b, .b]
def Bsbedcd0 : BSh := .cells 116 [.own 1, .cst (.slice none 0 0), .s, .i .i64, .i .i64, .i .i64, .i .i64, .i .i64, .cst (.slice none 0 0), .bc false, .bc false, .bc false]
def Bs5edfe7 : BSh := .cells 116 [.own 1, .own 4, .s, .i .i64, .i .i64, .i .i64, .i .i64, .i .i64, .cst (.slice none 0 0), .b, .bc false, .bc false]
def Bsdda84f : BSh := .cells 116 [.own 1, .own 4, .s, .i .i64, .i .i64, .i .i64, .i .i64, .i .i64, .cst (.slice none 0 0), .bc false, .b, .bc true]
def Bs398425 : BSh := .cells 116 [.own 1, .own 4, .s, .i .i64, .i .i64, .i .i64, .i .i64, .i .i64, .cst (.slice none 0 0), .bc false, .b, .b]
def Bsc24129 : BSh := .cells 116 [.own 1, .own 4, .s, .i .i64, .i .i64, .i .i64, .i .i64, .i .i64, .cst (.slice none 0 0), .bc false, .bc false, .bc false]
abbrev Ty0b1ae7 : Type := (Int × Ty895a9a) × (List (Int × List (List UInt8 × Int))) × (List (List UInt8 × Int)) × List (Int × Int × Int)
def Dfe48214 : Int × List (List UInt8 × Int) := ((0 : Int), ([] : List (List UInt8 × Int)))
abbrev Tya02687 : Type := (Bool × Int × Ty895a9a) × ((List (Int × List (List UInt8 × Int))) × List (List UInt8 × Int)) × (Int × List (List UInt8 × Int)) × List (Int × Int × Int)
abbrev Tyc0a991 : Type := (List UInt8 × Int × Int) × Int × Int × Int
abbrev Tydad346 : Type := ((List UInt8 × Bool × Bool) × Bool × Bool × Int) × (List UInt8 × Bool × Tyc0a991) × (List (Int × List (List UInt8 × Int))) × (List (List UInt8 × Int)) × Int × List (List UInt8 × Int)
abbrev Ty035810 : Type := (List UInt8 × Int × Int) × (Int × Int) × Int × Bool
abbrev Ty06e853 : Type := (Bool × Int × Ty035810) × (List (Int × List (List UInt8 × Int))) × (List (List UInt8 × Int)) × Int × List (List UInt8 × Int)
abbrev Ty72d52b : Type := ((List UInt8 × Bool) × Bool × Bool × Int) × (List UInt8 × Bool × Tyc0a991) × (List (Int × List (List UInt8 × Int))) × (List (List UInt8 × Int)) × Int × List (List UInt8 × Int)
abbrev Tyb6986a : Type := ((List UInt8 × Int) × Int × Int) × (Int × Int) × Bool × Bool
abbrev Ty6691ec : Type := (Bool × Int × Tyb6986a) × (List (Int × List (List UInt8 × Int))) × (List (List UInt8 × Int)) × Int × List (List UInt8 × Int)
abbrev Tyba6eb4 : Type := ((List UInt8 × Bool × Bool) × Bool × Bool × Int) × (List UInt8 × Bool × Tyc0a991) × ((List (Int × List (List UInt8 × Int))) × List (List UInt8 × Int)) × (Int × List (List UInt8 × Int)) × List (Int × Int × Int)
abbrev Ty82b321 : Type := (Bool × Int × Ty035810) × ((List (Int × List (List UInt8 × Int))) × List (List UInt8 × Int)) × (Int × List (List UInt8 × Int)) × List (Int × Int × Int)
abbrev Ty6303b0 : Type := ((List UInt8 × Bool × Bool) × Bool × Int × List UInt8) × (Bool × Tyc0a991 × List (Int × List (List UInt8 × Int))) × (List (List UInt8 × Int)) × (Int × List (List UInt8 × Int)) × List (Int × Int × Int)
abbrev Tya7666c : Type := (Bool × Int × Tyb6986a) × ((List (Int × List (List UInt8 × Int))) × List (List UInt8 × Int)) × (Int × List (List UInt8 × Int)) × List (Int × Int × Int)
def o43_s0 : Sch := ⟨[(0, .v (.c (.ptr 0 0))), (2, .v (.c (.mp 2))), (4, .v (.c (.ptr 3 0))), (6, .v (.c (.b))), (18, .v (.c (.own 1))), (19, .v (.c (.i .i64))), (20, .v (.c (.ic .i64 (0))))], [Bse8605e, Bs042cd5, .map (.i .u8), Bs3ab281]⟩
def o43_s1 : Sch := ⟨[(0, .v (.c (.ptr 0 0))), (2, .v (.c (.mp 2))), (4, .v (.c (.ptr 3 0))), (6, .v (.c (.b))), (18, .v (.c (.own 1))), (19, .v (.c (.i .i64))), (20, .v (.c (.ic .i64 (0))))], [Bsc3b075, Bs042cd5, .map (.i .u8), Bs3ab281]⟩
def o43_s2 : Sch := ⟨[(0, .v (.c (.ptr 0 0))), (2, .v (.c (.mp 2))), (4, .v (.c (.ptr 3 0))), (6, .v (.c (.b))), (18, .v (.c (.own 1))), (19, .v (.c (.i .i64))), (20, .v (.c (.ic .i64 (0))))], [Bsa8b2fc, Bs042cd5, .map (.i .u8), Bs3ab281]⟩
def o43_s3 : Sch := ⟨[(0, .v (.c (.ptr 0 0))), (2, .v (.c (.mp 2))), (4, .v (.c (.ptr 3 0))), (5, .v (.c (.s))), (6, .v (.c (.b))), (8, .v (.c (.b))), (9, .v (.c (.b))), (18, .v (.c (.own 1))), (19, .v (.c (.i .i64))), (20, .v (.c (.ic .i64 (0)))), (56, .v (.c (.s))), (127, .v (.c (.b)))], [Bsbedcd0, Bs042cd5, .map (.i .u8), Bs3ab281]⟩
def o43_s4 : Sch := ⟨[(0, .v (.c (.ptr 0 0))), (2, .v (.c (.mp 2))), (3, .v (.c (.ic .i64 (0)))), (4, .v (.c (.ptr 3 0))), (5, .v (.c (.s))), (6, .v (.c (.b))), (7, .v (.c (.b))), (8, .v (.c (.b))), (9, .v (.c (.b))), (18, .v (.c (.own 1))), (19, .v (.c (.i .i64))), (20, .v (.c (.ic .i64 (0)))), (56, .v (.c (.s))), (66, .v (.c (.b)))], [Bsbedcd0, Bs042cd5, .map (.i .u8), Bs3ab281]⟩
def o43_s5 : Sch := ⟨[(0, .v (.c (.ptr 0 0))), (2, .v (.c (.mp 2))), (4, .v (.c (.ptr 3 0))), (6, .v (.c (.b))), (18, .v (.c (.own 1))), (19, .v (.c (.i .i64))), (20, .v (.c (.ic .i64 (0))))], [Bs4a51a0, Bs042cd5, .map (.i .u8), Bs3ab281, Bs353f73]⟩
def o43_s6 : Sch := ⟨[(0, .v (.c (.ptr 0 0))), (2, .v (.c (.mp 2))), (18, .v (.c (.own 1))), (19, .v (.c (.i .i64))), (20, .v (.c (.ic .i64 (0))))], [Bs1b5922, Bs042cd5, .map (.i .u8), Bs353f73]⟩
def o43_s7 : Sch := ⟨[(0, .v (.c (.ptr 0 0))), (2, .v (.c (.mp 2))), (4, .v (.c (.ptr 3 0))), (6, .v (.c (.b))), (18, .v (.c (.own 1))), (19, .v (.c (.i .i64))), (20, .v (.c (.ic .i64 (1))))], [Bs5edfe7, Bs042cd5, .map (.i .u8), Bs3ab281, Bs353f73]⟩
def o43_s8 : Sch := ⟨[(0, .v (.c (.ptr 0 0))), (2, .v (.c (.mp 2))), (4, .v (.c (.ptr 3 0))), (6, .v (.c (.b))), (18, .v (.c (.own 1))), (19, .v (.c (.i .i64))), (20, .v (.c (.ic .i64 (1))))], [Bsdda84f, Bs042cd5, .map (.i .u8), Bs3ab281, Bs353f73]⟩
def o43_s9 : Sch := ⟨[(0, .v (.c (.ptr 0 0))), (2, .v (.c (.mp 2))), (4, .v (.c (.ptr 3 0))), (6, .v (.c (.b))), (18, .v (.c (.own 1))), (19, .v (.c (.i .i64))), (20, .v (.c (.ic .i64 (1))))], [Bs398425, Bs042cd5, .map (.i .u8), Bs3ab281, Bs353f73]⟩
def o43_s10 : Sch := ⟨[(0, .v (.c (.ptr 0 0))), (2, .v (.c (.mp 2))), (4, .v (.c (.ptr 3 0))), (5, .v (.c (.s))), (6, .v (.c (.b))), (8, .v (.c (.b))), (9, .v (.c (.b))), (18, .v (.c (.own 1))), (19, .v (.c (.i .i64))), (20, .v (.c (.ic .i64 (1)))), (56, .v (.c (.s))), (127, .v (.c (.b)))], [Bsc24129, Bs042cd5, .map (.i .u8), Bs3ab281, Bs353f73]⟩
def o43_s11 : Sch := ⟨[(0, .v (.c (.ptr 0 0))), (2, .v (.c (.mp 2))), (3, .v (.c (.ic .i64 (1)))), (4, .v (.c (.ptr 3 0))), (5, .v (.c (.s))), (6, .v (.c (.b))), (7, .v (.c (.b))), (8, .v (.c (.b))), (9, .v (.c (.b))), (18, .v (.c (.own 1))), (19, .v (.c (.i .i64))), (20, .v (.c (.ic .i64 (1)))), (56, .v (.c (.s))), (66, .v (.c (.b)))], [Bsc24129, Bs042cd5, .map (.i .u8), Bs3ab281, Bs353f73]⟩
def o43_s12 : Sch := ⟨[(0, .v (.c (.ptr 0 0))), (2, .v (.c (.mp 2))), (4, .v (.c (.ptr 3 0))), (6, .v (.c (.b))), (18, .v (.c (.own 1))), (19, .v (.c (.i .i64))), (20, .v (.c (.ic .i64 (1))))], [Bs4a51a0, Bs042cd5, .map (.i .u8), Bs3ab281, Bs353f73]⟩
def o43_s13 : Sch := ⟨[(0, .v (.c (.ptr 0 0))), (2, .v (.c (.mp 2))), (18, .v (.c (.own 1))), (19, .v (.c (.i .i64))), (20, .v (.c (.ic .i64 (1))))], [Bs1b5922, Bs042cd5, .map (.i .u8), Bs353f73]⟩
def p43 : Sch := ⟨[(0, .v (.c (.ptr 0 0)))], [Bs250194, Bs042cd5]⟩
def r43 : List Sch := [⟨[(0, .tup [])], [Bs38dfe2, Bs042cd5, Bs353f73]⟩]
def o43 (a0 : Ty895a9a) (a1 : List (Int × List (List UInt8 × Int))) : Option Ty17bea0 :=
 (cnd (decide ((0 : Int) < ((a1.length : Nat) : Int))) (bd (α := Ty0b1ae7) (gd (decide ((0 : Int) ≤ (0 : Int) ∧ (0 : Int) < ((a1.length : Nat) : Int))) (bd (α := Int × List (List UInt8 × Int)) (some (List.getD a1 ((0 : Int).toNat) Dfe48214)) (fun v1 => (gd (decide ((0 : Int) ≤ (0 : Int) ∧ (0 : Int) < ((v1.2.length : Nat) : Int))) (jd (α := Tya02687) (cnd ((List.getD v1.2 (0 : Int).toNat (([] : List UInt8), (0 : Int))).1 == ([68, 65, 84, 65, 66, 65, 83, 69] : List UInt8)) (cnd (!(true == ((List.getD v1.2 (0 : Int).toNat (([] : List UInt8), (0 : Int))).1 == ([68, 65, 84, 65, 66, 65, 83, 69] : List UInt8)))) (some (Ctl.go (((!(true == ((List.getD v1.2 (0 : Int).toNat (([] : List UInt8), (0 : Int))).1 == ([68, 65, 84, 65, 66, 65, 83, 69] : List UInt8)))), ((a1.length : Nat) : Int), a0.1, a0.2.1, false, false, false), (a1, (mpPut (mpPut (mpPut ([] : List (List UInt8 × Int)) ([68, 69, 80, 65, 82, 84, 85, 82, 69] : List UInt8) (1 : Int)) ([65, 82, 82, 73, 86, 65, 76] : List UInt8) (2 : Int)) ([65, 80, 80, 82, 79, 65, 67, 72] : List UInt8) (3 : Int))), v1, ([] : List (Int × Int × Int))))) (bd (α := Ty17bea0) (o94 v1 (a0.1, a0.2.1, false, false, false) a1) (fun v2 => (some (Ctl.go (((!(true == ((List.getD v1.2 (0 : Int).toNat (([] : List UInt8), (0 : Int))).1 == ([68, 65, 84, 65, 66, 65, 83, 69] : List UInt8)))), ((a1.length : Nat) : Int), v2.1), (v2.2.1, (mpPut (mpPut (mpPut ([] : List (List UInt8 × Int)) ([68, 69, 80, 65, 82, 84, 85, 82, 69] : List UInt8) (1 : Int)) ([65, 82, 82, 73, 86, 65, 76] : List UInt8) (2 : Int)) ([65, 80, 80, 82, 79, 65, 67, 72] : List UInt8) (3 : Int))), v1, v2.2.2)))))) (bd (α := Tydad346) (cnd ((List.getD v1.2 (0 : Int).toNat (([] : List UInt8), (0 : Int))).1 == ([87, 65, 89, 80, 79, 73, 78, 84] : List UInt8)) (some ((((List.getD v1.2 (0 : Int).toNat (([] : List UInt8), (0 : Int))).1, (!(true == ((List.getD v1.2 (0 : Int).toNat (([] : List UInt8), (0 : Int))).1 == ([68, 65, 84, 65, 66, 65, 83, 69] : List UInt8)))), a0.2.2.1), a0.2.2.2.1, a0.2.2.2.2, ((a1.length : Nat) : Int)), ((List.getD v1.2 (0 : Int).toNat (([] : List UInt8), (0 : Int))).1, true, (a0.1.1.1, a0.1.1.2, a0.1.2.1), a0.1.2.2, a0.2.1), a1, (mpPut (mpPut (mpPut ([] : List (List UInt8 × Int)) ([68, 69, 80, 65, 82, 84, 85, 82, 69] : List UInt8) (1 : Int)) ([65, 82, 82, 73, 86, 65, 76] : List UInt8) (2 : Int)) ([65, 80, 80, 82, 79, 65, 67, 72] : List UInt8) (3 : Int)), v1)) (cnd ((List.getD v1.2 (0 : Int).toNat (([] : List UInt8), (0 : Int))).1 == ([86, 79, 82] : List UInt8)) (some ((((List.getD v1.2 (0 : Int).toNat (([] : List UInt8), (0 : Int))).1, (!(true == ((List.getD v1.2 (0 : Int).toNat (([] : List UInt8), (0 : Int))).1 == ([68, 65, 84, 65, 66, 65, 83, 69] : List UInt8)))), a0.2.2.1), a0.2.2.2.1, a0.2.2.2.2, ((a1.length : Nat) : Int)), ((List.getD v1.2 (0 : Int).toNat (([] : List UInt8), (0 : Int))).1, true, (a0.1.1.1, a0.1.1.2, a0.1.2.1), a0.1.2.2, a0.2.1), a1, (mpPut (mpPut (mpPut ([] : List (List UInt8 × Int)) ([68, 69, 80, 65, 82, 84, 85, 82, 69] : List UInt8) (1 : Int)) ([65, 82, 82, 73, 86, 65, 76] : List UInt8) (2 : Int)) ([65, 80, 80, 82, 79, 65, 67, 72] : List UInt8) (3 : Int)), v1)) (cnd ((List.getD v1.2 (0 : Int).toNat (([] : List UInt8), (0 : Int))).1 == ([68, 77, 69] : List UInt8)) (some ((((List.getD v1.2 (0 : Int).toNat (([] : List UInt8), (0 : Int))).1, (!(true == ((List.getD v1.2 (0 : Int).toNat (([] : List UInt8), (0 : Int))).1 == ([68, 65, 84, 65, 66, 65, 83, 69] : List UInt8)))), a0.2.2.1), a0.2.2.2.1, a0.2.2.2.2, ((a1.length : Nat) : Int)), ((List.getD v1.2 (0 : Int).toNat (([] : List UInt8), (0 : Int))).1, true, (a0.1.1.1, a0.1.1.2, a0.1.2.1), a0.1.2.2, a0.2.1), a1, (mpPut (mpPut (mpPut ([] : List (List UInt8 × Int)) ([68, 69, 80, 65, 82, 84, 85, 82, 69] : List UInt8) (1 : Int)) ([65, 82, 82, 73, 86, 65, 76] : List UInt8) (2 : Int)) ([65, 80, 80, 82, 79, 65, 67, 72] : List UInt8) (3 : Int)), v1)) (cnd ((List.getD v1.2 (0 : Int).toNat (([] : List UInt8), (0 : Int))).1 == ([78, 68, 66] : List UInt8)) (some ((((List.getD v1.2 (0 : Int).toNat (([] : List UInt8), (0 : Int))).1, (!(true == ((List.getD v1.2 (0 : Int).toNat (([] : List UInt8), (0 : Int))).1 == ([68, 65, 84, 65, 66, 65, 83, 69] : List UInt8)))), a0.2.2.1), a0.2.2.2.1, a0.2.2.2.2, ((a1.length : Nat) : Int)), ((List.getD v1.2 (0 : Int).toNat (([] : List UInt8), (0 : Int))).1, true, (a0.1.1.1, a0.1.1.2, a0.1.2.1), a0.1.2.2, a0.2.1), a1, (mpPut (mpPut (mpPut ([] : List (List UInt8 × Int)) ([68, 69, 80, 65, 82, 84, 85, 82, 69] : List UInt8) (1 : Int)) ([65, 82, 82, 73, 86, 65, 76] : List UInt8) (2 : Int)) ([65, 80, 80, 82, 79, 65, 67, 72] : List UInt8) (3 : Int)), v1)) (cnd ((List.getD v1.2 (0 : Int).toNat (([] : List UInt8), (0 : Int))).1 == ([65, 73, 82, 80, 79, 82, 84] : List UInt8)) (some ((((List.getD v1.2 (0 : Int).toNat (([] : List UInt8), (0 : Int))).1, (!(true == ((List.getD v1.2 (0 : Int).toNat (([] : List UInt8), (0 : Int))).1 == ([68, 65, 84, 65, 66, 65, 83, 69] : List UInt8)))), a0.2.2.1), a0.2.2.2.1, a0.2.2.2.2, ((a1.length : Nat) : Int)), ((List.getD v1.2 (0 : Int).toNat (([] : List UInt8), (0 : Int))).1, true, (a0.1.1.1, a0.1.1.2, a0.1.2.1), a0.1.2.2, a0.2.1), a1, (mpPut (mpPut (mpPut ([] : List (List UInt8 × Int)) ([68, 69, 80, 65, 82, 84, 85, 82, 69] : List UInt8) (1 : Int)) ([65, 82, 82, 73, 86, 65, 76] : List UInt8) (2 : Int)) ([65, 80, 80, 82, 79, 65, 67, 72] : List UInt8) (3 : Int)), v1)) (some ((((List.getD v1.2 (0 : Int).toNat (([] : List UInt8), (0 : Int))).1, (!(true == ((List.getD v1.2 (0 : Int).toNat (([] : List UInt8), (0 : Int))).1 == ([68, 65, 84, 65, 66, 65, 83, 69] : List UInt8)))), a0.2.2.1), a0.2.2.2.1, a0.2.2.2.2, ((a1.length : Nat) : Int)), ((List.getD v1.2 (0 : Int).toNat (([] : List UInt8), (0 : Int))).1, ((List.getD v1.2 (0 : Int).toNat (([] : List UInt8), (0 : Int))).1 == ([82, 85, 78, 87, 65, 89] : List UInt8)), (a0.1.1.1, a0.1.1.2, a0.1.2.1), a0.1.2.2, a0.2.1), a1, (mpPut (mpPut (mpPut ([] : List (List UInt8 × Int)) ([68, 69, 80, 65, 82, 84, 85, 82, 69] : List UInt8) (1 : Int)) ([65, 82, 82, 73, 86, 65, 76] : List UInt8) (2 : Int)) ([65, 80, 80, 82, 79, 65, 67, 72] : List UInt8) (3 : Int)), v1))))))) (fun v3 => (cnd v3.2.1.2.1 (cnd v3.1.1.2.1 (some (Ctl.go ((v3.1.1.2.1, v3.1.2.2.2, ((v3.2.1.2.2.1.1, v3.2.1.2.2.1.2.1), v3.2.1.2.2.1.2.2, v3.2.1.2.2.2.1), v3.2.1.2.2.2.2, false, false, false), (v3.2.2.1, v3.2.2.2.1), v3.2.2.2.2, ([] : List (Int × Int × Int))))) none) (cnd (v3.2.1.1 == ([65, 73, 82, 87, 65, 89] : List UInt8)) (cnd (!v3.1.1.2.1) none (some (Ctl.go ((v3.1.1.2.1, v3.1.2.2.2, ((v3.2.1.2.2.1.1, v3.2.1.2.2.1.2.1), v3.2.1.2.2.1.2.2, v3.2.1.2.2.2.1), v3.2.1.2.2.2.2, true, false, false), (v3.2.2.1, v3.2.2.2.1), v3.2.2.2.2, ([] : List (Int × Int × Int)))))) (cnd (v3.2.1.1 == ([86, 73, 65] : List UInt8)) (bd (α := Ty06e853) (cnd v3.1.1.2.1 (some ((true, v3.1.2.2.2, v3.2.1.2.2.1, (v3.2.1.2.2.2.1, v3.2.1.2.2.2.2.1), v3.2.1.2.2.2.2.2, v3.1.1.2.2), v3.2.2)) (some (((!v3.1.1.2.2), v3.1.2.2.2, v3.2.1.2.2.1, (v3.2.1.2.2.2.1, v3.2.1.2.2.2.2.1), v3.2.1.2.2.2.2.2, v3.1.1.2.2), v3.2.2))) (fun v4 => (some (Ctl.go ((v4.1.1, v4.1.2.1, ((v4.1.2.2.1.1, v4.1.2.2.1.2.1), v4.1.2.2.1.2.2, v4.1.2.2.2.1.1), (v4.1.2.2.2.1.2, v4.1.2.2.2.2.1), v4.1.2.2.2.2.2, false, false), (v4.2.1, v4.2.2.1), v4.2.2.2, ([] : List (Int × Int × Int))))))) (bd (α := Ty72d52b) (cnd (v3.2.1.1 == ([68, 69, 80, 65, 82, 84, 85, 82, 69] : List UInt8)) (some (((v3.1.1.1, v3.1.1.2.1), v3.1.2), (v3.2.1.1, true, v3.2.1.2.2), v3.2.2)) (cnd (v3.2.1.1 == ([65, 82, 82, 73, 86, 65, 76] : List UInt8)) (some (((v3.1.1.1, v3.1.1.2.1), v3.1.2), (v3.2.1.1, true, v3.2.1.2.2), v3.2.2)) (some (((v3.1.1.1, v3.1.1.2.1), v3.1.2), (v3.2.1.1, (v3.2.1.1 == ([65, 80, 80, 82, 79, 65, 67, 72] : List UInt8)), v3.2.1.2.2), v3.2.2)))) (fun v5 => (cnd v5.2.1.2.1 (cnd (!v5.1.1.2) none (some (Ctl.go ((v5.1.1.2, v5.1.2.2.2, ((v5.2.1.2.2.1.1, v5.2.1.2.2.1.2.1), v5.2.1.2.2.1.2.2, v5.2.1.2.2.2.1), v5.2.1.2.2.2.2, false, true, false), (v5.2.2.1, v5.2.2.2.1), v5.2.2.2.2, ([] : List (Int × Int × Int)))))) (cnd (v5.2.1.1 == ([80, 65, 82, 84] : List UInt8)) (bd (α := Ty06e853) (cnd v5.1.1.2 (some ((true, v5.1.2.2.2, v5.2.1.2.2.1, (v5.2.1.2.2.2.1, v5.2.1.2.2.2.2.1), v5.2.1.2.2.2.2.2, v5.1.2.1), v5.2.2)) (some (((!v5.1.2.1), v5.1.2.2.2, v5.2.1.2.2.1, (v5.2.1.2.2.2.1, v5.2.1.2.2.2.2.1), v5.2.1.2.2.2.2.2, v5.1.2.1), v5.2.2))) (fun v6 => (cnd (!v6.1.1) none (some (Ctl.go ((v6.1.1, v6.1.2.1, ((v6.1.2.2.1.1, v6.1.2.2.1.2.1), v6.1.2.2.1.2.2, v6.1.2.2.2.1.1), (v6.1.2.2.2.1.2, v6.1.2.2.2.2.1), false, v6.1.2.2.2.2.2, true), (v6.2.1, v6.2.2.1), v6.2.2.2, ([] : List (Int × Int × Int)))))))) (cnd (v5.2.1.1 == ([76, 69, 71] : List UInt8)) (bd (α := Ty6691ec) (cnd v5.1.1.2 (some ((true, v5.1.2.2.2, ((v5.2.1.2.2.1.1, v5.2.1.2.2.1.2.1), v5.2.1.2.2.1.2.2, v5.2.1.2.2.2.1), v5.2.1.2.2.2.2, v5.1.2.1, v5.1.2.2.1), v5.2.2)) (some (((!v5.1.2.2.1), v5.1.2.2.2, ((v5.2.1.2.2.1.1, v5.2.1.2.2.1.2.1), v5.2.1.2.2.1.2.2, v5.2.1.2.2.2.1), v5.2.1.2.2.2.2, v5.1.2.1, v5.1.2.2.1), v5.2.2))) (fun v7 => (cnd (!v7.1.1) none (some (Ctl.go ((v7.1.1, v7.1.2.1, v7.1.2.2.1, v7.1.2.2.2.1, false, v7.1.2.2.2.2), (v7.2.1, v7.2.2.1), v7.2.2.2, ([] : List (Int × Int × Int)))))))) (bd (α := Ty17bea0) (o101 v5.2.2.2.2 (4 : Int) (((v5.2.1.2.2.1.1, v5.2.1.2.2.1.2.1), v5.2.1.2.2.1.2.2, v5.2.1.2.2.2.1), v5.2.1.2.2.2.2, false, false, false) v5.2.2.1) (fun v8 => (dnO (some ((v5.1.2.2.2, v8.1), v8.2.1, v5.2.2.2.1, v8.2.2)))))))))))))))) (fun v9 => (cnd v9.1.1 (bd (α := Ty17bea0) (o101v1 v9.2.2.1 (9 : Int) v9.1.2.2 v9.2.1.1 v9.2.2.2) (fun v10 => (some ((v9.1.2.1, v10.1), v10.2.1, v9.2.1.2, v10.2.2)))) (some (v9.1.2, v9.2.1.1, v9.2.1.2, v9.2.2.2))))))))) (fun v11 => (cnd (decide ((1 : Int) < v11.1.1)) (bd (α := Ty0b1ae7) (gd (decide ((0 : Int) ≤ (1 : Int) ∧ (1 : Int) < ((v11.2.1.length : Nat) : Int))) (bd (α := Int × List (List UInt8 × Int)) (some (List.getD v11.2.1 ((1 : Int).toNat) Dfe48214)) (fun v12 => (gd (decide ((0 : Int) ≤ (0 : Int) ∧ (0 : Int) < ((v12.2.length : Nat) : Int))) (jd (α := Tya02687) (cnd ((List.getD v12.2 (0 : Int).toNat (([] : List UInt8), (0 : Int))).1 == ([68, 65, 84, 65, 66, 65, 83, 69] : List UInt8)) (cnd (!(false == ((List.getD v12.2 (0 : Int).toNat (([] : List UInt8), (0 : Int))).1 == ([68, 65, 84, 65, 66, 65, 83, 69] : List UInt8)))) (some (Ctl.go (((!(false == ((List.getD v12.2 (0 : Int).toNat (([] : List UInt8), (0 : Int))).1 == ([68, 65, 84, 65, 66, 65, 83, 69] : List UInt8)))), v11.1.1, v11.1.2.1, v11.1.2.2.1, false, false, false), (v11.2.1, v11.2.2.1), v12, v11.2.2.2))) (bd (α := Ty17bea0) (o94v1 v12 (v11.1.2.1, v11.1.2.2.1, false, false, false) v11.2.1 v11.2.2.2) (fun v13 => (some (Ctl.go (((!(false == ((List.getD v12.2 (0 : Int).toNat (([] : List UInt8), (0 : Int))).1 == ([68, 65, 84, 65, 66, 65, 83, 69] : List UInt8)))), v11.1.1, v13.1), (v13.2.1, v11.2.2.1), v12, v13.2.2)))))) (bd (α := Tyba6eb4) (cnd ((List.getD v12.2 (0 : Int).toNat (([] : List UInt8), (0 : Int))).1 == ([87, 65, 89, 80, 79, 73, 78, 84] : List UInt8)) (some ((((List.getD v12.2 (0 : Int).toNat (([] : List UInt8), (0 : Int))).1, (!(false == ((List.getD v12.2 (0 : Int).toNat (([] : List UInt8), (0 : Int))).1 == ([68, 65, 84, 65, 66, 65, 83, 69] : List UInt8)))), v11.1.2.2.2.1), v11.1.2.2.2.2.1, v11.1.2.2.2.2.2, v11.1.1), ((List.getD v12.2 (0 : Int).toNat (([] : List UInt8), (0 : Int))).1, true, (v11.1.2.1.1.1, v11.1.2.1.1.2, v11.1.2.1.2.1), v11.1.2.1.2.2, v11.1.2.2.1), (v11.2.1, v11.2.2.1), v12, v11.2.2.2)) (cnd ((List.getD v12.2 (0 : Int).toNat (([] : List UInt8), (0 : Int))).1 == ([86, 79, 82] : List UInt8)) (some ((((List.getD v12.2 (0 : Int).toNat (([] : List UInt8), (0 : Int))).1, (!(false == ((List.getD v12.2 (0 : Int).toNat (([] : List UInt8), (0 : Int))).1 == ([68, 65, 84, 65, 66, 65, 83, 69] : List UInt8)))), v11.1.2.2.2.1), v11.1.2.2.2.2.1, v11.1.2.2.2.2.2, v11.1.1), ((List.getD v12.2 (0 : Int).toNat (([] : List UInt8), (0 : Int))).1, true, (v11.1.2.1.1.1, v11.1.2.1.1.2, v11.1.2.1.2.1), v11.1.2.1.2.2, v11.1.2.2.1), (v11.2.1, v11.2.2.1), v12, v11.2.2.2)) (cnd ((List.getD v12.2 (0 : Int).toNat (([] : List UInt8), (0 : Int))).1 == ([68, 77, 69] : List UInt8)) (some ((((List.getD v12.2 (0 : Int).toNat (([] : List UInt8), (0 : Int))).1, (!(false == ((List.getD v12.2 (0 : Int).toNat (([] : List UInt8), (0 : Int))).1 == ([68, 65, 84, 65, 66, 65, 83, 69] : List UInt8)))), v11.1.2.2.2.1), v11.1.2.2.2.2.1, v11.1.2.2.2.2.2, v11.1.1), ((List.getD v12.2 (0 : Int).toNat (([] : List UInt8), (0 : Int))).1, true, (v11.1.2.1.1.1, v11.1.2.1.1.2, v11.1.2.1.2.1), v11.1.2.1.2.2, v11.1.2.2.1), (v11.2.1, v11.2.2.1), v12, v11.2.2.2)) (cnd ((List.getD v12.2 (0 : Int).toNat (([] : List UInt8), (0 : Int))).1 == ([78, 68, 66] : List UInt8)) (some ((((List.getD v12.2 (0 : Int).toNat (([] : List UInt8), (0 : Int))).1, (!(false == ((List.getD v12.2 (0 : Int).toNat (([] : List UInt8), (0 : Int))).1 == ([68, 65, 84, 65, 66, 65, 83, 69] : List UInt8)))), v11.1.2.2.2.1), v11.1.2.2.2.2.1, v11.1.2.2.2.2.2, v11.1.1), ((List.getD v12.2 (0 : Int).toNat (([] : List UInt8), (0 : Int))).1, true, (v11.1.2.1.1.1, v11.1.2.1.1.2, v11.1.2.1.2.1), v11.1.2.1.2.2, v11.1.2.2.1), (v11.2.1, v11.2.2.1), v12, v11.2.2.2)) (cnd ((List.getD v12.2 (0 : Int).toNat (([] : List UInt8), (0 : Int))).1 == ([65, 73, 82, 80, 79, 82, 84] : List UInt8)) (some ((((List.getD v12.2 (0 : Int).toNat (([] : List UInt8), (0 : Int))).1, (!(false == ((List.getD v12.2 (0 : Int).toNat (([] : List UInt8), (0 : Int))).1 == ([68, 65, 84, 65, 66, 65, 83, 69] : List UInt8)))), v11.1.2.2.2.1), v11.1.2.2.2.2.1, v11.1.2.2.2.2.2, v11.1.1), ((List.getD v12.2 (0 : Int).toNat (([] : List UInt8), (0 : Int))).1, true, (v11.1.2.1.1.1, v11.1.2.1.1.2, v11.1.2.1.2.1), v11.1.2.1.2.2, v11.1.2.2.1), (v11.2.1, v11.2.2.1), v12, v11.2.2.2)) (some ((((List.getD v12.2 (0 : Int).toNat (([] : List UInt8), (0 : Int))).1, (!(false == ((List.getD v12.2 (0 : Int).toNat (([] : List UInt8), (0 : Int))).1 == ([68, 65, 84, 65, 66, 65, 83, 69] : List UInt8)))), v11.1.2.2.2.1), v11.1.2.2.2.2.1, v11.1.2.2.2.2.2, v11.1.1), ((List.getD v12.2 (0 : Int).toNat (([] : List UInt8), (0 : Int))).1, ((List.getD v12.2 (0 : Int).toNat (([] : List UInt8), (0 : Int))).1 == ([82, 85, 78, 87, 65, 89] : List UInt8)), (v11.1.2.1.1.1, v11.1.2.1.1.2, v11.1.2.1.2.1), v11.1.2.1.2.2, v11.1.2.2.1), (v11.2.1, v11.2.2.1), v12, v11.2.2.2))))))) (fun v14 => (cnd v14.2.1.2.1 (cnd v14.1.1.2.1 (some (Ctl.go ((v14.1.1.2.1, v14.1.2.2.2, ((v14.2.1.2.2.1.1, v14.2.1.2.2.1.2.1), v14.2.1.2.2.1.2.2, v14.2.1.2.2.2.1), v14.2.1.2.2.2.2, false, false, false), v14.2.2))) none) (cnd (v14.2.1.1 == ([65, 73, 82, 87, 65, 89] : List UInt8)) (cnd (!v14.1.1.2.1) none (some (Ctl.go ((v14.1.1.2.1, v14.1.2.2.2, ((v14.2.1.2.2.1.1, v14.2.1.2.2.1.2.1), v14.2.1.2.2.1.2.2, v14.2.1.2.2.2.1), v14.2.1.2.2.2.2, true, false, false), v14.2.2)))) (cnd (v14.2.1.1 == ([86, 73, 65] : List UInt8)) (bd (α := Ty82b321) (cnd v14.1.1.2.1 (some ((true, v14.1.2.2.2, v14.2.1.2.2.1, (v14.2.1.2.2.2.1, v14.2.1.2.2.2.2.1), v14.2.1.2.2.2.2.2, v14.1.1.2.2), v14.2.2)) (some (((!v14.1.1.2.2), v14.1.2.2.2, v14.2.1.2.2.1, (v14.2.1.2.2.2.1, v14.2.1.2.2.2.2.1), v14.2.1.2.2.2.2.2, v14.1.1.2.2), v14.2.2))) (fun v15 => (some (Ctl.go ((v15.1.1, v15.1.2.1, ((v15.1.2.2.1.1, v15.1.2.2.1.2.1), v15.1.2.2.1.2.2, v15.1.2.2.2.1.1), (v15.1.2.2.2.1.2, v15.1.2.2.2.2.1), v15.1.2.2.2.2.2, false, false), v15.2))))) (bd (α := Ty6303b0) (cnd (v14.2.1.1 == ([68, 69, 80, 65, 82, 84, 85, 82, 69] : List UInt8)) (some (((v14.1.1.1, v14.1.1.2.1, v14.1.2.1), v14.1.2.2.1, v14.1.2.2.2, v14.2.1.1), (true, v14.2.1.2.2, v14.2.2.1.1), v14.2.2.1.2, v14.2.2.2)) (cnd (v14.2.1.1 == ([65, 82, 82, 73, 86, 65, 76] : List UInt8)) (some (((v14.1.1.1, v14.1.1.2.1, v14.1.2.1), v14.1.2.2.1, v14.1.2.2.2, v14.2.1.1), (true, v14.2.1.2.2, v14.2.2.1.1), v14.2.2.1.2, v14.2.2.2)) (some (((v14.1.1.1, v14.1.1.2.1, v14.1.2.1), v14.1.2.2.1, v14.1.2.2.2, v14.2.1.1), ((v14.2.1.1 == ([65, 80, 80, 82, 79, 65, 67, 72] : List UInt8)), v14.2.1.2.2, v14.2.2.1.1), v14.2.2.1.2, v14.2.2.2)))) (fun v16 => (cnd v16.2.1.1 (cnd (!v16.1.1.2.1) none (some (Ctl.go ((v16.1.1.2.1, v16.1.2.2.1, ((v16.2.1.2.1.1.1, v16.2.1.2.1.1.2.1), v16.2.1.2.1.1.2.2, v16.2.1.2.1.2.1), v16.2.1.2.1.2.2, false, true, false), (v16.2.1.2.2, v16.2.2.1), v16.2.2.2)))) (cnd (v16.1.2.2.2 == ([80, 65, 82, 84] : List UInt8)) (bd (α := Ty82b321) (cnd v16.1.1.2.1 (some ((true, v16.1.2.2.1, v16.2.1.2.1.1, (v16.2.1.2.1.2.1, v16.2.1.2.1.2.2.1), v16.2.1.2.1.2.2.2, v16.1.1.2.2), (v16.2.1.2.2, v16.2.2.1), v16.2.2.2)) (some (((!v16.1.1.2.2), v16.1.2.2.1, v16.2.1.2.1.1, (v16.2.1.2.1.2.1, v16.2.1.2.1.2.2.1), v16.2.1.2.1.2.2.2, v16.1.1.2.2), (v16.2.1.2.2, v16.2.2.1), v16.2.2.2))) (fun v17 => (cnd (!v17.1.1) none (some (Ctl.go ((v17.1.1, v17.1.2.1, ((v17.1.2.2.1.1, v17.1.2.2.1.2.1), v17.1.2.2.1.2.2, v17.1.2.2.2.1.1), (v17.1.2.2.2.1.2, v17.1.2.2.2.2.1), false, v17.1.2.2.2.2.2, true), v17.2)))))) (cnd (v16.1.2.2.2 == ([76, 69, 71] : List UInt8)) (bd (α := Tya7666c) (cnd v16.1.1.2.1 (some ((true, v16.1.2.2.1, ((v16.2.1.2.1.1.1, v16.2.1.2.1.1.2.1), v16.2.1.2.1.1.2.2, v16.2.1.2.1.2.1), v16.2.1.2.1.2.2, v16.1.1.2.2, v16.1.2.1), (v16.2.1.2.2, v16.2.2.1), v16.2.2.2)) (some (((!v16.1.2.1), v16.1.2.2.1, ((v16.2.1.2.1.1.1, v16.2.1.2.1.1.2.1), v16.2.1.2.1.1.2.2, v16.2.1.2.1.2.1), v16.2.1.2.1.2.2, v16.1.1.2.2, v16.1.2.1), (v16.2.1.2.2, v16.2.2.1), v16.2.2.2))) (fun v18 => (cnd (!v18.1.1) none (some (Ctl.go ((v18.1.1, v18.1.2.1, v18.1.2.2.1, v18.1.2.2.2.1, false, v18.1.2.2.2.2), v18.2)))))) (bd (α := Ty17bea0) (o101v1 v16.2.2.2.1 (4 : Int) (((v16.2.1.2.1.1.1, v16.2.1.2.1.1.2.1), v16.2.1.2.1.1.2.2, v16.2.1.2.1.2.1), v16.2.1.2.1.2.2, false, false, false) v16.2.1.2.2 v16.2.2.2.2) (fun v19 => (dnO (some ((v16.1.2.2.1, v19.1), v19.2.1, v16.2.2.1, v19.2.2)))))))))))))))) (fun v20 => (cnd v20.1.1 (bd (α := Ty17bea0) (o101v1 v20.2.2.1 (9 : Int) v20.1.2.2 v20.2.1.1 v20.2.2.2) (fun v21 => (some ((v20.1.2.1, v21.1), v21.2.1, v20.2.1.2, v21.2.2)))) (some (v20.1.2, v20.2.1.1, v20.2.1.2, v20.2.2.2))))))))) (fun v22 => none)) (some (v11.1.2, v11.2.1, v11.2.2.2))))) (some (a0, a1, ([] : List (Int × Int × Int)))))
def h43 : HC := (.s .d (.s .d (.b (.u 2 (.v (.s .d (.s .d (.j false [o43_s6] (.s (.b (.s .d (.s .d (.s .d (.s .d (.s .d (.j true [o43_s5] (.s (.s .d (.b (.s .d (.c .d (.j false [o43_s4] (.s .d (.c (.s .d .cut) (.s .d (.c (.s .d (.s .d (.c .cut .d))) (.s .d (.c (.s .d (.j false [o43_s0] .d)) (.j false [o43_s3] (.s .d (.c (.s .d (.s .d (.c .cut .d))) (.s .d (.c (.s .d (.s (.j false [o43_s1] .d) (.s .d (.c .cut .d)))) (.s .d (.c (.s .d (.s (.j false [o43_s2] .d) (.s .d (.c .cut .d)))) .d)))))))))))))))))) .d)))))))) .d)))) (.v (.s .d (.s .d (.j false [o43_s13] (.s (.b (.s .d (.s .d (.s .d (.s .d (.s .d (.j true [o43_s12] (.s (.s .d (.b (.s .d (.c .d (.j false [o43_s11] (.s .d (.c (.s .d .cut) (.s .d (.c (.s .d (.s .d (.c .cut .d))) (.s .d (.c (.s .d (.j false [o43_s7] .d)) (.j false [o43_s10] (.s .d (.c (.s .d (.s .d (.c .cut .d))) (.s .d (.c (.s .d (.s (.j false [o43_s8] .d) (.s .d (.c .cut .d)))) (.s .d (.c (.s .d (.s (.j false [o43_s9] .d) (.s .d (.c .cut .d)))) .d)))))))))))))))))) .d)))))))) .d)))) .d))))))
theorem e43 (t : Ty895a9a × List (Int × List (List UInt8 × Int))) : evF (stpT Tryz.prog T48 K48) Tryz.f43 p43 r43 h43 t = (o43 t.1 t.2) := by kernel_rfl
theorem fo43 : FOk Tryz.prog 43 ⟨p43, r43, fun t => (o43 t.1 t.2)⟩ := FOk.run_eq (evF_ok (h := h43) (by kernel_rfl) (by kernel_rfl) (by kernel_rfl)) e43
def T49 : Tbl := (43, ⟨p43, r43, fun t => (o43 t.1 t.2)⟩) :: T48
theorem K49 : TOk Tryz.prog T49 := .cons K48 fo43
def o134_s0 : Sch := ⟨[(2, .v (.c (.b)))], []⟩
def p134 : Sch := ⟨[(0, .v (.agg [.i .i64, .i .i64]))], []⟩
def r134 : List Sch := [⟨[(0, .v (.c (.b)))], []⟩]
def o134 (a0 : Int × Int) : Option Bool :=
 (bd (α := Bool) (cnd (decide (a0.1 ≥ (-32400000 : Int))) (cnd (decide (a0.1 ≤ (32400000 : Int))) (cnd (decide (a0.2 > (-64800000 : Int))) (some (decide (a0.2 ≤ (64800000 : Int)))) (some false)) (some false)) (some false)) (fun v1 => (some v1)))
theorem e134 (t : Int × Int) : evF (stpT Tryz.prog T49 K49) Tryz.f134 p134 r134 (.s .d (.s (.j false [o134_s0] .d) .d)) t = (o134 t) := by kernel_rfl
theorem fo134 : FOk Tryz.prog 134 ⟨p134, r134, fun t => (o134 t)⟩ := FOk.run_eq (evF_ok (h := (.s .d (.s (.j false [o134_s0] .d) .d))) (by kernel_rfl) (by kernel_rfl) (by kernel_rfl)) e134
def T50 : Tbl := (134, ⟨p134, r134, fun t => (o134 t)⟩) :: T49
theorem K50 : TOk Tryz.prog T50 := .cons K49 fo134
def o187_s0 : Sch := ⟨[(2, .v (.c (.b)))], []⟩
def p187 : Sch := ⟨[(0, .v (.agg [.i .i64, .i .i64]))], []⟩
def r187 : List Sch := [⟨[(0, .v (.c (.b)))], []⟩]
def o187 (a0 : Int × Int) : Option Bool :=
 (bd (α := Bool) (bd (α := Bool) (o134 a0) (fun v1 => (cnd v1 (cnd (decide (a0.1 ≥ (-25200000 : Int))) (some (decide (a0.1 ≤ (25200000 : Int)))) (some false)) (some false)))) (fun v2 => (some v2)))
theorem e187 (t : Int × Int) : evF (stpT Tryz.prog T50 K50) Tryz.f187 p187 r187 (.s .d (.s (.j false [o187_s0] .d) .d)) t = (o187 t) := by kernel_rfl
theorem fo187 : FOk Tryz.prog 187 ⟨p187, r187, fun t => (o187 t)⟩ := FOk.run_eq (evF_ok (h := (.s .d (.s (.j false [o187_s0] .d) .d))) (by kernel_rfl) (by kernel_rfl) (by kernel_rfl)) e187
def T51 : Tbl := (187, ⟨p187, r187, fun t => (o187 t)⟩) :: T50
theorem K51 : TOk Tryz.prog T51 := .cons K50 fo187
def p186 : Sch := ⟨[(0, .v (.c (.i .i64)))], []⟩
def r186 : List Sch := [⟨[(0, .v (.c (.i .i64)))], []⟩]
def o186 (a0 : Int) : Option Int :=
 (cnd (decide ((Int.tmod a0 (129600000 : Int)) < (0 : Int))) (some (IntKind.wrap .i64 ((Int.tmod a0 (129600000 : Int)) + (129600000 : Int)))) (some (Int.tmod a0 (129600000 : Int))))
theorem e186 (t : Int) : evF (stpT Tryz.prog T51 K51) Tryz.f186 p186 r186 .d t = (o186 t) := by kernel_rfl
theorem fo186 : FOk Tryz.prog 186 ⟨p186, r186, fun t => (o186 t)⟩ := FOk.run_eq (evF_ok (h := .d) (by kernel_rfl) (by kernel_rfl) (by kernel_rfl)) e186
def T52 : Tbl := (186, ⟨p186, r186, fun t => (o186 t)⟩) :: T51
theorem K52 : TOk Tryz.prog T52 := .cons K51 fo186
def p332 : Sch := ⟨[(0, .v (.c (.i .i64))), (1, .v (.c (.i .i64)))], []⟩
def r332 : List Sch := [⟨[(0, .v (.c (.i .i64)))], []⟩]
def o332 (a0 : Int) (a1 : Int) : Option Int :=
 (some (shrK .i64 (IntKind.wrap .i64 ((IntKind.wrap .i64 (a0 * a1)) + (1073741824 : Int))) (31 : Int)))
theorem e332 (t : Int × Int) : evF (stpT Tryz.prog T52 K52) Tryz.f332 p332 r332 .d t = (o332 t.1 t.2) := by kernel_rfl
theorem fo332 : FOk Tryz.prog 332 ⟨p332, r332, fun t => (o332 t.1 t.2)⟩ := FOk.run_eq (evF_ok (h := .d) (by kernel_rfl) (by kernel_rfl) (by kernel_rfl)) e332
def T53 : Tbl := (332, ⟨p332, r332, fun t => (o332 t.1 t.2)⟩) :: T52
theorem K53 : TOk Tryz.prog T53 := .cons K52 fo332
def p333 : Sch := ⟨[(0, .v (.c (.i .i64))), (1, .v (.c (.i .i64)))], []⟩
def r333 : List Sch := [⟨[(0, .v (.c (.i .i64)))], []⟩]
def o333 (a0 : Int) (a1 : Int) : Option Int :=
 (gd (decide (a1 ≠ 0)) (some (IntKind.wrap .i64 (Int.tdiv (IntKind.wrap .i64 (a0 + (IntKind.wrap .i64 (Int.tdiv a1 (2 : Int))))) a1))))
theorem e333 (t : Int × Int) : evF (stpT Tryz.prog T53 K53) Tryz.f333 p333 r333 .d t = (o333 t.1 t.2) := by kernel_rfl
theorem fo333 : FOk Tryz.prog 333 ⟨p333, r333, fun t => (o333 t.1 t.2)⟩ := FOk.run_eq (evF_ok (h := .d) (by kernel_rfl) (by kernel_rfl) (by kernel_rfl)) e333
def T54 : Tbl := (333, ⟨p333, r333, fun t => (o333 t.1 t.2)⟩) :: T53
theorem K54 : TOk Tryz.prog T54 := .cons K53 fo333
def Sse8102a : SSh := .v (.agg [.ic .i64 (110), .ic .i64 (72), .ic .i64 (42), .ic .i64 (20), .ic .i64 (6)])
def o328_s0 : Sch := ⟨[(3, .v (.c (.i .i64))), (4, .v (.c (.i .i64))), (5, .v (.c (.i .i64))), (6, .v (.c (.i .i64))), (7, .v (.c (.i .i64))), (16, Sse8102a), (17, .v (.c (.i .i64)))], []⟩
def o328_s1 : Sch := ⟨[(3, .v (.c (.i .i64))), (4, .v (.c (.i .i64))), (7, .v (.c (.i .i64))), (8, .v (.c (.i .i64))), (16, Sse8102a), (17, .v (.c (.i .i64)))], []⟩
def o328_s2 : Sch := ⟨[(3, .v (.c (.i .i64))), (4, .v (.c (.i .i64))), (5, .v (.c (.i .i64))), (16, Sse8102a), (17, .v (.c (.i .i64)))], []⟩
def p328 : Sch := ⟨[(0, .v (.c (.i .i64)))], []⟩
def r328 : List Sch := [⟨[(0, .v (.c (.i .i64)))], []⟩]
def o328 (a0 : Int) : Option Int :=
 (bd (α := Int) (o332 (IntKind.wrap .i64 (Int.tdiv (IntKind.wrap .i64 ((IntKind.wrap .i64 (a0 * (6746518852 : Int))) + (32400000 : Int))) (64800000 : Int))) (IntKind.wrap .i64 (Int.tdiv (IntKind.wrap .i64 ((IntKind.wrap .i64 (a0 * (6746518852 : Int))) + (32400000 : Int))) (64800000 : Int)))) (fun v1 => (loopO (σ := (Int × Int) × Int × Int) fuelN (fun (v3 : (Int × Int) × Int × Int) => (cnd (decide (v3.2.2 < (5 : Int))) (bd (α := ((Int × Int × Int) × Int × Int × Int)) (sm (isZ v3.2.2 0) (fun _ => (some ((v3.1.1, v3.1.2, v3.2.1), v3.2.2, (110 : Int), v3.2.2))) (fun _ => (sm (isZ v3.2.2 1) (fun _ => (some ((v3.1.1, v3.1.2, v3.2.1), v3.2.2, (72 : Int), v3.2.2))) (fun _ => (sm (isZ v3.2.2 2) (fun _ => (some ((v3.1.1, v3.1.2, v3.2.1), v3.2.2, (42 : Int), v3.2.2))) (fun _ => (sm (isZ v3.2.2 3) (fun _ => (some ((v3.1.1, v3.1.2, v3.2.1), v3.2.2, (20 : Int), v3.2.2))) (fun _ => (sm (isZ v3.2.2 4) (fun _ => (some ((v3.1.1, v3.1.2, v3.2.1), v3.2.2, (6 : Int), v3.2.2))) (fun _ => none)))))))))) (fun v4 => (bd (α := ((Int × Int) × Int × Int × Int)) (cnd (decide (v4.2.1 > (0 : Int))) (bd (α := Int) (o332 v4.1.2.1 v4.1.2.2) (fun v5 => (some ((v4.1.1, v4.1.2.1), v4.2.2.1, v5, v4.2.2.2)))) (some ((v4.1.1, v4.1.2.1), v4.2.2.1, v4.1.2.1, v4.2.2.2))) (fun v6 => (bd (α := Int) (o333 v6.2.2.1 v6.2.1) (fun v7 => (some (Ctl.go (v6.1, (IntKind.wrap .i64 ((2147483648 : Int) - v7)), (IntKind.wrap .i64 (v6.2.2.2 + (1 : Int)))))))))))) (dnO (bd (α := Int) (o332 v3.1.1 v3.2.1) (fun v8 => (some (IntKind.wrap .i64 (Int.tdiv (IntKind.wrap .i64 (v8 + (1 : Int))) (2 : Int))))))))) (((IntKind.wrap .i64 (Int.tdiv (IntKind.wrap .i64 ((IntKind.wrap .i64 (a0 * (6746518852 : Int))) + (32400000 : Int))) (64800000 : Int))), v1), (2147483648 : Int), (0 : Int)))))
def h328 : HC := (.s .d (.s .d (.s .d (.s .d (.s (.s .d (.b (.l [o328_s2] (.s .d (.s .d (.s (.b (.s (.j false [o328_s0] .d) (.s .d (.j false [o328_s1] .d)))) .d)))))) .d)))))
theorem e328 (t : Int) : evF (stpT Tryz.prog T54 K54) Tryz.f328 p328 r328 h328 t = (o328 t) := by kernel_rfl
theorem fo328 : FOk Tryz.prog 328 ⟨p328, r328, fun t => (o328 t)⟩ := FOk.run_eq (evF_ok (h := h328) (by kernel_rfl) (by kernel_rfl) (by kernel_rfl)) e328
def T55 : Tbl := (328, ⟨p328, r328, fun t => (o328 t)⟩) :: T54
theorem K55 : TOk Tryz.prog T55 := .cons K54 fo328
def Ss677d04 : SSh := .v (.agg [.ic .i64 (90), .ic .i64 (56), .ic .i64 (30), .ic .i64 (12), .ic .i64 (2)])
def o329_s0 : Sch := ⟨[(4, .v (.c (.i .i64))), (5, .v (.c (.i .i64))), (6, .v (.c (.i .i64))), (7, .v (.c (.i .i64))), (16, Ss677d04), (17, .v (.c (.i .i64)))], []⟩
def o329_s1 : Sch := ⟨[(4, .v (.c (.i .i64))), (7, .v (.c (.i .i64))), (8, .v (.c (.i .i64))), (16, Ss677d04), (17, .v (.c (.i .i64)))], []⟩
def o329_s2 : Sch := ⟨[(4, .v (.c (.i .i64))), (5, .v (.c (.i .i64))), (16, Ss677d04), (17, .v (.c (.i .i64)))], []⟩
def p329 : Sch := ⟨[(0, .v (.c (.i .i64)))], []⟩
def r329 : List Sch := [⟨[(0, .v (.c (.i .i64)))], []⟩]
def o329 (a0 : Int) : Option Int :=
 (bd (α := Int) (o332 (IntKind.wrap .i64 (Int.tdiv (IntKind.wrap .i64 ((IntKind.wrap .i64 (a0 * (6746518852 : Int))) + (32400000 : Int))) (64800000 : Int))) (IntKind.wrap .i64 (Int.tdiv (IntKind.wrap .i64 ((IntKind.wrap .i64 (a0 * (6746518852 : Int))) + (32400000 : Int))) (64800000 : Int)))) (fun v1 => (loopO (σ := Int × Int × Int) fuelN (fun (v3 : Int × Int × Int) => (cnd (decide (v3.2.2 < (5 : Int))) (bd (α := ((Int × Int) × Int × Int × Int)) (sm (isZ v3.2.2 0) (fun _ => (some ((v3.1, v3.2.1), v3.2.2, (90 : Int), v3.2.2))) (fun _ => (sm (isZ v3.2.2 1) (fun _ => (some ((v3.1, v3.2.1), v3.2.2, (56 : Int), v3.2.2))) (fun _ => (sm (isZ v3.2.2 2) (fun _ => (some ((v3.1, v3.2.1), v3.2.2, (30 : Int), v3.2.2))) (fun _ => (sm (isZ v3.2.2 3) (fun _ => (some ((v3.1, v3.2.1), v3.2.2, (12 : Int), v3.2.2))) (fun _ => (sm (isZ v3.2.2 4) (fun _ => (some ((v3.1, v3.2.1), v3.2.2, (2 : Int), v3.2.2))) (fun _ => none)))))))))) (fun v4 => (bd (α := ((Int × Int) × Int × Int)) (cnd (decide (v4.2.1 > (0 : Int))) (bd (α := Int) (o332 v4.1.1 v4.1.2) (fun v5 => (some ((v4.1.1, v4.2.2.1), v5, v4.2.2.2)))) (some ((v4.1.1, v4.2.2.1), v4.1.1, v4.2.2.2))) (fun v6 => (bd (α := Int) (o333 v6.2.1 v6.1.2) (fun v7 => (some (Ctl.go (v6.1.1, (IntKind.wrap .i64 ((2147483648 : Int) - v7)), (IntKind.wrap .i64 (v6.2.2 + (1 : Int)))))))))))) (dnO (some (IntKind.wrap .i64 (Int.tdiv (IntKind.wrap .i64 (v3.2.1 + (1 : Int))) (2 : Int))))))) (v1, (2147483648 : Int), (0 : Int)))))
def h329 : HC := (.s .d (.s .d (.s .d (.s .d (.s (.s .d (.b (.l [o329_s2] (.s .d (.s .d (.s (.b (.s (.j false [o329_s0] .d) (.s .d (.j false [o329_s1] .d)))) .d)))))) .d)))))
theorem e329 (t : Int) : evF (stpT Tryz.prog T55 K55) Tryz.f329 p329 r329 h329 t = (o329 t) := by kernel_rfl
theorem fo329 : FOk Tryz.prog 329 ⟨p329, r329, fun t => (o329 t)⟩ := FOk.run_eq (evF_ok (h := h329) (by kernel_rfl) (by kernel_rfl) (by kernel_rfl)) e329
def T56 : Tbl := (329, ⟨p329, r329, fun t => (o329 t)⟩) :: T55
theorem K56 : TOk Tryz.prog T56 := .cons K55 fo329
def p320 : Sch := ⟨[(0, .v (.c (.i .i64)))], []⟩
def r320 : List Sch := [⟨[(0, .v (.c (.i .i64)))], []⟩]
def o320 (a0 : Int) : Option Int :=
 (cnd (decide (a0 ≤ (16200000 : Int))) (bd (α := Int) (o328 a0) (fun v1 => (some v1))) (bd (α := Int) (o329 (IntKind.wrap .i64 ((32400000 : Int) - a0))) (fun v2 => (some v2))))
theorem e320 (t : Int) : evF (stpT Tryz.prog T56 K56) Tryz.f320 p320 r320 .d t = (o320 t) := by kernel_rfl
theorem fo320 : FOk Tryz.prog 320 ⟨p320, r320, fun t => (o320 t)⟩ := FOk.run_eq (evF_ok (h := .d) (by kernel_rfl) (by kernel_rfl) (by kernel_rfl)) e320
def T57 : Tbl := (320, ⟨p320, r320, fun t => (o320 t)⟩) :: T56
theorem K57 : TOk Tryz.prog T57 := .cons K56 fo320
def p304 : Sch := ⟨[(0, .v (.c (.i .i64)))], []⟩
def r304 : List Sch := [⟨[(0, .v (.c (.i .i64)))], []⟩]
def o304 (a0 : Int) : Option Int :=
 (bd (α := Int) (o186 a0) (fun v1 => (cnd (decide (v1 ≤ (32400000 : Int))) (bd (α := Int) (o320 v1) (fun v2 => (some v2))) (cnd (decide (v1 ≤ (64800000 : Int))) (bd (α := Int) (o320 (IntKind.wrap .i64 ((64800000 : Int) - v1))) (fun v3 => (some v3))) (cnd (decide (v1 ≤ (97200000 : Int))) (bd (α := Int) (o320 (IntKind.wrap .i64 (v1 - (64800000 : Int)))) (fun v4 => (some (IntKind.wrap .i64 ((0 : Int) - v4))))) (bd (α := Int) (o320 (IntKind.wrap .i64 ((129600000 : Int) - v1))) (fun v5 => (some (IntKind.wrap .i64 ((0 : Int) - v5))))))))))
theorem e304 (t : Int) : evF (stpT Tryz.prog T57 K57) Tryz.f304 p304 r304 .d t = (o304 t) := by kernel_rfl
theorem fo304 : FOk Tryz.prog 304 ⟨p304, r304, fun t => (o304 t)⟩ := FOk.run_eq (evF_ok (h := .d) (by kernel_rfl) (by kernel_rfl) (by kernel_rfl)) e304
def T58 : Tbl := (304, ⟨p304, r304, fun t => (o304 t)⟩) :: T57
theorem K58 : TOk Tryz.prog T58 := .cons K57 fo304
def p321 : Sch := ⟨[(0, .v (.c (.i .i64))), (1, .v (.c (.i .i64)))], []⟩
def r321 : List Sch := [⟨[(0, .v (.c (.i .i64)))], []⟩]
def o321 (a0 : Int) (a1 : Int) : Option Int :=
 (bd (α := Int) (o186 a0) (fun v1 => (bd (α := Int) (o186 a1) (fun v2 => (bd (α := Int) (o186 (IntKind.wrap .i64 (v1 + v2))) (fun v3 => (some v3)))))))
theorem e321 (t : Int × Int) : evF (stpT Tryz.prog T58 K58) Tryz.f321 p321 r321 .d t = (o321 t.1 t.2) := by kernel_rfl
theorem fo321 : FOk Tryz.prog 321 ⟨p321, r321, fun t => (o321 t.1 t.2)⟩ := FOk.run_eq (evF_ok (h := .d) (by kernel_rfl) (by kernel_rfl) (by kernel_rfl)) e321
def T59 : Tbl := (321, ⟨p321, r321, fun t => (o321 t.1 t.2)⟩) :: T58
theorem K59 : TOk Tryz.prog T59 := .cons K58 fo321
def p305 : Sch := ⟨[(0, .v (.c (.i .i64)))], []⟩
def r305 : List Sch := [⟨[(0, .v (.c (.i .i64)))], []⟩]
def o305 (a0 : Int) : Option Int :=
 (bd (α := Int) (o321 a0 (32400000 : Int)) (fun v1 => (bd (α := Int) (o304 v1) (fun v2 => (some v2)))))
theorem e305 (t : Int) : evF (stpT Tryz.prog T59 K59) Tryz.f305 p305 r305 .d t = (o305 t) := by kernel_rfl
theorem fo305 : FOk Tryz.prog 305 ⟨p305, r305, fun t => (o305 t)⟩ := FOk.run_eq (evF_ok (h := .d) (by kernel_rfl) (by kernel_rfl) (by kernel_rfl)) e305
def T60 : Tbl := (305, ⟨p305, r305, fun t => (o305 t)⟩) :: T59
theorem K60 : TOk Tryz.prog T60 := .cons K59 fo305
def p306 : Sch := ⟨[(0, .v (.c (.i .i64)))], []⟩
def r306 : List Sch := [⟨[(0, .v (.c (.i .i64)))], []⟩]
def o306 (a0 : Int) : Option Int :=
 (some (shrK .i64 (IntKind.wrap .i64 (a0 + (536870912 : Int))) (30 : Int)))
theorem e306 (t : Int) : evF (stpT Tryz.prog T60 K60) Tryz.f306 p306 r306 .d t = (o306 t) := by kernel_rfl
theorem fo306 : FOk Tryz.prog 306 ⟨p306, r306, fun t => (o306 t)⟩ := FOk.run_eq (evF_ok (h := .d) (by kernel_rfl) (by kernel_rfl) (by kernel_rfl)) e306
def T61 : Tbl := (306, ⟨p306, r306, fun t => (o306 t)⟩) :: T60
theorem K61 : TOk Tryz.prog T61 := .cons K60 fo306
def Ss2227d3 : SSh := .v (.agg [.i .i64, .i .i64, .i .i64])
def p279 : Sch := ⟨[(0, .v (.agg [.i .i64, .i .i64]))], []⟩
def r279 : List Sch := [⟨[(0, Ss2227d3)], []⟩]
def o279 (a0 : Int × Int) : Option (Int × Int × Int) :=
 (bd (α := Int) (o305 a0.1) (fun v1 => (bd (α := Int) (o305 a0.2) (fun v7 => (bd (α := Int) (o306 (IntKind.wrap .i64 (v1 * v7))) (fun v8 => (bd (α := Int) (o304 a0.2) (fun v9 => (bd (α := Int) (o306 (IntKind.wrap .i64 (v1 * v9))) (fun v10 => (bd (α := Int) (o304 a0.1) (fun v11 => (some (v8, v10, v11))))))))))))))
theorem e279 (t : Int × Int) : evF (stpT Tryz.prog T61 K61) Tryz.f279 p279 r279 .d t = (o279 t) := by kernel_rfl
theorem fo279 : FOk Tryz.prog 279 ⟨p279, r279, fun t => (o279 t)⟩ := FOk.run_eq (evF_ok (h := .d) (by kernel_rfl) (by kernel_rfl) (by kernel_rfl)) e279
def T62 : Tbl := (279, ⟨p279, r279, fun t => (o279 t)⟩) :: T61
theorem K62 : TOk Tryz.prog T62 := .cons K61 fo279
def Ss32a42e : SSh := .v (.agg [.i .i64, .i .i64, .ic .i64 (0), .i .i64, .i .i64, .i .i64, .i .i64, .i .i64, .i .i64])
abbrev Tyfd3c0b : Type := ((Int × Int) × Int × Int) × (Int × Int) × Int × Int
def p278 : Sch := ⟨[(0, .v (.agg [.i .i64, .i .i64]))], []⟩
def r278 : List Sch := [⟨[(0, Ss32a42e)], []⟩]
def o278 (a0 : Int × Int) : Option Tyfd3c0b :=
 (bd (α := Int) (o304 a0.1) (fun v3 => (bd (α := Int) (o305 a0.1) (fun v4 => (bd (α := Int) (o304 a0.2) (fun v7 => (bd (α := Int) (o305 a0.2) (fun v8 => (bd (α := Int) (o306 (IntKind.wrap .i64 (v3 * v8))) (fun v12 => (bd (α := Int) (o306 (IntKind.wrap .i64 (v3 * v7))) (fun v13 => (bd (α := (Int × Int × Int)) (o279 a0) (fun v14 => (some ((((IntKind.wrap .i64 ((0 : Int) - v7)), v8), (IntKind.wrap .i64 ((0 : Int) - v12)), (IntKind.wrap .i64 ((0 : Int) - v13))), (v4, v14.1), v14.2))))))))))))))))
theorem e278 (t : Int × Int) : evF (stpT Tryz.prog T62 K62) Tryz.f278 p278 r278 .d t = (o278 t) := by kernel_rfl
theorem fo278 : FOk Tryz.prog 278 ⟨p278, r278, fun t => (o278 t)⟩ := FOk.run_eq (evF_ok (h := .d) (by kernel_rfl) (by kernel_rfl) (by kernel_rfl)) e278
def T63 : Tbl := (278, ⟨p278, r278, fun t => (o278 t)⟩) :: T62
theorem K63 : TOk Tryz.prog T63 := .cons K62 fo278
def p280 : Sch := ⟨[(0, Ss2227d3), (1, Ss2227d3)], []⟩
def r280 : List Sch := [⟨[(0, .v (.c (.i .i64)))], []⟩]
def o280 (a0 : Int × Int × Int) (a1 : Int × Int × Int) : Option Int :=
 (bd (α := Int) (o306 (IntKind.wrap .i64 ((IntKind.wrap .i64 ((IntKind.wrap .i64 (a0.1 * a1.1)) + (IntKind.wrap .i64 (a0.2.1 * a1.2.1)))) + (IntKind.wrap .i64 (a0.2.2 * a1.2.2))))) (fun v1 => (some v1)))
theorem e280 (t : (Int × Int × Int) × Int × Int × Int) : evF (stpT Tryz.prog T63 K63) Tryz.f280 p280 r280 .d t = (o280 t.1 t.2) := by kernel_rfl
theorem fo280 : FOk Tryz.prog 280 ⟨p280, r280, fun t => (o280 t.1 t.2)⟩ := FOk.run_eq (evF_ok (h := .d) (by kernel_rfl) (by kernel_rfl) (by kernel_rfl)) e280
def T64 : Tbl := (280, ⟨p280, r280, fun t => (o280 t.1 t.2)⟩) :: T63
theorem K64 : TOk Tryz.prog T64 := .cons K63 fo280
def p244 : Sch := ⟨[(0, .v (.agg [.i .i64, .i .i64])), (1, .v (.agg [.i .i64, .i .i64]))], []⟩
def r244 : List Sch := [⟨[(0, Ss2227d3)], []⟩]
def o244 (a0 : Int × Int) (a1 : Int × Int) : Option (Int × Int × Int) :=
 (bd (α := Tyfd3c0b) (o278 a0) (fun v3 => (bd (α := (Int × Int × Int)) (o279 a1) (fun v4 => (bd (α := Int) (o280 (v3.1.1.1, v3.1.1.2, (0 : Int)) v4) (fun v8 => (bd (α := Int) (o280 (v3.1.2.1, v3.1.2.2, v3.2.1.1) v4) (fun v9 => (bd (α := Int) (o280 (v3.2.1.2, v3.2.2) v4) (fun v10 => (some (v8, v9, v10))))))))))))
theorem e244 (t : (Int × Int) × Int × Int) : evF (stpT Tryz.prog T64 K64) Tryz.f244 p244 r244 (.s .d (.s (.r 2) .d)) t = (o244 t.1 t.2) := by kernel_rfl
theorem fo244 : FOk Tryz.prog 244 ⟨p244, r244, fun t => (o244 t.1 t.2)⟩ := FOk.run_eq (evF_ok (h := (.s .d (.s (.r 2) .d))) (by kernel_rfl) (by kernel_rfl) (by kernel_rfl)) e244
def T65 : Tbl := (244, ⟨p244, r244, fun t => (o244 t.1 t.2)⟩) :: T64
theorem K65 : TOk Tryz.prog T65 := .cons K64 fo244
def Bs3800c7 : BSh := .cells 279 [.ic .i64 (0), .ic .i64 (0), .ic .i64 (0)]
def Ss5d4ec2 : SSh := .tup [.agg [.i .i64, .i .i64, .i .i64], .c (.i .i64)]
def o188_s0 : Sch := ⟨[(2, .v (.c (.ptr 0 0))), (3, .v (.c (.ptr 1 0))), (4, .v (.c (.ptr 2 0))), (13, .v (.c (.b)))], [.cells 23 [.i .i64, .i .i64], .cells 23 [.i .i64, .i .i64], Bs3800c7]⟩
def p188 : Sch := ⟨[(0, .v (.agg [.i .i64, .i .i64])), (1, .v (.agg [.i .i64, .i .i64]))], []⟩
def r188 : List Sch := [⟨[(0, Ss5d4ec2)], []⟩]
def o188 (a0 : Int × Int) (a1 : Int × Int) : Option ((Int × Int) × Int × Int) :=
 (bd (α := (Bool × (Int × Int) × Int × Int)) (bd (α := Bool) (o134 a0) (fun v1 => (cnd (!v1) (some (true, a0, a1)) (bd (α := Bool) (o134 a1) (fun v2 => (some ((!v2), a0, a1))))))) (fun v3 => (cnd v3.1 (some (((0 : Int), (0 : Int)), (0 : Int), (1 : Int))) (bd (α := (Int × Int × Int)) (o244 v3.2.1 v3.2.2) (fun v4 => (some ((v4.1, v4.2.1), v4.2.2, (0 : Int))))))))
def h188 : HC := (.s .d (.s (.s (.j false [o188_s0] .d) .d) .d))
theorem e188 (t : (Int × Int) × Int × Int) : evF (stpT Tryz.prog T65 K65) Tryz.f188 p188 r188 h188 t = (o188 t.1 t.2) := by kernel_rfl
theorem fo188 : FOk Tryz.prog 188 ⟨p188, r188, fun t => (o188 t.1 t.2)⟩ := FOk.run_eq (evF_ok (h := h188) (by kernel_rfl) (by kernel_rfl) (by kernel_rfl)) e188
def T66 : Tbl := (188, ⟨p188, r188, fun t => (o188 t.1 t.2)⟩) :: T65
theorem K66 : TOk Tryz.prog T66 := .cons K65 fo188
def p281 : Sch := ⟨[(0, .v (.c (.i .i64)))], []⟩
def r281 : List Sch := [⟨[(0, .v (.c (.i .u64)))], []⟩]
def o281 (a0 : Int) : Option Int :=
 (cnd (decide (a0 < (0 : Int))) (some (IntKind.wrap .u64 ((0 : Int) - (IntKind.wrap .u64 a0)))) (some (IntKind.wrap .u64 a0)))
theorem e281 (t : Int) : evF (stpT Tryz.prog T66 K66) Tryz.f281 p281 r281 .d t = (o281 t) := by kernel_rfl
theorem fo281 : FOk Tryz.prog 281 ⟨p281, r281, fun t => (o281 t)⟩ := FOk.run_eq (evF_ok (h := .d) (by kernel_rfl) (by kernel_rfl) (by kernel_rfl)) e281
def T67 : Tbl := (281, ⟨p281, r281, fun t => (o281 t)⟩) :: T66
theorem K67 : TOk Tryz.prog T67 := .cons K66 fo281
def p282 : Sch := ⟨[(0, .v (.c (.i .u64))), (1, .v (.c (.i .u64)))], []⟩
def r282 : List Sch := [⟨[(0, .tup [.c (.i .u64), .c (.i .u64)])], []⟩]
def o282 (a0 : Int) (a1 : Int) : Option (Int × Int) :=
 (some ((IntKind.wrap .u64 ((IntKind.wrap .u64 ((IntKind.wrap .u64 ((shrK .u64 a0 (32 : Int)) * (shrK .u64 a1 (32 : Int)))) + (shrK .u64 (IntKind.wrap .u64 ((IntKind.wrap .u64 ((shrK .u64 a0 (32 : Int)) * (landK .u64 a1 (4294967295 : Int)))) + (shrK .u64 (IntKind.wrap .u64 ((landK .u64 a0 (4294967295 : Int)) * (landK .u64 a1 (4294967295 : Int)))) (32 : Int)))) (32 : Int)))) + (shrK .u64 (IntKind.wrap .u64 ((landK .u64 (IntKind.wrap .u64 ((IntKind.wrap .u64 ((shrK .u64 a0 (32 : Int)) * (landK .u64 a1 (4294967295 : Int)))) + (shrK .u64 (IntKind.wrap .u64 ((landK .u64 a0 (4294967295 : Int)) * (landK .u64 a1 (4294967295 : Int)))) (32 : Int)))) (4294967295 : Int)) + (IntKind.wrap .u64 ((landK .u64 a0 (4294967295 : Int)) * (shrK .u64 a1 (32 : Int)))))) (32 : Int)))), (IntKind.wrap .u64 (a0 * a1))))
theorem e282 (t : Int × Int) : evF (stpT Tryz.prog T67 K67) Tryz.f282 p282 r282 .d t = (o282 t.1 t.2) := by kernel_rfl
theorem fo282 : FOk Tryz.prog 282 ⟨p282, r282, fun t => (o282 t.1 t.2)⟩ := FOk.run_eq (evF_ok (h := .d) (by kernel_rfl) (by kernel_rfl) (by kernel_rfl)) e282
def T68 : Tbl := (282, ⟨p282, r282, fun t => (o282 t.1 t.2)⟩) :: T67
theorem K68 : TOk Tryz.prog T68 := .cons K67 fo282
def o300_s0 : Sch := ⟨[(0, .v (.c (.i .u64))), (2, .v (.c (.i .i64)))], []⟩
def p300 : Sch := ⟨[(0, .v (.c (.i .u64)))], []⟩
def r300 : List Sch := [⟨[(0, .v (.c (.i .i64)))], []⟩]
def o300 (a0 : Int) : Option Int :=
 (bd (α := (Int × Int)) (cnd (decide (a0 ≥ (4294967296 : Int))) (some ((shrK .u64 a0 (32 : Int)), (32 : Int))) (some (a0, (0 : Int)))) (fun v1 => (bd (α := (Int × Int)) (cnd (decide (v1.1 ≥ (65536 : Int))) (some ((shrK .u64 v1.1 (16 : Int)), (IntKind.wrap .i64 (v1.2 + (16 : Int))))) (some v1)) (fun v2 => (bd (α := (Int × Int)) (cnd (decide (v2.1 ≥ (256 : Int))) (some ((shrK .u64 v2.1 (8 : Int)), (IntKind.wrap .i64 (v2.2 + (8 : Int))))) (some v2)) (fun v3 => (gd (decide ((0 : Int) ≤ (IntKind.wrap .u8 v3.1) ∧ (IntKind.wrap .u8 v3.1) < ((([0, 1, 2, 2, 3, 3, 3, 3, 4, 4, 4, 4, 4, 4, 4, 4, 5, 5, 5, 5, 5, 5, 5, 5, 5, 5, 5, 5, 5, 5, 5, 5, 6, 6, 6, 6, 6, 6, 6, 6, 6, 6, 6, 6, 6, 6, 6, 6, 6, 6, 6, 6, 6, 6, 6, 6, 6, 6, 6, 6, 6, 6, 6, 6, 7, 7, 7, 7, 7, 7, 7, 7, 7, 7, 7, 7, 7, 7, 7, 7, 7, 7, 7, 7, 7, 7, 7, 7, 7, 7, 7, 7, 7, 7, 7, 7, 7, 7, 7, 7, 7, 7, 7, 7, 7, 7, 7, 7, 7, 7, 7, 7, 7, 7, 7, 7, 7, 7, 7, 7, 7, 7, 7, 7, 7, 7, 7, 7, 8, 8, 8, 8, 8, 8, 8, 8, 8, 8, 8, 8, 8, 8, 8, 8, 8, 8, 8, 8, 8, 8, 8, 8, 8, 8, 8, 8, 8, 8, 8, 8, 8, 8, 8, 8, 8, 8, 8, 8, 8, 8, 8, 8, 8, 8, 8, 8, 8, 8, 8, 8, 8, 8, 8, 8, 8, 8, 8, 8, 8, 8, 8, 8, 8, 8, 8, 8, 8, 8, 8, 8, 8, 8, 8, 8, 8, 8, 8, 8, 8, 8, 8, 8, 8, 8, 8, 8, 8, 8, 8, 8, 8, 8, 8, 8, 8, 8, 8, 8, 8, 8, 8, 8, 8, 8, 8, 8, 8, 8, 8, 8, 8, 8, 8, 8, 8, 8, 8, 8, 8, 8, 8, 8, 8, 8, 8, 8] : List UInt8).length : Nat) : Int))) (some (IntKind.wrap .i64 (v3.2 + (IntKind.wrap .i64 (((List.getD ([0, 1, 2, 2, 3, 3, 3, 3, 4, 4, 4, 4, 4, 4, 4, 4, 5, 5, 5, 5, 5, 5, 5, 5, 5, 5, 5, 5, 5, 5, 5, 5, 6, 6, 6, 6, 6, 6, 6, 6, 6, 6, 6, 6, 6, 6, 6, 6, 6, 6, 6, 6, 6, 6, 6, 6, 6, 6, 6, 6, 6, 6, 6, 6, 7, 7, 7, 7, 7, 7, 7, 7, 7, 7, 7, 7, 7, 7, 7, 7, 7, 7, 7, 7, 7, 7, 7, 7, 7, 7, 7, 7, 7, 7, 7, 7, 7, 7, 7, 7, 7, 7, 7, 7, 7, 7, 7, 7, 7, 7, 7, 7, 7, 7, 7, 7, 7, 7, 7, 7, 7, 7, 7, 7, 7, 7, 7, 7, 8, 8, 8, 8, 8, 8, 8, 8, 8, 8, 8, 8, 8, 8, 8, 8, 8, 8, 8, 8, 8, 8, 8, 8, 8, 8, 8, 8, 8, 8, 8, 8, 8, 8, 8, 8, 8, 8, 8, 8, 8, 8, 8, 8, 8, 8, 8, 8, 8, 8, 8, 8, 8, 8, 8, 8, 8, 8, 8, 8, 8, 8, 8, 8, 8, 8, 8, 8, 8, 8, 8, 8, 8, 8, 8, 8, 8, 8, 8, 8, 8, 8, 8, 8, 8, 8, 8, 8, 8, 8, 8, 8, 8, 8, 8, 8, 8, 8, 8, 8, 8, 8, 8, 8, 8, 8, 8, 8, 8, 8, 8, 8, 8, 8, 8, 8, 8, 8, 8, 8, 8, 8, 8, 8, 8, 8, 8, 8] : List UInt8) (IntKind.wrap .u8 v3.1).toNat 0).toNat : Nat) : Int))))))))))))
def h300 : HC := (.s .d (.j false [o300_s0] (.s .d (.j false [o300_s0] (.s .d (.j false [o300_s0] .d))))))
theorem e300 (t : Int) : evF (stpT Tryz.prog T68 K68) Tryz.f300 p300 r300 h300 t = (o300 t) := by kernel_rfl
theorem fo300 : FOk Tryz.prog 300 ⟨p300, r300, fun t => (o300 t)⟩ := FOk.run_eq (evF_ok (h := h300) (by kernel_rfl) (by kernel_rfl) (by kernel_rfl)) e300
def T69 : Tbl := (300, ⟨p300, r300, fun t => (o300 t)⟩) :: T68
theorem K69 : TOk Tryz.prog T69 := .cons K68 fo300
def p307 : Sch := ⟨[(0, .v (.c (.i .u64)))], []⟩
def r307 : List Sch := [⟨[(0, .v (.c (.i .i64)))], []⟩]
def o307 (a0 : Int) : Option Int :=
 (bd (α := Int) (o300 a0) (fun v1 => (some (IntKind.wrap .i64 ((64 : Int) - v1)))))
theorem e307 (t : Int) : evF (stpT Tryz.prog T69 K69) Tryz.f307 p307 r307 .d t = (o307 t) := by kernel_rfl
theorem fo307 : FOk Tryz.prog 307 ⟨p307, r307, fun t => (o307 t)⟩ := FOk.run_eq (evF_ok (h := .d) (by kernel_rfl) (by kernel_rfl) (by kernel_rfl)) e307
def T70 : Tbl := (307, ⟨p307, r307, fun t => (o307 t)⟩) :: T69
theorem K70 : TOk Tryz.prog T70 := .cons K69 fo307
abbrev Ty3db9a5 : Type := ((Int × Int) × Int × Int × Int) × (Int × Int) × Int × Int × Bool
def o283_s0 : Sch := ⟨[(2, .v (.c (.i .u64))), (8, .v (.c (.i .u64))), (9, .v (.c (.i .u64))), (10, .v (.c (.i .u64))), (11, .v (.c (.i .u64))), (13, .v (.c (.i .u64))), (14, .v (.c (.i .u64))), (15, .v (.c (.i .u64))), (16, .v (.c (.i .u64))), (78, .v (.c (.b)))], []⟩
def o283_s1 : Sch := ⟨[(2, .v (.c (.i .u64))), (8, .v (.c (.i .u64))), (9, .v (.c (.i .u64))), (10, .v (.c (.i .u64))), (11, .v (.c (.i .u64))), (13, .v (.c (.i .u64))), (14, .v (.c (.i .u64))), (15, .v (.c (.i .u64))), (16, .v (.c (.i .u64)))], []⟩
def o283_s2 : Sch := ⟨[(2, .v (.c (.i .u64))), (8, .v (.c (.i .u64))), (9, .v (.c (.i .u64))), (10, .v (.c (.i .u64))), (14, .v (.c (.i .u64))), (15, .v (.c (.i .u64))), (16, .v (.c (.i .u64))), (17, .v (.c (.i .u64))), (18, .v (.c (.i .u64))), (113, .v (.c (.b)))], []⟩
def o283_s3 : Sch := ⟨[(2, .v (.c (.i .u64))), (8, .v (.c (.i .u64))), (9, .v (.c (.i .u64))), (10, .v (.c (.i .u64))), (14, .v (.c (.i .u64))), (15, .v (.c (.i .u64))), (16, .v (.c (.i .u64))), (17, .v (.c (.i .u64))), (18, .v (.c (.i .u64)))], []⟩
def o283_s4 : Sch := ⟨[(2, .v (.c (.i .u64))), (8, .v (.c (.i .u64))), (14, .v (.c (.i .u64))), (15, .v (.c (.i .u64))), (17, .v (.c (.i .u64))), (18, .v (.c (.i .u64)))], []⟩
def o283_s5 : Sch := ⟨[(2, .v (.c (.i .u64))), (8, .v (.c (.i .u64))), (9, .v (.c (.i .u64))), (10, .v (.c (.i .u64))), (11, .v (.c (.i .u64))), (13, .v (.c (.i .u64))), (14, .v (.c (.i .u64))), (15, .v (.c (.i .u64)))], []⟩
def p283 : Sch := ⟨[(0, .v (.c (.i .u64))), (1, .v (.c (.i .u64))), (2, .v (.c (.i .u64)))], []⟩
def r283 : List Sch := [⟨[(0, .tup [.c (.i .u64), .c (.i .u64)])], []⟩]
def o283 (a0 : Int) (a1 : Int) (a2 : Int) : Option (Int × Int) :=
 (cnd (a2 == (0 : Int)) none (cnd (decide (a2 ≤ a0)) none (cnd (a0 == (0 : Int)) (gd (decide (a2 ≠ 0)) (gd (decide (a2 ≠ 0)) (some ((IntKind.wrap .u64 (Int.tdiv a1 a2)), (Int.tmod a1 a2))))) (bd (α := Int) (o307 a2) (fun v1 => (gd (decide ((0 : Int) ≤ (IntKind.wrap .u64 v1))) (gd (decide ((0 : Int) ≤ (IntKind.wrap .u64 v1))) (gd (decide ((0 : Int) ≤ (IntKind.wrap .u64 ((64 : Int) - (IntKind.wrap .u64 v1))))) (gd (decide ((0 : Int) ≤ (IntKind.wrap .u64 v1))) (gd (decide ((shrK .u64 (shlK .u64 a2 (IntKind.wrap .u64 v1)) (32 : Int)) ≠ 0)) (bd (α := (((Int × Int) × Int × Int) × (Int × Int) × Int × Int)) (loopO (σ := ((Int × Int) × Int × Int) × (Int × Int) × Int × Int × Int) fuelN (fun (v2 : ((Int × Int) × Int × Int) × (Int × Int) × Int × Int × Int) => (bd (α := Ty3db9a5) (cnd (decide (v2.2.2.2.1 ≥ (4294967296 : Int))) (some ((v2.1.1, v2.1.2.1, v2.1.2.2, v2.2.1.1), (v2.2.1.2, v2.2.2.1), v2.2.2.2.1, v2.2.2.2.2, true)) (some ((v2.1.1, v2.1.2.1, v2.1.2.2, v2.2.1.1), (v2.2.1.2, v2.2.2.1), v2.2.2.2.1, v2.2.2.2.2, (decide ((IntKind.wrap .u64 (v2.2.2.2.1 * v2.1.2.2)) > (IntKind.wrap .u64 ((IntKind.wrap .u64 ((4294967296 : Int) * v2.2.2.2.2)) + v2.2.1.2))))))) (fun v3 => (cnd v3.2.2.2.2 (cnd (decide ((IntKind.wrap .u64 (v3.2.2.2.1 + v3.1.2.1)) ≥ (4294967296 : Int))) (dnO (some ((v3.1.1, v3.1.2.1, v3.1.2.2.1), (v3.1.2.2.2, v3.2.1.1), v3.2.1.2, (IntKind.wrap .u64 (v3.2.2.1 - (1 : Int)))))) (some (Ctl.go ((v3.1.1, v3.1.2.1, v3.1.2.2.1), (v3.1.2.2.2, v3.2.1.1), v3.2.1.2, (IntKind.wrap .u64 (v3.2.2.1 - (1 : Int))), (IntKind.wrap .u64 (v3.2.2.2.1 + v3.1.2.1)))))) (dnO (some ((v3.1.1, v3.1.2.1, v3.1.2.2.1), (v3.1.2.2.2, v3.2.1.1), v3.2.1.2, v3.2.2.1))))))) ((((shlK .u64 a2 (IntKind.wrap .u64 v1)), (IntKind.wrap .u64 v1)), (shrK .u64 (shlK .u64 a2 (IntKind.wrap .u64 v1)) (32 : Int)), (landK .u64 (shlK .u64 a2 (IntKind.wrap .u64 v1)) (4294967295 : Int))), ((lorK .u64 (shlK .u64 a0 (IntKind.wrap .u64 v1)) (shrK .u64 a1 (IntKind.wrap .u64 ((64 : Int) - (IntKind.wrap .u64 v1))))), (shrK .u64 (shlK .u64 a1 (IntKind.wrap .u64 v1)) (32 : Int))), (landK .u64 (shlK .u64 a1 (IntKind.wrap .u64 v1)) (4294967295 : Int)), (IntKind.wrap .u64 (Int.tdiv (lorK .u64 (shlK .u64 a0 (IntKind.wrap .u64 v1)) (shrK .u64 a1 (IntKind.wrap .u64 ((64 : Int) - (IntKind.wrap .u64 v1))))) (shrK .u64 (shlK .u64 a2 (IntKind.wrap .u64 v1)) (32 : Int)))), (IntKind.wrap .u64 ((lorK .u64 (shlK .u64 a0 (IntKind.wrap .u64 v1)) (shrK .u64 a1 (IntKind.wrap .u64 ((64 : Int) - (IntKind.wrap .u64 v1))))) - (IntKind.wrap .u64 ((IntKind.wrap .u64 (Int.tdiv (lorK .u64 (shlK .u64 a0 (IntKind.wrap .u64 v1)) (shrK .u64 a1 (IntKind.wrap .u64 ((64 : Int) - (IntKind.wrap .u64 v1))))) (shrK .u64 (shlK .u64 a2 (IntKind.wrap .u64 v1)) (32 : Int)))) * (shrK .u64 (shlK .u64 a2 (IntKind.wrap .u64 v1)) (32 : Int)))))))) (fun v4 => (gd (decide (v4.1.2.1 ≠ 0)) (bd (α := ((Int × Int × Int) × Int × Int × Int)) (loopO (σ := ((Int × Int) × Int × Int) × (Int × Int) × Int × Int × Int) fuelN (fun (v5 : ((Int × Int) × Int × Int) × (Int × Int) × Int × Int × Int) => (bd (α := Ty3db9a5) (cnd (decide (v5.2.2.2.2 ≥ (4294967296 : Int))) (some ((v5.1.1, v5.1.2.1, v5.1.2.2, v5.2.1.1), (v5.2.1.2, v5.2.2.1), v5.2.2.2.1, v5.2.2.2.2, true)) (some ((v5.1.1, v5.1.2.1, v5.1.2.2, v5.2.1.1), (v5.2.1.2, v5.2.2.1), v5.2.2.2.1, v5.2.2.2.2, (decide ((IntKind.wrap .u64 (v5.2.2.2.2 * v5.1.2.2)) > (IntKind.wrap .u64 ((IntKind.wrap .u64 ((4294967296 : Int) * v5.2.2.1)) + v5.2.1.1))))))) (fun v6 => (cnd v6.2.2.2.2 (cnd (decide ((IntKind.wrap .u64 (v6.2.1.2 + v6.1.2.1)) ≥ (4294967296 : Int))) (dnO (some ((v6.1.1.1, v6.1.1.2, v6.1.2.2.2), v6.2.1.1, v6.2.2.1, (IntKind.wrap .u64 (v6.2.2.2.1 - (1 : Int)))))) (some (Ctl.go ((v6.1.1, v6.1.2.1, v6.1.2.2.1), (v6.1.2.2.2, v6.2.1.1), (IntKind.wrap .u64 (v6.2.1.2 + v6.1.2.1)), v6.2.2.1, (IntKind.wrap .u64 (v6.2.2.2.1 - (1 : Int))))))) (dnO (some ((v6.1.1.1, v6.1.1.2, v6.1.2.2.2), v6.2.1.1, v6.2.2.1, v6.2.2.2.1))))))) (v4.1, v4.2.2, (IntKind.wrap .u64 ((IntKind.wrap .u64 ((IntKind.wrap .u64 ((IntKind.wrap .u64 (v4.2.1.1 * (4294967296 : Int))) + v4.2.1.2)) - (IntKind.wrap .u64 (v4.2.2.2 * v4.1.1.1)))) - (IntKind.wrap .u64 ((IntKind.wrap .u64 (Int.tdiv (IntKind.wrap .u64 ((IntKind.wrap .u64 ((IntKind.wrap .u64 (v4.2.1.1 * (4294967296 : Int))) + v4.2.1.2)) - (IntKind.wrap .u64 (v4.2.2.2 * v4.1.1.1)))) v4.1.2.1)) * v4.1.2.1)))), (IntKind.wrap .u64 ((IntKind.wrap .u64 ((IntKind.wrap .u64 (v4.2.1.1 * (4294967296 : Int))) + v4.2.1.2)) - (IntKind.wrap .u64 (v4.2.2.2 * v4.1.1.1)))), (IntKind.wrap .u64 (Int.tdiv (IntKind.wrap .u64 ((IntKind.wrap .u64 ((IntKind.wrap .u64 (v4.2.1.1 * (4294967296 : Int))) + v4.2.1.2)) - (IntKind.wrap .u64 (v4.2.2.2 * v4.1.1.1)))) v4.1.2.1)))) (fun v7 => (gd (decide ((0 : Int) ≤ v7.1.2.1)) (some ((IntKind.wrap .u64 ((IntKind.wrap .u64 (v7.2.1 * (4294967296 : Int))) + v7.2.2.2)), (shrK .u64 (IntKind.wrap .u64 ((IntKind.wrap .u64 ((IntKind.wrap .u64 (v7.2.2.1 * (4294967296 : Int))) + v7.1.2.2)) - (IntKind.wrap .u64 (v7.2.2.2 * v7.1.1)))) v7.1.2.1)))))))))))))))))))
def h283 : HC := (.s .d (.s (.s .d (.c .cut .d)) (.s (.s .d (.c .cut .d)) (.s .d (.s .d (.s .d (.s .d (.s .d (.s .d (.s .d (.s .d (.s .d (.s .d (.s .d (.j false [o283_s5] (.s (.b (.l [o283_s1] (.s (.s (.j false [o283_s0] .d) .d) .d))) (.s .d (.s .d (.s .d (.j false [o283_s4] (.s (.b (.l [o283_s3] (.s (.s (.j false [o283_s2] .d) .d) .d))) .d)))))))))))))))))))))
theorem e283 (t : Int × Int × Int) : evF (stpT Tryz.prog T70 K70) Tryz.f283 p283 r283 h283 t = (o283 t.1 t.2.1 t.2.2) := by kernel_rfl
theorem fo283 : FOk Tryz.prog 283 ⟨p283, r283, fun t => (o283 t.1 t.2.1 t.2.2)⟩ := FOk.run_eq (evF_ok (h := h283) (by kernel_rfl) (by kernel_rfl) (by kernel_rfl)) e283
def T71 : Tbl := (283, ⟨p283, r283, fun t => (o283 t.1 t.2.1 t.2.2)⟩) :: T70
theorem K71 : TOk Tryz.prog T71 := .cons K70 fo283
def o284_s0 : Sch := ⟨[(0, .v (.c (.i .u64))), (1, .v (.c (.b))), (6, .v (.c (.b)))], []⟩
def o284_s1 : Sch := ⟨[(0, .v (.c (.i .u64))), (15, .v (.c (.b)))], []⟩
def p284 : Sch := ⟨[(0, .v (.c (.i .u64))), (1, .v (.c (.b)))], []⟩
def r284 : List Sch := [⟨[(0, .tup [.c (.i .i64), .c (.i .i64)])], []⟩]
def o284 (a0 : Int) (a1 : Bool) : Option (Int × Int) :=
 (bd (α := (Int × Bool × Bool)) (cnd a1 (some (a0, a1, (decide (a0 ≤ (9223372036854775808 : Int))))) (some (a0, a1, false))) (fun v1 => (cnd v1.2.2 (some ((IntKind.wrap .i64 (IntKind.wrap .u64 ((0 : Int) - v1.1))), (0 : Int))) (bd (α := (Int × Bool)) (cnd (!v1.2.1) (some (v1.1, (decide (v1.1 < (9223372036854775808 : Int))))) (some (v1.1, false))) (fun v2 => (cnd v2.2 (some ((IntKind.wrap .i64 v2.1), (0 : Int))) (some ((0 : Int), (2 : Int)))))))))
def h284 : HC := (.s .d (.s (.b (.s (.j false [o284_s0] .d) (.c .d (.s (.j false [o284_s1] .d) .d)))) .d))
theorem e284 (t : Int × Bool) : evF (stpT Tryz.prog T71 K71) Tryz.f284 p284 r284 h284 t = (o284 t.1 t.2) := by kernel_rfl
theorem fo284 : FOk Tryz.prog 284 ⟨p284, r284, fun t => (o284 t.1 t.2)⟩ := FOk.run_eq (evF_ok (h := h284) (by kernel_rfl) (by kernel_rfl) (by kernel_rfl)) e284
def T72 : Tbl := (284, ⟨p284, r284, fun t => (o284 t.1 t.2)⟩) :: T71
theorem K72 : TOk Tryz.prog T72 := .cons K71 fo284
def o245_s0 : Sch := ⟨[(10, .v (.c (.b))), (14, .v (.c (.i .u64))), (16, .v (.c (.b)))], []⟩
def o245_s1 : Sch := ⟨[(10, .v (.c (.b))), (14, .v (.c (.i .u64)))], []⟩
def p245 : Sch := ⟨[(0, .v (.c (.i .i64))), (1, .v (.c (.i .i64))), (2, .v (.c (.i .i64))), (3, .v (.c (.i .u8)))], []⟩
def r245 : List Sch := [⟨[(0, .tup [.c (.i .i64), .c (.i .i64)])], []⟩]
def o245 (a0 : Int) (a1 : Int) (a2 : Int) (a3 : Int) : Option (Int × Int) :=
 (cnd (a2 == (0 : Int)) (some ((0 : Int), (1 : Int))) (bd (α := Int) (o281 a2) (fun v1 => (bd (α := Int) (o281 a0) (fun v2 => (bd (α := Int) (o281 a1) (fun v3 => (bd (α := (Int × Int)) (o282 v2 v3) (fun v4 => (cnd (decide (v4.1 ≥ v1)) (some ((0 : Int), (2 : Int))) (bd (α := (Int × Int)) (o283 v4.1 v4.2 v1) (fun v5 => (bd (α := (Bool × Int × Bool)) (cnd (a3 == (0 : Int)) (bd (α := (Bool × Int × Bool)) (cnd (!((!((decide (a0 < (0 : Int))) == (decide (a1 < (0 : Int))))) == (decide (a2 < (0 : Int))))) (some ((!((!((decide (a0 < (0 : Int))) == (decide (a1 < (0 : Int))))) == (decide (a2 < (0 : Int))))), v5.1, (decide (v5.2 > (0 : Int))))) (some ((!((!((decide (a0 < (0 : Int))) == (decide (a1 < (0 : Int))))) == (decide (a2 < (0 : Int))))), v5.1, false))) (fun v6 => (some v6))) (cnd (a3 == (1 : Int)) (bd (α := (Bool × Int × Bool)) (cnd (!(!((!((decide (a0 < (0 : Int))) == (decide (a1 < (0 : Int))))) == (decide (a2 < (0 : Int)))))) (some ((!((!((decide (a0 < (0 : Int))) == (decide (a1 < (0 : Int))))) == (decide (a2 < (0 : Int))))), v5.1, (decide (v5.2 > (0 : Int))))) (some ((!((!((decide (a0 < (0 : Int))) == (decide (a1 < (0 : Int))))) == (decide (a2 < (0 : Int))))), v5.1, false))) (fun v7 => (some v7))) (cnd (a3 == (2 : Int)) (bd (α := (Bool × Int × Bool)) (cnd (decide (v5.2 > (IntKind.wrap .u64 (v1 - v5.2)))) (some ((!((!((decide (a0 < (0 : Int))) == (decide (a1 < (0 : Int))))) == (decide (a2 < (0 : Int))))), v5.1, true)) (cnd (!(!((!((decide (a0 < (0 : Int))) == (decide (a1 < (0 : Int))))) == (decide (a2 < (0 : Int)))))) (some ((!((!((decide (a0 < (0 : Int))) == (decide (a1 < (0 : Int))))) == (decide (a2 < (0 : Int))))), v5.1, (v5.2 == (IntKind.wrap .u64 (v1 - v5.2))))) (some ((!((!((decide (a0 < (0 : Int))) == (decide (a1 < (0 : Int))))) == (decide (a2 < (0 : Int))))), v5.1, false)))) (fun v8 => (some v8))) (some ((!((!((decide (a0 < (0 : Int))) == (decide (a1 < (0 : Int))))) == (decide (a2 < (0 : Int))))), v5.1, false))))) (fun v9 => (jd (α := (Bool × Int)) (cnd v9.2.2 (cnd (v9.2.1 == (18446744073709551615 : Int)) (dnO (some ((0 : Int), (2 : Int)))) (some (Ctl.go (v9.1, (IntKind.wrap .u64 (v9.2.1 + (1 : Int))))))) (some (Ctl.go (v9.1, v9.2.1)))) (fun v10 => (bd (α := (Int × Int)) (o284 v10.2 v10.1) (fun v11 => (some v11)))))))))))))))))))
def h245 : HC := (.s .d (.s .d (.s .d (.s .d (.s .d (.s .d (.s .d (.s .d (.j false [o245_s0] (.s (.s .d (.b (.s .d (.c (.j false [o245_s0] .d) (.s .d (.c (.j false [o245_s0] .d) (.s .d (.c (.j false [o245_s0] .d) .d)))))))) (.j true [o245_s1] .d)))))))))))
theorem e245 (t : (Int × Int) × Int × Int) : evF (stpT Tryz.prog T72 K72) Tryz.f245 p245 r245 h245 t = (o245 t.1.1 t.1.2 t.2.1 t.2.2) := by kernel_rfl
theorem fo245 : FOk Tryz.prog 245 ⟨p245, r245, fun t => (o245 t.1.1 t.1.2 t.2.1 t.2.2)⟩ := FOk.run_eq (evF_ok (h := h245) (by kernel_rfl) (by kernel_rfl) (by kernel_rfl)) e245
def T73 : Tbl := (245, ⟨p245, r245, fun t => (o245 t.1.1 t.1.2 t.2.1 t.2.2)⟩) :: T72
theorem K73 : TOk Tryz.prog T73 := .cons K72 fo245
def p189 : Sch := ⟨[(0, .v (.c (.i .i64))), (1, .v (.c (.i .i64))), (2, .v (.c (.i .i64)))], []⟩
def r189 : List Sch := [⟨[(0, .tup [.c (.i .i64), .c (.i .i64)])], []⟩]
def o189 (a0 : Int) (a1 : Int) (a2 : Int) : Option (Int × Int) :=
 (bd (α := (Int × Int)) (o245 a0 a1 a2 (2 : Int)) (fun v1 => (some v1)))
theorem e189 (t : Int × Int × Int) : evF (stpT Tryz.prog T73 K73) Tryz.f189 p189 r189 .d t = (o189 t.1 t.2.1 t.2.2) := by kernel_rfl
theorem fo189 : FOk Tryz.prog 189 ⟨p189, r189, fun t => (o189 t.1 t.2.1 t.2.2)⟩ := FOk.run_eq (evF_ok (h := .d) (by kernel_rfl) (by kernel_rfl) (by kernel_rfl)) e189
def T74 : Tbl := (189, ⟨p189, r189, fun t => (o189 t.1 t.2.1 t.2.2)⟩) :: T73
theorem K74 : TOk Tryz.prog T74 := .cons K73 fo189
def o190_s0 : Sch := ⟨[(2, .v (.c (.b)))], []⟩
def p190 : Sch := ⟨[(0, .v (.agg [.i .i64, .i .i64]))], []⟩
def r190 : List Sch := [⟨[(0, .v (.c (.b)))], []⟩]
def o190 (a0 : Int × Int) : Option Bool :=
 (bd (α := Bool) (cnd (decide (a0.1 ≥ (-2000000 : Int))) (cnd (decide (a0.1 ≤ (2000000 : Int))) (cnd (decide (a0.2 ≥ (-2000000 : Int))) (some (decide (a0.2 ≤ (2000000 : Int)))) (some false)) (some false)) (some false)) (fun v1 => (some v1)))
theorem e190 (t : Int × Int) : evF (stpT Tryz.prog T74 K74) Tryz.f190 p190 r190 (.s .d (.s (.j false [o190_s0] .d) .d)) t = (o190 t) := by kernel_rfl
theorem fo190 : FOk Tryz.prog 190 ⟨p190, r190, fun t => (o190 t)⟩ := FOk.run_eq (evF_ok (h := (.s .d (.s (.j false [o190_s0] .d) .d))) (by kernel_rfl) (by kernel_rfl) (by kernel_rfl)) e190
def T75 : Tbl := (190, ⟨p190, r190, fun t => (o190 t)⟩) :: T74
theorem K75 : TOk Tryz.prog T75 := .cons K74 fo190
def Bs28015d : BSh := .cells 220 [.ic .i64 (0), .ic .i64 (0)]
def o131_s0 : Sch := ⟨[(2, .v (.c (.ptr 0 0))), (3, .v (.c (.ptr 1 0))), (4, .v (.c (.ptr 2 0))), (20, .v (.c (.b)))], [.cells 23 [.i .i64, .i .i64], .cells 23 [.i .i64, .i .i64], Bs28015d]⟩
def p131 : Sch := ⟨[(0, .v (.agg [.i .i64, .i .i64])), (1, .v (.agg [.i .i64, .i .i64]))], []⟩
def r131 : List Sch := [⟨[(0, Ssf45581)], []⟩]
def o131 (a0 : Int × Int) (a1 : Int × Int) : Option (Int × Int × Int) :=
 (bd (α := (Bool × (Int × Int) × Int × Int)) (bd (α := Bool) (o187 a0) (fun v1 => (cnd (!v1) (some (true, a0, a1)) (bd (α := Bool) (o134 a1) (fun v2 => (some ((!v2), a0, a1))))))) (fun v3 => (cnd v3.1 (some ((0 : Int), (0 : Int), (1 : Int))) (bd (α := ((Int × Int) × Int × Int)) (o188 v3.2.1 v3.2.2) (fun v4 => (cnd (decide (v4.2.1 ≤ (0 : Int))) (some ((0 : Int), (0 : Int), (2 : Int))) (bd (α := (Int × Int)) (o189 (20626481 : Int) v4.1.1 v4.2.1) (fun v5 => (bd (α := (Int × Int)) (o189 (20626481 : Int) v4.1.2 v4.2.1) (fun v6 => (bd (α := Bool) (o190 (v5.1, v6.1)) (fun v7 => (cnd (!v7) (some ((0 : Int), (0 : Int), (2 : Int))) (some (v5.1, v6.1, (0 : Int))))))))))))))))
def h131 : HC := (.s .d (.s (.s (.j false [o131_s0] .d) .d) .d))
theorem e131 (t : (Int × Int) × Int × Int) : evF (stpT Tryz.prog T75 K75) Tryz.f131 p131 r131 h131 t = (o131 t.1 t.2) := by kernel_rfl
theorem fo131 : FOk Tryz.prog 131 ⟨p131, r131, fun t => (o131 t.1 t.2)⟩ := FOk.run_eq (evF_ok (h := h131) (by kernel_rfl) (by kernel_rfl) (by kernel_rfl)) e131
def T76 : Tbl := (131, ⟨p131, r131, fun t => (o131 t.1 t.2)⟩) :: T75
theorem K76 : TOk Tryz.prog T76 := .cons K75 fo131
def Bsa1a855 : BSh := .cells 25 [.s, .i .i64, .i .i64, .i .i64, .i .i64, .i .i64]
def Ssa978e5 : SSh := .v (.agg [.s, .i .i64, .i .i64, .i .i64, .i .i64, .i .i64])
def o63_s0 : Sch := ⟨[(1, .v (.c (.ptr 0 0))), (29, .v (.c (.b)))], [Bsa1a855]⟩
def p63 : Sch := ⟨[(0, Ssa978e5)], []⟩
def r63 : List Sch := [⟨[(0, .v (.c (.i .i64)))], []⟩]
def o63 (a0 : Tyc0a991) : Option Int :=
 (bd (α := Bool) (o130 a0.1.1 (8 : Int)) (fun v1 => (cnd (!v1) (some (5 : Int)) (bd (α := (Int × Int × Int)) (o115 a0.1.2.1) (fun v2 => (cnd (v2.2.2 != (0 : Int)) (some v2.2.2) (bd (α := (Bool × Tyc0a991)) (cnd (a0.1.2.2 != v2.1) (some (true, a0)) (some ((a0.2.1 != v2.2.1), a0))) (fun v3 => (cnd v3.1 (some (13 : Int)) (bd (α := (Int × Int × Int)) (o131 v3.2.2.2 v3.2.2.2) (fun v4 => (some v4.2.2))))))))))))
def h63 : HC := (.s .d (.s .d (.s .d (.s .d (.s (.s (.j false [o63_s0] .d) .d) .d)))))
theorem e63 (t : Tyc0a991) : evF (stpT Tryz.prog T76 K76) Tryz.f63 p63 r63 h63 t = (o63 t) := by kernel_rfl
theorem fo63 : FOk Tryz.prog 63 ⟨p63, r63, fun t => (o63 t)⟩ := FOk.run_eq (evF_ok (h := h63) (by kernel_rfl) (by kernel_rfl) (by kernel_rfl)) e63
def T77 : Tbl := (63, ⟨p63, r63, fun t => (o63 t)⟩) :: T76
theorem K77 : TOk Tryz.prog T77 := .cons K76 fo63
def Bs402b61 : BSh := .cells 151 [.cst (.map none), .cst (.map none), .cst (.map none)]
abbrev Ty95bafb : Type := (List (List UInt8 × Bool)) × (List (List UInt8 × Bool)) × List (List UInt8 × Bool)
def o64_s0 : Sch := ⟨[(2, .v (.c (.ptr 0 0))), (3, .v (.c (.ptr 1 0))), (10, .v (.c (.cst (.slice none 0 0)))), (11, .v (.c (.ic .i64 (0)))), (12, .v (.c (.ic .i64 (0))))], [Bs402b61, .cells 151 [.mp 2, .mp 3, .mp 4], .map .b, .map .b, .map .b]⟩
def p64 : Sch := ⟨[(0, .v (.c (.cst (.slice none 0 0))))], []⟩
def r64 : List Sch := [⟨[(0, .v (.agg [.mp 0, .mp 1, .mp 2]))], [.map .b, .map .b, .map .b]⟩]
def o64 : Option Ty95bafb :=
 (loopO (σ := Ty95bafb) fuelN (fun (v1 : Ty95bafb) => (dnO (some v1))) (([] : List (List UInt8 × Bool)), ([] : List (List UInt8 × Bool)), ([] : List (List UInt8 × Bool))))
def h64 : HC := (.s .d (.s .d (.s (.s .d (.b (.l [o64_s0] .d))) .d)))
theorem e64 (t : Unit) : evF (stpT Tryz.prog T77 K77) Tryz.f64 p64 r64 h64 t = o64 := by kernel_rfl
theorem fo64 : FOk Tryz.prog 64 ⟨p64, r64, fun t => o64⟩ := FOk.run_eq (evF_ok (h := h64) (by kernel_rfl) (by kernel_rfl) (by kernel_rfl)) e64
def T78 : Tbl := (64, ⟨p64, r64, fun t => o64⟩) :: T77
theorem K78 : TOk Tryz.prog T78 := .cons K77 fo64
def p44 : Sch := ⟨[(0, .v (.c (.ptr 0 0)))], [Bs38dfe2, Bs042cd5, Bs353f73]⟩
def r44 : List Sch := [⟨[(0, .tup [])], [Bs1b5922, Bs042cd5, .no, Bs353f73]⟩]
def o44 (a0 : Ty895a9a) (a1 : List (Int × List (List UInt8 × Int))) (a2 : List (Int × Int × Int)) : Option Ty17bea0 :=
 (gd (decide ((0 : Int) ≤ (0 : Int) ∧ (0 : Int) < ((a1.length : Nat) : Int))) (bd (α := Int × List (List UInt8 × Int)) (some (List.getD a1 ((0 : Int).toNat) Dfe48214)) (fun v4 => (bd (α := Int) (o63 ((a0.1.1.1, a0.1.1.2, a0.1.2.1), a0.1.2.2, a0.2.1)) (fun v5 => (bd (α := Ty17bea0) (o101v1 v4 v5 a0 a1 a2) (fun v6 => (bd (α := Ty95bafb) o64 (fun v7 => (bd (α := Ty95bafb) o64 (fun v8 => (some v6))))))))))))
def h44 : HC := (.s (.r 1) (.s .d (.s (.s .d (.b (.u 1 (.v .d .d)))) (.s .d (.s .d (.s .d (.s .d (.b (.u 1 (.v .d .d))))))))))
theorem e44 (t : Ty17bea0) : evF (stpT Tryz.prog T78 K78) Tryz.f44 p44 r44 h44 t = (o44 t.1 t.2.1 t.2.2) := by kernel_rfl
theorem fo44 : FOk Tryz.prog 44 ⟨p44, r44, fun t => (o44 t.1 t.2.1 t.2.2)⟩ := FOk.run_eq (evF_ok (h := h44) (by kernel_rfl) (by kernel_rfl) (by kernel_rfl)) e44
def T79 : Tbl := (44, ⟨p44, r44, fun t => (o44 t.1 t.2.1 t.2.2)⟩) :: T78
theorem K79 : TOk Tryz.prog T79 := .cons K78 fo44
def p104 : Sch := ⟨[(0, .v (.c (.cst (.slice none 0 0))))], []⟩
def r104 : List Sch := [⟨[(0, .v (.c (.cst (.slice none 0 0))))], []⟩]
def o104 : Option Unit :=
 (some ())
theorem e104 (t : Unit) : evF (stpT Tryz.prog T79 K79) Tryz.f104 p104 r104 .d t = o104 := by kernel_rfl
theorem fo104 : FOk Tryz.prog 104 ⟨p104, r104, fun t => o104⟩ := FOk.run_eq (evF_ok (h := .d) (by kernel_rfl) (by kernel_rfl) (by kernel_rfl)) e104
def T80 : Tbl := (104, ⟨p104, r104, fun t => o104⟩) :: T79
theorem K80 : TOk Tryz.prog T80 := .cons K79 fo104
def o236_s0 : Sch := ⟨[(0, .v (.c (.cst (.slice none 0 0)))), (1, .v (.c (.i .i64))), (2, .v (.c (.i .i64))), (3, .v (.c (.fn 106))), (8, .v (.c (.i .i64))), (9, .v (.c (.i .i64)))], []⟩
def o236_s1 : Sch := ⟨[(0, .v (.c (.cst (.slice none 0 0)))), (1, .v (.c (.i .i64))), (2, .v (.c (.i .i64))), (3, .v (.c (.fn 106))), (8, .v (.c (.i .i64)))], []⟩
def p236 : Sch := ⟨[(0, .v (.c (.cst (.slice none 0 0)))), (1, .v (.c (.i .i64))), (2, .v (.c (.i .i64))), (3, .v (.c (.fn 106)))], []⟩
def r236 : List Sch := [⟨[(0, .tup [])], []⟩]
def o236 (a0 : Int) (a1 : Int) : Option Unit :=
 (loopO (σ := Int × Int × Int) fuelN (fun (v1 : Int × Int × Int) => (cnd (decide (v1.2.2 < v1.2.1)) (loopO (σ := (Int × Int) × Int × Int) fuelN (fun (v2 : (Int × Int) × Int × Int) => (cnd (decide (v2.2.2 > v2.1.1)) none (dnO (some (Ctl.go (v2.1.1, v2.1.2, (IntKind.wrap .i64 (v2.2.1 + (1 : Int))))))))) ((v1.1, v1.2.1), v1.2.2, v1.2.2)) (dnO (some ())))) (a0, a1, (IntKind.wrap .i64 (a0 + (1 : Int)))))
def h236 : HC := (.s .d (.b (.l [o236_s1] (.s .d (.s (.b (.s .d (.b (.l [o236_s0] .d)))) .d)))))
theorem e236 (t : Int × Int) : evF (stpT Tryz.prog T80 K80) Tryz.f236 p236 r236 h236 t = (o236 t.1 t.2) := by kernel_rfl
theorem fo236 : FOk Tryz.prog 236 ⟨p236, r236, fun t => (o236 t.1 t.2)⟩ := FOk.run_eq (evF_ok (h := h236) (by kernel_rfl) (by kernel_rfl) (by kernel_rfl)) e236
def T81 : Tbl := (236, ⟨p236, r236, fun t => (o236 t.1 t.2)⟩) :: T80
theorem K81 : TOk Tryz.prog T81 := .cons K80 fo236
def o298_s0 : Sch := ⟨[(0, .v (.c (.cst (.slice none 0 0)))), (1, .v (.c (.i .i64))), (2, .v (.c (.i .i64))), (3, .v (.c (.i .i64))), (10, .v (.c (.ic .i64 (0))))], []⟩
def p298 : Sch := ⟨[(0, .v (.c (.cst (.slice none 0 0)))), (1, .v (.c (.i .i64))), (2, .v (.c (.i .i64))), (3, .v (.c (.i .i64))), (4, .v (.c (.fn 106)))], []⟩
def r298 : List Sch := [⟨[(0, .tup [])], []⟩]
def o298 (a0 : Int) (a1 : Int) (a2 : Int) : Option Unit :=
 (loopO (σ := Int × Int × Int) fuelN (fun (v1 : Int × Int × Int) => (cnd (decide ((0 : Int) < v1.2.2)) none (dnO (some ())))) (a0, a1, a2))
theorem e298 (t : Int × Int × Int) : evF (stpT Tryz.prog T81 K81) Tryz.f298 p298 r298 (.s .d (.b (.l [o298_s0] .d))) t = (o298 t.1 t.2.1 t.2.2) := by kernel_rfl
theorem fo298 : FOk Tryz.prog 298 ⟨p298, r298, fun t => (o298 t.1 t.2.1 t.2.2)⟩ := FOk.run_eq (evF_ok (h := (.s .d (.b (.l [o298_s0] .d)))) (by kernel_rfl) (by kernel_rfl) (by kernel_rfl)) e298
def T82 : Tbl := (298, ⟨p298, r298, fun t => (o298 t.1 t.2.1 t.2.2)⟩) :: T81
theorem K82 : TOk Tryz.prog T82 := .cons K81 fo298
def o271_s0 : Sch := ⟨[(0, .v (.c (.cst (.slice none 0 0)))), (2, .v (.c (.i .i64))), (4, .v (.c (.fn 106))), (10, .v (.c (.i .i64))), (11, .v (.c (.i .i64)))], []⟩
def p271 : Sch := ⟨[(0, .v (.c (.cst (.slice none 0 0)))), (1, .v (.c (.i .i64))), (2, .v (.c (.i .i64))), (3, .v (.c (.i .i64))), (4, .v (.c (.fn 106)))], []⟩
def r271 : List Sch := [⟨[(0, .tup [])], []⟩]
def o271 (a0 : Int) (a1 : Int) (a2 : Int) : Option Unit :=
 (loopO (σ := Int × Int × Int) fuelN (fun (v1 : Int × Int × Int) => (cnd (v1.2.1 != v1.2.2) (cnd (decide (v1.2.1 > v1.2.2)) (bd (α := Unit) (o298 (IntKind.wrap .i64 (v1.1 - v1.2.1)) v1.1 v1.2.2) (fun v2 => (some (Ctl.go (v1.1, (IntKind.wrap .i64 (v1.2.1 - v1.2.2)), v1.2.2))))) (bd (α := Unit) (o298 (IntKind.wrap .i64 (v1.1 - v1.2.1)) (IntKind.wrap .i64 ((IntKind.wrap .i64 (v1.1 + v1.2.2)) - v1.2.1)) v1.2.1) (fun v3 => (some (Ctl.go (v1.1, v1.2.1, (IntKind.wrap .i64 (v1.2.2 - v1.2.1)))))))) (dnO (bd (α := Unit) (o298 (IntKind.wrap .i64 (v1.1 - v1.2.1)) v1.1 v1.2.1) (fun v4 => (some ())))))) (a1, (IntKind.wrap .i64 (a1 - a0)), (IntKind.wrap .i64 (a2 - a1))))
def h271 : HC := (.s .d (.s .d (.s (.b (.l [o271_s0] .d)) .d)))
theorem e271 (t : Int × Int × Int) : evF (stpT Tryz.prog T82 K82) Tryz.f271 p271 r271 h271 t = (o271 t.1 t.2.1 t.2.2) := by kernel_rfl
theorem fo271 : FOk Tryz.prog 271 ⟨p271, r271, fun t => (o271 t.1 t.2.1 t.2.2)⟩ := FOk.run_eq (evF_ok (h := h271) (by kernel_rfl) (by kernel_rfl) (by kernel_rfl)) e271
def T83 : Tbl := (271, ⟨p271, r271, fun t => (o271 t.1 t.2.1 t.2.2)⟩) :: T82
theorem K83 : TOk Tryz.prog T83 := .cons K82 fo271
def o237_s0 : Sch := ⟨[(0, .v (.c (.cst (.slice none 0 0)))), (1, .v (.c (.i .i64))), (4, .v (.c (.fn 106))), (10, .v (.c (.i .i64))), (11, .v (.c (.i .i64)))], []⟩
def o237_s1 : Sch := ⟨[(0, .v (.c (.cst (.slice none 0 0)))), (10, .v (.c (.i .i64))), (13, .v (.c (.i .i64)))], []⟩
def o237_s2 : Sch := ⟨[(0, .v (.c (.cst (.slice none 0 0)))), (2, .v (.c (.i .i64))), (4, .v (.c (.fn 106))), (14, .v (.c (.i .i64))), (15, .v (.c (.i .i64)))], []⟩
def o237_s3 : Sch := ⟨[(0, .v (.c (.cst (.slice none 0 0)))), (14, .v (.c (.i .i64))), (17, .v (.c (.i .i64)))], []⟩
def o237_s4 : Sch := ⟨[(0, .v (.c (.cst (.slice none 0 0)))), (1, .v (.c (.i .i64))), (2, .v (.c (.i .i64))), (3, .v (.c (.i .i64))), (4, .v (.c (.fn 106))), (18, .v (.c (.i .i64))), (19, .v (.c (.i .i64))), (20, .v (.c (.i .i64))), (21, .v (.c (.i .i64))), (22, .v (.c (.i .i64)))], []⟩
def o237_s5 : Sch := ⟨[(0, .v (.c (.cst (.slice none 0 0)))), (1, .v (.c (.i .i64))), (2, .v (.c (.i .i64))), (3, .v (.c (.i .i64))), (4, .v (.c (.fn 106))), (18, .v (.c (.i .i64))), (20, .v (.c (.i .i64))), (24, .v (.c (.i .i64))), (185, .v (.c (.b)))], []⟩
def o237_s6 : Sch := ⟨[(0, .v (.c (.cst (.slice none 0 0)))), (1, .v (.c (.i .i64))), (3, .v (.c (.i .i64))), (4, .v (.c (.fn 106))), (18, .v (.c (.i .i64))), (20, .v (.c (.i .i64))), (24, .v (.c (.i .i64))), (199, .v (.c (.b)))], []⟩
def o237_s7 : Sch := ⟨[(0, .v (.c (.cst (.slice none 0 0)))), (3, .v (.c (.i .i64))), (4, .v (.c (.fn 106))), (18, .v (.c (.i .i64))), (24, .v (.c (.i .i64))), (213, .v (.c (.b)))], []⟩
def o237_s8 : Sch := ⟨[(0, .v (.c (.cst (.slice none 0 0)))), (3, .v (.c (.i .i64))), (4, .v (.c (.fn 106))), (18, .v (.c (.i .i64))), (24, .v (.c (.i .i64)))], []⟩
def o237_s9 : Sch := ⟨[(0, .v (.c (.cst (.slice none 0 0)))), (1, .v (.c (.i .i64))), (3, .v (.c (.i .i64))), (4, .v (.c (.fn 106))), (18, .v (.c (.i .i64))), (20, .v (.c (.i .i64))), (24, .v (.c (.i .i64)))], []⟩
def o237_s10 : Sch := ⟨[(0, .v (.c (.cst (.slice none 0 0)))), (1, .v (.c (.i .i64))), (2, .v (.c (.i .i64))), (3, .v (.c (.i .i64))), (4, .v (.c (.fn 106))), (18, .v (.c (.i .i64))), (19, .v (.c (.i .i64))), (20, .v (.c (.i .i64))), (21, .v (.c (.i .i64)))], []⟩
def p237 : Sch := ⟨[(0, .v (.c (.cst (.slice none 0 0)))), (1, .v (.c (.i .i64))), (2, .v (.c (.i .i64))), (3, .v (.c (.i .i64))), (4, .v (.c (.fn 106)))], []⟩
def r237 : List Sch := [⟨[(0, .tup [])], []⟩]
def o237F (ih : Int → Int → Int → Option Unit) (a0 : Int) (a1 : Int) (a2 : Int) : Option Unit :=
 (cnd ((IntKind.wrap .i64 (a1 - a0)) == (1 : Int)) (loopO (σ := Int × Int × Int) fuelN (fun (v1 : Int × Int × Int) => (cnd (decide (v1.2.1 < v1.2.2)) none (dnO (loopO (σ := Int × Int) fuelN (fun (v2 : Int × Int) => (cnd (decide (v2.2 < (IntKind.wrap .i64 (v2.1 - (1 : Int))))) none (dnO (some ())))) (v1.2.1, v1.1))))) (a0, a1, a2)) (cnd ((IntKind.wrap .i64 (a2 - a1)) == (1 : Int)) (loopO (σ := Int × Int × Int) fuelN (fun (v3 : Int × Int × Int) => (cnd (decide (v3.2.1 < v3.2.2)) none (dnO (loopO (σ := Int × Int) fuelN (fun (v4 : Int × Int) => (cnd (decide (v4.2 > v4.1)) none (dnO (some ())))) (v3.2.1, v3.1))))) (a1, a0, a1)) (bd (α := ((Int × Int × Int) × (Int × Int) × Int × Int)) (cnd (decide (a1 > (IntKind.wrap .i64 (shrK .u64 (IntKind.wrap .u64 (IntKind.wrap .i64 (a0 + a2))) (1 : Int))))) (some ((a0, a1, a2), ((IntKind.wrap .i64 (shrK .u64 (IntKind.wrap .u64 (IntKind.wrap .i64 (a0 + a2))) (1 : Int))), (IntKind.wrap .i64 ((IntKind.wrap .i64 (shrK .u64 (IntKind.wrap .u64 (IntKind.wrap .i64 (a0 + a2))) (1 : Int))) + a1))), (IntKind.wrap .i64 ((IntKind.wrap .i64 ((IntKind.wrap .i64 (shrK .u64 (IntKind.wrap .u64 (IntKind.wrap .i64 (a0 + a2))) (1 : Int))) + a1)) - a2)), (IntKind.wrap .i64 (shrK .u64 (IntKind.wrap .u64 (IntKind.wrap .i64 (a0 + a2))) (1 : Int))))) (some ((a0, a1, a2), ((IntKind.wrap .i64 (shrK .u64 (IntKind.wrap .u64 (IntKind.wrap .i64 (a0 + a2))) (1 : Int))), (IntKind.wrap .i64 ((IntKind.wrap .i64 (shrK .u64 (IntKind.wrap .u64 (IntKind.wrap .i64 (a0 + a2))) (1 : Int))) + a1))), a0, a1))) (fun v5 => (loopO (σ := ((Int × Int) × Int × Int) × (Int × Int) × Int × Int) fuelN (fun (v6 : ((Int × Int) × Int × Int) × (Int × Int) × Int × Int) => (cnd (decide (v6.2.1.2 < v6.2.2.1)) none (dnO (bd (α := ((Int × Int) × Int × Int × Int)) (bd (α := ((Int × Int × Int) × (Int × Int) × Int × Bool)) (cnd (decide (v6.2.1.2 < v6.1.1.2)) (some ((v6.1.1.1, v6.1.1.2, v6.1.2.1), (v6.1.2.2, v6.2.1.2), (IntKind.wrap .i64 (v6.2.1.1 - v6.2.1.2)), (decide (v6.1.1.2 < (IntKind.wrap .i64 (v6.2.1.1 - v6.2.1.2)))))) (some ((v6.1.1.1, v6.1.1.2, v6.1.2.1), (v6.1.2.2, v6.2.1.2), (IntKind.wrap .i64 (v6.2.1.1 - v6.2.1.2)), false))) (fun v7 => (cnd v7.2.2.2 (bd (α := Unit) (o271 v7.2.1.2 v7.1.2.1 v7.2.2.1) (fun v8 => (some ((v7.1.1, v7.1.2.2), v7.2.1.1, v7.2.1.2, v7.2.2.1)))) (some ((v7.1.1, v7.1.2.2), v7.2.1.1, v7.2.1.2, v7.2.2.1))))) (fun v9 => (bd (α := (Int × Int × Int)) (bd (α := ((Int × Int × Int) × Int × Int × Bool)) (cnd (decide (v9.1.1 < v9.2.2.1)) (some ((v9.1.1, v9.1.2, v9.2.1), v9.2.2.1, v9.2.2.2, (decide (v9.2.2.1 < v9.2.1)))) (some ((v9.1.1, v9.1.2, v9.2.1), v9.2.2.1, v9.2.2.2, false))) (fun v10 => (cnd v10.2.2.2 (bd (α := Unit) (ih v10.1.1 v10.2.1 v10.1.2.2) (fun v11 => (some (v10.1.2.1, v10.1.2.2, v10.2.2.1)))) (some (v10.1.2.1, v10.1.2.2, v10.2.2.1))))) (fun v12 => (bd (α := ((Int × Int) × Int × Bool)) (cnd (decide (v12.2.1 < v12.2.2)) (some ((v12.1, v12.2.1), v12.2.2, (decide (v12.2.2 < v12.1)))) (some ((v12.1, v12.2.1), v12.2.2, false))) (fun v13 => (cnd v13.2.2 (bd (α := Unit) (ih v13.1.2 v13.2.1 v13.1.1) (fun v14 => (some ()))) (some ()))))))))))) (((v5.1.1, v5.1.2.1), v5.1.2.2, v5.2.1.1), (v5.2.1.2, v5.2.2.1), v5.2.2.2, (IntKind.wrap .i64 (v5.2.1.2 - (1 : Int)))))))))
def o237 (k : Nat) : Int → Int → Int → Option Unit := Nat.rec (motive := fun _ => Int → Int → Int → Option Unit) (fun _ _ _ => none) (fun _ ih => o237F ih) k
theorem e237 (k : Nat) (h : TOk Tryz.prog ((237, ⟨p237, r237, fun t => o237 k t.1 t.2.1 t.2.2⟩) :: T83)) (t : Int × Int × Int) : evF (stpT Tryz.prog ((237, ⟨p237, r237, fun t => o237 k t.1 t.2.1 t.2.2⟩) :: T83) h) Tryz.f237 p237 r237 (.s (.s .d (.c (.s .d (.s .d (.s (.b (.l [o237_s0] .d)) (.s (.s .d (.b (.l [o237_s1] .d))) .d)))) .d)) (.s (.s .d (.c (.s .d (.s .d (.s (.b (.l [o237_s2] .d)) (.s (.s .d (.b (.l [o237_s3] .d))) .d)))) .d)) (.s .d (.s .d (.s .d (.j false [o237_s10] (.s .d (.s .d (.s (.b (.l [o237_s4] .d)) (.s .d (.j false [o237_s9] (.s (.s (.j false [o237_s5] .d) .d) (.j false [o237_s8] (.s (.s (.j false [o237_s6] .d) .d) (.s (.j false [o237_s7] .d) .d))))))))))))))) t = o237F (o237 k) t.1 t.2.1 t.2.2 := by kernel_rfl
theorem fo237 : ∀ k, FOk Tryz.prog 237 ⟨p237, r237, fun t => o237 k t.1 t.2.1 t.2.2⟩
  | 0 => FOk.of_none fun _ => rfl
  | k + 1 => FOk.run_eq (evF_ok (h := (.s (.s .d (.c (.s .d (.s .d (.s (.b (.l [o237_s0] .d)) (.s (.s .d (.b (.l [o237_s1] .d))) .d)))) .d)) (.s (.s .d (.c (.s .d (.s .d (.s (.b (.l [o237_s2] .d)) (.s (.s .d (.b (.l [o237_s3] .d))) .d)))) .d)) (.s .d (.s .d (.s .d (.j false [o237_s10] (.s .d (.s .d (.s (.b (.l [o237_s4] .d)) (.s .d (.j false [o237_s9] (.s (.s (.j false [o237_s5] .d) .d) (.j false [o237_s8] (.s (.s (.j false [o237_s6] .d) .d) (.s (.j false [o237_s7] .d) .d)))))))))))))))) (by kernel_rfl) (by kernel_rfl) (by kernel_rfl)) (e237 k (.cons K83 (fo237 k)))
def T84 : Tbl := (237, ⟨p237, r237, fun t => o237 fuelN t.1 t.2.1 t.2.2⟩) :: T83
theorem K84 : TOk Tryz.prog T84 := .cons K83 (fo237 fuelN)
def o169_s0 : Sch := ⟨[(0, .v (.c (.cst (.slice none 0 0)))), (1, .v (.c (.i .i64))), (2, .v (.c (.fn 106))), (6, .v (.c (.ic .i64 (20)))), (7, .v (.c (.i .i64))), (8, .v (.c (.i .i64)))], []⟩
def o169_s1 : Sch := ⟨[(0, .v (.c (.cst (.slice none 0 0)))), (1, .v (.c (.i .i64))), (2, .v (.c (.fn 106))), (6, .v (.c (.i .i64))), (7, .v (.c (.i .i64))), (8, .v (.c (.i .i64)))], []⟩
def o169_s2 : Sch := ⟨[(0, .v (.c (.cst (.slice none 0 0)))), (1, .v (.c (.i .i64))), (2, .v (.c (.fn 106))), (6, .v (.c (.i .i64)))], []⟩
def p169 : Sch := ⟨[(0, .v (.c (.cst (.slice none 0 0)))), (1, .v (.c (.i .i64))), (2, .v (.c (.fn 106)))], []⟩
def r169 : List Sch := [⟨[(0, .tup [])], []⟩]
def o169 (a0 : Int) : Option Unit :=
 (loopO (σ := Int × Int × Int) fuelN (fun (v2 : Int × Int × Int) => (cnd (decide (v2.2.2 ≤ v2.1)) (bd (α := Unit) (o236 v2.2.1 v2.2.2) (fun v3 => (some (Ctl.go (v2.1, v2.2.2, (IntKind.wrap .i64 (v2.2.2 + (20 : Int)))))))) (dnO (bd (α := Unit) (o236 v2.2.1 v2.1) (fun v4 => (loopO (σ := Int × Int) fuelN (fun (v6 : Int × Int) => (cnd (decide (v6.2 < v6.1)) (loopO (σ := (Int × Int) × Int × Int) fuelN (fun (v8 : (Int × Int) × Int × Int) => (cnd (decide (v8.2.2 ≤ v8.1.1)) (bd (α := Unit) (o237 fuelN v8.2.1 (IntKind.wrap .i64 (v8.2.1 + v8.1.2)) v8.2.2) (fun v9 => (some (Ctl.go (v8.1, v8.2.2, (IntKind.wrap .i64 (v8.2.2 + (IntKind.wrap .i64 ((2 : Int) * v8.1.2))))))))) (dnO (cnd (decide ((IntKind.wrap .i64 (v8.2.1 + v8.1.2)) < v8.1.1)) (bd (α := Unit) (o237 fuelN v8.2.1 (IntKind.wrap .i64 (v8.2.1 + v8.1.2)) v8.1.1) (fun v10 => (some (Ctl.go (v8.1.1, (IntKind.wrap .i64 (v8.1.2 * (2 : Int)))))))) (some (Ctl.go (v8.1.1, (IntKind.wrap .i64 (v8.1.2 * (2 : Int)))))))))) (v6, (0 : Int), (IntKind.wrap .i64 ((2 : Int) * v6.2)))) (dnO (some ())))) (v2.1, (20 : Int)))))))) (a0, (0 : Int), (20 : Int)))
def h169 : HC := (.s .d (.s .d (.s (.b (.l [o169_s0] .d)) (.s .d (.b (.l [o169_s2] (.s .d (.b (.s .d (.s (.b (.l [o169_s1] .d)) .d))))))))))
theorem e169 (t : Int) : evF (stpT Tryz.prog T84 K84) Tryz.f169 p169 r169 h169 t = (o169 t) := by kernel_rfl
theorem fo169 : FOk Tryz.prog 169 ⟨p169, r169, fun t => (o169 t)⟩ := FOk.run_eq (evF_ok (h := h169) (by kernel_rfl) (by kernel_rfl) (by kernel_rfl)) e169
def T85 : Tbl := (169, ⟨p169, r169, fun t => (o169 t)⟩) :: T84
theorem K85 : TOk Tryz.prog T85 := .cons K84 fo169
def p105 : Sch := ⟨[(0, .v (.c (.cst (.slice none 0 0)))), (1, .v (.c (.fn 106)))], []⟩
def r105 : List Sch := [⟨[(0, .tup [])], []⟩]
def o105 : Option Unit :=
 (bd (α := Unit) (o169 (0 : Int)) (fun v1 => (some ())))
theorem e105 (t : Unit) : evF (stpT Tryz.prog T85 K85) Tryz.f105 p105 r105 .d t = o105 := by kernel_rfl
theorem fo105 : FOk Tryz.prog 105 ⟨p105, r105, fun t => o105⟩ := FOk.run_eq (evF_ok (h := .d) (by kernel_rfl) (by kernel_rfl) (by kernel_rfl)) e105
def T86 : Tbl := (105, ⟨p105, r105, fun t => o105⟩) :: T85
theorem K86 : TOk Tryz.prog T86 := .cons K85 fo105
def p45 : Sch := ⟨[(0, .v (.c (.cst (.slice none 0 0))))], []⟩
def r45 : List Sch := [⟨[(0, .v (.c (.cst (.slice none 0 0))))], []⟩]
def o45 : Option Unit :=
 (bd (α := Unit) o104 (fun v1 => (bd (α := Unit) o105 (fun v2 => (some ())))))
theorem e45 (t : Unit) : evF (stpT Tryz.prog T86 K86) Tryz.f45 p45 r45 .d t = o45 := by kernel_rfl
theorem fo45 : FOk Tryz.prog 45 ⟨p45, r45, fun t => o45⟩ := FOk.run_eq (evF_ok (h := .d) (by kernel_rfl) (by kernel_rfl) (by kernel_rfl)) e45
def T87 : Tbl := (45, ⟨p45, r45, fun t => o45⟩) :: T86
theorem K87 : TOk Tryz.prog T87 := .cons K86 fo45
def o170_s0 : Sch := ⟨[(0, .v (.c (.cst (.slice none 0 0)))), (1, .v (.c (.i .i64))), (2, .v (.c (.i .i64))), (3, .v (.c (.fn 47))), (8, .v (.c (.i .i64))), (9, .v (.c (.i .i64)))], []⟩
def o170_s1 : Sch := ⟨[(0, .v (.c (.cst (.slice none 0 0)))), (1, .v (.c (.i .i64))), (2, .v (.c (.i .i64))), (3, .v (.c (.fn 47))), (8, .v (.c (.i .i64)))], []⟩
def p170 : Sch := ⟨[(0, .v (.c (.cst (.slice none 0 0)))), (1, .v (.c (.i .i64))), (2, .v (.c (.i .i64))), (3, .v (.c (.fn 47)))], []⟩
def r170 : List Sch := [⟨[(0, .tup [])], []⟩]
def o170 (a0 : Int) (a1 : Int) : Option Unit :=
 (loopO (σ := Int × Int × Int) fuelN (fun (v1 : Int × Int × Int) => (cnd (decide (v1.2.2 < v1.2.1)) (loopO (σ := (Int × Int) × Int × Int) fuelN (fun (v2 : (Int × Int) × Int × Int) => (cnd (decide (v2.2.2 > v2.1.1)) none (dnO (some (Ctl.go (v2.1.1, v2.1.2, (IntKind.wrap .i64 (v2.2.1 + (1 : Int))))))))) ((v1.1, v1.2.1), v1.2.2, v1.2.2)) (dnO (some ())))) (a0, a1, (IntKind.wrap .i64 (a0 + (1 : Int)))))
def h170 : HC := (.s .d (.b (.l [o170_s1] (.s .d (.s (.b (.s .d (.b (.l [o170_s0] .d)))) .d)))))
theorem e170 (t : Int × Int) : evF (stpT Tryz.prog T87 K87) Tryz.f170 p170 r170 h170 t = (o170 t.1 t.2) := by kernel_rfl
theorem fo170 : FOk Tryz.prog 170 ⟨p170, r170, fun t => (o170 t.1 t.2)⟩ := FOk.run_eq (evF_ok (h := h170) (by kernel_rfl) (by kernel_rfl) (by kernel_rfl)) e170
def T88 : Tbl := (170, ⟨p170, r170, fun t => (o170 t.1 t.2)⟩) :: T87
theorem K88 : TOk Tryz.prog T88 := .cons K87 fo170
def o272_s0 : Sch := ⟨[(0, .v (.c (.cst (.slice none 0 0)))), (1, .v (.c (.i .i64))), (2, .v (.c (.i .i64))), (3, .v (.c (.i .i64))), (10, .v (.c (.ic .i64 (0))))], []⟩
def p272 : Sch := ⟨[(0, .v (.c (.cst (.slice none 0 0)))), (1, .v (.c (.i .i64))), (2, .v (.c (.i .i64))), (3, .v (.c (.i .i64))), (4, .v (.c (.fn 47)))], []⟩
def r272 : List Sch := [⟨[(0, .tup [])], []⟩]
def o272 (a0 : Int) (a1 : Int) (a2 : Int) : Option Unit :=
 (loopO (σ := Int × Int × Int) fuelN (fun (v1 : Int × Int × Int) => (cnd (decide ((0 : Int) < v1.2.2)) none (dnO (some ())))) (a0, a1, a2))
theorem e272 (t : Int × Int × Int) : evF (stpT Tryz.prog T88 K88) Tryz.f272 p272 r272 (.s .d (.b (.l [o272_s0] .d))) t = (o272 t.1 t.2.1 t.2.2) := by kernel_rfl
theorem fo272 : FOk Tryz.prog 272 ⟨p272, r272, fun t => (o272 t.1 t.2.1 t.2.2)⟩ := FOk.run_eq (evF_ok (h := (.s .d (.b (.l [o272_s0] .d)))) (by kernel_rfl) (by kernel_rfl) (by kernel_rfl)) e272
def T89 : Tbl := (272, ⟨p272, r272, fun t => (o272 t.1 t.2.1 t.2.2)⟩) :: T88
theorem K89 : TOk Tryz.prog T89 := .cons K88 fo272
def o238_s0 : Sch := ⟨[(0, .v (.c (.cst (.slice none 0 0)))), (2, .v (.c (.i .i64))), (4, .v (.c (.fn 47))), (10, .v (.c (.i .i64))), (11, .v (.c (.i .i64)))], []⟩
def p238 : Sch := ⟨[(0, .v (.c (.cst (.slice none 0 0)))), (1, .v (.c (.i .i64))), (2, .v (.c (.i .i64))), (3, .v (.c (.i .i64))), (4, .v (.c (.fn 47)))], []⟩
def r238 : List Sch := [⟨[(0, .tup [])], []⟩]
def o238 (a0 : Int) (a1 : Int) (a2 : Int) : Option Unit :=
 (loopO (σ := Int × Int × Int) fuelN (fun (v1 : Int × Int × Int) => (cnd (v1.2.1 != v1.2.2) (cnd (decide (v1.2.1 > v1.2.2)) (bd (α := Unit) (o272 (IntKind.wrap .i64 (v1.1 - v1.2.1)) v1.1 v1.2.2) (fun v2 => (some (Ctl.go (v1.1, (IntKind.wrap .i64 (v1.2.1 - v1.2.2)), v1.2.2))))) (bd (α := Unit) (o272 (IntKind.wrap .i64 (v1.1 - v1.2.1)) (IntKind.wrap .i64 ((IntKind.wrap .i64 (v1.1 + v1.2.2)) - v1.2.1)) v1.2.1) (fun v3 => (some (Ctl.go (v1.1, v1.2.1, (IntKind.wrap .i64 (v1.2.2 - v1.2.1)))))))) (dnO (bd (α := Unit) (o272 (IntKind.wrap .i64 (v1.1 - v1.2.1)) v1.1 v1.2.1) (fun v4 => (some ())))))) (a1, (IntKind.wrap .i64 (a1 - a0)), (IntKind.wrap .i64 (a2 - a1))))
def h238 : HC := (.s .d (.s .d (.s (.b (.l [o238_s0] .d)) .d)))
theorem e238 (t : Int × Int × Int) : evF (stpT Tryz.prog T89 K89) Tryz.f238 p238 r238 h238 t = (o238 t.1 t.2.1 t.2.2) := by kernel_rfl
theorem fo238 : FOk Tryz.prog 238 ⟨p238, r238, fun t => (o238 t.1 t.2.1 t.2.2)⟩ := FOk.run_eq (evF_ok (h := h238) (by kernel_rfl) (by kernel_rfl) (by kernel_rfl)) e238
def T90 : Tbl := (238, ⟨p238, r238, fun t => (o238 t.1 t.2.1 t.2.2)⟩) :: T89
theorem K90 : TOk Tryz.prog T90 := .cons K89 fo238
def o171_s0 : Sch := ⟨[(0, .v (.c (.cst (.slice none 0 0)))), (1, .v (.c (.i .i64))), (4, .v (.c (.fn 47))), (10, .v (.c (.i .i64))), (11, .v (.c (.i .i64)))], []⟩
def o171_s1 : Sch := ⟨[(0, .v (.c (.cst (.slice none 0 0)))), (10, .v (.c (.i .i64))), (13, .v (.c (.i .i64)))], []⟩
def o171_s2 : Sch := ⟨[(0, .v (.c (.cst (.slice none 0 0)))), (2, .v (.c (.i .i64))), (4, .v (.c (.fn 47))), (14, .v (.c (.i .i64))), (15, .v (.c (.i .i64)))], []⟩
def o171_s3 : Sch := ⟨[(0, .v (.c (.cst (.slice none 0 0)))), (14, .v (.c (.i .i64))), (17, .v (.c (.i .i64)))], []⟩
def o171_s4 : Sch := ⟨[(0, .v (.c (.cst (.slice none 0 0)))), (1, .v (.c (.i .i64))), (2, .v (.c (.i .i64))), (3, .v (.c (.i .i64))), (4, .v (.c (.fn 47))), (18, .v (.c (.i .i64))), (19, .v (.c (.i .i64))), (20, .v (.c (.i .i64))), (21, .v (.c (.i .i64))), (22, .v (.c (.i .i64)))], []⟩
def o171_s5 : Sch := ⟨[(0, .v (.c (.cst (.slice none 0 0)))), (1, .v (.c (.i .i64))), (2, .v (.c (.i .i64))), (3, .v (.c (.i .i64))), (4, .v (.c (.fn 47))), (18, .v (.c (.i .i64))), (20, .v (.c (.i .i64))), (24, .v (.c (.i .i64))), (185, .v (.c (.b)))], []⟩
def o171_s6 : Sch := ⟨[(0, .v (.c (.cst (.slice none 0 0)))), (1, .v (.c (.i .i64))), (3, .v (.c (.i .i64))), (4, .v (.c (.fn 47))), (18, .v (.c (.i .i64))), (20, .v (.c (.i .i64))), (24, .v (.c (.i .i64))), (199, .v (.c (.b)))], []⟩
def o171_s7 : Sch := ⟨[(0, .v (.c (.cst (.slice none 0 0)))), (3, .v (.c (.i .i64))), (4, .v (.c (.fn 47))), (18, .v (.c (.i .i64))), (24, .v (.c (.i .i64))), (213, .v (.c (.b)))], []⟩
def o171_s8 : Sch := ⟨[(0, .v (.c (.cst (.slice none 0 0)))), (3, .v (.c (.i .i64))), (4, .v (.c (.fn 47))), (18, .v (.c (.i .i64))), (24, .v (.c (.i .i64)))], []⟩
def o171_s9 : Sch := ⟨[(0, .v (.c (.cst (.slice none 0 0)))), (1, .v (.c (.i .i64))), (3, .v (.c (.i .i64))), (4, .v (.c (.fn 47))), (18, .v (.c (.i .i64))), (20, .v (.c (.i .i64))), (24, .v (.c (.i .i64)))], []⟩
def o171_s10 : Sch := ⟨[(0, .v (.c (.cst (.slice none 0 0)))), (1, .v (.c (.i .i64))), (2, .v (.c (.i .i64))), (3, .v (.c (.i .i64))), (4, .v (.c (.fn 47))), (18, .v (.c (.i .i64))), (19, .v (.c (.i .i64))), (20, .v (.c (.i .i64))), (21, .v (.c (.i .i64)))], []⟩
def p171 : Sch := ⟨[(0, .v (.c (.cst (.slice none 0 0)))), (1, .v (.c (.i .i64))), (2, .v (.c (.i .i64))), (3, .v (.c (.i .i64))), (4, .v (.c (.fn 47)))], []⟩
def r171 : List Sch := [⟨[(0, .tup [])], []⟩]
def o171F (ih : Int → Int → Int → Option Unit) (a0 : Int) (a1 : Int) (a2 : Int) : Option Unit :=
 (cnd ((IntKind.wrap .i64 (a1 - a0)) == (1 : Int)) (loopO (σ := Int × Int × Int) fuelN (fun (v1 : Int × Int × Int) => (cnd (decide (v1.2.1 < v1.2.2)) none (dnO (loopO (σ := Int × Int) fuelN (fun (v2 : Int × Int) => (cnd (decide (v2.2 < (IntKind.wrap .i64 (v2.1 - (1 : Int))))) none (dnO (some ())))) (v1.2.1, v1.1))))) (a0, a1, a2)) (cnd ((IntKind.wrap .i64 (a2 - a1)) == (1 : Int)) (loopO (σ := Int × Int × Int) fuelN (fun (v3 : Int × Int × Int) => (cnd (decide (v3.2.1 < v3.2.2)) none (dnO (loopO (σ := Int × Int) fuelN (fun (v4 : Int × Int) => (cnd (decide (v4.2 > v4.1)) none (dnO (some ())))) (v3.2.1, v3.1))))) (a1, a0, a1)) (bd (α := ((Int × Int × Int) × (Int × Int) × Int × Int)) (cnd (decide (a1 > (IntKind.wrap .i64 (shrK .u64 (IntKind.wrap .u64 (IntKind.wrap .i64 (a0 + a2))) (1 : Int))))) (some ((a0, a1, a2), ((IntKind.wrap .i64 (shrK .u64 (IntKind.wrap .u64 (IntKind.wrap .i64 (a0 + a2))) (1 : Int))), (IntKind.wrap .i64 ((IntKind.wrap .i64 (shrK .u64 (IntKind.wrap .u64 (IntKind.wrap .i64 (a0 + a2))) (1 : Int))) + a1))), (IntKind.wrap .i64 ((IntKind.wrap .i64 ((IntKind.wrap .i64 (shrK .u64 (IntKind.wrap .u64 (IntKind.wrap .i64 (a0 + a2))) (1 : Int))) + a1)) - a2)), (IntKind.wrap .i64 (shrK .u64 (IntKind.wrap .u64 (IntKind.wrap .i64 (a0 + a2))) (1 : Int))))) (some ((a0, a1, a2), ((IntKind.wrap .i64 (shrK .u64 (IntKind.wrap .u64 (IntKind.wrap .i64 (a0 + a2))) (1 : Int))), (IntKind.wrap .i64 ((IntKind.wrap .i64 (shrK .u64 (IntKind.wrap .u64 (IntKind.wrap .i64 (a0 + a2))) (1 : Int))) + a1))), a0, a1))) (fun v5 => (loopO (σ := ((Int × Int) × Int × Int) × (Int × Int) × Int × Int) fuelN (fun (v6 : ((Int × Int) × Int × Int) × (Int × Int) × Int × Int) => (cnd (decide (v6.2.1.2 < v6.2.2.1)) none (dnO (bd (α := ((Int × Int) × Int × Int × Int)) (bd (α := ((Int × Int × Int) × (Int × Int) × Int × Bool)) (cnd (decide (v6.2.1.2 < v6.1.1.2)) (some ((v6.1.1.1, v6.1.1.2, v6.1.2.1), (v6.1.2.2, v6.2.1.2), (IntKind.wrap .i64 (v6.2.1.1 - v6.2.1.2)), (decide (v6.1.1.2 < (IntKind.wrap .i64 (v6.2.1.1 - v6.2.1.2)))))) (some ((v6.1.1.1, v6.1.1.2, v6.1.2.1), (v6.1.2.2, v6.2.1.2), (IntKind.wrap .i64 (v6.2.1.1 - v6.2.1.2)), false))) (fun v7 => (cnd v7.2.2.2 (bd (α := Unit) (o238 v7.2.1.2 v7.1.2.1 v7.2.2.1) (fun v8 => (some ((v7.1.1, v7.1.2.2), v7.2.1.1, v7.2.1.2, v7.2.2.1)))) (some ((v7.1.1, v7.1.2.2), v7.2.1.1, v7.2.1.2, v7.2.2.1))))) (fun v9 => (bd (α := (Int × Int × Int)) (bd (α := ((Int × Int × Int) × Int × Int × Bool)) (cnd (decide (v9.1.1 < v9.2.2.1)) (some ((v9.1.1, v9.1.2, v9.2.1), v9.2.2.1, v9.2.2.2, (decide (v9.2.2.1 < v9.2.1)))) (some ((v9.1.1, v9.1.2, v9.2.1), v9.2.2.1, v9.2.2.2, false))) (fun v10 => (cnd v10.2.2.2 (bd (α := Unit) (ih v10.1.1 v10.2.1 v10.1.2.2) (fun v11 => (some (v10.1.2.1, v10.1.2.2, v10.2.2.1)))) (some (v10.1.2.1, v10.1.2.2, v10.2.2.1))))) (fun v12 => (bd (α := ((Int × Int) × Int × Bool)) (cnd (decide (v12.2.1 < v12.2.2)) (some ((v12.1, v12.2.1), v12.2.2, (decide (v12.2.2 < v12.1)))) (some ((v12.1, v12.2.1), v12.2.2, false))) (fun v13 => (cnd v13.2.2 (bd (α := Unit) (ih v13.1.2 v13.2.1 v13.1.1) (fun v14 => (some ()))) (some ()))))))))))) (((v5.1.1, v5.1.2.1), v5.1.2.2, v5.2.1.1), (v5.2.1.2, v5.2.2.1), v5.2.2.2, (IntKind.wrap .i64 (v5.2.1.2 - (1 : Int)))))))))
def o171 (k : Nat) : Int → Int → Int → Option Unit := Nat.rec (motive := fun _ => Int → Int → Int → Option Unit) (fun _ _ _ => none) (fun _ ih => o171F ih) k
theorem e171 (k : Nat) (h : TOk Tryz.prog ((171, ⟨p171, r171, fun t => o171 k t.1 t.2.1 t.2.2⟩) :: T90)) (t : Int × Int × Int) : evF (stpT Tryz.prog ((171, ⟨p171, r171, fun t => o171 k t.1 t.2.1 t.2.2⟩) :: T90) h) Tryz.f171 p171 r171 (.s (.s .d (.c (.s .d (.s .d (.s (.b (.l [o171_s0] .d)) (.s (.s .d (.b (.l [o171_s1] .d))) .d)))) .d)) (.s (.s .d (.c (.s .d (.s .d (.s (.b (.l [o171_s2] .d)) (.s (.s .d (.b (.l [o171_s3] .d))) .d)))) .d)) (.s .d (.s .d (.s .d (.j false [o171_s10] (.s .d (.s .d (.s (.b (.l [o171_s4] .d)) (.s .d (.j false [o171_s9] (.s (.s (.j false [o171_s5] .d) .d) (.j false [o171_s8] (.s (.s (.j false [o171_s6] .d) .d) (.s (.j false [o171_s7] .d) .d))))))))))))))) t = o171F (o171 k) t.1 t.2.1 t.2.2 := by kernel_rfl
theorem fo171 : ∀ k, FOk Tryz.prog 171 ⟨p171, r171, fun t => o171 k t.1 t.2.1 t.2.2⟩
  | 0 => FOk.of_none fun _ => rfl
  | k + 1 => FOk.run_eq (evF_ok (h := (.s (.s .d (.c (.s .d (.s .d (.s (.b (.l [o171_s0] .d)) (.s (.s .d (.b (.l [o171_s1] .d))) .d)))) .d)) (.s (.s .d (.c (.s .d (.s .d (.s (.b (.l [o171_s2] .d)) (.s (.s .d (.b (.l [o171_s3] .d))) .d)))) .d)) (.s .d (.s .d (.s .d (.j false [o171_s10] (.s .d (.s .d (.s (.b (.l [o171_s4] .d)) (.s .d (.j false [o171_s9] (.s (.s (.j false [o171_s5] .d) .d) (.j false [o171_s8] (.s (.s (.j false [o171_s6] .d) .d) (.s (.j false [o171_s7] .d) .d)))))))))))))))) (by kernel_rfl) (by kernel_rfl) (by kernel_rfl)) (e171 k (.cons K90 (fo171 k)))
def T91 : Tbl := (171, ⟨p171, r171, fun t => o171 fuelN t.1 t.2.1 t.2.2⟩) :: T90
theorem K91 : TOk Tryz.prog T91 := .cons K90 (fo171 fuelN)
def o107_s0 : Sch := ⟨[(0, .v (.c (.cst (.slice none 0 0)))), (1, .v (.c (.i .i64))), (2, .v (.c (.fn 47))), (6, .v (.c (.ic .i64 (20)))), (7, .v (.c (.i .i64))), (8, .v (.c (.i .i64)))], []⟩
def o107_s1 : Sch := ⟨[(0, .v (.c (.cst (.slice none 0 0)))), (1, .v (.c (.i .i64))), (2, .v (.c (.fn 47))), (6, .v (.c (.i .i64))), (7, .v (.c (.i .i64))), (8, .v (.c (.i .i64)))], []⟩
def o107_s2 : Sch := ⟨[(0, .v (.c (.cst (.slice none 0 0)))), (1, .v (.c (.i .i64))), (2, .v (.c (.fn 47))), (6, .v (.c (.i .i64)))], []⟩
def p107 : Sch := ⟨[(0, .v (.c (.cst (.slice none 0 0)))), (1, .v (.c (.i .i64))), (2, .v (.c (.fn 47)))], []⟩
def r107 : List Sch := [⟨[(0, .tup [])], []⟩]
def o107 (a0 : Int) : Option Unit :=
 (loopO (σ := Int × Int × Int) fuelN (fun (v2 : Int × Int × Int) => (cnd (decide (v2.2.2 ≤ v2.1)) (bd (α := Unit) (o170 v2.2.1 v2.2.2) (fun v3 => (some (Ctl.go (v2.1, v2.2.2, (IntKind.wrap .i64 (v2.2.2 + (20 : Int)))))))) (dnO (bd (α := Unit) (o170 v2.2.1 v2.1) (fun v4 => (loopO (σ := Int × Int) fuelN (fun (v6 : Int × Int) => (cnd (decide (v6.2 < v6.1)) (loopO (σ := (Int × Int) × Int × Int) fuelN (fun (v8 : (Int × Int) × Int × Int) => (cnd (decide (v8.2.2 ≤ v8.1.1)) (bd (α := Unit) (o171 fuelN v8.2.1 (IntKind.wrap .i64 (v8.2.1 + v8.1.2)) v8.2.2) (fun v9 => (some (Ctl.go (v8.1, v8.2.2, (IntKind.wrap .i64 (v8.2.2 + (IntKind.wrap .i64 ((2 : Int) * v8.1.2))))))))) (dnO (cnd (decide ((IntKind.wrap .i64 (v8.2.1 + v8.1.2)) < v8.1.1)) (bd (α := Unit) (o171 fuelN v8.2.1 (IntKind.wrap .i64 (v8.2.1 + v8.1.2)) v8.1.1) (fun v10 => (some (Ctl.go (v8.1.1, (IntKind.wrap .i64 (v8.1.2 * (2 : Int)))))))) (some (Ctl.go (v8.1.1, (IntKind.wrap .i64 (v8.1.2 * (2 : Int)))))))))) (v6, (0 : Int), (IntKind.wrap .i64 ((2 : Int) * v6.2)))) (dnO (some ())))) (v2.1, (20 : Int)))))))) (a0, (0 : Int), (20 : Int)))
def h107 : HC := (.s .d (.s .d (.s (.b (.l [o107_s0] .d)) (.s .d (.b (.l [o107_s2] (.s .d (.b (.s .d (.s (.b (.l [o107_s1] .d)) .d))))))))))
theorem e107 (t : Int) : evF (stpT Tryz.prog T91 K91) Tryz.f107 p107 r107 h107 t = (o107 t) := by kernel_rfl
theorem fo107 : FOk Tryz.prog 107 ⟨p107, r107, fun t => (o107 t)⟩ := FOk.run_eq (evF_ok (h := h107) (by kernel_rfl) (by kernel_rfl) (by kernel_rfl)) e107
def T92 : Tbl := (107, ⟨p107, r107, fun t => (o107 t)⟩) :: T91
theorem K92 : TOk Tryz.prog T92 := .cons K91 fo107
def p46 : Sch := ⟨[(0, .v (.c (.cst (.slice none 0 0)))), (1, .v (.c (.fn 47)))], []⟩
def r46 : List Sch := [⟨[(0, .tup [])], []⟩]
def o46 : Option Unit :=
 (bd (α := Unit) (o107 (0 : Int)) (fun v1 => (some ())))
theorem e46 (t : Unit) : evF (stpT Tryz.prog T92 K92) Tryz.f46 p46 r46 .d t = o46 := by kernel_rfl
theorem fo46 : FOk Tryz.prog 46 ⟨p46, r46, fun t => o46⟩ := FOk.run_eq (evF_ok (h := .d) (by kernel_rfl) (by kernel_rfl) (by kernel_rfl)) e46
def T93 : Tbl := (46, ⟨p46, r46, fun t => o46⟩) :: T92
theorem K93 : TOk Tryz.prog T93 := .cons K92 fo46
def o172_s0 : Sch := ⟨[(0, .v (.c (.cst (.slice none 0 0)))), (1, .v (.c (.i .i64))), (2, .v (.c (.i .i64))), (3, .v (.c (.fn 50))), (8, .v (.c (.i .i64))), (9, .v (.c (.i .i64)))], []⟩
def o172_s1 : Sch := ⟨[(0, .v (.c (.cst (.slice none 0 0)))), (1, .v (.c (.i .i64))), (2, .v (.c (.i .i64))), (3, .v (.c (.fn 50))), (8, .v (.c (.i .i64)))], []⟩
def p172 : Sch := ⟨[(0, .v (.c (.cst (.slice none 0 0)))), (1, .v (.c (.i .i64))), (2, .v (.c (.i .i64))), (3, .v (.c (.fn 50)))], []⟩
def r172 : List Sch := [⟨[(0, .tup [])], []⟩]
def o172 (a0 : Int) (a1 : Int) : Option Unit :=
 (loopO (σ := Int × Int × Int) fuelN (fun (v1 : Int × Int × Int) => (cnd (decide (v1.2.2 < v1.2.1)) (loopO (σ := (Int × Int) × Int × Int) fuelN (fun (v2 : (Int × Int) × Int × Int) => (cnd (decide (v2.2.2 > v2.1.1)) none (dnO (some (Ctl.go (v2.1.1, v2.1.2, (IntKind.wrap .i64 (v2.2.1 + (1 : Int))))))))) ((v1.1, v1.2.1), v1.2.2, v1.2.2)) (dnO (some ())))) (a0, a1, (IntKind.wrap .i64 (a0 + (1 : Int)))))
def h172 : HC := (.s .d (.b (.l [o172_s1] (.s .d (.s (.b (.s .d (.b (.l [o172_s0] .d)))) .d)))))
theorem e172 (t : Int × Int) : evF (stpT Tryz.prog T93 K93) Tryz.f172 p172 r172 h172 t = (o172 t.1 t.2) := by kernel_rfl
theorem fo172 : FOk Tryz.prog 172 ⟨p172, r172, fun t => (o172 t.1 t.2)⟩ := FOk.run_eq (evF_ok (h := h172) (by kernel_rfl) (by kernel_rfl) (by kernel_rfl)) e172
def T94 : Tbl := (172, ⟨p172, r172, fun t => (o172 t.1 t.2)⟩) :: T93
theorem K94 : TOk Tryz.prog T94 := .cons K93 fo172
def o273_s0 : Sch := ⟨[(0, .v (.c (.cst (.slice none 0 0)))), (1, .v (.c (.i .i64))), (2, .v (.c (.i .i64))), (3, .v (.c (.i .i64))), (10, .v (.c (.ic .i64 (0))))], []⟩
def p273 : Sch := ⟨[(0, .v (.c (.cst (.slice none 0 0)))), (1, .v (.c (.i .i64))), (2, .v (.c (.i .i64))), (3, .v (.c (.i .i64))), (4, .v (.c (.fn 50)))], []⟩
def r273 : List Sch := [⟨[(0, .tup [])], []⟩]
def o273 (a0 : Int) (a1 : Int) (a2 : Int) : Option Unit :=
 (loopO (σ := Int × Int × Int) fuelN (fun (v1 : Int × Int × Int) => (cnd (decide ((0 : Int) < v1.2.2)) none (dnO (some ())))) (a0, a1, a2))
theorem e273 (t : Int × Int × Int) : evF (stpT Tryz.prog T94 K94) Tryz.f273 p273 r273 (.s .d (.b (.l [o273_s0] .d))) t = (o273 t.1 t.2.1 t.2.2) := by kernel_rfl
theorem fo273 : FOk Tryz.prog 273 ⟨p273, r273, fun t => (o273 t.1 t.2.1 t.2.2)⟩ := FOk.run_eq (evF_ok (h := (.s .d (.b (.l [o273_s0] .d)))) (by kernel_rfl) (by kernel_rfl) (by kernel_rfl)) e273
def T95 : Tbl := (273, ⟨p273, r273, fun t => (o273 t.1 t.2.1 t.2.2)⟩) :: T94
theorem K95 : TOk Tryz.prog T95 := .cons K94 fo273
def o239_s0 : Sch := ⟨[(0, .v (.c (.cst (.slice none 0 0)))), (2, .v (.c (.i .i64))), (4, .v (.c (.fn 50))), (10, .v (.c (.i .i64))), (11, .v (.c (.i .i64)))], []⟩
def p239 : Sch := ⟨[(0, .v (.c (.cst (.slice none 0 0)))), (1, .v (.c (.i .i64))), (2, .v (.c (.i .i64))), (3, .v (.c (.i .i64))), (4, .v (.c (.fn 50)))], []⟩
def r239 : List Sch := [⟨[(0, .tup [])], []⟩]
def o239 (a0 : Int) (a1 : Int) (a2 : Int) : Option Unit :=
 (loopO (σ := Int × Int × Int) fuelN (fun (v1 : Int × Int × Int) => (cnd (v1.2.1 != v1.2.2) (cnd (decide (v1.2.1 > v1.2.2)) (bd (α := Unit) (o273 (IntKind.wrap .i64 (v1.1 - v1.2.1)) v1.1 v1.2.2) (fun v2 => (some (Ctl.go (v1.1, (IntKind.wrap .i64 (v1.2.1 - v1.2.2)), v1.2.2))))) (bd (α := Unit) (o273 (IntKind.wrap .i64 (v1.1 - v1.2.1)) (IntKind.wrap .i64 ((IntKind.wrap .i64 (v1.1 + v1.2.2)) - v1.2.1)) v1.2.1) (fun v3 => (some (Ctl.go (v1.1, v1.2.1, (IntKind.wrap .i64 (v1.2.2 - v1.2.1)))))))) (dnO (bd (α := Unit) (o273 (IntKind.wrap .i64 (v1.1 - v1.2.1)) v1.1 v1.2.1) (fun v4 => (some ())))))) (a1, (IntKind.wrap .i64 (a1 - a0)), (IntKind.wrap .i64 (a2 - a1))))
def h239 : HC := (.s .d (.s .d (.s (.b (.l [o239_s0] .d)) .d)))
theorem e239 (t : Int × Int × Int) : evF (stpT Tryz.prog T95 K95) Tryz.f239 p239 r239 h239 t = (o239 t.1 t.2.1 t.2.2) := by kernel_rfl
theorem fo239 : FOk Tryz.prog 239 ⟨p239, r239, fun t => (o239 t.1 t.2.1 t.2.2)⟩ := FOk.run_eq (evF_ok (h := h239) (by kernel_rfl) (by kernel_rfl) (by kernel_rfl)) e239
def T96 : Tbl := (239, ⟨p239, r239, fun t => (o239 t.1 t.2.1 t.2.2)⟩) :: T95
theorem K96 : TOk Tryz.prog T96 := .cons K95 fo239
def o173_s0 : Sch := ⟨[(0, .v (.c (.cst (.slice none 0 0)))), (1, .v (.c (.i .i64))), (4, .v (.c (.fn 50))), (10, .v (.c (.i .i64))), (11, .v (.c (.i .i64)))], []⟩
def o173_s1 : Sch := ⟨[(0, .v (.c (.cst (.slice none 0 0)))), (10, .v (.c (.i .i64))), (13, .v (.c (.i .i64)))], []⟩
def o173_s2 : Sch := ⟨[(0, .v (.c (.cst (.slice none 0 0)))), (2, .v (.c (.i .i64))), (4, .v (.c (.fn 50))), (14, .v (.c (.i .i64))), (15, .v (.c (.i .i64)))], []⟩
def o173_s3 : Sch := ⟨[(0, .v (.c (.cst (.slice none 0 0)))), (14, .v (.c (.i .i64))), (17, .v (.c (.i .i64)))], []⟩
def o173_s4 : Sch := ⟨[(0, .v (.c (.cst (.slice none 0 0)))), (1, .v (.c (.i .i64))), (2, .v (.c (.i .i64))), (3, .v (.c (.i .i64))), (4, .v (.c (.fn 50))), (18, .v (.c (.i .i64))), (19, .v (.c (.i .i64))), (20, .v (.c (.i .i64))), (21, .v (.c (.i .i64))), (22, .v (.c (.i .i64)))], []⟩
def o173_s5 : Sch := ⟨[(0, .v (.c (.cst (.slice none 0 0)))), (1, .v (.c (.i .i64))), (2, .v (.c (.i .i64))), (3, .v (.c (.i .i64))), (4, .v (.c (.fn 50))), (18, .v (.c (.i .i64))), (20, .v (.c (.i .i64))), (24, .v (.c (.i .i64))), (185, .v (.c (.b)))], []⟩
def o173_s6 : Sch := ⟨[(0, .v (.c (.cst (.slice none 0 0)))), (1, .v (.c (.i .i64))), (3, .v (.c (.i .i64))), (4, .v (.c (.fn 50))), (18, .v (.c (.i .i64))), (20, .v (.c (.i .i64))), (24, .v (.c (.i .i64))), (199, .v (.c (.b)))], []⟩
def o173_s7 : Sch := ⟨[(0, .v (.c (.cst (.slice none 0 0)))), (3, .v (.c (.i .i64))), (4, .v (.c (.fn 50))), (18, .v (.c (.i .i64))), (24, .v (.c (.i .i64))), (213, .v (.c (.b)))], []⟩
def o173_s8 : Sch := ⟨[(0, .v (.c (.cst (.slice none 0 0)))), (3, .v (.c (.i .i64))), (4, .v (.c (.fn 50))), (18, .v (.c (.i .i64))), (24, .v (.c (.i .i64)))], []⟩
def o173_s9 : Sch := ⟨[(0, .v (.c (.cst (.slice none 0 0)))), (1, .v (.c (.i .i64))), (3, .v (.c (.i .i64))), (4, .v (.c (.fn 50))), (18, .v (.c (.i .i64))), (20, .v (.c (.i .i64))), (24, .v (.c (.i .i64)))], []⟩
def o173_s10 : Sch := ⟨[(0, .v (.c (.cst (.slice none 0 0)))), (1, .v (.c (.i .i64))), (2, .v (.c (.i .i64))), (3, .v (.c (.i .i64))), (4, .v (.c (.fn 50))), (18, .v (.c (.i .i64))), (19, .v (.c (.i .i64))), (20, .v (.c (.i .i64))), (21, .v (.c (.i .i64)))], []⟩
def p173 : Sch := ⟨[(0, .v (.c (.cst (.slice none 0 0)))), (1, .v (.c (.i .i64))), (2, .v (.c (.i .i64))), (3, .v (.c (.i .i64))), (4, .v (.c (.fn 50)))], []⟩
def r173 : List Sch := [⟨[(0, .tup [])], []⟩]
def o173F (ih : Int → Int → Int → Option Unit) (a0 : Int) (a1 : Int) (a2 : Int) : Option Unit :=
 (cnd ((IntKind.wrap .i64 (a1 - a0)) == (1 : Int)) (loopO (σ := Int × Int × Int) fuelN (fun (v1 : Int × Int × Int) => (cnd (decide (v1.2.1 < v1.2.2)) none (dnO (loopO (σ := Int × Int) fuelN (fun (v2 : Int × Int) => (cnd (decide (v2.2 < (IntKind.wrap .i64 (v2.1 - (1 : Int))))) none (dnO (some ())))) (v1.2.1, v1.1))))) (a0, a1, a2)) (cnd ((IntKind.wrap .i64 (a2 - a1)) == (1 : Int)) (loopO (σ := Int × Int × Int) fuelN (fun (v3 : Int × Int × Int) => (cnd (decide (v3.2.1 < v3.2.2)) none (dnO (loopO (σ := Int × Int) fuelN (fun (v4 : Int × Int) => (cnd (decide (v4.2 > v4.1)) none (dnO (some ())))) (v3.2.1, v3.1))))) (a1, a0, a1)) (bd (α := ((Int × Int × Int) × (Int × Int) × Int × Int)) (cnd (decide (a1 > (IntKind.wrap .i64 (shrK .u64 (IntKind.wrap .u64 (IntKind.wrap .i64 (a0 + a2))) (1 : Int))))) (some ((a0, a1, a2), ((IntKind.wrap .i64 (shrK .u64 (IntKind.wrap .u64 (IntKind.wrap .i64 (a0 + a2))) (1 : Int))), (IntKind.wrap .i64 ((IntKind.wrap .i64 (shrK .u64 (IntKind.wrap .u64 (IntKind.wrap .i64 (a0 + a2))) (1 : Int))) + a1))), (IntKind.wrap .i64 ((IntKind.wrap .i64 ((IntKind.wrap .i64 (shrK .u64 (IntKind.wrap .u64 (IntKind.wrap .i64 (a0 + a2))) (1 : Int))) + a1)) - a2)), (IntKind.wrap .i64 (shrK .u64 (IntKind.wrap .u64 (IntKind.wrap .i64 (a0 + a2))) (1 : Int))))) (some ((a0, a1, a2), ((IntKind.wrap .i64 (shrK .u64 (IntKind.wrap .u64 (IntKind.wrap .i64 (a0 + a2))) (1 : Int))), (IntKind.wrap .i64 ((IntKind.wrap .i64 (shrK .u64 (IntKind.wrap .u64 (IntKind.wrap .i64 (a0 + a2))) (1 : Int))) + a1))), a0, a1))) (fun v5 => (loopO (σ := ((Int × Int) × Int × Int) × (Int × Int) × Int × Int) fuelN (fun (v6 : ((Int × Int) × Int × Int) × (Int × Int) × Int × Int) => (cnd (decide (v6.2.1.2 < v6.2.2.1)) none (dnO (bd (α := ((Int × Int) × Int × Int × Int)) (bd (α := ((Int × Int × Int) × (Int × Int) × Int × Bool)) (cnd (decide (v6.2.1.2 < v6.1.1.2)) (some ((v6.1.1.1, v6.1.1.2, v6.1.2.1), (v6.1.2.2, v6.2.1.2), (IntKind.wrap .i64 (v6.2.1.1 - v6.2.1.2)), (decide (v6.1.1.2 < (IntKind.wrap .i64 (v6.2.1.1 - v6.2.1.2)))))) (some ((v6.1.1.1, v6.1.1.2, v6.1.2.1), (v6.1.2.2, v6.2.1.2), (IntKind.wrap .i64 (v6.2.1.1 - v6.2.1.2)), false))) (fun v7 => (cnd v7.2.2.2 (bd (α := Unit) (o239 v7.2.1.2 v7.1.2.1 v7.2.2.1) (fun v8 => (some ((v7.1.1, v7.1.2.2), v7.2.1.1, v7.2.1.2, v7.2.2.1)))) (some ((v7.1.1, v7.1.2.2), v7.2.1.1, v7.2.1.2, v7.2.2.1))))) (fun v9 => (bd (α := (Int × Int × Int)) (bd (α := ((Int × Int × Int) × Int × Int × Bool)) (cnd (decide (v9.1.1 < v9.2.2.1)) (some ((v9.1.1, v9.1.2, v9.2.1), v9.2.2.1, v9.2.2.2, (decide (v9.2.2.1 < v9.2.1)))) (some ((v9.1.1, v9.1.2, v9.2.1), v9.2.2.1, v9.2.2.2, false))) (fun v10 => (cnd v10.2.2.2 (bd (α := Unit) (ih v10.1.1 v10.2.1 v10.1.2.2) (fun v11 => (some (v10.1.2.1, v10.1.2.2, v10.2.2.1)))) (some (v10.1.2.1, v10.1.2.2, v10.2.2.1))))) (fun v12 => (bd (α := ((Int × Int) × Int × Bool)) (cnd (decide (v12.2.1 < v12.2.2)) (some ((v12.1, v12.2.1), v12.2.2, (decide (v12.2.2 < v12.1)))) (some ((v12.1, v12.2.1), v12.2.2, false))) (fun v13 => (cnd v13.2.2 (bd (α := Unit) (ih v13.1.2 v13.2.1 v13.1.1) (fun v14 => (some ()))) (some ()))))))))))) (((v5.1.1, v5.1.2.1), v5.1.2.2, v5.2.1.1), (v5.2.1.2, v5.2.2.1), v5.2.2.2, (IntKind.wrap .i64 (v5.2.1.2 - (1 : Int)))))))))
def o173 (k : Nat) : Int → Int → Int → Option Unit := Nat.rec (motive := fun _ => Int → Int → Int → Option Unit) (fun _ _ _ => none) (fun _ ih => o173F ih) k
theorem e173 (k : Nat) (h : TOk Tryz.prog ((173, ⟨p173, r173, fun t => o173 k t.1 t.2.1 t.2.2⟩) :: T96)) (t : Int × Int × Int) : evF (stpT Tryz.prog ((173, ⟨p173, r173, fun t => o173 k t.1 t.2.1 t.2.2⟩) :: T96) h) Tryz.f173 p173 r173 (.s (.s .d (.c (.s .d (.s .d (.s (.b (.l [o173_s0] .d)) (.s (.s .d (.b (.l [o173_s1] .d))) .d)))) .d)) (.s (.s .d (.c (.s .d (.s .d (.s (.b (.l [o173_s2] .d)) (.s (.s .d (.b (.l [o173_s3] .d))) .d)))) .d)) (.s .d (.s .d (.s .d (.j false [o173_s10] (.s .d (.s .d (.s (.b (.l [o173_s4] .d)) (.s .d (.j false [o173_s9] (.s (.s (.j false [o173_s5] .d) .d) (.j false [o173_s8] (.s (.s (.j false [o173_s6] .d) .d) (.s (.j false [o173_s7] .d) .d))))))))))))))) t = o173F (o173 k) t.1 t.2.1 t.2.2 := by kernel_rfl
theorem fo173 : ∀ k, FOk Tryz.prog 173 ⟨p173, r173, fun t => o173 k t.1 t.2.1 t.2.2⟩
  | 0 => FOk.of_none fun _ => rfl
  | k + 1 => FOk.run_eq (evF_ok (h := (.s (.s .d (.c (.s .d (.s .d (.s (.b (.l [o173_s0] .d)) (.s (.s .d (.b (.l [o173_s1] .d))) .d)))) .d)) (.s (.s .d (.c (.s .d (.s .d (.s (.b (.l [o173_s2] .d)) (.s (.s .d (.b (.l [o173_s3] .d))) .d)))) .d)) (.s .d (.s .d (.s .d (.j false [o173_s10] (.s .d (.s .d (.s (.b (.l [o173_s4] .d)) (.s .d (.j false [o173_s9] (.s (.s (.j false [o173_s5] .d) .d) (.j false [o173_s8] (.s (.s (.j false [o173_s6] .d) .d) (.s (.j false [o173_s7] .d) .d)))))))))))))))) (by kernel_rfl) (by kernel_rfl) (by kernel_rfl)) (e173 k (.cons K96 (fo173 k)))
def T97 : Tbl := (173, ⟨p173, r173, fun t => o173 fuelN t.1 t.2.1 t.2.2⟩) :: T96
theorem K97 : TOk Tryz.prog T97 := .cons K96 (fo173 fuelN)
def o109_s0 : Sch := ⟨[(0, .v (.c (.cst (.slice none 0 0)))), (1, .v (.c (.i .i64))), (2, .v (.c (.fn 50))), (6, .v (.c (.ic .i64 (20)))), (7, .v (.c (.i .i64))), (8, .v (.c (.i .i64)))], []⟩
def o109_s1 : Sch := ⟨[(0, .v (.c (.cst (.slice none 0 0)))), (1, .v (.c (.i .i64))), (2, .v (.c (.fn 50))), (6, .v (.c (.i .i64))), (7, .v (.c (.i .i64))), (8, .v (.c (.i .i64)))], []⟩
def o109_s2 : Sch := ⟨[(0, .v (.c (.cst (.slice none 0 0)))), (1, .v (.c (.i .i64))), (2, .v (.c (.fn 50))), (6, .v (.c (.i .i64)))], []⟩
def p109 : Sch := ⟨[(0, .v (.c (.cst (.slice none 0 0)))), (1, .v (.c (.i .i64))), (2, .v (.c (.fn 50)))], []⟩
def r109 : List Sch := [⟨[(0, .tup [])], []⟩]
def o109 (a0 : Int) : Option Unit :=
 (loopO (σ := Int × Int × Int) fuelN (fun (v2 : Int × Int × Int) => (cnd (decide (v2.2.2 ≤ v2.1)) (bd (α := Unit) (o172 v2.2.1 v2.2.2) (fun v3 => (some (Ctl.go (v2.1, v2.2.2, (IntKind.wrap .i64 (v2.2.2 + (20 : Int)))))))) (dnO (bd (α := Unit) (o172 v2.2.1 v2.1) (fun v4 => (loopO (σ := Int × Int) fuelN (fun (v6 : Int × Int) => (cnd (decide (v6.2 < v6.1)) (loopO (σ := (Int × Int) × Int × Int) fuelN (fun (v8 : (Int × Int) × Int × Int) => (cnd (decide (v8.2.2 ≤ v8.1.1)) (bd (α := Unit) (o173 fuelN v8.2.1 (IntKind.wrap .i64 (v8.2.1 + v8.1.2)) v8.2.2) (fun v9 => (some (Ctl.go (v8.1, v8.2.2, (IntKind.wrap .i64 (v8.2.2 + (IntKind.wrap .i64 ((2 : Int) * v8.1.2))))))))) (dnO (cnd (decide ((IntKind.wrap .i64 (v8.2.1 + v8.1.2)) < v8.1.1)) (bd (α := Unit) (o173 fuelN v8.2.1 (IntKind.wrap .i64 (v8.2.1 + v8.1.2)) v8.1.1) (fun v10 => (some (Ctl.go (v8.1.1, (IntKind.wrap .i64 (v8.1.2 * (2 : Int)))))))) (some (Ctl.go (v8.1.1, (IntKind.wrap .i64 (v8.1.2 * (2 : Int)))))))))) (v6, (0 : Int), (IntKind.wrap .i64 ((2 : Int) * v6.2)))) (dnO (some ())))) (v2.1, (20 : Int)))))))) (a0, (0 : Int), (20 : Int)))
def h109 : HC := (.s .d (.s .d (.s (.b (.l [o109_s0] .d)) (.s .d (.b (.l [o109_s2] (.s .d (.b (.s .d (.s (.b (.l [o109_s1] .d)) .d))))))))))
theorem e109 (t : Int) : evF (stpT Tryz.prog T97 K97) Tryz.f109 p109 r109 h109 t = (o109 t) := by kernel_rfl
theorem fo109 : FOk Tryz.prog 109 ⟨p109, r109, fun t => (o109 t)⟩ := FOk.run_eq (evF_ok (h := h109) (by kernel_rfl) (by kernel_rfl) (by kernel_rfl)) e109
def T98 : Tbl := (109, ⟨p109, r109, fun t => (o109 t)⟩) :: T97
theorem K98 : TOk Tryz.prog T98 := .cons K97 fo109
def p49 : Sch := ⟨[(0, .v (.c (.cst (.slice none 0 0)))), (1, .v (.c (.fn 50)))], []⟩
def r49 : List Sch := [⟨[(0, .tup [])], []⟩]
def o49 : Option Unit :=
 (bd (α := Unit) (o109 (0 : Int)) (fun v1 => (some ())))
theorem e49 (t : Unit) : evF (stpT Tryz.prog T98 K98) Tryz.f49 p49 r49 .d t = o49 := by kernel_rfl
theorem fo49 : FOk Tryz.prog 49 ⟨p49, r49, fun t => o49⟩ := FOk.run_eq (evF_ok (h := .d) (by kernel_rfl) (by kernel_rfl) (by kernel_rfl)) e49
def T99 : Tbl := (49, ⟨p49, r49, fun t => o49⟩) :: T98
theorem K99 : TOk Tryz.prog T99 := .cons K98 fo49
def Ss4f61c0 : SSh := .tup [.agg [.s, .i .i64, .i .i64, .i .i64, .i .i64, .i .i64, .cst (.slice none 0 0), .cst (.slice none 0 0), .cst (.slice none 0 0)], .c (.own 0)]
def p23 : Sch := ⟨[(0, .v (.c (.s)))], []⟩
def r23 : List Sch := [⟨[(0, Ss4f61c0)], [Bs353f73]⟩]
def o23 (a0 : List UInt8) : Option (Tyc0a991 × List (Int × Int × Int)) :=
 (bd (α := Ty34097b) (o42 a0) (fun v1 => (cnd (decide (((v1.2.length : Nat) : Int) > (0 : Int))) (some (((([] : List UInt8), (0 : Int), (0 : Int)), (0 : Int), (0 : Int), (0 : Int)), v1.2)) (cnd (((v1.1.length : Nat) : Int) == (0 : Int)) (some (((([] : List UInt8), (0 : Int), (0 : Int)), (0 : Int), (0 : Int), (0 : Int)), ([((1 : Int), ((1 : Int), (9 : Int)))] : List (Int × Int × Int)))) (bd (α := Ty17bea0) (o43 (((([] : List UInt8), (0 : Int)), (0 : Int), (0 : Int)), ((0 : Int), (0 : Int)), false, false, false) v1.1) (fun v2 => (cnd (decide (((v2.2.2.length : Nat) : Int) > (0 : Int))) (gd (decide ((0 : Int) ≤ (minI ((v2.2.2.length : Nat) : Int) (50 : Int)) ∧ (minI ((v2.2.2.length : Nat) : Int) (50 : Int)) ≤ ((v2.2.2.length : Nat) : Int))) (some (((([] : List UInt8), (0 : Int), (0 : Int)), (0 : Int), (0 : Int), (0 : Int)), (List.take ((minI ((v2.2.2.length : Nat) : Int) (50 : Int)).toNat) v2.2.2)))) (bd (α := Ty17bea0) (o44 v2.1 v2.2.1 v2.2.2) (fun v3 => (cnd (decide (((v3.2.2.length : Nat) : Int) > (0 : Int))) (gd (decide ((0 : Int) ≤ (minI ((v3.2.2.length : Nat) : Int) (50 : Int)) ∧ (minI ((v3.2.2.length : Nat) : Int) (50 : Int)) ≤ ((v3.2.2.length : Nat) : Int))) (some (((([] : List UInt8), (0 : Int), (0 : Int)), (0 : Int), (0 : Int), (0 : Int)), (List.take ((minI ((v3.2.2.length : Nat) : Int) (50 : Int)).toNat) v3.2.2)))) (bd (α := Unit) o45 (fun v4 => (bd (α := Unit) o46 (fun v5 => (bd (α := Unit) o49 (fun v6 => (some (((v3.1.1.1.1, v3.1.1.1.2, v3.1.1.2.1), v3.1.1.2.2, v3.1.2.1), ([] : List (Int × Int × Int))))))))))))))))))))
def h23 : HC := (.s .d (.s .d (.s .d (.s .d (.s .d (.s (.s .d (.b (.u 3 (.v .d (.v .d (.v .d .d)))))) (.s .d (.s (.s .d (.b (.u 3 (.v .d .d)))) .d))))))))
theorem e23 (t : List UInt8) : evF (stpT Tryz.prog T99 K99) Tryz.f23 p23 r23 h23 t = (o23 t) := by kernel_rfl
theorem fo23 : FOk Tryz.prog 23 ⟨p23, r23, fun t => (o23 t)⟩ := FOk.run_eq (evF_ok (h := h23) (by kernel_rfl) (by kernel_rfl) (by kernel_rfl)) e23
def T100 : Tbl := (23, ⟨p23, r23, fun t => (o23 t)⟩) :: T99
theorem K100 : TOk Tryz.prog T100 := .cons K99 fo23
def Bsa7b975 : BSh := .cells 30 [.s, .i .i64, .i .i64, .i .i64, .i .i64, .i .i64, .cst (.slice none 0 0), .cst (.slice none 0 0), .cst (.slice none 0 0)]
def Ss6de90b : SSh := .v (.agg [.s, .i .i64, .i .i64, .i .i64, .i .i64, .i .i64, .cst (.slice none 0 0), .cst (.slice none 0 0), .cst (.slice none 0 0)])
abbrev Ty7af16a : Type := (Tyc0a991 × (List (List UInt8 × Bool)) × List (List UInt8 × Bool)) × ((List (List UInt8 × Bool)) × List (List UInt8 × Bool)) × (List (List UInt8 × Bool)) × List (List UInt8 × Bool)
abbrev Ty3276a7 : Type := (Tyc0a991 × List (List UInt8 × Bool)) × (List (List UInt8 × Bool)) × List (List UInt8 × Bool)
def o26_s0 : Sch := ⟨[(1, .v (.c (.ptr 0 0))), (4, .v (.c (.ptr 1 0))), (5, .v (.c (.ptr 2 0))), (56, .v (.c (.cst (.slice none 0 0)))), (57, .v (.c (.ic .i64 (0)))), (58, .v (.c (.ic .i64 (0))))], [Bsa7b975, .cells 151 [.mp 3, .mp 4, .mp 5], .cells 151 [.mp 6, .mp 7, .mp 8], .map .b, .map .b, .map .b, .map .b, .map .b, .map .b]⟩
def o26_s1 : Sch := ⟨[(1, .v (.c (.ptr 0 0))), (4, .v (.c (.ptr 1 0))), (99, .v (.c (.cst (.slice none 0 0)))), (100, .v (.c (.ic .i64 (0)))), (101, .v (.c (.ic .i64 (0))))], [Bsa7b975, .cells 151 [.mp 2, .mp 3, .mp 4], .map .b, .map .b, .map .b]⟩
def o26_s2 : Sch := ⟨[(1, .v (.c (.ptr 0 0))), (4, .v (.c (.ptr 1 0))), (143, .v (.c (.cst (.slice none 0 0)))), (144, .v (.c (.ic .i64 (0)))), (145, .v (.c (.ic .i64 (0))))], [Bsa7b975, .cells 151 [.mp 2, .mp 3, .mp 4], .map .b, .map .b, .map .b]⟩
def p26 : Sch := ⟨[(0, Ss6de90b)], []⟩
def r26 : List Sch := [⟨[(0, .v (.c (.i .i64)))], []⟩]
def o26 (a0 : Tyc0a991) : Option Int :=
 (bd (α := Int) (o63 a0) (fun v1 => (cnd (v1 != (0 : Int)) (some v1) (bd (α := Ty95bafb) o64 (fun v2 => (bd (α := Ty95bafb) o64 (fun v3 => (loopO (σ := Ty7af16a) fuelN (fun (v4 : Ty7af16a) => (dnO (loopO (σ := Ty3276a7) fuelN (fun (v5 : Ty3276a7) => (dnO (loopO (σ := Ty3276a7) fuelN (fun (v6 : Ty3276a7) => (dnO (some (0 : Int)))) v5))) ((v4.1.1, v4.1.2.1), v4.1.2.2, v4.2.1.1)))) ((a0, v2.1, v2.2.1), (v2.2.2, v3.1), v3.2)))))))))
def h26 : HC := (.s .d (.s .d (.s .d (.s .d (.s (.s .d (.b (.l [o26_s0] .d))) (.s (.s .d (.b (.l [o26_s1] .d))) (.s (.s .d (.b (.l [o26_s2] .d))) .d)))))))
theorem e26 (t : Tyc0a991) : evF (stpT Tryz.prog T100 K100) Tryz.f26 p26 r26 h26 t = (o26 t) := by kernel_rfl
theorem fo26 : FOk Tryz.prog 26 ⟨p26, r26, fun t => (o26 t)⟩ := FOk.run_eq (evF_ok (h := h26) (by kernel_rfl) (by kernel_rfl) (by kernel_rfl)) e26
def T101 : Tbl := (26, ⟨p26, r26, fun t => (o26 t)⟩) :: T100
theorem K101 : TOk Tryz.prog T101 := .cons K100 fo26
def o27_s0 : Sch := ⟨[(0, .v (.c (.ptr 0 0))), (6, .v (.c (.ro .s false))), (7, .v (.c (.i .i64))), (8, .v (.c (.i .i64)))], [.cells 70 [.own 1], .row .y 5]⟩
def p27 : Sch := ⟨[(0, .v (.c (.ptr 0 0))), (1, .v (.c (.ro .s false)))], [.cells 70 [.cst (.slice none 0 0)]]⟩
def r27 : List Sch := [⟨[(0, .tup [])], [.cells 70 [.own 1], .row .y 5]⟩]
def o27 (a0 : List (List UInt8)) : Option (List UInt8) :=
 (loopO (σ := (List (List UInt8) × Int) × Int × List UInt8) fuelN (fun (v2 : (List (List UInt8) × Int) × Int × List UInt8) => (cnd (decide (v2.2.1 < v2.1.2)) (gd (decide ((0 : Int) ≤ v2.2.1 ∧ v2.2.1 < ((v2.1.1.length : Nat) : Int))) (gd (decide ((v2.2.2.length + ([(u8 (IntKind.wrap .u8 (((List.getD v2.1.1 v2.2.1.toNat ([] : List UInt8)).length : Nat) : Int)))] : List UInt8).length) * 1 ≤ 140737488355328)) (gd (decide ((v2.2.2 ++ ([(u8 (IntKind.wrap .u8 (((List.getD v2.1.1 v2.2.1.toNat ([] : List UInt8)).length : Nat) : Int)))] : List UInt8)).length + (List.getD v2.1.1 v2.2.1.toNat ([] : List UInt8)).length ≤ 140737488355328)) (some (Ctl.go (v2.1, (IntKind.wrap .i64 (v2.2.1 + (1 : Int))), ((v2.2.2 ++ ([(u8 (IntKind.wrap .u8 (((List.getD v2.1.1 v2.2.1.toNat ([] : List UInt8)).length : Nat) : Int)))] : List UInt8)) ++ (List.getD v2.1.1 v2.2.1.toNat ([] : List UInt8))))))))) (dnO (some v2.2.2)))) ((a0, ((a0.length : Nat) : Int)), (0 : Int), ([] : List UInt8)))
theorem e27 (t : List (List UInt8)) : evF (stpT Tryz.prog T101 K101) Tryz.f27 p27 r27 (.s .d (.b (.l [o27_s0] .d))) t = (o27 t) := by kernel_rfl
theorem fo27 : FOk Tryz.prog 27 ⟨p27, r27, fun t => (o27 t)⟩ := FOk.run_eq (evF_ok (h := (.s .d (.b (.l [o27_s0] .d)))) (by kernel_rfl) (by kernel_rfl) (by kernel_rfl)) e27
def T102 : Tbl := (27, ⟨p27, r27, fun t => (o27 t)⟩) :: T101
theorem K102 : TOk Tryz.prog T102 := .cons K101 fo27
def o30_s0 : Sch := ⟨[(0, .v (.c (.ptr 0 0))), (1, .v (.c (.i .i64))), (6, .v (.c (.i .i64))), (7, .v (.c (.i .i64)))], [.cells 70 [.own 2], .no, .row .y 5]⟩
def p30 : Sch := ⟨[(0, .v (.c (.ptr 0 0))), (1, .v (.c (.i .i64))), (2, .v (.c (.i .i64)))], [.cells 70 [.own 1], .row .y 5]⟩
def r30 : List Sch := [⟨[(0, .tup [])], [.cells 70 [.own 2], .no, .row .y 5]⟩]
def o30 (a0 : Int) (a1 : Int) (a2 : List UInt8) : Option (List UInt8) :=
 (loopO (σ := (Int × Int) × Int × List UInt8) fuelN (fun (v2 : (Int × Int) × Int × List UInt8) => (cnd (decide (v2.2.1 < v2.1.2)) (gd (decide ((v2.2.2.length + ([(u8 (IntKind.wrap .u8 v2.1.1))] : List UInt8).length) * 1 ≤ 140737488355328)) (some (Ctl.go (((shrK .i64 v2.1.1 (8 : Int)), v2.1.2), (IntKind.wrap .i64 (v2.2.1 + (1 : Int))), (v2.2.2 ++ ([(u8 (IntKind.wrap .u8 v2.1.1))] : List UInt8)))))) (dnO (some v2.2.2)))) ((a0, a1), (0 : Int), a2))
theorem e30 (t : Int × Int × List UInt8) : evF (stpT Tryz.prog T102 K102) Tryz.f30 p30 r30 (.s .d (.b (.l [o30_s0] .d))) t = (o30 t.1 t.2.1 t.2.2) := by kernel_rfl
theorem fo30 : FOk Tryz.prog 30 ⟨p30, r30, fun t => (o30 t.1 t.2.1 t.2.2)⟩ := FOk.run_eq (evF_ok (h := (.s .d (.b (.l [o30_s0] .d)))) (by kernel_rfl) (by kernel_rfl) (by kernel_rfl)) e30
def T103 : Tbl := (30, ⟨p30, r30, fun t => (o30 t.1 t.2.1 t.2.2)⟩) :: T102
theorem K103 : TOk Tryz.prog T103 := .cons K102 fo30
def o28_s0 : Sch := ⟨[(0, .v (.c (.ptr 0 0))), (6, .v (.c (.ro (.i .i64) false))), (7, .v (.c (.i .i64))), (8, .v (.c (.i .i64)))], [.cells 70 [.own 2], .no, .row .y 5]⟩
def p28 : Sch := ⟨[(0, .v (.c (.ptr 0 0))), (1, .v (.c (.ro (.i .i64) false)))], [.cells 70 [.own 1], .row .y 5]⟩
def r28 : List Sch := [⟨[(0, .tup [])], [.cells 70 [.own 2], .no, .row .y 5]⟩]
def o28 (a0 : List Int) (a1 : List UInt8) : Option (List UInt8) :=
 (loopO (σ := (List Int × Int) × Int × List UInt8) fuelN (fun (v2 : (List Int × Int) × Int × List UInt8) => (cnd (decide (v2.2.1 < v2.1.2)) (gd (decide ((0 : Int) ≤ v2.2.1 ∧ v2.2.1 < ((v2.1.1.length : Nat) : Int))) (bd (α := (List UInt8)) (o30 (List.getD v2.1.1 v2.2.1.toNat (0 : Int)) (8 : Int) v2.2.2) (fun v3 => (some (Ctl.go (v2.1, (IntKind.wrap .i64 (v2.2.1 + (1 : Int))), v3)))))) (dnO (some v2.2.2)))) ((a0, ((a0.length : Nat) : Int)), (0 : Int), a1))
theorem e28 (t : List Int × List UInt8) : evF (stpT Tryz.prog T103 K103) Tryz.f28 p28 r28 (.s .d (.b (.l [o28_s0] .d))) t = (o28 t.1 t.2) := by kernel_rfl
theorem fo28 : FOk Tryz.prog 28 ⟨p28, r28, fun t => (o28 t.1 t.2)⟩ := FOk.run_eq (evF_ok (h := (.s .d (.b (.l [o28_s0] .d)))) (by kernel_rfl) (by kernel_rfl) (by kernel_rfl)) e28
def T104 : Tbl := (28, ⟨p28, r28, fun t => (o28 t.1 t.2)⟩) :: T103
theorem K104 : TOk Tryz.prog T104 := .cons K103 fo28
def p31 : Sch := ⟨[(0, .v (.c (.ptr 0 0))), (1, .v (.c (.ro .y false)))], [.cells 70 [.own 1], .row .y 5]⟩
def r31 : List Sch := [⟨[(0, .tup [])], [.cells 70 [.own 2], .no, .row .y 5]⟩]
def o31 (a0 : List UInt8) (a1 : List UInt8) : Option (List UInt8) :=
 (gd (decide ((a1.length + a0.length) * 1 ≤ 140737488355328)) (some (a1 ++ a0)))
theorem e31 (t : List UInt8 × List UInt8) : evF (stpT Tryz.prog T104 K104) Tryz.f31 p31 r31 .d t = (o31 t.1 t.2) := by kernel_rfl
theorem fo31 : FOk Tryz.prog 31 ⟨p31, r31, fun t => (o31 t.1 t.2)⟩ := FOk.run_eq (evF_ok (h := .d) (by kernel_rfl) (by kernel_rfl) (by kernel_rfl)) e31
def T105 : Tbl := (31, ⟨p31, r31, fun t => (o31 t.1 t.2)⟩) :: T104
theorem K105 : TOk Tryz.prog T105 := .cons K104 fo31
def p29 : Sch := ⟨[(0, .v (.c (.ptr 0 0))), (1, .v (.c (.ptr 1 0))), (2, .v (.c (.i .u8)))], [.lent [.ro .y false], .cells 70 [.own 2], .row .y 5]⟩
def r29 : List Sch := [⟨[(0, .tup [])], [.no, .cells 70 [.own 3], .no, .row .y 5]⟩]
def o29 (a0 : Int) (a1 : List UInt8) (a2 : List UInt8) : Option (List UInt8) :=
 (bd (α := (List UInt8)) (o31 ([(u8 a0)] : List UInt8) a2) (fun v1 => (bd (α := (List UInt8)) (o30 ((a1.length : Nat) : Int) (4 : Int) v1) (fun v2 => (gd (decide ((v2.length + a1.length) * 1 ≤ 140737488355328)) (some (v2 ++ a1)))))))
theorem e29 (t : Int × List UInt8 × List UInt8) : evF (stpT Tryz.prog T105 K105) Tryz.f29 p29 r29 (.s .d (.s .d (.r 1))) t = (o29 t.1 t.2.1 t.2.2) := by kernel_rfl
theorem fo29 : FOk Tryz.prog 29 ⟨p29, r29, fun t => (o29 t.1 t.2.1 t.2.2)⟩ := FOk.run_eq (evF_ok (h := (.s .d (.s .d (.r 1)))) (by kernel_rfl) (by kernel_rfl) (by kernel_rfl)) e29
def T106 : Tbl := (29, ⟨p29, r29, fun t => (o29 t.1 t.2.1 t.2.2)⟩) :: T105
theorem K106 : TOk Tryz.prog T106 := .cons K105 fo29
def o30v1_s0 : Sch := ⟨[(0, .v (.c (.ptr 0 0))), (1, .v (.c (.i .i64))), (6, .v (.c (.i .i64))), (7, .v (.c (.i .i64)))], [.cells 70 [.own 1], .row .y 5]⟩
def p30v1 : Sch := ⟨[(0, .v (.c (.ptr 0 0))), (1, .v (.c (.i .i64))), (2, .v (.c (.i .i64)))], [.cells 70 [.cst (.slice none 0 0)]]⟩
def r30v1 : List Sch := [⟨[(0, .tup [])], [.cells 70 [.own 1], .row .y 5]⟩]
def o30v1 (a0 : Int) (a1 : Int) : Option (List UInt8) :=
 (loopO (σ := (Int × Int) × Int × List UInt8) fuelN (fun (v2 : (Int × Int) × Int × List UInt8) => (cnd (decide (v2.2.1 < v2.1.2)) (gd (decide ((v2.2.2.length + ([(u8 (IntKind.wrap .u8 v2.1.1))] : List UInt8).length) * 1 ≤ 140737488355328)) (some (Ctl.go (((shrK .i64 v2.1.1 (8 : Int)), v2.1.2), (IntKind.wrap .i64 (v2.2.1 + (1 : Int))), (v2.2.2 ++ ([(u8 (IntKind.wrap .u8 v2.1.1))] : List UInt8)))))) (dnO (some v2.2.2)))) ((a0, a1), (0 : Int), ([] : List UInt8)))
theorem e30v1 (t : Int × Int) : evF (stpT Tryz.prog T106 K106) Tryz.f30 p30v1 r30v1 (.s .d (.b (.l [o30v1_s0] .d))) t = (o30v1 t.1 t.2) := by kernel_rfl
theorem fo30v1 : FOk Tryz.prog 30 ⟨p30v1, r30v1, fun t => (o30v1 t.1 t.2)⟩ := FOk.run_eq (evF_ok (h := (.s .d (.b (.l [o30v1_s0] .d)))) (by kernel_rfl) (by kernel_rfl) (by kernel_rfl)) e30v1
def T107 : Tbl := (30, ⟨p30v1, r30v1, fun t => (o30v1 t.1 t.2)⟩) :: T106
theorem K107 : TOk Tryz.prog T107 := .cons K106 fo30v1
def o199_s0 : Sch := ⟨[(0, .v (.c (.i .u32))), (9, .v (.c (.i .i64)))], []⟩
def p199 : Sch := ⟨[(0, .v (.c (.i .u32))), (1, .v (.c (.i .u8)))], []⟩
def r199 : List Sch := [⟨[(0, .v (.c (.i .u32)))], []⟩]
def o199 (a0 : Int) (a1 : Int) : Option Int :=
 (loopO (σ := Int × Int) fuelN (fun (v2 : Int × Int) => (cnd (decide (v2.2 < (8 : Int))) (cnd ((landK .u32 v2.1 (1 : Int)) == (1 : Int)) (some (Ctl.go ((lxorK .u32 (shrK .u32 v2.1 (1 : Int)) (3988292384 : Int)), (IntKind.wrap .i64 (v2.2 + (1 : Int)))))) (some (Ctl.go ((shrK .u32 v2.1 (1 : Int)), (IntKind.wrap .i64 (v2.2 + (1 : Int))))))) (dnO (some v2.1)))) ((lxorK .u32 a0 (IntKind.wrap .u32 a1)), (0 : Int)))
def h199 : HC := (.s .d (.s .d (.s (.s .d (.b (.l [o199_s0] .d))) .d)))
theorem e199 (t : Int × Int) : evF (stpT Tryz.prog T107 K107) Tryz.f199 p199 r199 h199 t = (o199 t.1 t.2) := by kernel_rfl
theorem fo199 : FOk Tryz.prog 199 ⟨p199, r199, fun t => (o199 t.1 t.2)⟩ := FOk.run_eq (evF_ok (h := h199) (by kernel_rfl) (by kernel_rfl) (by kernel_rfl)) e199
def T108 : Tbl := (199, ⟨p199, r199, fun t => (o199 t.1 t.2)⟩) :: T107
theorem K108 : TOk Tryz.prog T108 := .cons K107 fo199
def o140_s0 : Sch := ⟨[(5, .v (.c (.i .u32))), (10, .v (.c (.ro .y false))), (11, .v (.c (.i .i64))), (12, .v (.c (.i .i64)))], []⟩
def p140 : Sch := ⟨[(0, .v (.c (.i .u32))), (1, .v (.c (.ro .y false)))], []⟩
def r140 : List Sch := [⟨[(0, .v (.c (.i .u32)))], []⟩]
def o140 (a0 : Int) (a1 : List UInt8) : Option Int :=
 (loopO (σ := (Int × List UInt8) × Int × Int) fuelN (fun (v2 : (Int × List UInt8) × Int × Int) => (cnd (decide (v2.2.2 < v2.2.1)) (gd (decide ((0 : Int) ≤ v2.2.2 ∧ v2.2.2 < ((v2.1.2.length : Nat) : Int))) (bd (α := Int) (o199 v2.1.1 ((UInt8.toNat (List.getD v2.1.2 v2.2.2.toNat (0 : UInt8)) : Nat) : Int)) (fun v3 => (some (Ctl.go ((v3, v2.1.2), v2.2.1, (IntKind.wrap .i64 (v2.2.2 + (1 : Int))))))))) (dnO (some (lxorK .u32 (4294967295 : Int) v2.1.1))))) (((lxorK .u32 (4294967295 : Int) a0), a1), ((a1.length : Nat) : Int), (0 : Int)))
def h140 : HC := (.s .d (.s .d (.s (.s .d (.b (.l [o140_s0] .d))) .d)))
theorem e140 (t : Int × List UInt8) : evF (stpT Tryz.prog T108 K108) Tryz.f140 p140 r140 h140 t = (o140 t.1 t.2) := by kernel_rfl
theorem fo140 : FOk Tryz.prog 140 ⟨p140, r140, fun t => (o140 t.1 t.2)⟩ := FOk.run_eq (evF_ok (h := h140) (by kernel_rfl) (by kernel_rfl) (by kernel_rfl)) e140
def T109 : Tbl := (140, ⟨p140, r140, fun t => (o140 t.1 t.2)⟩) :: T108
theorem K109 : TOk Tryz.prog T109 := .cons K108 fo140
def p74 : Sch := ⟨[(0, .v (.c (.ro .y false)))], []⟩
def r74 : List Sch := [⟨[(0, .v (.c (.i .u32)))], []⟩]
def o74 (a0 : List UInt8) : Option Int :=
 (bd (α := Int) (o140 (0 : Int) a0) (fun v1 => (some v1)))
theorem e74 (t : List UInt8) : evF (stpT Tryz.prog T109 K109) Tryz.f74 p74 r74 .d t = (o74 t) := by kernel_rfl
theorem fo74 : FOk Tryz.prog 74 ⟨p74, r74, fun t => (o74 t)⟩ := FOk.run_eq (evF_ok (h := .d) (by kernel_rfl) (by kernel_rfl) (by kernel_rfl)) e74
def T110 : Tbl := (74, ⟨p74, r74, fun t => (o74 t)⟩) :: T109
theorem K110 : TOk Tryz.prog T110 := .cons K109 fo74
def p37 : Sch := ⟨[(0, .v (.c (.ro .y false)))], []⟩
def r37 : List Sch := [⟨[(0, .v (.c (.own 0)))], [.row .y 5]⟩]
def o37 (a0 : List UInt8) : Option (List UInt8) :=
 (nlO (List.isEmpty a0) (some ([] : List UInt8)) (gd (decide ((([] : List UInt8).length + a0.length) * 1 ≤ 140737488355328)) (some (([] : List UInt8) ++ a0))))
theorem e37 (t : List UInt8) : evF (stpT Tryz.prog T110 K110) Tryz.f37 p37 r37 .d t = (o37 t) := by kernel_rfl
theorem fo37 : FOk Tryz.prog 37 ⟨p37, r37, fun t => (o37 t)⟩ := FOk.run_eq (evF_ok (h := .d) (by kernel_rfl) (by kernel_rfl) (by kernel_rfl)) e37
def T111 : Tbl := (37, ⟨p37, r37, fun t => (o37 t)⟩) :: T110
theorem K111 : TOk Tryz.prog T111 := .cons K110 fo37
def p33 : Sch := ⟨[(0, .v (.c (.ro .y false)))], []⟩
def r33 : List Sch := [⟨[(0, .v (.c (.own 0)))], [.row .y 5]⟩]
def o33 (a0 : List UInt8) : Option (List UInt8) :=
 (bd (α := Int) (o74 a0) (fun v1 => (bd (α := (List UInt8)) (o37 a0) (fun v2 => (gd (decide ((v2.length + ([(u8 (IntKind.wrap .u8 v1)), (u8 (IntKind.wrap .u8 (shrK .u32 v1 (8 : Int)))), (u8 (IntKind.wrap .u8 (shrK .u32 v1 (16 : Int)))), (u8 (IntKind.wrap .u8 (shrK .u32 v1 (24 : Int))))] : List UInt8).length) * 1 ≤ 140737488355328)) (some (v2 ++ ([(u8 (IntKind.wrap .u8 v1)), (u8 (IntKind.wrap .u8 (shrK .u32 v1 (8 : Int)))), (u8 (IntKind.wrap .u8 (shrK .u32 v1 (16 : Int)))), (u8 (IntKind.wrap .u8 (shrK .u32 v1 (24 : Int))))] : List UInt8))))))))
theorem e33 (t : List UInt8) : evF (stpT Tryz.prog T111 K111) Tryz.f33 p33 r33 .d t = (o33 t) := by kernel_rfl
theorem fo33 : FOk Tryz.prog 33 ⟨p33, r33, fun t => (o33 t)⟩ := FOk.run_eq (evF_ok (h := .d) (by kernel_rfl) (by kernel_rfl) (by kernel_rfl)) e33
def T112 : Tbl := (33, ⟨p33, r33, fun t => (o33 t)⟩) :: T111
theorem K112 : TOk Tryz.prog T112 := .cons K111 fo33
def o7_s0 : Sch := ⟨[(1, .v (.c (.ptr 0 0))), (5, .v (.c (.ptr 1 0))), (7, .v (.c (.ptr 2 0))), (64, .v (.c (.cst (.slice none 0 0)))), (65, .v (.c (.ic .i64 (0)))), (66, .v (.c (.ic .i64 (0))))], [Bsa7b975, .cells 70 [.own 3], .cells 70 [.own 4], .row .y 5, .row .y 5]⟩
def o7_s1 : Sch := ⟨[(1, .v (.c (.ptr 0 0))), (5, .v (.c (.ptr 1 0))), (7, .v (.c (.ptr 2 0))), (107, .v (.c (.cst (.slice none 0 0)))), (108, .v (.c (.ic .i64 (0)))), (109, .v (.c (.ic .i64 (0))))], [Bsa7b975, .cells 70 [.own 3], .cells 70 [.own 4], .row .y 5, .row .y 5]⟩
def o7_s2 : Sch := ⟨[(5, .v (.c (.ptr 0 0))), (7, .v (.c (.ptr 1 0))), (162, .v (.c (.cst (.slice none 0 0)))), (163, .v (.c (.ic .i64 (0)))), (164, .v (.c (.ic .i64 (0))))], [.cells 70 [.own 2], .cells 70 [.own 3], .row .y 5, .row .y 5]⟩
def p7 : Sch := ⟨[(0, Ss6de90b)], []⟩
def r7 : List Sch := [⟨[(0, .tup [.c (.own 0), .c (.i .i64)])], [.row .y 5]⟩]
def o7 (a0 : Tyc0a991) : Option (Int × List UInt8) :=
 (bd (α := Int) (o26 a0) (fun v1 => (cnd (v1 != (0 : Int)) (some (v1, ([] : List UInt8))) (gd (decide (0 < ([(u8 (70 : Int)), (u8 (68 : Int)), (u8 (66 : Int)), (u8 (49 : Int))] : List UInt8).length)) (bd (α := (List UInt8)) (o27 ([a0.1.1] : List (List UInt8))) (fun v2 => (bd (α := (List UInt8)) (o28 ([a0.1.2.1, a0.1.2.2, a0.2.1, a0.2.2.1, a0.2.2.2] : List Int) v2) (fun v3 => (bd (α := (List UInt8)) (o29 (1 : Int) v3 ([(u8 (70 : Int)), (u8 (68 : Int)), (u8 (66 : Int)), (u8 (49 : Int))] : List UInt8)) (fun v4 => (bd (α := (List UInt8)) (o30v1 (0 : Int) (2 : Int)) (fun v5 => (loopO (σ := Tyc0a991 × List UInt8 × List UInt8) fuelN (fun (v6 : Tyc0a991 × List UInt8 × List UInt8) => (dnO (bd (α := (List UInt8)) (o29 (2 : Int) v6.2.2 v6.2.1) (fun v7 => (bd (α := (List UInt8)) (o30v1 (0 : Int) (2 : Int)) (fun v8 => (loopO (σ := Tyc0a991 × List UInt8 × List UInt8) fuelN (fun (v9 : Tyc0a991 × List UInt8 × List UInt8) => (dnO (bd (α := (List UInt8)) (o29 (3 : Int) v9.2.2 v9.2.1) (fun v10 => (bd (α := (List UInt8)) (o30v1 (0 : Int) (2 : Int)) (fun v11 => (loopO (σ := List UInt8 × List UInt8) fuelN (fun (v12 : List UInt8 × List UInt8) => (dnO (bd (α := (List UInt8)) (o29 (4 : Int) v12.2 v12.1) (fun v13 => (bd (α := (List UInt8)) (o33 v13) (fun v14 => (some ((0 : Int), v14)))))))) (v10, v11)))))))) (v6.1, v7, v8)))))))) (a0, v4, v5))))))))))))))
def h7 : HC := (.s .d (.s .d (.s .d (.s .d (.s .d (.s .d (.s .d (.s .d (.s .d (.s .d (.s (.s .d (.b (.l [o7_s0] .d))) (.s .d (.s .d (.s .d (.s (.s .d (.b (.l [o7_s1] .d))) (.s .d (.s .d (.s .d (.s (.s .d (.b (.l [o7_s2] .d))) .d)))))))))))))))))))
theorem e7 (t : Tyc0a991) : evF (stpT Tryz.prog T112 K112) Tryz.f7 p7 r7 h7 t = (o7 t) := by kernel_rfl
theorem fo7 : FOk Tryz.prog 7 ⟨p7, r7, fun t => (o7 t)⟩ := FOk.run_eq (evF_ok (h := h7) (by kernel_rfl) (by kernel_rfl) (by kernel_rfl)) e7
def T113 : Tbl := (7, ⟨p7, r7, fun t => (o7 t)⟩) :: T112
theorem K113 : TOk Tryz.prog T113 := .cons K112 fo7
def o6_s0 : Sch := ⟨[(0, .v (.c (.b)))], []⟩
def p6 : Sch := ⟨[], []⟩
def r6 : List Sch := [⟨[(0, .v (.c (.b)))], []⟩]
def o6 : Option Bool :=
 (bd (α := (Tyc0a991 × List (Int × Int × Int))) (o23 ([68, 65, 84, 65, 66, 65, 83, 69, 32, 87, 69, 83, 84, 32, 50, 54, 49, 50, 32, 78, 52, 54, 48, 48, 48, 48, 48, 48, 87, 49, 50, 48, 48, 48, 48, 48, 48, 48, 10] : List UInt8)) (fun v1 => (bd (α := (Int × List UInt8)) (o7 v1.1) (fun v2 => (bd (α := Bool) (cnd (((v1.2.length : Nat) : Int) == (0 : Int)) (cnd (((v2.2.length : Nat) : Int) == (79 : Int)) (some (v2.1 == (0 : Int))) (some false)) (some false)) (fun v3 => (some v3)))))))
def h6 : HC := (.s .d (.s .d (.s .d (.s (.j false [o6_s0] .d) .d))))
theorem e6 (t : Unit) : evF (stpT Tryz.prog T113 K113) Tryz.f6 p6 r6 h6 t = o6 := by kernel_rfl
theorem fo6 : FOk Tryz.prog 6 ⟨p6, r6, fun t => o6⟩ := FOk.run_eq (evF_ok (h := h6) (by kernel_rfl) (by kernel_rfl) (by kernel_rfl)) e6
def T114 : Tbl := (6, ⟨p6, r6, fun t => o6⟩) :: T113
theorem K114 : TOk Tryz.prog T114 := .cons K113 fo6
def Bsbad59e : BSh := .cells 30 [.s, .i .i64, .i .i64, .i .i64, .i .i64, .i .i64, .ro (.p .s (.p .s (.p (.i .u8) (.p (.p (.i .i64) (.i .i64)) (.p (.i .i64) (.i .i64)))))) false, .ro (.p .s (.a (.p .s (.p (.p (.i .i64) (.i .i64)) (.i .u8))))) false, .ro (.p .s (.p .s (.p (.i .u8) (.a (.p (.i .u8) (.p .s (.a (.p (.i .u8) (.p .s (.p .s (.p (.i .u8) (.p .b (.p (.i .i64) (.p (.i .i64) (.p (.i .i64) (.p (.i .i64) (.p (.p (.i .i64) (.i .i64)) (.p (.i .i64) (.i .i64))))))))))))))))))) false]
def Bs68b8ea : BSh := .cells 30 [.s, .ic .i64 (0), .ic .i64 (0), .ic .i64 (0), .ic .i64 (0), .ic .i64 (0), .cst (.slice none 0 0), .cst (.slice none 0 0), .cst (.slice none 0 0)]
def Bsaa2e72 : BSh := .cells 30 [.s, .i .i64, .i .i64, .i .i64, .i .i64, .i .i64, .own 3, .own 4, .cst (.slice none 0 0)]
def Bs5762ff : BSh := .row (.p .s (.p .s (.p (.i .u8) (.p (.p (.i .i64) (.i .i64)) (.p (.i .i64) (.i .i64)))))) 77
def Bsf0f14b : BSh := .row (.p .s (.a (.p .s (.p (.p (.i .i64) (.i .i64)) (.i .u8))))) 81
def Bscaa62c : BSh := .cells 30 [.s, .i .i64, .i .i64, .i .i64, .i .i64, .i .i64, .own 3, .own 4, .own 5]
def Bs403ed2 : BSh := .row (.p .s (.p .s (.p (.i .u8) (.a (.p (.i .u8) (.p .s (.a (.p (.i .u8) (.p .s (.p .s (.p (.i .u8) (.p .b (.p (.i .i64) (.p (.i .i64) (.p (.i .i64) (.p (.i .i64) (.p (.p (.i .i64) (.i .i64)) (.p (.i .i64) (.i .i64))))))))))))))))))) 89
def Bsd7bd94 : BSh := .cells 30 [.s, .i .i64, .i .i64, .i .i64, .i .i64, .i .i64, .own 5, .own 6, .own 7]
def Bsb7ec44 : BSh := .cells 89 [.s, .s, .i .u8, .ro (.p (.i .u8) (.p .s (.a (.p (.i .u8) (.p .s (.p .s (.p (.i .u8) (.p .b (.p (.i .i64) (.p (.i .i64) (.p (.i .i64) (.p (.i .i64) (.p (.p (.i .i64) (.i .i64)) (.p (.i .i64) (.i .i64))))))))))))))) true]
def Bs689925 : BSh := .row (.p (.i .u8) (.p .s (.a (.p (.i .u8) (.p .s (.p .s (.p (.i .u8) (.p .b (.p (.i .i64) (.p (.i .i64) (.p (.i .i64) (.p (.i .i64) (.p (.p (.i .i64) (.i .i64)) (.p (.i .i64) (.i .i64))))))))))))))) 93
def Ss069f38 : SSh := .v (.agg [.s, .i .i64, .i .i64, .i .i64, .i .i64, .i .i64, .ro (.p .s (.p .s (.p (.i .u8) (.p (.p (.i .i64) (.i .i64)) (.p (.i .i64) (.i .i64)))))) false, .ro (.p .s (.a (.p .s (.p (.p (.i .i64) (.i .i64)) (.i .u8))))) false, .ro (.p .s (.p .s (.p (.i .u8) (.a (.p (.i .u8) (.p .s (.a (.p (.i .u8) (.p .s (.p .s (.p (.i .u8) (.p .b (.p (.i .i64) (.p (.i .i64) (.p (.i .i64) (.p (.i .i64) (.p (.p (.i .i64) (.i .i64)) (.p (.i .i64) (.i .i64))))))))))))))))))) false])
def Ss2339d4 : SSh := .v (.agg [.s, .i .i64, .i .i64, .i .i64, .i .i64, .i .i64, .own 0, .own 1, .own 2])
abbrev Ty250e00 : Type := List UInt8 × List UInt8 × Int × (Int × Int) × Int × Int
abbrev Tybbc8ca : Type := List UInt8 × List (List UInt8 × (Int × Int) × Int)
abbrev Tyab9aec : Type := Int × List UInt8 × List UInt8 × Int × Bool × Int × Int × Int × Int × (Int × Int) × Int × Int
abbrev Tycd215c : Type := List UInt8 × List UInt8 × Int × List (Int × List UInt8 × List Tyab9aec)
abbrev Ty3283d1 : Type := ((List UInt8 × Int) × Int × Int) × (Int × Int) × List Ty250e00 × List Tybbc8ca × List Tycd215c
abbrev Ty477298 : Type := (Int × Ty3283d1 × List UInt8) × Tyc0a991 × List Ty250e00 × List Tybbc8ca
abbrev Ty5ef92d : Type := (Int × Bool × Ty3283d1) × (List UInt8 × Tyc0a991) × List Ty250e00 × List Tybbc8ca
def Df620925 : Tybbc8ca := (([] : List UInt8), ([] : List (List UInt8 × (Int × Int) × Int)))
abbrev Ty47c546 : Type := (Int × Ty3283d1 × List UInt8) × (Tyc0a991 × List Ty250e00) × List Tybbc8ca × List Tycd215c
abbrev Ty045e6f : Type := ((Int × Bool) × Ty3283d1 × List UInt8) × (Tyc0a991 × List Ty250e00) × List Tybbc8ca × List Tycd215c
def Dffc8db7 : Tycd215c := (([] : List UInt8), (([] : List UInt8), ((0 : Int), ([] : List (Int × List UInt8 × List Tyab9aec)))))
abbrev Ty83d737 : Type := (List UInt8 × List UInt8) × Int × List (Int × List UInt8 × List Tyab9aec)
abbrev Tyb41848 : Type := ((Int × Int) × Ty3283d1 × List UInt8 × Tyc0a991) × (Ty83d737 × List (Int × List UInt8 × List Tyab9aec)) × List Ty250e00 × List Tybbc8ca × List Tycd215c
abbrev Ty621395 : Type := ((Int × Int) × Bool × Ty3283d1 × List UInt8) × (Tyc0a991 × Ty83d737 × List (Int × List UInt8 × List Tyab9aec)) × List Ty250e00 × List Tybbc8ca × List Tycd215c
def Df766161 : Int × List UInt8 × List Tyab9aec := ((0 : Int), (([] : List UInt8), ([] : List Tyab9aec)))
def o8_s0 : Sch := ⟨[(1, .v (.c (.ptr 0 0))), (2, .v (.c (.ptr 1 0))), (3, .v (.c (.ptr 2 0))), (4, .v (.c (.i .i64))), (33, .v (.c (.b)))], [Bsbad59e, Bs68b8ea, Bsaa2e72, Bs5762ff, Bsf0f14b]⟩
def o8_s1 : Sch := ⟨[(1, .v (.c (.ptr 0 0))), (2, .v (.c (.ptr 1 0))), (3, .v (.c (.ptr 2 0))), (4, .v (.c (.i .i64)))], [Bsbad59e, Bs68b8ea, Bsaa2e72, Bs5762ff, Bsf0f14b]⟩
def o8_s2 : Sch := ⟨[(1, .v (.c (.ptr 0 0))), (2, .v (.c (.ptr 1 0))), (3, .v (.c (.ptr 2 0))), (6, .v (.c (.i .i64))), (65, .v (.c (.b)))], [Bsbad59e, Bs68b8ea, Bscaa62c, Bs5762ff, Bsf0f14b, Bs403ed2]⟩
def o8_s3 : Sch := ⟨[(1, .v (.c (.ptr 0 0))), (2, .v (.c (.ptr 1 0))), (3, .v (.c (.ptr 2 0))), (6, .v (.c (.i .i64))), (7, .v (.c (.ptr 3 0))), (8, .v (.c (.own 4))), (9, .v (.c (.i .i64))), (81, .v (.c (.b)))], [Bsbad59e, Bs68b8ea, Bsd7bd94, Bsb7ec44, Bs689925, Bs5762ff, Bsf0f14b, Bs403ed2]⟩
def o8_s4 : Sch := ⟨[(1, .v (.c (.ptr 0 0))), (2, .v (.c (.ptr 1 0))), (3, .v (.c (.ptr 2 0))), (6, .v (.c (.i .i64))), (7, .v (.c (.ptr 3 0))), (8, .v (.c (.own 4))), (9, .v (.c (.i .i64)))], [Bsbad59e, Bs68b8ea, Bsd7bd94, Bsb7ec44, Bs689925, Bs5762ff, Bsf0f14b, Bs403ed2]⟩
def o8_s5 : Sch := ⟨[(1, .v (.c (.ptr 0 0))), (2, .v (.c (.ptr 1 0))), (3, .v (.c (.ptr 2 0))), (6, .v (.c (.i .i64)))], [Bsbad59e, Bs68b8ea, Bscaa62c, Bs5762ff, Bsf0f14b, Bs403ed2]⟩
def p8 : Sch := ⟨[(0, Ss069f38)], []⟩
def r8 : List Sch := [⟨[(0, Ss2339d4)], [Bs5762ff, Bsf0f14b, Bs403ed2]⟩]
def o8 (a0 : Ty3283d1) : Option ((Tyc0a991 × List Ty250e00) × List Tybbc8ca × List Tycd215c) :=
 (gd (decide ((0 : Int) ≤ (minI ((a0.2.2.1.length : Nat) : Int) (24 : Int)) ∧ (minI ((a0.2.2.1.length : Nat) : Int) (24 : Int)) ≤ ((a0.2.2.1.length : Nat) : Int))) (gd (decide ((List.take (minI ((a0.2.2.1.length : Nat) : Int) (24 : Int)).toNat a0.2.2.1).length * 72 ≤ 140737488355328)) (loopO (σ := Ty477298) fuelN (fun (v2 : Ty477298) => (bd (α := Ty5ef92d) (cnd (decide (v2.1.1 < ((v2.1.2.1.2.2.2.1.length : Nat) : Int))) (some ((v2.1.1, (decide (v2.1.1 < (6 : Int))), v2.1.2.1), (v2.1.2.2, v2.2.1), v2.2.2)) (some ((v2.1.1, false, v2.1.2.1), (v2.1.2.2, v2.2.1), v2.2.2))) (fun v3 => (cnd v3.1.2.1 (gd (decide ((0 : Int) ≤ v3.1.1 ∧ v3.1.1 < ((v3.1.2.2.2.2.2.1.length : Nat) : Int))) (bd (α := Tybbc8ca) (some (List.getD v3.1.2.2.2.2.2.1 v3.1.1.toNat Df620925)) (fun v4 => (gd (decide ((0 : Int) ≤ (minI ((v4.2.length : Nat) : Int) (8 : Int)) ∧ (minI ((v4.2.length : Nat) : Int) (8 : Int)) ≤ ((v4.2.length : Nat) : Int))) (gd (decide ((([] : List (List UInt8 × (Int × Int) × Int)).length + (List.take (minI ((v4.2.length : Nat) : Int) (8 : Int)).toNat v4.2).length) * 40 ≤ 140737488355328)) (gd (decide ((v3.2.2.2.length + ([(v4.1, (([] : List (List UInt8 × (Int × Int) × Int)) ++ (List.take (minI ((v4.2.length : Nat) : Int) (8 : Int)).toNat v4.2)))] : List Tybbc8ca).length) * 40 ≤ 140737488355328)) (some (Ctl.go (((IntKind.wrap .i64 (v3.1.1 + (1 : Int))), v3.1.2.2, v3.2.1.1), v3.2.1.2, v3.2.2.1, (v3.2.2.2 ++ ([(v4.1, (([] : List (List UInt8 × (Int × Int) × Int)) ++ (List.take (minI ((v4.2.length : Nat) : Int) (8 : Int)).toNat v4.2)))] : List Tybbc8ca))))))))))) (dnO (loopO (σ := Ty47c546) fuelN (fun (v6 : Ty47c546) => (bd (α := Ty045e6f) (cnd (decide (v6.1.1 < ((v6.1.2.1.2.2.2.2.length : Nat) : Int))) (some (((v6.1.1, (decide (v6.1.1 < (4 : Int)))), v6.1.2), v6.2)) (some (((v6.1.1, false), v6.1.2), v6.2))) (fun v7 => (cnd v7.1.1.2 (gd (decide ((0 : Int) ≤ v7.1.1.1 ∧ v7.1.1.1 < ((v7.1.2.1.2.2.2.2.length : Nat) : Int))) (bd (α := Tycd215c) (some (List.getD v7.1.2.1.2.2.2.2 v7.1.1.1.toNat Dffc8db7)) (fun v8 => (loopO (σ := Tyb41848) fuelN (fun (v10 : Tyb41848) => (bd (α := Ty621395) (cnd (decide (v10.1.1.2 < ((v10.2.1.1.2.2.length : Nat) : Int))) (some ((v10.1.1, (decide (v10.1.1.2 < (5 : Int))), v10.1.2.1, v10.1.2.2.1), (v10.1.2.2.2, v10.2.1), v10.2.2)) (some ((v10.1.1, false, v10.1.2.1, v10.1.2.2.1), (v10.1.2.2.2, v10.2.1), v10.2.2))) (fun v11 => (cnd v11.1.2.1 (gd (decide ((0 : Int) ≤ v11.1.1.2 ∧ v11.1.1.2 < ((v11.2.1.2.1.2.2.length : Nat) : Int))) (bd (α := Int × List UInt8 × List Tyab9aec) (some (List.getD v11.2.1.2.1.2.2 v11.1.1.2.toNat Df766161)) (fun v12 => (gd (decide ((0 : Int) ≤ (minI ((v12.2.2.length : Nat) : Int) (6 : Int)) ∧ (minI ((v12.2.2.length : Nat) : Int) (6 : Int)) ≤ ((v12.2.2.length : Nat) : Int))) (gd (decide ((([] : List Tyab9aec).length + (List.take (minI ((v12.2.2.length : Nat) : Int) (6 : Int)).toNat v12.2.2).length) * 112 ≤ 140737488355328)) (gd (decide ((v11.2.1.2.2.length + ([(v12.1, (v12.2.1, (([] : List Tyab9aec) ++ (List.take (minI ((v12.2.2.length : Nat) : Int) (6 : Int)).toNat v12.2.2))))] : List (Int × List UInt8 × List Tyab9aec)).length) * 48 ≤ 140737488355328)) (some (Ctl.go (((v11.1.1.1, (IntKind.wrap .i64 (v11.1.1.2 + (1 : Int)))), v11.1.2.2.1, v11.1.2.2.2, v11.2.1.1), (v11.2.1.2.1, (v11.2.1.2.2 ++ ([(v12.1, (v12.2.1, (([] : List Tyab9aec) ++ (List.take (minI ((v12.2.2.length : Nat) : Int) (6 : Int)).toNat v12.2.2))))] : List (Int × List UInt8 × List Tyab9aec)))), v11.2.2))))))))) (dnO (gd (decide ((v11.2.2.2.2.length + ([(v11.2.1.2.1.1.1, (v11.2.1.2.1.1.2, (v11.2.1.2.1.2.1, v11.2.1.2.2)))] : List Tycd215c).length) * 64 ≤ 140737488355328)) (some (Ctl.go (((IntKind.wrap .i64 (v11.1.1.1 + (1 : Int))), v11.1.2.2), (v11.2.1.1, v11.2.2.1), v11.2.2.2.1, (v11.2.2.2.2 ++ ([(v11.2.1.2.1.1.1, (v11.2.1.2.1.1.2, (v11.2.1.2.1.2.1, v11.2.1.2.2)))] : List Tycd215c))))))))))) (((v7.1.1.1, (0 : Int)), v7.1.2.1, v7.1.2.2, v7.2.1.1), (((v8.1, v8.2.1), v8.2.2), ([] : List (Int × List UInt8 × List Tyab9aec))), v7.2.1.2, v7.2.2))))) (dnO (some v7.2)))))) (((0 : Int), v3.1.2.2, v3.2.1.1), (v3.2.1.2, v3.2.2.1), v3.2.2.2, ([] : List Tycd215c)))))))) (((0 : Int), a0, ([] : List UInt8)), ((a0.1.1.1, a0.1.1.2, a0.1.2.1), a0.1.2.2, a0.2.1), (List.take (minI ((a0.2.2.1.length : Nat) : Int) (24 : Int)).toNat a0.2.2.1), ([] : List Tybbc8ca)))))
def h8 : HC := (.s .d (.s .d (.s (.r 1) (.s (.s .d (.b (.l [o8_s1] (.s (.s (.j false [o8_s0] .d) .d) .d)))) (.s (.s .d (.b (.l [o8_s5] (.s (.s (.j false [o8_s2] .d) .d) (.s (.b (.s .d (.s .d (.s (.s .d (.b (.l [o8_s4] (.s (.s (.j false [o8_s3] .d) .d) .d)))) .d)))) .d))))) .d)))))
theorem e8 (t : Ty3283d1) : evF (stpT Tryz.prog T114 K114) Tryz.f8 p8 r8 h8 t = (o8 t) := by kernel_rfl
theorem fo8 : FOk Tryz.prog 8 ⟨p8, r8, fun t => (o8 t)⟩ := FOk.run_eq (evF_ok (h := h8) (by kernel_rfl) (by kernel_rfl) (by kernel_rfl)) e8
def T115 : Tbl := (8, ⟨p8, r8, fun t => (o8 t)⟩) :: T114
theorem K115 : TOk Tryz.prog T115 := .cons K114 fo8
end
end Go.Proofs.YtpglaekodahcoaaGreatDoor
