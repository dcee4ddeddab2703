/-
What functions compute, printed by wip/h/py. Conditions: each theorem's own.
-/
import Derived.Test.YtpleflcfaecojaaGreatM9
namespace Go.Proofs.YtpleflcfaecojaaGreat
set_option linter.unusedVariables false
set_option linter.unusedSimpArgs false
set_option maxRecDepth 100000
open Go.RowKit
noncomputable section
abbrev Tyd57928 : Type := (List UInt8 × Int) × ((Int × Int) × Int × List UInt8) × (Int × Int) × Int × List UInt8
def o110_s0 : Sch := ⟨[(0, .v (.c (.own 0))), (2, .v (.c (.ptr 1 0))), (39, .v (.c (.b)))], [.row .y 5, Bs10dd8a]⟩
def o110_s1 : Sch := ⟨[(0, .v (.c (.ro .y true))), (2, .v (.c (.ptr 0 0))), (6, .v (.c (.ptr 1 0))), (50, .v (.c (.i .i64)))], [Bs10dd8a, Bs10dd8a]⟩
def p110 : Sch := ⟨[(0, .v (.c (.ro .y false)))], []⟩
def r110 : List Sch := [⟨[(0, Ss110367)], []⟩]
def o110_b0 (v4 : Tyd57928) :=
 (cnd (decide (v4.1.2 < (8 : Int))) (gd (decide ((0 : Int) ≤ (IntKind.wrap .i64 ((2 : Int) + v4.1.2)) ∧ (IntKind.wrap .i64 ((2 : Int) + v4.1.2)) < ((v4.1.1.length : Nat) : Int))) (gd (decide ((0 : Int) ≤ (IntKind.wrap .i64 ((8 : Int) * v4.1.2)))) (some (Ctl.go ((v4.1.1, (IntKind.wrap .i64 (v4.1.2 + (1 : Int)))), v4.2.1, v4.2.2.1, (lorK .i64 v4.2.2.2.1 (IntKind.wrap .i64 (shlK .u64 (IntKind.wrap .u64 ((UInt8.toNat (List.getD v4.1.1 (IntKind.wrap .i64 ((2 : Int) + v4.1.2)).toNat (0 : UInt8)) : Nat) : Int)) (IntKind.wrap .i64 ((8 : Int) * v4.1.2))))), v4.2.2.2.2))))) (dnO (some (v4.2.2.1, v4.2.2.2.1, v4.2.2.2.2, (0 : Int)))))
def o110 (a0 : List UInt8) : Option ((Int × Int) × Int × List UInt8 × Int) :=
 (bd (α := (Int × List UInt8)) (o147 a0) (fun v1 => (cnd (v1.1 != (0 : Int)) (some (((0 : Int), (0 : Int)), (0 : Int), ([] : List UInt8), v1.1)) (cnd (decide (((v1.2.length : Nat) : Int) < (12 : Int))) (some (((0 : Int), (0 : Int)), (0 : Int), ([] : List UInt8), (4 : Int))) (gd (decide ((0 : Int) ≤ (10 : Int) ∧ (10 : Int) < ((v1.2.length : Nat) : Int))) (gd (decide ((0 : Int) ≤ (11 : Int) ∧ (11 : Int) < ((v1.2.length : Nat) : Int))) (bd (α := (Bool × List UInt8 × (Int × Int) × Int × List UInt8)) (cnd (decide ((IntKind.wrap .i64 ((IntKind.wrap .i64 ((UInt8.toNat (List.getD v1.2 ((10 : Int).toNat) (0 : UInt8)) : Nat) : Int)) + (shlK .i64 (IntKind.wrap .i64 ((UInt8.toNat (List.getD v1.2 ((11 : Int).toNat) (0 : UInt8)) : Nat) : Int)) (8 : Int)))) > (1000 : Int))) (some (true, v1.2, ((0 : Int), (0 : Int)), (0 : Int), ([] : List UInt8))) (some ((((v1.2.length : Nat) : Int) != (IntKind.wrap .i64 ((12 : Int) + (IntKind.wrap .i64 ((IntKind.wrap .i64 ((UInt8.toNat (List.getD v1.2 ((10 : Int).toNat) (0 : UInt8)) : Nat) : Int)) + (shlK .i64 (IntKind.wrap .i64 ((UInt8.toNat (List.getD v1.2 ((11 : Int).toNat) (0 : UInt8)) : Nat) : Int)) (8 : Int))))))), v1.2, ((0 : Int), (0 : Int)), (0 : Int), ([] : List UInt8)))) (fun v2 => (cnd v2.1 (some (((0 : Int), (0 : Int)), (0 : Int), ([] : List UInt8), (4 : Int))) (gd (decide ((0 : Int) ≤ (0 : Int) ∧ (0 : Int) < ((v2.2.1.length : Nat) : Int))) (gd (decide ((0 : Int) ≤ (1 : Int) ∧ (1 : Int) < ((v2.2.1.length : Nat) : Int))) (gd (decide ((0 : Int) ≤ (12 : Int) ∧ (12 : Int) ≤ ((v2.2.1.length : Nat) : Int))) (loopO (σ := Tyd57928) fuelN o110_b0 ((v2.2.1, (0 : Int)), v2.2.2, (((UInt8.toNat (List.getD v2.2.1 ((0 : Int).toNat) (0 : UInt8)) : Nat) : Int), ((UInt8.toNat (List.getD v2.2.1 ((1 : Int).toNat) (0 : UInt8)) : Nat) : Int)), (0 : Int), (List.take (v2.2.1.length - (12 : Int).toNat) (List.drop ((12 : Int).toNat) v2.2.1))))))))))))))))
def h110 : HC := (.s .d (.s .d (.s .d (.s .d (.s .d (.s (.s (.j false [o110_s0] .d) .d) (.s (.r 1) (.s (.s .d (.b (.l [o110_s1] .d))) .d))))))))
theorem e110 (t : List UInt8) : evF (stpT Tryz.prog T45 K45) Tryz.f110 p110 r110 h110 t = (o110 t) := by kernel_rfl
def n110 : FSp := ⟨p110, r110, fun t => (o110 t)⟩
theorem fo110 : FOk Tryz.prog 110 n110 := fk e110
def T46 : Tbl := (110, n110) :: T45
theorem K46 : TOk Tryz.prog T46 := .cons K45 fo110
abbrev Tyb7c08f : Type := Bool × ((Int × Int) × Int × List UInt8) × (Int × Int) × Int × List UInt8
def o70_s0 : Sch := ⟨[(10, .v (.c (.ptr 0 0))), (14, .v (.c (.ptr 1 0))), (49, .v (.c (.b)))], [Bs10dd8a, Bs10dd8a]⟩
def p70 : Sch := ⟨[(0, .v (.c (.ro .y false))), (1, .v (.agg [.b, .i .i64, .i .u32])), (2, .v (.c (.i .u8))), (3, .v (.c (.i .u8))), (4, .v (.c (.i .i64)))], []⟩
def r70 : List Sch := [⟨[(0, Ss6bf799)], []⟩]
def o70 (a0 : List UInt8) (a1 : Bool × Int × Int) (a2 : Int) (a3 : Int) (a4 : Int) : Option ((Int × Int) × Int × List UInt8 × Bool) :=
 (bd (α := (Bool × List UInt8)) (o109 a0 a1) (fun v1 => (cnd (!v1.1) (some (((0 : Int), (0 : Int)), (0 : Int), ([] : List UInt8), false)) (bd (α := ((Int × Int) × Int × List UInt8 × Int)) (o110 v1.2) (fun v2 => (bd (α := Tyb7c08f) (cnd (v2.2.2.2 != (0 : Int)) (some (true, (((0 : Int), (0 : Int)), (0 : Int), ([] : List UInt8)), v2.1, v2.2.1, v2.2.2.1)) (cnd (v2.1.1 != a2) (some (true, (((0 : Int), (0 : Int)), (0 : Int), ([] : List UInt8)), v2.1, v2.2.1, v2.2.2.1)) (cnd (v2.1.2 != a3) (some (true, (((0 : Int), (0 : Int)), (0 : Int), ([] : List UInt8)), v2.1, v2.2.1, v2.2.2.1)) (some ((v2.2.1 != a4), (((0 : Int), (0 : Int)), (0 : Int), ([] : List UInt8)), v2.1, v2.2.1, v2.2.2.1))))) (fun v3 => (cnd v3.1 (some (((0 : Int), (0 : Int)), (0 : Int), ([] : List UInt8), false)) (some (v3.2.2.1, v3.2.2.2.1, v3.2.2.2.2, true))))))))))
def h70 : HC := (.s .d (.s .d (.s .d (.s .d (.s (.s (.j false [o70_s0] .d) .d) .d)))))
theorem e70 (t : (List UInt8 × Bool × Int × Int) × Int × Int × Int) : evF (stpT Tryz.prog T46 K46) Tryz.f70 p70 r70 h70 t = (o70 t.1.1 t.1.2 t.2.1 t.2.2.1 t.2.2.2) := by kernel_rfl
def n70 : FSp := ⟨p70, r70, fun t => (o70 t.1.1 t.1.2 t.2.1 t.2.2.1 t.2.2.2)⟩
theorem fo70 : FOk Tryz.prog 70 n70 := fk e70
def T47 : Tbl := (70, n70) :: T46
theorem K47 : TOk Tryz.prog T47 := .cons K46 fo70
def Ss2b4b17 : SSh := .v (.c (.cap (.cap (.fn 24) (.ptr 9 0)) (.ptr 10 0)))
def Bs7f9e58 : BSh := .cells 105 [.ifc 60 (.ptr 1 0), .ifc 60 (.ptr 2 0), .ptr 3 0, .cst (.pointer none), .ro .y true, .i .i64, .i .i64, .i .i64, .i .i64, .i .i64, .i .u8, .i .u8, .i .u8, .i .i64, .i .i64, .i .i64, .i .i64]
def Bsc8128b : BSh := .cells 137 [.i .i64, .ptr 4 0, .ptr 5 0, .ptr 6 0, .i .i64, .i .i64, .b, .i .i64, .i .i64]
def Bs22b41b : BSh := .cells 232 [.i .i64, .i .i64, .own 7, .own 8]
def Bs3fcbc4 : BSh := .cells 108 [.ro .y true, .ro .y true]
def Bs2f241a : BSh := .cells 42 [.b, .b, .b, .b, .b, .b, .i .i64, .i .i64, .b, .i .i64, .i .u32, .b, .i .i64, .i .u32, .b, .i .i64, .i .u32, .b, .i .i64, .i .u32, .b, .i .i64, .i .u32, .b, .i .i64, .i .u32, .b, .i .i64, .i .u32, .b, .i .i64, .i .u32]
def Bsfb4f5f : BSh := .cells 111 [.i .u8, .i .u8, .i .i64, .ro .y true, .i .u8, .i .u8, .i .i64, .ro .y true]
def Ss22e8ae : SSh := .v (.agg [.b, .b, .b, .b, .b, .b, .i .i64, .i .i64, .b, .i .i64, .i .u32, .b, .i .i64, .i .u32, .b, .i .i64, .i .u32, .b, .i .i64, .i .u32, .b, .i .i64, .i .u32, .b, .i .i64, .i .u32, .b, .i .i64, .i .u32, .b, .i .i64, .i .u32])
def Ss710f2d : SSh := .tup [.agg [.i .u8, .i .u8, .i .i64, .ro .y true, .i .u8, .i .u8, .i .i64, .ro .y true], .agg [.b, .b]]
abbrev Ty2564bc : Type := ((((Bool × Bool) × Bool × Bool) × (Bool × Bool) × Int × Int) × ((Bool × Int) × Int × Bool) × (Int × Int) × Bool × Int) × (((Int × Bool) × Int × Int) × (Bool × Int) × Int × Bool) × ((Int × Int) × Bool × Int) × (Int × Bool) × Int × Int
abbrev Tyb141af : Type := ((Int × Int) × Int × List UInt8 × Int) × (Int × Int) × List UInt8 × Bool × Bool
abbrev Tyf38257 : Type := ((Tyb141af × Tyf90a5e) × (Int × Int × Int) × (Int × Int × Int) × (Int × Int × Int) × Bool × Int × Int) × (Tyee0fd7 × (List (Int × Int × Int × List UInt8)) × Int × Int) × List (List UInt8) × (List (Int × Int × Bool × List UInt8)) × List UInt8 × List UInt8
abbrev Ty9a0469 : Type := ((Int × Int) × Int × List UInt8) × (Int × Int) × Int × List UInt8
abbrev Tyb9ff1a : Type := ((Tyf90a5e × (Int × Int × Int) × Int × Int × Int) × ((Int × Int × Int) × Bool × Int × Int) × Tyee0fd7 × List (Int × Int × Int × List UInt8)) × ((Int × Int) × List (List UInt8) × List (Int × Int × Bool × List UInt8)) × ((List UInt8 × List UInt8) × Ty2564bc) × Ty9a0469 × Bool × Bool
def Kf5ff50b (v5 : Tyb9ff1a) : Option Tyf38257 :=
 (some (((((v5.2.2.2.1.1.1, v5.2.2.2.1.1.2.1, v5.2.2.2.1.1.2.2, v5.2.2.2.1.2.1.1), (v5.2.2.2.1.2.1.2, v5.2.2.2.1.2.2.1), v5.2.2.2.1.2.2.2, v5.2.2.2.2), v5.1.1.1), v5.1.1.2.1, v5.1.1.2.2, v5.1.2.1), (v5.1.2.2.1, v5.1.2.2.2, v5.2.1.1), v5.2.1.2.1, v5.2.1.2.2, v5.2.2.1.1))
abbrev Ty7e1ef3 : Type := ((Ty2564bc × Tyf90a5e) × (Int × Int × Int) × (Int × Int × Int) × (Int × Int × Int) × Bool × Int × Int) × (Tyee0fd7 × (List (Int × Int × Int × List UInt8)) × Int × Int) × List (List UInt8) × (List (Int × Int × Bool × List UInt8)) × List UInt8 × List UInt8
def o23_s0 : Sch := ⟨[(0, .v (.c (.ptr 0 0))), (1, .v (.c (.ic .i64 (0)))), (3, Ss2b4b17), (6, .v (.c (.ptr 11 0))), (8, .v (.c (.ptr 12 0))), (9, .v (.c (.ptr 13 0))), (15, .v (.c (.ic .i64 (0))))], [Bs7f9e58, Bsa76b8c, Bsa76b8c, Bsc8128b, Bs9a591a, Bsd348fb, Bs22b41b, .row (.a .y) 33, Bs2be90b, Bs3fcbc4, .cells 30 [.ptr 0 0], Bs2f241a, Bsfb4f5f, .cells 34 [.b, .b]]⟩
def p23 : Sch := ⟨[(0, .v (.c (.ptr 0 0))), (1, .v (.c (.ic .i64 (0)))), (2, Ss22e8ae), (3, Ss2b4b17)], [Bs7f9e58, Bsa76b8c, Bsa76b8c, Bsc8128b, Bs9a591a, Bsd348fb, Bs22b41b, .row (.a .y) 33, Bs2be90b, Bs3fcbc4, .cells 30 [.ptr 0 0]]⟩
def r23 : List Sch := [⟨[(0, Ss710f2d)], [Bs7f9e58, Bsa76b8c, Bsa76b8c, Bsc8128b, Bs9a591a, Bsd348fb, Bs22b41b, .row (.a .y) 33, Bs2be90b, Bs3fcbc4, .cells 30 [.ptr 0 0]]⟩]
def o23 (a0 : Ty2564bc) (a1 : Tyf90a5e) (a2 : Int × Int × Int) (a3 : Int × Int × Int) (a4 : (Int × Int × Int) × Bool × Int × Int) (a5 : Tyee0fd7) (a6 : List (Int × Int × Int × List UInt8)) (a7 : Int × Int) (a8 : List (List UInt8)) (a9 : List (Int × Int × Bool × List UInt8)) (a10 : List UInt8 × List UInt8) : Option Tyf38257 :=
 (bd (α := Tyb9ff1a) (bd (α := Tyaee67d) (o24 a10 a1 a2 a3 a4 a5 a6 a7 a8 a9) (fun v1 => (cnd (!v1.1.1.1.2.2.2) (some (((v1.1.1.2, v1.1.2.1, v1.1.2.2.1), v1.1.2.2.2, v1.2.1), v1.2.2, (a10, a0), ((((0 : Int), (0 : Int)), (0 : Int), ([] : List UInt8)), ((0 : Int), (0 : Int)), (0 : Int), ([] : List UInt8)), false, false)) (bd (α := (Int × List UInt8)) (o69 (v1.1.1.1.1, v1.1.1.1.2.1, v1.1.1.1.2.2.1)) (fun v2 => (cnd (v2.1 != (0 : Int)) (some (((v1.1.1.2, v1.1.2.1, v1.1.2.2.1), v1.1.2.2.2, v1.2.1), v1.2.2, (a10, a0), ((((0 : Int), (0 : Int)), (0 : Int), ([] : List UInt8)), ((0 : Int), (0 : Int)), (0 : Int), ([] : List UInt8)), false, false)) (bd (α := ((Int × Int) × Int × List UInt8 × Bool)) (o70 v2.2 (a0.1.2.1.1.1, a0.1.2.1.1.2, a0.1.2.1.2.1) (1 : Int) (1 : Int) v1.1.1.2.1.2.2.2) (fun v4 => (some (((v1.1.1.2, v1.1.2.1, v1.1.2.2.1), v1.1.2.2.2, v1.2.1), v1.2.2, (a10, a0), ((((0 : Int), (0 : Int)), (0 : Int), ([] : List UInt8)), v4.1, v4.2.1, v4.2.2.1), false, v4.2.2.2)))))))))) Kf5ff50b)
def h23 : HC := (.s .d (.s (.s .d (.b (.u 3 (.v (.s .d (.s .d (.j false [o23_s0] .d))) (.v .d (.v .d .d)))))) .d))
theorem e23 (t : Ty7e1ef3) : evF (stpT Tryz.prog T47 K47) Tryz.f23 p23 r23 h23 t = (o23 t.1.1.1 t.1.1.2 t.1.2.1 t.1.2.2.1 t.1.2.2.2 t.2.1.1 t.2.1.2.1 t.2.1.2.2 t.2.2.1 t.2.2.2.1 t.2.2.2.2) := by kernel_rfl
def n23 : FSp := ⟨p23, r23, fun t => (o23 t.1.1.1 t.1.1.2 t.1.2.1 t.1.2.2.1 t.1.2.2.2 t.2.1.1 t.2.1.2.1 t.2.1.2.2 t.2.2.1 t.2.2.2.1 t.2.2.2.2)⟩
theorem fo23 : FOk Tryz.prog 23 n23 := fk e23
def T48 : Tbl := (23, n23) :: T47
theorem K48 : TOk Tryz.prog T48 := .cons K47 fo23
def o114_s0 : Sch := ⟨[(8, .v (.c (.b)))], [Bs037393]⟩
def p114 : Sch := ⟨[(0, .v (.c (.ptr 0 0))), (1, Ss545519), (2, .v (.c (.b))), (3, .v (.c (.i .u8)))], [Bs037393]⟩
def r114 : List Sch := [⟨[(0, .v (.c (.b)))], [.no]⟩]
def o114 (a0 : (Int × Int) × Int × List UInt8) (a1 : Bool) (a2 : Int) (a3 : Tyee0fd7) : Option Bool :=
 (bd (α := (Bool × Tyee0fd7)) (cnd a1 (cnd (a0.1.1 == a2) (cnd (a0.1.2 == (IntKind.wrap .u8 (IntKind.wrap .i64 ((3 : Int) - a3.1.1.1.1)))) (some ((a0.2.1 == a3.1.1.2.2.2), a3)) (some (false, a3))) (some (false, a3))) (some (false, a3))) (fun v1 => (some v1.1)))
theorem e114 (t : (((Int × Int) × Int × List UInt8) × Bool) × Int × Tyee0fd7) : evF (stpT Tryz.prog T48 K48) Tryz.f114 p114 r114 (.s .d (.s (.j false [o114_s0] .d) .d)) t = (o114 t.1.1 t.1.2 t.2.1 t.2.2) := by kernel_rfl
def n114 : FSp := ⟨p114, r114, fun t => (o114 t.1.1 t.1.2 t.2.1 t.2.2)⟩
theorem fo114 : FOk Tryz.prog 114 n114 := fk e114
def T49 : Tbl := (114, n114) :: T48
theorem K49 : TOk Tryz.prog T49 := .cons K48 fo114
def o120_s0 : Sch := ⟨[(0, .v (.c (.ro .y false))), (5, .v (.c (.i .u64))), (7, .v (.c (.i .i64))), (8, .v (.c (.i .i64)))], []⟩
def p120 : Sch := ⟨[(0, .v (.c (.ro .y false))), (1, .v (.c (.i .i64)))], []⟩
def r120 : List Sch := [⟨[(0, .v (.c (.i .i64)))], []⟩]
def o120_b0 (v2 : (List UInt8 × Int) × Int × Int) :=
 (cnd (decide (v2.2.2 < v2.2.1)) (gd (decide ((0 : Int) ≤ v2.2.2 ∧ v2.2.2 < ((v2.1.1.length : Nat) : Int))) (gd (decide ((0 : Int) ≤ (IntKind.wrap .i64 ((8 : Int) * v2.2.2)))) (some (Ctl.go ((v2.1.1, (lorK .u64 v2.1.2 (shlK .u64 (IntKind.wrap .u64 ((UInt8.toNat (List.getD v2.1.1 v2.2.2.toNat (0 : UInt8)) : Nat) : Int)) (IntKind.wrap .i64 ((8 : Int) * v2.2.2))))), v2.2.1, (IntKind.wrap .i64 (v2.2.2 + (1 : Int)))))))) (dnO (some (IntKind.wrap .i64 v2.1.2))))
def o120 (a0 : List UInt8) (a1 : Int) : Option Int :=
 (loopO (σ := (List UInt8 × Int) × Int × Int) fuelN o120_b0 ((a0, (0 : Int)), a1, (0 : Int)))
def h120 : HC := (.s .d (.s .d (.s (.s .d (.b (.l [o120_s0] .d))) .d)))
theorem e120 (t : List UInt8 × Int) : evF (stpT Tryz.prog T49 K49) Tryz.f120 p120 r120 h120 t = (o120 t.1 t.2) := by kernel_rfl
def n120 : FSp := ⟨p120, r120, fun t => (o120 t.1 t.2)⟩
theorem fo120 : FOk Tryz.prog 120 n120 := fk e120
def T50 : Tbl := (120, n120) :: T49
theorem K50 : TOk Tryz.prog T50 := .cons K49 fo120
def Bs29b079 : BSh := .cells 179 [.ic .u8 (0), .ic .i64 (0), .ic .i64 (0), .ic .i64 (0), .cst (.slice none 0 0)]
def Ss99e89a : SSh := .tup [.agg [.i .u8, .i .i64, .i .i64, .i .i64, .own 0], .c (.i .i64)]
def o115_s0 : Sch := ⟨[(0, .v (.c (.ro .y false))), (2, .v (.c (.ptr 0 0))), (14, .v (.c (.b)))], [Bs29b079]⟩
def p115 : Sch := ⟨[(0, .v (.c (.ro .y false)))], []⟩
def r115 : List Sch := [⟨[(0, Ss99e89a)], [.row .y 5]⟩]
def o115 (a0 : List UInt8) : Option (((Int × Int) × Int × Int × Int) × List UInt8) :=
 (bd (α := (List UInt8 × Bool)) (cnd (decide (((a0.length : Nat) : Int) < (19 : Int))) (some (a0, true)) (some (a0, (decide (((a0.length : Nat) : Int) > (419 : Int)))))) (fun v1 => (cnd v1.2 (some ((((0 : Int), (0 : Int)), (0 : Int), (0 : Int), (4 : Int)), ([] : List UInt8))) (gd (decide ((0 : Int) ≤ (0 : Int) ∧ (0 : Int) < ((v1.1.length : Nat) : Int))) (gd (decide ((0 : Int) ≤ (1 : Int) ∧ (1 : Int) ≤ ((v1.1.length : Nat) : Int))) (bd (α := Int) (o120 (List.drop (1 : Int).toNat v1.1) (8 : Int)) (fun v6 => (gd (decide ((0 : Int) ≤ (9 : Int) ∧ (9 : Int) ≤ ((v1.1.length : Nat) : Int))) (bd (α := Int) (o120 (List.drop (9 : Int).toNat v1.1) (8 : Int)) (fun v7 => (gd (decide ((0 : Int) ≤ (17 : Int) ∧ (17 : Int) ≤ ((v1.1.length : Nat) : Int))) (bd (α := Int) (o120 (List.drop (17 : Int).toNat v1.1) (2 : Int)) (fun v8 => (gd (decide ((0 : Int) ≤ (19 : Int) ∧ (19 : Int) ≤ ((v1.1.length : Nat) : Int))) (bd (α := (List UInt8)) (o33 (List.drop (19 : Int).toNat v1.1)) (fun v9 => (bd (α := (Int × List UInt8)) (o112 ((((UInt8.toNat (List.getD v1.1 (0 : Int).toNat (0 : UInt8)) : Nat) : Int), v6), v7, v8, v9)) (fun v10 => (cnd (v10.1 != (0 : Int)) (some ((((0 : Int), (0 : Int)), (0 : Int), (0 : Int), (4 : Int)), ([] : List UInt8))) (some (((((UInt8.toNat (List.getD v1.1 (0 : Int).toNat (0 : UInt8)) : Nat) : Int), v6), v7, v8, (0 : Int)), v9)))))))))))))))))))))
def h115 : HC := (.s .d (.s (.s (.j false [o115_s0] .d) .d) (.s (.r 2) .d)))
theorem e115 (t : List UInt8) : evF (stpT Tryz.prog T50 K50) Tryz.f115 p115 r115 h115 t = (o115 t) := by kernel_rfl
def n115 : FSp := ⟨p115, r115, fun t => (o115 t)⟩
theorem fo115 : FOk Tryz.prog 115 n115 := fk e115
def T51 : Tbl := (115, n115) :: T50
theorem K51 : TOk Tryz.prog T51 := .cons K50 fo115
def Kf556ae4 (v2 : (Int × Int) × Int × Int × Bool) : Option Int :=
 (cnd v2.2.2.2 (some (2 : Int)) (cnd (v2.2.1 == (2 : Int)) (cnd (v2.2.2.1 == v2.1.2) (some (3 : Int)) (some (1 : Int))) (cnd (decide (v2.2.2.1 > v2.1.2)) (some (1 : Int)) (bd (α := Bool) (cnd (decide (v2.2.2.1 < v2.1.2)) (some true) (some (v2.1.1 == (1 : Int)))) (fun v3 => (cnd v3 (some (2 : Int)) (some (3 : Int))))))))
def o116_s0 : Sch := ⟨[(36, .v (.c (.b)))], []⟩
def o116_s1 : Sch := ⟨[(0, .v (.c (.i .i64))), (2, .v (.c (.i .i64))), (5, .v (.c (.i .u8))), (6, .v (.c (.i .i64))), (39, .v (.c (.b)))], []⟩
def o116_s2 : Sch := ⟨[(60, .v (.c (.b)))], []⟩
def o116_s3 : Sch := ⟨[(88, .v (.c (.b)))], []⟩
def p116 : Sch := ⟨[(0, .v (.c (.i .i64))), (1, .v (.c (.i .u8))), (2, .v (.c (.i .i64))), (3, .v (.c (.i .i64))), (4, .v (.c (.b))), (5, .v (.c (.i .u8))), (6, .v (.c (.i .i64)))], []⟩
def r116 : List Sch := [⟨[(0, .v (.c (.i .u8)))], []⟩]
def o116 (a0 : Int) (a1 : Int) (a2 : Int) (a3 : Int) (a4 : Bool) (a5 : Int) (a6 : Int) : Option Int :=
 (cnd (a1 == (2 : Int)) (bd (α := Bool) (cnd a4 (cnd (a5 == (2 : Int)) (cnd (decide (a6 > a2)) (some true) (cnd (a6 == a2) (some (a0 == (2 : Int))) (some false))) (some false)) (some false)) (fun v1 => (cnd v1 (some (1 : Int)) (some (2 : Int))))) (cnd (a1 == (3 : Int)) (bd (α := ((Int × Int) × Int × Int × Bool)) (cnd (!a4) (some ((a0, a2), a5, a6, true)) (cnd (a5 != (2 : Int)) (some ((a0, a2), a5, a6, (a5 != (3 : Int)))) (some ((a0, a2), a5, a6, false)))) Kf556ae4) (bd (α := Bool) (cnd (!a4) (cnd (decide (a3 ≥ (3 : Int))) (some true) (cnd a4 (cnd (a5 != (2 : Int)) (cnd (a5 != (3 : Int)) (some (a0 == (1 : Int))) (some false)) (some false)) (some false))) (cnd a4 (cnd (a5 != (2 : Int)) (cnd (a5 != (3 : Int)) (some (a0 == (1 : Int))) (some false)) (some false)) (some false))) (fun v4 => (cnd v4 (some (2 : Int)) (some (1 : Int)))))))
def h116 : HC := (.s .d (.s (.s .d (.b (.s .d (.c (.s (.s (.j false [o116_s0] .d) .d) .d) (.s .d (.c (.s (.b (.s (.j false [o116_s1] .d) (.c .d (.s .d (.c .d (.s .d (.c .d (.s (.j false [o116_s2] .d) .d)))))))) .d) .d)))))) (.s (.s (.j false [o116_s3] .d) .d) .d)))
theorem e116 (t : (Int × Int × Int) × (Int × Bool) × Int × Int) : evF (stpT Tryz.prog T51 K51) Tryz.f116 p116 r116 h116 t = (o116 t.1.1 t.1.2.1 t.1.2.2 t.2.1.1 t.2.1.2 t.2.2.1 t.2.2.2) := by kernel_rfl
def n116 : FSp := ⟨p116, r116, fun t => (o116 t.1.1 t.1.2.1 t.1.2.2 t.2.1.1 t.2.1.2 t.2.2.1 t.2.2.2)⟩
theorem fo116 : FOk Tryz.prog 116 n116 := fk e116
def T52 : Tbl := (116, n116) :: T51
theorem K52 : TOk Tryz.prog T52 := .cons K51 fo116
def Ss18af45 : SSh := .tup [.agg [.i .u8, .i .i64, .i .i64, .i .i64, .own 1], .c (.b), .c (.i .i64)]
abbrev Tyd0623e : Type := ((Int × Int × Int) × Int × Bool × Int) × Tyee0fd7 × List UInt8
def o74_s0 : Sch := ⟨[(0, .v (.c (.ptr 0 0))), (6, .v (.c (.ptr 1 0)))], [Bs9a591a, Bs29b079]⟩
def o74_s1 : Sch := ⟨[(0, .v (.c (.ptr 0 0))), (6, .v (.c (.ptr 1 0))), (12, .v (.c (.i .u8)))], [Bs9a591a, Bs29b079]⟩
def p74 : Sch := ⟨[(0, .v (.c (.ptr 0 0))), (1, Ss545519), (2, .v (.c (.b)))], [Bs9a591a]⟩
def r74 : List Sch := [⟨[(0, Ss18af45)], [Bs9a591a, .row .y 5]⟩]
def o74 (a0 : (Int × Int) × Int × List UInt8) (a1 : Bool) (a2 : Tyee0fd7) : Option Tyd0623e :=
 (bd (α := Int) (o111 (1 : Int) a2) (fun v1 => (cnd (v1 != (0 : Int)) (some ((((0 : Int), (0 : Int), (0 : Int)), (0 : Int), false, v1), a2, ([] : List UInt8))) (bd (α := Tyee0fd7) (bd (α := Bool) (o114 a0 a1 (1 : Int) a2) (fun v2 => (cnd v2 (bd (α := (((Int × Int) × Int × Int × Int) × List UInt8)) (o115 a0.2.2) (fun v3 => (some ((a2.1.1, (a2.1.2.1.1, v3.1.1), (v3.1.2.1, v3.1.2.2.1), v3.2, (v3.1.2.2.2 == (0 : Int))), a2.2)))) (some a2)))) (fun v4 => (bd (α := Tyee0fd7) (cnd v4.1.2.2.2.2 (some (((v4.1.1.1, (0 : Int), (2 : Int), v4.1.1.2.2.2), v4.1.2), v4.2)) (some (((v4.1.1.1, (IntKind.wrap .i64 (v4.1.1.2.1 + (1 : Int))), (2 : Int), v4.1.1.2.2.2), (v4.1.2.1.1, (0 : Int), (0 : Int)), ((0 : Int), (0 : Int)), ([] : List UInt8), v4.1.2.2.2.2), v4.2))) (fun v5 => (bd (α := Int) (o116 v5.1.1.1.1 v5.1.1.1.2.1 v5.1.1.1.2.2 v5.1.1.2.1 v5.1.2.2.2.2 v5.1.2.1.2.1 v5.1.2.1.2.2) (fun v7 => (bd (α := (Int × Tyee0fd7)) (cnd (v7 == (1 : Int)) (bd (α := Tyee0fd7) (o105 ((((v5.1.1.1.1, v7, v5.1.1.1.2.2), v5.1.1.2), v5.1.2), v5.2)) (fun v8 => (some (v5.1.1.1.2.1, v8)))) (some (v5.1.1.1.2.1, (((v5.1.1.1.1, v7, v5.1.1.1.2.2), v5.1.1.2), v5.1.2), v5.2))) (fun v9 => (bd (α := Tyee0fd7) (cnd (v9.1 == (1 : Int)) (some (v9.2.1, (((v9.2.1.1.1.2.1 == (2 : Int)), v9.2.2.1.1.2), v9.2.2.1.2), v9.2.2.2)) (some (v9.2.1, ((false, v9.2.2.1.1.2), v9.2.2.1.2), v9.2.2.2))) (fun v10 => (bd (α := Tyee0fd7) (cnd v10.2.1.1.1 (some ((((v10.1.1.1.1, v10.1.1.1.2.1, (0 : Int)), v10.1.1.2), v10.1.2), v10.2)) (some v10)) (fun v11 => (bd (α := (List UInt8)) (o33 v11.1.2.2.2.1) (fun v12 => (some (((v11.1.2.1.2.1, v11.1.2.1.2.2, v11.1.2.2.1.1), v11.1.2.2.1.2, v11.1.2.2.2.2, (0 : Int)), v11, v12)))))))))))))))))))
def h74 : HC := (.s .d (.s .d (.j false [o74_s0] (.s .d (.s .d (.j false [o74_s0] (.s .d (.s .d (.s .d (.j false [o74_s1] (.s .d (.s (.j false [o74_s0] .d) (.j false [o74_s0] .d)))))))))))))
theorem e74 (t : ((Int × Int) × Int × List UInt8) × Bool × Tyee0fd7) : evF (stpT Tryz.prog T52 K52) Tryz.f74 p74 r74 h74 t = (o74 t.1 t.2.1 t.2.2) := by kernel_rfl
def n74 : FSp := ⟨p74, r74, fun t => (o74 t.1 t.2.1 t.2.2)⟩
theorem fo74 : FOk Tryz.prog 74 n74 := fk e74
def T53 : Tbl := (74, n74) :: T52
theorem K53 : TOk Tryz.prog T53 := .cons K52 fo74
def Bsd9206d : BSh := .cells 179 [.i .u8, .i .i64, .i .i64, .i .i64, .own 9]
abbrev Tyab5db4 : Type := (Int × ((Int × Int × Int) × Bool × Int × Int) × Tyee0fd7) × ((List (Int × Int × Int × List UInt8)) × Int × Int) × List (List UInt8) × List (Int × Int × Bool × List UInt8)
abbrev Ty4ecc9e : Type := ((Bool × Int) × ((Int × Int × Int) × Bool × Int × Int) × Tyee0fd7 × List (Int × Int × Int × List UInt8)) × ((Int × Int) × (Int × Int) × Int × Int) × List (List UInt8) × (List (Int × Int × Bool × List UInt8)) × List UInt8
abbrev Tybfb8d5 : Type := ((((Int × Int) × Int × List UInt8) × Bool) × ((Int × Int × Int) × Bool × Int × Int) × Tyee0fd7) × ((List (Int × Int × Int × List UInt8)) × Int × Int) × List (List UInt8) × List (Int × Int × Bool × List UInt8)
def o28_s0 : Sch := ⟨[], [Bsb991da, Bs9a591a, Bsd348fb, Bs8e0d62, .no, .no, .row (.a .y) 33, Bs2be90b]⟩
def o28_s1 : Sch := ⟨[(0, .v (.c (.ptr 0 0))), (9, .v (.c (.ptr 6 0))), (10, .v (.c (.b))), (12, .v (.c (.i .u8)))], [Bsb991da, Bs9a591a, Bsd348fb, Bs22b41b, .no, .no, Bsd9206d, .row (.a .y) 33, Bs2be90b, .row .y 5]⟩
def p28 : Sch := ⟨[(0, .v (.c (.ptr 0 0))), (1, Ss545519), (2, .v (.c (.b)))], [Bsb991da, Bs9a591a, Bsd348fb, Bs5fbb67, .row (.a .y) 33, Bs2be90b]⟩
def r28 : List Sch := [⟨[(0, .v (.c (.i .i64)))], [Bsb991da, Bs9a591a, Bsd348fb, Bs8e0d62, .no, .no, .row (.a .y) 33, Bs2be90b]⟩]
def o28 (a0 : (Int × Int) × Int × List UInt8) (a1 : Bool) (a2 : (Int × Int × Int) × Bool × Int × Int) (a3 : Tyee0fd7) (a4 : List (Int × Int × Int × List UInt8)) (a5 : Int × Int) (a6 : List (List UInt8)) (a7 : List (Int × Int × Bool × List UInt8)) : Option Tyab5db4 :=
 (bd (α := Int) (o71 (1 : Int) a2 a3 a4 (a5, a6, a7)) (fun v1 => (cnd (v1 != (0 : Int)) (some ((v1, a2, a3), (a4, a5), a6, a7)) (bd (α := Int) (o44 a3) (fun v2 => (bd (α := Tyd0623e) (o74 a0 a1 a3) (fun v4 => (cnd (v4.1.2.2.2 != (0 : Int)) (some ((v4.1.2.2.2, a2, v4.2.1), (a4, a5), a6, a7)) (bd (α := Int) (o44 v4.2.1) (fun v5 => (bd (α := Ty4ecc9e) (cnd (v5 != v2) (bd (α := Ty5419cd) (o68 ((a2.1.1, (2 : Int), a2.1.2.2), a2.2) v4.2.1 a4 a5 a6 a7) (fun v6 => (some (((v4.1.2.2.1, v5), v6.1.1.1, v6.1.1.2, v6.1.2.1), (v6.1.2.2, (v4.1.1.1, v4.1.1.2.1), v4.1.1.2.2, v4.1.2.1), v6.2.2.1, v6.2.2.2, v4.2.2)))) (some (((v4.1.2.2.1, v5), ((a2.1.1, (2 : Int), a2.1.2.2), a2.2), v4.2.1, a4), (a5, (v4.1.1.1, v4.1.1.2.1), v4.1.1.2.2, v4.1.2.1), a6, a7, v4.2.2))) (fun v7 => (bd (α := Tyc0a343) (cnd (v7.1.1.2 == (2 : Int)) (cnd v7.1.1.1 (some (((v7.1.2.1.1, (v7.2.1.2.1.1 == (1 : Int)), v7.2.1.2.2), v7.1.2.2), v7.2.1.1, v7.2.2.1, v7.2.2.2.1)) (some (((v7.1.2.1.1, false, v7.2.1.2.2), v7.1.2.2), v7.2.1.1, v7.2.2.1, v7.2.2.2.1))) (some (((v7.1.2.1.1, false, v7.2.1.2.2), v7.1.2.2), v7.2.1.1, v7.2.2.1, v7.2.2.2.1))) (fun v8 => (some (((0 : Int), v8.1.1, v8.1.2.1), (v8.1.2.2, v8.2.1), v8.2.2))))))))))))))))
def h28 : HC := (.s .d (.s .d (.s .d (.s (.r 2) (.s .d (.s .d (.s .d (.j false [o28_s1] (.s .d (.s (.j false [o28_s0] .d) .d))))))))))
theorem e28 (t : Tybfb8d5) : evF (stpT Tryz.prog T53 K53) Tryz.f28 p28 r28 h28 t = (o28 t.1.1.1 t.1.1.2 t.1.2.1 t.1.2.2 t.2.1.1 t.2.1.2 t.2.2.1 t.2.2.2) := by kernel_rfl
def n28 : FSp := ⟨p28, r28, fun t => (o28 t.1.1.1 t.1.1.2 t.1.2.1 t.1.2.2 t.2.1.1 t.2.1.2 t.2.2.1 t.2.2.2)⟩
theorem fo28 : FOk Tryz.prog 28 n28 := fk e28
def T54 : Tbl := (28, n28) :: T53
theorem K54 : TOk Tryz.prog T54 := .cons K53 fo28
def Bs6d0a58 : BSh := .cells 105 [.ifc 60 (.ptr 2 0), .ifc 60 (.ptr 3 0), .ptr 4 0, .cst (.pointer none), .ro .y true, .i .i64, .i .i64, .i .i64, .i .i64, .i .i64, .i .u8, .i .u8, .i .u8, .i .i64, .i .i64, .i .i64, .i .i64]
def Bs08fb81 : BSh := .cells 232 [.i .i64, .i .i64, .own 8, .own 9]
def Bs8abc1b : BSh := .cells 232 [.i .i64, .i .i64, .own 12, .own 13]
abbrev Tyc77a22 : Type := ((Tyf90a5e × Int × Int × Int) × (Int × Int × Int) × ((Int × Int × Int) × Bool × Int × Int) × Tyee0fd7) × ((List (Int × Int × Int × List UInt8)) × (Int × Int) × Ty9a0469) × (Bool × Bool) × List (List UInt8) × List (Int × Int × Bool × List UInt8)
abbrev Tyc24c46 : Type := ((Tyf90a5e × Int × Int × Int) × (Int × Int × Int) × ((Int × Int × Int) × Bool × Int × Int) × Tyee0fd7) × ((List (Int × Int × Int × List UInt8)) × (Int × Int) × List (List UInt8)) × (List (Int × Int × Bool × List UInt8)) × Ty9a0469 × Bool × Bool
def p27 : Sch := ⟨[(0, .v (.c (.ic .i64 (0)))), (1, .v (.c (.ptr 0 0))), (2, .v (.c (.ptr 10 0))), (3, .v (.c (.ptr 11 0)))], [.cells 30 [.ptr 1 0], Bs6d0a58, Bsa76b8c, Bsa76b8c, Bse08b4f, Bs9a591a, Bsd348fb, Bs08fb81, .row (.a .y) 33, Bs2be90b, Bsfb4f5f, .cells 34 [.b, .b]]⟩
def r27 : List Sch := [⟨[(0, .tup [])], [.cells 30 [.ptr 1 0], Bs6d0a58, Bsa76b8c, Bsa76b8c, Bse08b4f, Bs9a591a, Bsd348fb, Bs8abc1b, .no, .no, Bsfb4f5f, .cells 34 [.b, .b], .row (.a .y) 33, Bs2be90b]⟩]
def o27 (a0 : Tyf90a5e) (a1 : Int × Int × Int) (a2 : Int × Int × Int) (a3 : (Int × Int × Int) × Bool × Int × Int) (a4 : Tyee0fd7) (a5 : List (Int × Int × Int × List UInt8)) (a6 : Int × Int) (a7 : List (List UInt8)) (a8 : List (Int × Int × Bool × List UInt8)) (a9 : Ty9a0469) (a10 : Bool × Bool) : Option Tyc77a22 :=
 (bd (α := Tyab5db4) (o28 a9.1 a10.1 a3 a4 a5 a6 a7 a8) (fun v2 => (some (((a0, a1), a2, v2.1.2), (v2.2.1.1, v2.2.1.2, a9), a10, v2.2.2))))
theorem e27 (t : Tyc24c46) : evF (stpT Tryz.prog T54 K54) Tryz.f27 p27 r27 (.r 2) t = (o27 t.1.1.1 t.1.1.2 t.1.2.1 t.1.2.2.1 t.1.2.2.2 t.2.1.1 t.2.1.2.1 t.2.1.2.2 t.2.2.1 t.2.2.2.1 t.2.2.2.2) := by kernel_rfl
def n27 : FSp := ⟨p27, r27, fun t => (o27 t.1.1.1 t.1.1.2 t.1.2.1 t.1.2.2.1 t.1.2.2.2 t.2.1.1 t.2.1.2.1 t.2.1.2.2 t.2.2.1 t.2.2.2.1 t.2.2.2.2)⟩
theorem fo27 : FOk Tryz.prog 27 n27 := fk e27
def T55 : Tbl := (27, n27) :: T54
theorem K55 : TOk Tryz.prog T55 := .cons K54 fo27
def Ss36c45b : SSh := .v (.c (.cap (.cap (.cap (.fn 27) (.ptr 9 0)) (.ptr 10 0)) (.ptr 11 0)))
def p26 : Sch := ⟨[(0, .v (.c (.ptr 0 0))), (1, Ss36c45b)], [Bs7f9e58, Bsa76b8c, Bsa76b8c, Bsc8128b, Bs9a591a, Bsd348fb, Bs22b41b, .row (.a .y) 33, Bs2be90b, .cells 30 [.ptr 0 0], Bsfb4f5f, .cells 34 [.b, .b]]⟩
def r26 : List Sch := [⟨[(0, .tup [])], [Bs7f9e58, Bsa76b8c, Bsa76b8c, Bsc8128b, Bs9a591a, Bsd348fb, Bs8abc1b, .no, .no, .cells 30 [.ptr 0 0], Bsfb4f5f, .cells 34 [.b, .b], .row (.a .y) 33, Bs2be90b]⟩]
def o26 (a0 : Tyf90a5e) (a1 : Int × Int × Int) (a2 : Int × Int × Int) (a3 : (Int × Int × Int) × Bool × Int × Int) (a4 : Tyee0fd7) (a5 : List (Int × Int × Int × List UInt8)) (a6 : Int × Int) (a7 : List (List UInt8)) (a8 : List (Int × Int × Bool × List UInt8)) (a9 : Ty9a0469) (a10 : Bool × Bool) : Option Tyc77a22 :=
 (bd (α := Tyc77a22) (o27 a0 a1 a2 a3 a4 a5 a6 a7 a8 a9 a10) (fun v1 => (some v1)))
def h26 : HC := (.s .d (.b (.u 3 (.v .d (.v .d (.v .d .d))))))
theorem e26 (t : Tyc24c46) : evF (stpT Tryz.prog T55 K55) Tryz.f26 p26 r26 h26 t = (o26 t.1.1.1 t.1.1.2 t.1.2.1 t.1.2.2.1 t.1.2.2.2 t.2.1.1 t.2.1.2.1 t.2.1.2.2 t.2.2.1 t.2.2.2.1 t.2.2.2.2) := by kernel_rfl
def n26 : FSp := ⟨p26, r26, fun t => (o26 t.1.1.1 t.1.1.2 t.1.2.1 t.1.2.2.1 t.1.2.2.2 t.2.1.1 t.2.1.2.1 t.2.1.2.2 t.2.2.1 t.2.2.2.1 t.2.2.2.2)⟩
theorem fo26 : FOk Tryz.prog 26 n26 := fk e26
def T56 : Tbl := (26, n26) :: T55
theorem K56 : TOk Tryz.prog T56 := .cons K55 fo26
def o117_s0 : Sch := ⟨[(2, .v (.c (.b)))], [Bs037393]⟩
def p117 : Sch := ⟨[(0, .v (.c (.ptr 0 0)))], [Bs037393]⟩
def r117 : List Sch := [⟨[(0, .v (.c (.b)))], [.no]⟩]
def o117 (a0 : Tyee0fd7) : Option Bool :=
 (bd (α := (Bool × Tyee0fd7)) (cnd a0.1.2.2.2.2 (some ((a0.1.2.1.2.1 == (3 : Int)), a0)) (some (false, a0))) (fun v1 => (some v1.1)))
theorem e117 (t : Tyee0fd7) : evF (stpT Tryz.prog T56 K56) Tryz.f117 p117 r117 (.s .d (.s (.j false [o117_s0] .d) .d)) t = (o117 t) := by kernel_rfl
def n117 : FSp := ⟨p117, r117, fun t => (o117 t)⟩
theorem fo117 : FOk Tryz.prog 117 n117 := fk e117
def T57 : Tbl := (117, n117) :: T56
theorem K57 : TOk Tryz.prog T57 := .cons K56 fo117
def p149 : Sch := ⟨[(0, .v (.c (.ro .y false))), (1, .v (.c (.b))), (2, .v (.c (.i .u8))), (3, .v (.c (.ptr 0 0)))], [.cells 33 [.own 1], .row .y 5]⟩
def r149 : List Sch := [⟨[(0, .tup [])], [.cells 33 [.own 2], .no, .row .y 5]⟩]
def o149 (a0 : List UInt8) (a1 : Bool) (a2 : Int) (a3 : List UInt8) : Option (List UInt8) :=
 (cnd a1 (gd (decide ((0 : Int) ≤ (0 : Int) ∧ (0 : Int) < ((a3.length : Nat) : Int))) (gd (decide ((0 : Int) ≤ (0 : Int) ∧ (0 : Int) < ((a3.length : Nat) : Int))) (bd (α := (List UInt8)) (o148 ((a0.length : Nat) : Int) (2 : Int) (List.set a3 ((0 : Int).toNat) (u8 (lorK .u8 ((UInt8.toNat (List.getD a3 ((0 : Int).toNat) (0 : UInt8)) : Nat) : Int) a2)))) (fun v1 => (gd (decide ((v1.length + a0.length) * 1 ≤ 140737488355328)) (some (v1 ++ a0))))))) (some a3))
theorem e149 (t : (List UInt8 × Bool) × Int × List UInt8) : evF (stpT Tryz.prog T57 K57) Tryz.f149 p149 r149 .d t = (o149 t.1.1 t.1.2 t.2.1 t.2.2) := by kernel_rfl
def n149 : FSp := ⟨p149, r149, fun t => (o149 t.1.1 t.1.2 t.2.1 t.2.2)⟩
theorem fo149 : FOk Tryz.prog 149 n149 := fk e149
def T58 : Tbl := (149, n149) :: T57
theorem K58 : TOk Tryz.prog T58 := .cons K57 fo149
def o118_s0 : Sch := ⟨[(0, .v (.c (.ro .y false))), (1, .v (.c (.b))), (2, .v (.c (.ro .y false))), (3, .v (.c (.b))), (25, .v (.c (.b)))], []⟩
def p118 : Sch := ⟨[(0, .v (.c (.ro .y false))), (1, .v (.c (.b))), (2, .v (.c (.ro .y false))), (3, .v (.c (.b)))], []⟩
def r118 : List Sch := [⟨[(0, .tup [.c (.own 0), .c (.i .i64)])], [.row .y 5]⟩]
def o118 (a0 : List UInt8) (a1 : Bool) (a2 : List UInt8) (a3 : Bool) : Option (Int × List UInt8) :=
 (bd (α := ((List UInt8 × Bool) × List UInt8 × Bool × Bool)) (cnd a1 (cnd (decide (((a0.length : Nat) : Int) > (400 : Int))) (some ((a0, a1), a2, a3, true)) (cnd a3 (some ((a0, a1), a2, a3, (decide (((a2.length : Nat) : Int) > (400 : Int))))) (some ((a0, a1), a2, a3, false)))) (cnd a3 (some ((a0, a1), a2, a3, (decide (((a2.length : Nat) : Int) > (400 : Int))))) (some ((a0, a1), a2, a3, false)))) (fun v1 => (cnd v1.2.2.2 (some ((3 : Int), ([] : List UInt8))) (bd (α := (List UInt8)) (o149 v1.1.1 v1.1.2 (1 : Int) ([(u8 (0 : Int))] : List UInt8)) (fun v2 => (bd (α := (List UInt8)) (o149 v1.2.1 v1.2.2.1 (2 : Int) v2) (fun v3 => (some ((0 : Int), v3)))))))))
def h118 : HC := (.s .d (.s (.s (.j false [o118_s0] .d) .d) .d))
theorem e118 (t : (List UInt8 × Bool) × List UInt8 × Bool) : evF (stpT Tryz.prog T58 K58) Tryz.f118 p118 r118 h118 t = (o118 t.1.1 t.1.2 t.2.1 t.2.2) := by kernel_rfl
def n118 : FSp := ⟨p118, r118, fun t => (o118 t.1.1 t.1.2 t.2.1 t.2.2)⟩
theorem fo118 : FOk Tryz.prog 118 n118 := fk e118
def T59 : Tbl := (118, n118) :: T58
theorem K59 : TOk Tryz.prog T59 := .cons K58 fo118
def Ss228d30 : SSh := .tup [.c (.own 0), .c (.b), .c (.own 1), .c (.b), .c (.i .i64)]
abbrev Tyb9e1f0 : Type := ((List UInt8 × List UInt8) × Int × Int) × (Int × Bool) × List UInt8 × List UInt8
def o150_s0 : Sch := ⟨[(0, .v (.c (.ro .y false))), (19, .v (.c (.b)))], []⟩
def o150_s1 : Sch := ⟨[(0, .v (.c (.ro .y false))), (7, .v (.c (.ro .y false))), (8, .v (.c (.ptr 0 0))), (9, .v (.c (.i .i64))), (10, .v (.c (.i .i64))), (22, .v (.c (.i .i64))), (45, .v (.c (.b)))], [.cells 108 [.own 1, .own 2], .row .y 5, .row .y 5]⟩
def o150_s2 : Sch := ⟨[(0, .v (.c (.ro .y false))), (7, .v (.c (.ro .y false))), (8, .v (.c (.ptr 0 0))), (22, .v (.c (.i .i64)))], [.cells 108 [.own 1, .own 2], .row .y 5, .row .y 5]⟩
def p150 : Sch := ⟨[(0, .v (.c (.ro .y false)))], []⟩
def r150 : List Sch := [⟨[(0, Ss228d30)], [.row .y 5, .row .y 5]⟩]
def o150_b0 (v4 : (List UInt8 × List UInt8) × Int × List UInt8 × List UInt8) :=
 (cnd (decide (v4.2.1 < (2 : Int))) (gd (decide ((0 : Int) ≤ (0 : Int) ∧ (0 : Int) < ((v4.1.1.length : Nat) : Int))) (gd (decide ((0 : Int) ≤ v4.2.1)) (cnd ((landK .u8 (shrK .u8 ((UInt8.toNat (List.getD v4.1.1 (0 : Int).toNat (0 : UInt8)) : Nat) : Int) v4.2.1) (1 : Int)) == (0 : Int)) (some (Ctl.go (v4.1, (IntKind.wrap .i64 (v4.2.1 + (1 : Int))), v4.2.2))) (cnd (decide (((v4.1.2.length : Nat) : Int) < (2 : Int))) (dnO (some ((false, false, (4 : Int)), ([] : List UInt8), ([] : List UInt8)))) (bd (α := Int) (o120 v4.1.2 (2 : Int)) (fun v5 => (bd (α := Tyb9e1f0) (cnd (decide (v5 > (400 : Int))) (some ((v4.1, v4.2.1, v5), (v4.2.1, true), v4.2.2)) (some ((v4.1, v4.2.1, v5), (v4.2.1, (decide (v5 > (IntKind.wrap .i64 (((v4.1.2.length : Nat) : Int) - (2 : Int)))))), v4.2.2))) (fun v6 => (cnd v6.2.1.2 (dnO (some ((false, false, (4 : Int)), ([] : List UInt8), ([] : List UInt8)))) (bd (α := ((List UInt8 × List UInt8) × Int × List UInt8 × List UInt8)) (gd (decide ((0 : Int) ≤ (2 : Int) ∧ (2 : Int) ≤ (IntKind.wrap .i64 ((2 : Int) + v6.1.2.2)) ∧ (IntKind.wrap .i64 ((2 : Int) + v6.1.2.2)) ≤ ((v6.1.1.2.length : Nat) : Int))) (bd (α := (List UInt8)) (o33 (List.take ((IntKind.wrap .i64 ((2 : Int) + v6.1.2.2)).toNat - (2 : Int).toNat) (List.drop (2 : Int).toNat v6.1.1.2))) (fun v8 => (gd (decide ((0 : Int) ≤ (IntKind.wrap .i64 ((2 : Int) + v6.1.2.2)) ∧ (IntKind.wrap .i64 ((2 : Int) + v6.1.2.2)) ≤ ((v6.1.1.2.length : Nat) : Int))) (sm (isZ v6.1.2.1 0) (fun _ => (some ((v6.1.1.1, (List.drop (IntKind.wrap .i64 ((2 : Int) + v6.1.2.2)).toNat v6.1.1.2)), v6.2.1.1, v8, v6.2.2.2))) (fun _ => (sm (isZ v6.1.2.1 1) (fun _ => (some ((v6.1.1.1, (List.drop (IntKind.wrap .i64 ((2 : Int) + v6.1.2.2)).toNat v6.1.1.2)), v6.2.1.1, v6.2.2.1, v8))) (fun _ => none)))))))) (fun v9 => (some (Ctl.go (v9.1, (IntKind.wrap .i64 (v9.2.1 + (1 : Int))), v9.2.2)))))))))))))) (dnO (cnd (((v4.1.2.length : Nat) : Int) != (0 : Int)) (some ((false, false, (4 : Int)), ([] : List UInt8), ([] : List UInt8))) (gd (decide ((0 : Int) ≤ (0 : Int) ∧ (0 : Int) < ((v4.1.1.length : Nat) : Int))) (gd (decide ((0 : Int) ≤ (0 : Int) ∧ (0 : Int) < ((v4.1.1.length : Nat) : Int))) (some ((((landK .u8 ((UInt8.toNat (List.getD v4.1.1 (0 : Int).toNat (0 : UInt8)) : Nat) : Int) (1 : Int)) == (1 : Int)), ((landK .u8 ((UInt8.toNat (List.getD v4.1.1 (0 : Int).toNat (0 : UInt8)) : Nat) : Int) (2 : Int)) == (2 : Int)), (0 : Int)), v4.2.2)))))))
def o150 (a0 : List UInt8) : Option ((Bool × Bool × Int) × List UInt8 × List UInt8) :=
 (bd (α := (List UInt8 × Bool)) (cnd (((a0.length : Nat) : Int) == (0 : Int)) (some (a0, true)) (gd (decide ((0 : Int) ≤ (0 : Int) ∧ (0 : Int) < ((a0.length : Nat) : Int))) (some (a0, (decide (((UInt8.toNat (List.getD a0 (0 : Int).toNat (0 : UInt8)) : Nat) : Int) > (3 : Int))))))) (fun v1 => (cnd v1.2 (some ((false, false, (4 : Int)), ([] : List UInt8), ([] : List UInt8))) (gd (decide ((0 : Int) ≤ (1 : Int) ∧ (1 : Int) ≤ ((v1.1.length : Nat) : Int))) (loopO (σ := (List UInt8 × List UInt8) × Int × List UInt8 × List UInt8) fuelN o150_b0 ((v1.1, (List.drop (1 : Int).toNat v1.1)), (0 : Int), ([] : List UInt8), ([] : List UInt8)))))))
def h150 : HC := (.s .d (.s (.s (.j false [o150_s0] .d) .d) (.s .d (.s .d (.s (.s .d (.b (.l [o150_s2] (.s .d (.s .d (.s (.b (.s .d (.s .d (.s .d (.s .d (.s (.s (.j false [o150_s1] .d) .d) (.j false [o150_s2] (.r 1)))))))) .d)))))) .d)))))
theorem e150 (t : List UInt8) : evF (stpT Tryz.prog T59 K59) Tryz.f150 p150 r150 h150 t = (o150 t) := by kernel_rfl
def n150 : FSp := ⟨p150, r150, fun t => (o150 t)⟩
theorem fo150 : FOk Tryz.prog 150 n150 := fk e150
def T60 : Tbl := (150, n150) :: T59
theorem K60 : TOk Tryz.prog T60 := .cons K59 fo150
def o148v1_s0 : Sch := ⟨[(0, .v (.c (.own 0))), (1, .v (.c (.i .i64))), (8, .v (.c (.i .i64))), (9, .v (.c (.i .i64)))], [.row .y 5]⟩
def p148v1 : Sch := ⟨[(0, .v (.c (.cst (.slice none 0 0)))), (1, .v (.c (.i .i64))), (2, .v (.c (.i .i64)))], []⟩
def r148v1 : List Sch := [⟨[(0, .v (.c (.own 0)))], [.row .y 5]⟩]
def o148v1_b0 (v2 : (Int × Int) × Int × List UInt8) :=
 (cnd (decide (v2.2.1 < v2.1.2)) (gd (decide ((0 : Int) ≤ (IntKind.wrap .i64 ((8 : Int) * v2.2.1)))) (gd (decide ((v2.2.2.length + ([(u8 (IntKind.wrap .u8 (shrK .i64 v2.1.1 (IntKind.wrap .i64 ((8 : Int) * v2.2.1)))))] : List UInt8).length) * 1 ≤ 140737488355328)) (some (Ctl.go (v2.1, (IntKind.wrap .i64 (v2.2.1 + (1 : Int))), (v2.2.2 ++ ([(u8 (IntKind.wrap .u8 (shrK .i64 v2.1.1 (IntKind.wrap .i64 ((8 : Int) * v2.2.1)))))] : List UInt8))))))) (dnO (some v2.2.2)))
def o148v1 (a0 : Int) (a1 : Int) : Option (List UInt8) :=
 (loopO (σ := (Int × Int) × Int × List UInt8) fuelN o148v1_b0 ((a0, a1), (0 : Int), ([] : List UInt8)))
def h148v1 : HC := (.s .d (.s (.s .d (.b (.l [o148v1_s0] .d))) .d))
theorem e148v1 (t : Int × Int) : evF (stpT Tryz.prog T60 K60) Tryz.f148 p148v1 r148v1 h148v1 t = (o148v1 t.1 t.2) := by kernel_rfl
def n148v1 : FSp := ⟨p148v1, r148v1, fun t => (o148v1 t.1 t.2)⟩
theorem fo148v1 : FOk Tryz.prog 148 n148v1 := fk e148v1
def T61 : Tbl := (148, n148v1) :: T60
theorem K61 : TOk Tryz.prog T61 := .cons K60 fo148v1
def Bs9f58cd : BSh := .cells 123 [.i .i64, .i .i64, .b, .ro .y false]
def Ssce4d42 : SSh := .v (.agg [.i .i64, .i .i64, .b, .ro .y false])
def o119_s0 : Sch := ⟨[(1, .v (.c (.ptr 0 0))), (9, .v (.c (.i .u8)))], [Bs9f58cd]⟩
def p119 : Sch := ⟨[(0, Ssce4d42)], []⟩
def r119 : List Sch := [⟨[(0, .tup [.c (.own 0), .c (.i .i64)])], [.row .y 5]⟩]
def o119 (a0 : (Int × Int) × Bool × List UInt8) : Option (Int × List UInt8) :=
 (cnd (decide (a0.1.1 < (0 : Int))) (some ((1 : Int), ([] : List UInt8))) (bd (α := ((Bool × Bool × Int) × List UInt8 × List UInt8)) (o150 a0.2.2) (fun v1 => (cnd (v1.1.2.2 != (0 : Int)) (some (v1.1.2.2, ([] : List UInt8))) (bd (α := (Int × (Int × Int) × Bool × List UInt8)) (cnd a0.2.1 (some ((1 : Int), a0)) (some ((0 : Int), a0))) (fun v2 => (bd (α := (List UInt8)) (o148v1 v2.2.1.1 (8 : Int)) (fun v4 => (gd (decide ((v4.length + ([(u8 v2.1)] : List UInt8).length) * 1 ≤ 140737488355328)) (gd (decide (((v4 ++ ([(u8 v2.1)] : List UInt8)).length + v2.2.2.2.length) * 1 ≤ 140737488355328)) (some ((0 : Int), ((v4 ++ ([(u8 v2.1)] : List UInt8)) ++ v2.2.2.2)))))))))))))
def h119 : HC := (.s .d (.s .d (.s .d (.s .d (.j false [o119_s0] (.s .d (.s (.r 4) .d)))))))
theorem e119 (t : (Int × Int) × Bool × List UInt8) : evF (stpT Tryz.prog T61 K61) Tryz.f119 p119 r119 h119 t = (o119 t) := by kernel_rfl
def n119 : FSp := ⟨p119, r119, fun t => (o119 t)⟩
theorem fo119 : FOk Tryz.prog 119 n119 := fk e119
def T62 : Tbl := (119, n119) :: T61
theorem K62 : TOk Tryz.prog T62 := .cons K61 fo119
def p113v1 : Sch := ⟨[(0, .v (.c (.ptr 0 0))), (1, .v (.c (.i .u8))), (2, .v (.c (.own 1)))], [Bs037393, .row .y 5]⟩
def r113v1 : List Sch := [⟨[(0, Ss9725a9)], [.no, .row .y 5]⟩]
def o113v1 (a0 : Int) (a1 : Tyee0fd7) (a2 : List UInt8) : Option ((Int × Int × Int) × List UInt8) :=
 (some ((a0, (IntKind.wrap .u8 a1.1.1.1.1), a1.1.1.2.2.2), a2))
theorem e113v1 (t : Int × Tyee0fd7 × List UInt8) : evF (stpT Tryz.prog T62 K62) Tryz.f113 p113v1 r113v1 .d t = (o113v1 t.1 t.2.1 t.2.2) := by kernel_rfl
def n113v1 : FSp := ⟨p113v1, r113v1, fun t => (o113v1 t.1 t.2.1 t.2.2)⟩
theorem fo113v1 : FOk Tryz.prog 113 n113v1 := fk e113v1
def T63 : Tbl := (113, n113v1) :: T62
theorem K63 : TOk Tryz.prog T63 := .cons K62 fo113v1
def Ss1e018d : SSh := .tup [.agg [.i .u8, .i .u8, .i .i64, .own 1], .c (.b), .c (.i .i64)]
abbrev Ty255b98 : Type := (Tyee0fd7 × (Int × Int) × Int × List UInt8) × (List UInt8 × List UInt8) × Bool × Bool
def o75_s0 : Sch := ⟨[(0, .v (.c (.ptr 0 0))), (2, .v (.c (.ptr 1 0))), (6, .v (.c (.ptr 2 0))), (7, .v (.c (.ptr 3 0)))], [Bs9a591a, Bs10dd8a, Bs3fcbc4, .cells 34 [.b, .b]]⟩
def p75 : Sch := ⟨[(0, .v (.c (.ptr 0 0)))], [Bs9a591a]⟩
def r75 : List Sch := [⟨[(0, Ss1e018d)], [Bs9a591a, .row .y 5]⟩]
def o75 (a0 : Tyee0fd7) : Option (((Int × Int) × Int × Bool × Int) × Tyee0fd7 × List UInt8) :=
 (bd (α := Int) (o111 (2 : Int) a0) (fun v1 => (cnd (v1 != (0 : Int)) (some ((((0 : Int), (0 : Int)), (0 : Int), false, v1), a0, ([] : List UInt8))) (cnd (a0.1.1.1.2.1 != (2 : Int)) (some ((((0 : Int), (0 : Int)), (0 : Int), false, (0 : Int)), (((a0.1.1.1, a0.1.1.2.1, (3 : Int), a0.1.1.2.2.2), a0.1.2), a0.2), ([] : List UInt8))) (bd (α := Ty255b98) (sm (isZ (IntKind.wrap .i64 (a0.1.1.1.1 - (1 : Int))) 0) (fun _ => (sm (isZ (IntKind.wrap .i64 (a0.1.1.1.1 - (1 : Int))) 0) (fun _ => (some (((((a0.1.1.1, a0.1.1.2.1, (3 : Int), a0.1.1.2.2.2), a0.1.2), a0.2), ((0 : Int), (0 : Int)), (0 : Int), ([] : List UInt8)), (a0.1.2.1.1, ([] : List UInt8)), true, false))) (fun _ => (sm (isZ (IntKind.wrap .i64 (a0.1.1.1.1 - (1 : Int))) 1) (fun _ => (some (((((a0.1.1.1, a0.1.1.2.1, (3 : Int), a0.1.1.2.2.2), a0.1.2), a0.2), ((0 : Int), (0 : Int)), (0 : Int), ([] : List UInt8)), (a0.1.2.1.1, ([] : List UInt8)), false, true))) (fun _ => none))))) (fun _ => (sm (isZ (IntKind.wrap .i64 (a0.1.1.1.1 - (1 : Int))) 1) (fun _ => (sm (isZ (IntKind.wrap .i64 (a0.1.1.1.1 - (1 : Int))) 0) (fun _ => (some (((((a0.1.1.1, a0.1.1.2.1, (3 : Int), a0.1.1.2.2.2), a0.1.2), a0.2), ((0 : Int), (0 : Int)), (0 : Int), ([] : List UInt8)), (([] : List UInt8), a0.1.2.1.1), true, false))) (fun _ => (sm (isZ (IntKind.wrap .i64 (a0.1.1.1.1 - (1 : Int))) 1) (fun _ => (some (((((a0.1.1.1, a0.1.1.2.1, (3 : Int), a0.1.1.2.2.2), a0.1.2), a0.2), ((0 : Int), (0 : Int)), (0 : Int), ([] : List UInt8)), (([] : List UInt8), a0.1.2.1.1), false, true))) (fun _ => none))))) (fun _ => none)))) (fun v2 => (bd (α := Ty255b98) (bd (α := Bool) (o117 v2.1.1) (fun v3 => (cnd v3 (bd (α := Ty255b98) (sm (isZ (IntKind.wrap .i64 ((2 : Int) - v2.1.1.1.1.1.1)) 0) (fun _ => (sm (isZ (IntKind.wrap .i64 ((2 : Int) - v2.1.1.1.1.1.1)) 0) (fun _ => (some (v2.1, (v2.1.1.1.2.2.2.1, v2.2.1.2), true, v2.2.2.2))) (fun _ => (sm (isZ (IntKind.wrap .i64 ((2 : Int) - v2.1.1.1.1.1.1)) 1) (fun _ => (some (v2.1, (v2.1.1.1.2.2.2.1, v2.2.1.2), v2.2.2.1, true))) (fun _ => none))))) (fun _ => (sm (isZ (IntKind.wrap .i64 ((2 : Int) - v2.1.1.1.1.1.1)) 1) (fun _ => (sm (isZ (IntKind.wrap .i64 ((2 : Int) - v2.1.1.1.1.1.1)) 0) (fun _ => (some (v2.1, (v2.2.1.1, v2.1.1.1.2.2.2.1), true, v2.2.2.2))) (fun _ => (sm (isZ (IntKind.wrap .i64 ((2 : Int) - v2.1.1.1.1.1.1)) 1) (fun _ => (some (v2.1, (v2.2.1.1, v2.1.1.1.2.2.2.1), v2.2.2.1, true))) (fun _ => none))))) (fun _ => none)))) (fun v4 => (some v4))) (some v2)))) (fun v5 => (bd (α := (Int × List UInt8)) (o118 v5.2.1.1 v5.2.2.1 v5.2.1.2 v5.2.2.2) (fun v6 => (bd (α := (Int × List UInt8)) (o119 ((v5.1.1.1.1.1.2.2, v5.1.1.1.1.2.2.2), v5.1.1.2.1.1.1, v6.2)) (fun v7 => (bd (α := ((Int × Int × Int) × List UInt8)) (o113v1 (2 : Int) (v5.1.1.1, ((v5.1.1.2.1.1.1, v5.1.1.1.1.1.2.2, v5.1.1.1.1.2.2.2), (v5.1.1.2.1.1.1, v6.2), v5.1.1.2.1.2.2), v5.1.1.2.2) v7.2) (fun v8 => (some (((v8.1.1, v8.1.2.1), v8.1.2.2, true, (0 : Int)), (v5.1.1.1, ((v5.1.1.2.1.1.1, v5.1.1.1.1.1.2.2, v5.1.1.1.1.2.2.2), (v5.1.1.2.1.1.1, v6.2), v5.1.1.2.1.2.2), v5.1.1.2.2), v8.2))))))))))))))))
def h75 : HC := (.s .d (.s .d (.s .d (.s .d (.s .d (.s .d (.s (.j false [o75_s0] .d) (.j false [o75_s0] (.s (.s .d (.c (.j false [o75_s0] .d) .d)) .d)))))))))
theorem e75 (t : Tyee0fd7) : evF (stpT Tryz.prog T63 K63) Tryz.f75 p75 r75 h75 t = (o75 t) := by kernel_rfl
def n75 : FSp := ⟨p75, r75, fun t => (o75 t)⟩
theorem fo75 : FOk Tryz.prog 75 n75 := fk e75
def T64 : Tbl := (75, n75) :: T63
theorem K64 : TOk Tryz.prog T64 := .cons K63 fo75
def Ssa87424 : SSh := .tup [.agg [.i .u8, .i .u8, .i .i64, .own 6], .c (.b), .c (.i .i64)]
abbrev Ty1ccefe : Type := ((((Int × Int) × Int × Bool × Int) × (Int × Int × Int) × Bool × Int × Int) × Tyee0fd7 × List (Int × Int × Int × List UInt8)) × ((Int × Int) × List (List UInt8)) × (List (Int × Int × Bool × List UInt8)) × List UInt8
def p30 : Sch := ⟨[(0, .v (.c (.ptr 0 0)))], [Bsb991da, Bs9a591a, Bsd348fb, Bs5fbb67, .row (.a .y) 33, Bs2be90b]⟩
def r30 : List Sch := [⟨[(0, Ssa87424)], [Bsb991da, Bs9a591a, Bsd348fb, Bs5fbb67, .row (.a .y) 33, Bs2be90b, .row .y 5]⟩]
def o30 (a0 : (Int × Int × Int) × Bool × Int × Int) (a1 : Tyee0fd7) (a2 : List (Int × Int × Int × List UInt8)) (a3 : Int × Int) (a4 : List (List UInt8)) (a5 : List (Int × Int × Bool × List UInt8)) : Option Ty1ccefe :=
 (bd (α := Int) (o71 (2 : Int) a0 a1 a2 (a3, a4, a5)) (fun v1 => (cnd (v1 != (0 : Int)) (some ((((((0 : Int), (0 : Int)), (0 : Int), false, v1), a0), a1, a2), (a3, a4), a5, ([] : List UInt8))) (bd (α := (((Int × Int) × Int × Bool × Int) × Tyee0fd7 × List UInt8)) (o75 a1) (fun v2 => (some (((v2.1, (a0.1.1, (3 : Int), a0.1.2.2), a0.2), v2.2.1, a2), (a3, a4), a5, v2.2.2)))))))
theorem e30 (t : Tyc0a343) : evF (stpT Tryz.prog T64 K64) Tryz.f30 p30 r30 .d t = (o30 t.1.1 t.1.2.1 t.1.2.2 t.2.1 t.2.2.1 t.2.2.2) := by kernel_rfl
def n30 : FSp := ⟨p30, r30, fun t => (o30 t.1.1 t.1.2.1 t.1.2.2 t.2.1 t.2.2.1 t.2.2.2)⟩
theorem fo30 : FOk Tryz.prog 30 n30 := fk e30
def T65 : Tbl := (30, n30) :: T64
theorem K65 : TOk Tryz.prog T65 := .cons K64 fo30
def Ssf47f13 : SSh := .tup [.agg [.i .u8, .i .u8, .i .i64, .own 10], .c (.b)]
abbrev Ty1c4713 : Type := ((((Int × Int) × Int × Bool) × Tyf90a5e) × (Int × Int × Int) × (Int × Int × Int) × (Int × Int × Int) × Bool × Int × Int) × (Tyee0fd7 × (List (Int × Int × Int × List UInt8)) × Int × Int) × List (List UInt8) × (List (Int × Int × Bool × List UInt8)) × List UInt8
abbrev Tyed127e : Type := ((Tyf90a5e × Int × Int × Int) × (Int × Int × Int) × (Int × Int × Int) × Bool × Int × Int) × (Tyee0fd7 × List (Int × Int × Int × List UInt8)) × (Int × Int) × List (List UInt8) × List (Int × Int × Bool × List UInt8)
def p29 : Sch := ⟨[(0, .v (.c (.ic .i64 (0)))), (1, .v (.c (.ptr 0 0)))], [.cells 30 [.ptr 1 0], Bs6d0a58, Bsa76b8c, Bsa76b8c, Bse08b4f, Bs9a591a, Bsd348fb, Bs08fb81, .row (.a .y) 33, Bs2be90b]⟩
def r29 : List Sch := [⟨[(0, Ssf47f13)], [.cells 30 [.ptr 1 0], Bs6d0a58, Bsa76b8c, Bsa76b8c, Bse08b4f, Bs9a591a, Bsd348fb, Bs08fb81, .row (.a .y) 33, Bs2be90b, .row .y 5]⟩]
def o29 (a0 : Tyf90a5e) (a1 : Int × Int × Int) (a2 : Int × Int × Int) (a3 : (Int × Int × Int) × Bool × Int × Int) (a4 : Tyee0fd7) (a5 : List (Int × Int × Int × List UInt8)) (a6 : Int × Int) (a7 : List (List UInt8)) (a8 : List (Int × Int × Bool × List UInt8)) : Option Ty1c4713 :=
 (bd (α := Ty1ccefe) (o30 a3 a4 a5 a6 a7 a8) (fun v1 => (some ((((v1.1.1.1.1, v1.1.1.1.2.1, v1.1.1.1.2.2.1), a0), a1, a2, v1.1.1.2), (v1.1.2.1, v1.1.2.2, v1.2.1.1), v1.2.1.2, v1.2.2))))
theorem e29 (t : Tyed127e) : evF (stpT Tryz.prog T65 K65) Tryz.f29 p29 r29 .d t = (o29 t.1.1.1 t.1.1.2 t.1.2.1 t.1.2.2 t.2.1.1 t.2.1.2 t.2.2.1 t.2.2.2.1 t.2.2.2.2) := by kernel_rfl
def n29 : FSp := ⟨p29, r29, fun t => (o29 t.1.1.1 t.1.1.2 t.1.2.1 t.1.2.2 t.2.1.1 t.2.1.2 t.2.2.1 t.2.2.2.1 t.2.2.2.2)⟩
theorem fo29 : FOk Tryz.prog 29 n29 := fk e29
def T66 : Tbl := (29, n29) :: T65
theorem K66 : TOk Tryz.prog T66 := .cons K65 fo29
abbrev Ty1b58b9 : Type := ((Tyb141af × Tyf90a5e) × (Int × Int × Int) × (Int × Int × Int) × (Int × Int × Int) × Bool × Int × Int) × (Tyee0fd7 × List (Int × Int × Int × List UInt8)) × (Int × Int) × List (List UInt8) × List (Int × Int × Bool × List UInt8)
abbrev Ty5cb658 : Type := ((Tyf90a5e × (Int × Int × Int) × Int × Int × Int) × ((Int × Int × Int) × Bool × Int × Int) × Tyee0fd7 × List (Int × Int × Int × List UInt8)) × ((Int × Int) × List (List UInt8) × List (Int × Int × Bool × List UInt8)) × Ty2564bc × Ty9a0469 × Bool × Bool
abbrev Ty24f4fc : Type := ((Ty2564bc × Tyf90a5e) × (Int × Int × Int) × (Int × Int × Int) × (Int × Int × Int) × Bool × Int × Int) × (Tyee0fd7 × List (Int × Int × Int × List UInt8)) × (Int × Int) × List (List UInt8) × List (Int × Int × Bool × List UInt8)
def o23v1_s0 : Sch := ⟨[(0, .v (.c (.ptr 0 0))), (1, .v (.c (.ic .i64 (1)))), (3, .v (.c (.cap (.fn 29) (.ptr 9 0)))), (6, .v (.c (.ptr 10 0))), (8, .v (.c (.ptr 11 0))), (9, .v (.c (.ptr 12 0))), (15, .v (.c (.ic .i64 (0))))], [Bs7f9e58, Bsa76b8c, Bsa76b8c, Bsc8128b, Bs9a591a, Bsd348fb, Bs22b41b, .row (.a .y) 33, Bs2be90b, .cells 30 [.ptr 0 0], Bs2f241a, Bsfb4f5f, .cells 34 [.b, .b]]⟩
def p23v1 : Sch := ⟨[(0, .v (.c (.ptr 0 0))), (1, .v (.c (.ic .i64 (1)))), (2, Ss22e8ae), (3, .v (.c (.cap (.fn 29) (.ptr 9 0))))], [Bs7f9e58, Bsa76b8c, Bsa76b8c, Bsc8128b, Bs9a591a, Bsd348fb, Bs22b41b, .row (.a .y) 33, Bs2be90b, .cells 30 [.ptr 0 0]]⟩
def r23v1 : List Sch := [⟨[(0, Ss710f2d)], [Bs7f9e58, Bsa76b8c, Bsa76b8c, Bsc8128b, Bs9a591a, Bsd348fb, Bs22b41b, .row (.a .y) 33, Bs2be90b, .cells 30 [.ptr 0 0]]⟩]
def o23v1 (a0 : Ty2564bc) (a1 : Tyf90a5e) (a2 : Int × Int × Int) (a3 : Int × Int × Int) (a4 : (Int × Int × Int) × Bool × Int × Int) (a5 : Tyee0fd7) (a6 : List (Int × Int × Int × List UInt8)) (a7 : Int × Int) (a8 : List (List UInt8)) (a9 : List (Int × Int × Bool × List UInt8)) : Option Ty1b58b9 :=
 (bd (α := Ty5cb658) (bd (α := Ty1c4713) (o29 a1 a2 a3 a4 a5 a6 a7 a8 a9) (fun v1 => (cnd (!v1.1.1.1.2.2) (some (((v1.1.1.2, v1.1.2.1, v1.1.2.2.1), v1.1.2.2.2, v1.2.1.1, v1.2.1.2.1), (v1.2.1.2.2, v1.2.2.1, v1.2.2.2.1), a0, ((((0 : Int), (0 : Int)), (0 : Int), ([] : List UInt8)), ((0 : Int), (0 : Int)), (0 : Int), ([] : List UInt8)), false, false)) (bd (α := (Int × List UInt8)) (o69 (v1.1.1.1.1, v1.1.1.1.2.1, v1.2.2.2.2)) (fun v2 => (cnd (v2.1 != (0 : Int)) (some (((v1.1.1.2, v1.1.2.1, v1.1.2.2.1), v1.1.2.2.2, v1.2.1.1, v1.2.1.2.1), (v1.2.1.2.2, v1.2.2.1, v1.2.2.2.1), a0, ((((0 : Int), (0 : Int)), (0 : Int), ([] : List UInt8)), ((0 : Int), (0 : Int)), (0 : Int), ([] : List UInt8)), false, false)) (bd (α := ((Int × Int) × Int × List UInt8 × Bool)) (o70 v2.2 (a0.1.2.1.2.2, a0.1.2.2.1) (2 : Int) (1 : Int) v1.1.1.2.1.2.2.2) (fun v4 => (some (((v1.1.1.2, v1.1.2.1, v1.1.2.2.1), v1.1.2.2.2, v1.2.1.1, v1.2.1.2.1), (v1.2.1.2.2, v1.2.2.1, v1.2.2.2.1), a0, ((((0 : Int), (0 : Int)), (0 : Int), ([] : List UInt8)), v4.1, v4.2.1, v4.2.2.1), false, v4.2.2.2)))))))))) (fun v5 => (some (((((v5.2.2.2.1.1.1, v5.2.2.2.1.1.2.1, v5.2.2.2.1.1.2.2, v5.2.2.2.1.2.1.1), (v5.2.2.2.1.2.1.2, v5.2.2.2.1.2.2.1), v5.2.2.2.1.2.2.2, v5.2.2.2.2), v5.1.1.1), v5.1.1.2.1, v5.1.1.2.2, v5.1.2.1), v5.1.2.2, v5.2.1))))
def h23v1 : HC := (.s .d (.s (.s .d (.b (.u 3 (.v (.s .d (.s .d (.j false [o23v1_s0] .d))) (.v .d (.v .d .d)))))) .d))
theorem e23v1 (t : Ty24f4fc) : evF (stpT Tryz.prog T66 K66) Tryz.f23 p23v1 r23v1 h23v1 t = (o23v1 t.1.1.1 t.1.1.2 t.1.2.1 t.1.2.2.1 t.1.2.2.2 t.2.1.1 t.2.1.2 t.2.2.1 t.2.2.2.1 t.2.2.2.2) := by kernel_rfl
def n23v1 : FSp := ⟨p23v1, r23v1, fun t => (o23v1 t.1.1.1 t.1.1.2 t.1.2.1 t.1.2.2.1 t.1.2.2.2 t.2.1.1 t.2.1.2 t.2.2.1 t.2.2.2.1 t.2.2.2.2)⟩
theorem fo23v1 : FOk Tryz.prog 23 n23v1 := fk e23v1
def T67 : Tbl := (23, n23v1) :: T66
theorem K67 : TOk Tryz.prog T67 := .cons K66 fo23v1
def Bsbf211a : BSh := .cells 123 [.ic .i64 (0), .ic .i64 (0), .b, .cst (.slice none 0 0)]
def Ss0cb285 : SSh := .tup [.agg [.i .i64, .i .i64, .b, .own 0], .c (.i .i64)]
def o77_s0 : Sch := ⟨[(0, .v (.c (.i .i64))), (1, .v (.c (.ro .y false))), (4, .v (.c (.ptr 0 0))), (17, .v (.c (.b)))], [Bsbf211a]⟩
def p77 : Sch := ⟨[(0, .v (.c (.i .i64))), (1, .v (.c (.ro .y false)))], []⟩
def r77 : List Sch := [⟨[(0, Ss0cb285)], [.row .y 5]⟩]
def o77 (a0 : Int) (a1 : List UInt8) : Option (((Int × Int) × Bool × Int) × List UInt8) :=
 (bd (α := ((Int × List UInt8) × Bool × Bool)) (cnd (decide (((a1.length : Nat) : Int) < (9 : Int))) (some ((a0, a1), true, false)) (gd (decide ((0 : Int) ≤ (8 : Int) ∧ (8 : Int) < ((a1.length : Nat) : Int))) (some ((a0, a1), (decide (((UInt8.toNat (List.getD a1 (8 : Int).toNat (0 : UInt8)) : Nat) : Int) > (1 : Int))), false)))) (fun v1 => (cnd v1.2.1 (some ((((0 : Int), (0 : Int)), false, (4 : Int)), ([] : List UInt8))) (bd (α := Int) (o120 v1.1.2 (8 : Int)) (fun v4 => (gd (decide ((0 : Int) ≤ (8 : Int) ∧ (8 : Int) < ((v1.1.2.length : Nat) : Int))) (gd (decide ((0 : Int) ≤ (9 : Int) ∧ (9 : Int) ≤ ((v1.1.2.length : Nat) : Int))) (bd (α := (List UInt8)) (o33 (List.drop (9 : Int).toNat v1.1.2)) (fun v5 => (bd (α := (Int × List UInt8)) (o119 ((v4, v1.1.1), (((UInt8.toNat (List.getD v1.1.2 (8 : Int).toNat (0 : UInt8)) : Nat) : Int) == (1 : Int)), v5)) (fun v6 => (cnd (v6.1 != (0 : Int)) (some ((((0 : Int), (0 : Int)), false, (4 : Int)), ([] : List UInt8))) (some (((v4, v1.1.1), (((UInt8.toNat (List.getD v1.1.2 (8 : Int).toNat (0 : UInt8)) : Nat) : Int) == (1 : Int)), (0 : Int)), v5))))))))))))))
def h77 : HC := (.s .d (.s (.s (.j false [o77_s0] .d) .d) (.s (.r 2) .d)))
theorem e77 (t : Int × List UInt8) : evF (stpT Tryz.prog T67 K67) Tryz.f77 p77 r77 h77 t = (o77 t.1 t.2) := by kernel_rfl
def n77 : FSp := ⟨p77, r77, fun t => (o77 t.1 t.2)⟩
theorem fo77 : FOk Tryz.prog 77 n77 := fk e77
def T68 : Tbl := (77, n77) :: T67
theorem K68 : TOk Tryz.prog T68 := .cons K67 fo77
def Bse9f648 : BSh := .cells 123 [.i .i64, .i .i64, .b, .own 3]
def Sse4ab3a : SSh := .tup [.agg [.i .i64, .i .i64, .b, .own 1], .c (.b), .c (.i .i64)]
def o76_s0 : Sch := ⟨[(0, .v (.c (.ptr 0 0))), (6, .v (.c (.ptr 1 0))), (10, .v (.c (.ptr 2 0))), (62, .v (.c (.b)))], [Bs9a591a, Bsbf211a, Bse9f648, .row .y 5]⟩
def o76_s1 : Sch := ⟨[(0, .v (.c (.ptr 0 0))), (6, .v (.c (.ptr 1 0)))], [Bs9a591a, Bsbf211a]⟩
def p76 : Sch := ⟨[(0, .v (.c (.ptr 0 0))), (1, Ss545519), (2, .v (.c (.b)))], [Bs9a591a]⟩
def r76 : List Sch := [⟨[(0, Sse4ab3a)], [Bs9a591a, .row .y 5]⟩]
def o76 (a0 : (Int × Int) × Int × List UInt8) (a1 : Bool) (a2 : Tyee0fd7) : Option (((Int × Int) × Bool × Bool × Int) × Tyee0fd7 × List UInt8) :=
 (bd (α := Int) (o111 (3 : Int) a2) (fun v1 => (cnd (v1 != (0 : Int)) (some ((((0 : Int), (0 : Int)), false, false, v1), a2, ([] : List UInt8))) (bd (α := (Tyee0fd7 × Bool)) (cnd (a2.1.1.1.2.1 == (2 : Int)) (some ((((a2.1.1.1, a2.1.1.2.1, (4 : Int), a2.1.1.2.2.2), a2.1.2), (a2.2.1.1, a2.2.1.2.1, true, a2.2.1.2.2.2), a2.2.2), false)) (cnd (a2.1.1.1.2.1 == (3 : Int)) (bd (α := (Tyee0fd7 × Bool)) (bd (α := Bool) (o114 a0 a1 (2 : Int) (((a2.1.1.1, a2.1.1.2.1, (4 : Int), a2.1.1.2.2.2), a2.1.2), a2.2)) (fun v2 => (cnd v2 (bd (α := (((Int × Int) × Bool × Int) × List UInt8)) (o77 a2.1.1.2.2.2 a0.2.2) (fun v4 => (bd (α := ((Bool × Tyee0fd7) × Bool × (Int × Int × Bool) × List UInt8)) (cnd (v4.1.2.2 == (0 : Int)) (cnd (!v4.1.2.1) (some (((v4.1.1.1 == a2.1.1.1.2.2), ((a2.1.1.1, a2.1.1.2.1, (4 : Int), a2.1.1.2.2.2), a2.1.2), a2.2), false, (v4.1.1.1, v4.1.1.2, v4.1.2.1), v4.2)) (some ((false, ((a2.1.1.1, a2.1.1.2.1, (4 : Int), a2.1.1.2.2.2), a2.1.2), a2.2), false, (v4.1.1.1, v4.1.1.2, v4.1.2.1), v4.2))) (some ((false, ((a2.1.1.1, a2.1.1.2.1, (4 : Int), a2.1.1.2.2.2), a2.1.2), a2.2), false, (v4.1.1.1, v4.1.1.2, v4.1.2.1), v4.2))) (fun v5 => (cnd v5.1.1 (some ((v5.1.2.1, ((v5.1.2.2.1.1.1, v5.2.2.1.1, v5.2.2.1.2.1), (v5.2.2.1.2.2, v5.2.2.2), true, v5.1.2.2.1.2.2.2), v5.1.2.2.2), v5.2.1)) (some (v5.1.2, v5.2.1))))))) (some ((((a2.1.1.1, a2.1.1.2.1, (4 : Int), a2.1.1.2.2.2), a2.1.2), a2.2), false))))) (fun v6 => (cnd (!v6.1.2.1.2.2.1) (bd (α := Tyee0fd7) (o105 v6.1) (fun v7 => (some (v7, v6.2)))) (some v6)))) (some ((((a2.1.1.1, a2.1.1.2.1, (4 : Int), a2.1.1.2.2.2), a2.1.2), a2.2), false)))) (fun v8 => (cnd (!v8.1.2.1.2.2.1) (some ((((0 : Int), (0 : Int)), false, false, (0 : Int)), v8.1, ([] : List UInt8))) (bd (α := (List UInt8)) (o33 v8.1.2.1.2.1.2) (fun v9 => (some ((v8.1.2.1.1.2, v8.1.2.1.2.1.1, true, (0 : Int)), ((((v8.1.1.1.1.1, v8.1.1.1.1.2.1, (IntKind.wrap .i64 (v8.1.1.1.1.2.2 + (1 : Int)))), v8.1.1.1.2), v8.1.1.2), v8.1.2), v9))))))))))
def h76 : HC := (.s .d (.s .d (.s .d (.j false [o76_s1] (.s (.s .d (.b (.s .d (.c .d (.s .d (.c (.j false [o76_s1] (.s (.s .d (.c (.s (.r 2) (.s (.j false [o76_s0] .d) .d)) .d)) .d)) .d)))))) .d)))))
theorem e76 (t : ((Int × Int) × Int × List UInt8) × Bool × Tyee0fd7) : evF (stpT Tryz.prog T68 K68) Tryz.f76 p76 r76 h76 t = (o76 t.1 t.2.1 t.2.2) := by kernel_rfl
def n76 : FSp := ⟨p76, r76, fun t => (o76 t.1 t.2.1 t.2.2)⟩
theorem fo76 : FOk Tryz.prog 76 n76 := fk e76
def T69 : Tbl := (76, n76) :: T68
theorem K69 : TOk Tryz.prog T69 := .cons K68 fo76
abbrev Ty75abe5 : Type := (Bool × Int × Int) × List (List UInt8) × (List (Int × Int × Bool × List UInt8)) × (Int × Int) × Bool × List UInt8
abbrev Ty0cc550 : Type := (((Int × Int) × Bool × List UInt8) × Bool) × (Int × Int) × List (List UInt8) × List (Int × Int × Bool × List UInt8)
def o78_s0 : Sch := ⟨[(0, .v (.c (.ptr 0 0))), (4, .v (.c (.ptr 3 0))), (49, .v (.c (.b)))], [Bsaf42aa, .row (.a .y) 33, Bs2be90b, Bs9f58cd]⟩
def p78 : Sch := ⟨[(0, .v (.c (.ptr 0 0))), (1, Ssce4d42), (2, .v (.c (.b)))], [Bsaf42aa, .row (.a .y) 33, Bs2be90b]⟩
def r78 : List Sch := [⟨[(0, .tup [])], [Bs639d70, .no, .no, .row (.a .y) 33, Bs2be90b]⟩]
def o78 (a0 : (Int × Int) × Bool × List UInt8) (a1 : Bool) (a2 : Int × Int) (a3 : List (List UInt8)) (a4 : List (Int × Int × Bool × List UInt8)) : Option Ty072402 :=
 (cnd (((a3.length : Nat) : Int) == (0 : Int)) (some (a2, a3, a4)) (bd (α := Ty75abe5) (cnd (!a1) (some ((true, a2), a3, a4, a0)) (cnd (a0.1.1 != (IntKind.wrap .i64 (a2.1 + ((a4.length : Nat) : Int)))) (some ((true, a2), a3, a4, a0)) (cnd a0.2.1 (some ((true, a2), a3, a4, a0)) (some (((decide (((a4.length : Nat) : Int) ≥ ((a3.length : Nat) : Int))), a2), a3, a4, a0))))) (fun v1 => (cnd v1.1.1 (bd (α := Tyd95026) (o107 v1.1.2 v1.2.1 v1.2.2.1) (fun v2 => (some (v2.1.1, v2.2.2)))) (bd (α := (List UInt8)) (o33 v1.2.2.2.2.2) (fun v3 => (gd (decide ((v1.2.2.1.length + ([(v1.2.2.2.1.1, (v1.2.2.2.1.2, (v1.2.2.2.2.1, v3)))] : List (Int × Int × Bool × List UInt8)).length) * 48 ≤ 140737488355328)) (some (v1.1.2, v1.2.1, (v1.2.2.1 ++ ([(v1.2.2.2.1.1, (v1.2.2.2.1.2, (v1.2.2.2.2.1, v3)))] : List (Int × Int × Bool × List UInt8))))))))))))
def h78 : HC := (.s .d (.s .d (.s (.s (.j false [o78_s0] .d) .d) (.s .d (.r 2)))))
theorem e78 (t : Ty0cc550) : evF (stpT Tryz.prog T69 K69) Tryz.f78 p78 r78 h78 t = (o78 t.1.1 t.1.2 t.2.1 t.2.2.1 t.2.2.2) := by kernel_rfl
def n78 : FSp := ⟨p78, r78, fun t => (o78 t.1.1 t.1.2 t.2.1 t.2.2.1 t.2.2.2)⟩
theorem fo78 : FOk Tryz.prog 78 n78 := fk e78
def T70 : Tbl := (78, n78) :: T69
theorem K70 : TOk Tryz.prog T70 := .cons K69 fo78
def Bscb93e0 : BSh := .cells 123 [.i .i64, .i .i64, .b, .own 11]
def Bs9c4996 : BSh := .cells 123 [.i .i64, .i .i64, .b, .own 12]
def Bs40c4fc : BSh := .cells 123 [.i .i64, .i .i64, .b, .own 8]
def Ss968ee1 : SSh := .tup [.agg [.i .i64, .i .i64, .b, .own 6], .c (.b), .c (.i .i64)]
abbrev Tyecde7a : Type := ((((Int × Int) × Bool × Bool × Int) × (Int × Int × Int) × Bool × Int × Int) × Tyee0fd7 × List (Int × Int × Int × List UInt8)) × ((Int × Int) × List UInt8) × List (List UInt8) × List (Int × Int × Bool × List UInt8)
abbrev Ty7d0bd2 : Type := ((Bool × Int) × ((Int × Int × Int) × Bool × Int × Int) × Tyee0fd7 × List (Int × Int × Int × List UInt8)) × ((Int × Int) × Bool × Int × Int × Bool) × List UInt8 × List (List UInt8) × List (Int × Int × Bool × List UInt8)
abbrev Ty3a3879 : Type := ((Bool × Bool × Int) × ((Int × Int × Int) × Bool × Int × Int) × Tyee0fd7 × List (Int × Int × Int × List UInt8)) × ((Int × Int) × ((Int × Int) × Int × List UInt8) × Bool) × ((Int × Int × Bool) × List (List UInt8)) × (List (Int × Int × Bool × List UInt8)) × List UInt8
abbrev Tye42a0d : Type := ((Bool × Int × Bool) × (((Int × Int × Int) × Bool × Int × Int) × Tyee0fd7) × (List (Int × Int × Int × List UInt8)) × Int × Int) × (Bool × (Int × Int × Bool) × Int × Int × Bool) × (List (List UInt8) × List (Int × Int × Bool × List UInt8)) × List UInt8 × List UInt8
def o32_s0 : Sch := ⟨[(0, .v (.c (.ptr 0 0))), (6, .v (.c (.ptr 6 0))), (11, .v (.c (.ptr 7 0))), (12, .v (.c (.b))), (13, .v (.c (.i .i64))), (14, .v (.c (.ptr 8 0))), (16, .v (.c (.b)))], [Bsb991da, Bs9a591a, Bsd348fb, Bs59a69c, .no, .no, Bsbf211a, Bscb93e0, Bs9c4996, .row (.a .y) 33, Bs2be90b, .row .y 5, .row .y 5]⟩
def o32_s1 : Sch := ⟨[(0, .v (.c (.ptr 0 0))), (2, .v (.c (.b))), (4, .v (.c (.ptr 6 0))), (6, .v (.c (.ptr 7 0))), (11, .v (.c (.ptr 8 0))), (12, .v (.c (.b))), (13, .v (.c (.i .i64)))], [Bsb991da, Bs9a591a, Bsd348fb, Bs59a69c, .no, .no, Bsaf18bb, Bsbf211a, Bscb93e0, .row (.a .y) 33, Bs2be90b, .row .y 5]⟩
def o32_s2 : Sch := ⟨[(6, .v (.c (.ptr 6 0))), (11, .v (.c (.ptr 7 0))), (12, .v (.c (.b))), (13, .v (.c (.i .i64)))], [Bsb991da, Bs9a591a, Bsd348fb, Bs59a69c, .no, .no, Bsbf211a, Bs40c4fc, .row .y 5, .row (.a .y) 33, Bs2be90b]⟩
def p32 : Sch := ⟨[(0, .v (.c (.ptr 0 0))), (1, Ss545519), (2, .v (.c (.b)))], [Bsb991da, Bs9a591a, Bsd348fb, Bs5fbb67, .row (.a .y) 33, Bs2be90b]⟩
def r32 : List Sch := [⟨[(0, Ss968ee1)], [Bsb991da, Bs9a591a, Bsd348fb, Bs22b41b, .no, .no, .row .y 5, .row (.a .y) 33, Bs2be90b]⟩]
def o32 (a0 : (Int × Int) × Int × List UInt8) (a1 : Bool) (a2 : (Int × Int × Int) × Bool × Int × Int) (a3 : Tyee0fd7) (a4 : List (Int × Int × Int × List UInt8)) (a5 : Int × Int) (a6 : List (List UInt8)) (a7 : List (Int × Int × Bool × List UInt8)) : Option Tyecde7a :=
 (bd (α := Int) (o71 (3 : Int) a2 a3 a4 (a5, a6, a7)) (fun v1 => (cnd (v1 != (0 : Int)) (some ((((((0 : Int), (0 : Int)), false, false, v1), a2), a3, a4), (a5, ([] : List UInt8)), a6, a7)) (bd (α := Bool) (o46 ((a2.1.1, (4 : Int), a2.1.2.2), a2.2) a3 a4 (a5, a6, a7)) (fun v2 => (bd (α := (((Int × Int) × Bool × Bool × Int) × Tyee0fd7 × List UInt8)) (o76 a0 a1 a3) (fun v4 => (bd (α := Ty7d0bd2) (bd (α := Bool) (o46 ((a2.1.1, (4 : Int), a2.1.2.2), a2.2) v4.2.1 a4 (a5, a6, a7)) (fun v5 => (cnd v5 (bd (α := Ty3a3879) (cnd (!v2) (bd (α := Ty5419cd) (o68 ((a2.1.1, (4 : Int), a2.1.2.2), a2.2) v4.2.1 a4 a5 a6 a7) (fun v6 => (some (((a1, v4.1.2.2), v6.1.1.1, v6.1.1.2, v6.1.2.1), (v6.1.2.2, a0, false), ((v4.1.1.1, v4.1.1.2, v4.1.2.1), v6.2.2.1), v6.2.2.2, v4.2.2)))) (some (((a1, v4.1.2.2), ((a2.1.1, (4 : Int), a2.1.2.2), a2.2), v4.2.1, a4), (a5, a0, false), ((v4.1.1.1, v4.1.1.2, v4.1.2.1), a6), a7, v4.2.2))) (fun v7 => (bd (α := (((Int × Int) × Bool × Int) × List UInt8)) (o77 v7.1.2.1.1.2.2 v7.2.1.2.1.2.2) (fun v9 => (bd (α := Tye42a0d) (cnd v7.1.1.1 (cnd (v7.2.1.2.1.1.1 == (2 : Int)) (cnd (v7.2.1.2.1.1.2 == (IntKind.wrap .u8 (IntKind.wrap .i64 ((3 : Int) - v7.1.2.1.1.1)))) (cnd (v7.2.1.2.1.2.1 == v7.1.2.1.1.2.2) (some (((v7.1.1.2.1, v7.1.1.2.2, (v9.1.2.2 == (0 : Int))), (v7.1.2.1, v7.1.2.2.1), v7.1.2.2.2, v7.2.1.1), (v7.2.1.2.2, v7.2.2.1.1, v9.1.1.1, v9.1.1.2, v9.1.2.1), (v7.2.2.1.2, v7.2.2.2.1), v7.2.2.2.2, v9.2)) (some (((v7.1.1.2.1, v7.1.1.2.2, false), (v7.1.2.1, v7.1.2.2.1), v7.1.2.2.2, v7.2.1.1), (v7.2.1.2.2, v7.2.2.1.1, v9.1.1.1, v9.1.1.2, v9.1.2.1), (v7.2.2.1.2, v7.2.2.2.1), v7.2.2.2.2, v9.2))) (some (((v7.1.1.2.1, v7.1.1.2.2, false), (v7.1.2.1, v7.1.2.2.1), v7.1.2.2.2, v7.2.1.1), (v7.2.1.2.2, v7.2.2.1.1, v9.1.1.1, v9.1.1.2, v9.1.2.1), (v7.2.2.1.2, v7.2.2.2.1), v7.2.2.2.2, v9.2))) (some (((v7.1.1.2.1, v7.1.1.2.2, false), (v7.1.2.1, v7.1.2.2.1), v7.1.2.2.2, v7.2.1.1), (v7.2.1.2.2, v7.2.2.1.1, v9.1.1.1, v9.1.1.2, v9.1.2.1), (v7.2.2.1.2, v7.2.2.2.1), v7.2.2.2.2, v9.2))) (some (((v7.1.1.2.1, v7.1.1.2.2, false), (v7.1.2.1, v7.1.2.2.1), v7.1.2.2.2, v7.2.1.1), (v7.2.1.2.2, v7.2.2.1.1, v9.1.1.1, v9.1.1.2, v9.1.2.1), (v7.2.2.1.2, v7.2.2.2.1), v7.2.2.2.2, v9.2))) (fun v10 => (bd (α := Ty072402) (o78 ((v10.2.1.2.2.1, v10.2.1.2.2.2.1), v10.2.1.2.2.2.2, v10.2.2.2.2) v10.1.1.2.2 v10.1.2.2.2 v10.2.2.1.1 v10.2.2.1.2) (fun v12 => (some (((v10.1.1.1, v10.1.1.2.1), v10.1.2.1.1, v10.1.2.1.2, v10.1.2.2.1), (v12.1, v10.2.1.1, v10.2.1.2.1), v10.2.2.2.1, v12.2)))))))))) (some ((v4.1.2.2, ((a2.1.1, (4 : Int), a2.1.2.2), a2.2), v4.2.1, a4), (a5, false, v4.1.1.1, v4.1.1.2, v4.1.2.1), v4.2.2, a6, a7))))) (fun v13 => (some (((((v13.2.1.2.2.1, v13.2.1.2.2.2.1), v13.2.1.2.2.2.2, v13.1.1), v13.1.2.1), v13.1.2.2), (v13.2.1.1, v13.2.2.1), v13.2.2.2)))))))))))
def h32 : HC := (.s .d (.s .d (.s .d (.s .d (.s (.r 2) (.j false [o32_s2] (.s (.s .d (.c (.j false [o32_s1] (.s .d (.s (.r 2) (.s (.j false [o32_s0] .d) (.r 2))))) .d)) .d)))))))
theorem e32 (t : Tybfb8d5) : evF (stpT Tryz.prog T70 K70) Tryz.f32 p32 r32 h32 t = (o32 t.1.1.1 t.1.1.2 t.1.2.1 t.1.2.2 t.2.1.1 t.2.1.2 t.2.2.1 t.2.2.2) := by kernel_rfl
def n32 : FSp := ⟨p32, r32, fun t => (o32 t.1.1.1 t.1.1.2 t.1.2.1 t.1.2.2 t.2.1.1 t.2.1.2 t.2.2.1 t.2.2.2)⟩
theorem fo32 : FOk Tryz.prog 32 n32 := fk e32
def T71 : Tbl := (32, n32) :: T70
theorem K71 : TOk Tryz.prog T71 := .cons K70 fo32
def o137_s0 : Sch := ⟨[(3, .v (.c (.i .u64))), (6, .v (.c (.ro .y false))), (7, .v (.c (.i .i64))), (8, .v (.c (.i .i64)))], []⟩
def p137 : Sch := ⟨[(0, .v (.c (.ro .y false)))], []⟩
def r137 : List Sch := [⟨[(0, .v (.c (.i .i64)))], []⟩]
def o137_b0 (v2 : (Int × List UInt8) × Int × Int) :=
 (cnd (decide (v2.2.2 < v2.2.1)) (gd (decide ((0 : Int) ≤ v2.2.2 ∧ v2.2.2 < ((v2.1.2.length : Nat) : Int))) (gd (decide ((0 : Int) ≤ (IntKind.wrap .i64 ((8 : Int) * v2.2.2)))) (some (Ctl.go (((lorK .u64 v2.1.1 (shlK .u64 (IntKind.wrap .u64 ((UInt8.toNat (List.getD v2.1.2 v2.2.2.toNat (0 : UInt8)) : Nat) : Int)) (IntKind.wrap .i64 ((8 : Int) * v2.2.2)))), v2.1.2), v2.2.1, (IntKind.wrap .i64 (v2.2.2 + (1 : Int)))))))) (dnO (some (IntKind.wrap .i64 v2.1.1))))
def o137 (a0 : List UInt8) : Option Int :=
 (loopO (σ := (Int × List UInt8) × Int × Int) fuelN o137_b0 (((0 : Int), a0), ((a0.length : Nat) : Int), (0 : Int)))
def h137 : HC := (.s .d (.s .d (.s (.s .d (.b (.l [o137_s0] .d))) .d)))
theorem e137 (t : List UInt8) : evF (stpT Tryz.prog T71 K71) Tryz.f137 p137 r137 h137 t = (o137 t) := by kernel_rfl
def n137 : FSp := ⟨p137, r137, fun t => (o137 t)⟩
theorem fo137 : FOk Tryz.prog 137 n137 := fk e137
def T72 : Tbl := (137, n137) :: T71
theorem K72 : TOk Tryz.prog T72 := .cons K71 fo137
end
end Go.Proofs.YtpleflcfaecojaaGreat
