/-
What functions compute, printed by wip/h/py. Conditions: each theorem's own.
-/
import Derived.Test.YtpleflcfaecojaaGreatM13
namespace Go.Proofs.YtpleflcfaecojaaGreat
set_option linter.unusedVariables false
set_option linter.unusedSimpArgs false
set_option maxRecDepth 100000
open Go.RowKit
noncomputable section
def Sscf45e0 : SSh := .v (.c (.cap (.cap (.fn 34) (.ptr 15 0)) (.ptr 16 0)))
abbrev Ty27ad8a : Type := (((Tyb141af × Tyf90a5e) × (Int × Int × Int) × Int × Int × Int) × (((Int × Int × Int) × Bool × Int × Int) × Tyee0fd7) × (List (Int × Int × Int × List UInt8)) × Int × Int) × ((List (List UInt8) × List (Int × Int × Bool × List UInt8)) × ((Int × Int × Int) × Bool × Int × Int) × Tyee0fd7) × ((List (Int × Int × Int × List UInt8)) × Int × Int) × List (List UInt8) × (List (Int × Int × Bool × List UInt8)) × Ty87c277
abbrev Ty0b44b8 : Type := (((Tyf90a5e × Int × Int × Int) × (Int × Int × Int) × (Int × Int × Int) × Bool × Int × Int) × (Tyee0fd7 × List (Int × Int × Int × List UInt8)) × (Int × Int) × List (List UInt8) × List (Int × Int × Bool × List UInt8)) × ((((Int × Int × Int) × Bool × Int × Int) × Tyee0fd7) × (List (Int × Int × Int × List UInt8)) × (Int × Int) × List (List UInt8)) × ((List (Int × Int × Bool × List UInt8)) × Ty87c277) × Ty2564bc × Ty9a0469 × Bool × Bool
abbrev Ty4037c5 : Type := (((Ty2564bc × Tyf90a5e) × (Int × Int × Int) × Int × Int × Int) × (((Int × Int × Int) × Bool × Int × Int) × Tyee0fd7) × (List (Int × Int × Int × List UInt8)) × Int × Int) × ((List (List UInt8) × List (Int × Int × Bool × List UInt8)) × ((Int × Int × Int) × Bool × Int × Int) × Tyee0fd7) × ((List (Int × Int × Int × List UInt8)) × Int × Int) × List (List UInt8) × (List (Int × Int × Bool × List UInt8)) × Ty87c277
def o23v6_s0 : Sch := ⟨[(0, .v (.c (.ptr 0 0))), (1, .v (.c (.ic .i64 (2)))), (3, Sscf45e0), (6, .v (.c (.ptr 17 0))), (8, .v (.c (.ptr 18 0))), (9, .v (.c (.ptr 19 0))), (15, .v (.c (.ic .i64 (0))))], [Bsfd4721, Bsa76b8c, Bsa76b8c, Bsc8128b, Bs9a591a, Bsd348fb, Bs22b41b, .row (.a .y) 33, Bs2be90b, Bs997e77, Bs9a591a, Bsd348fb, Bs757da4, .row (.a .y) 33, Bs2be90b, .cells 30 [.ptr 0 0], Bs63f402, Bs2f241a, Bsfb4f5f, .cells 34 [.b, .b]]⟩
def o23v6_s1 : Sch := ⟨[(0, .v (.c (.ptr 0 0))), (1, .v (.c (.ic .i64 (2)))), (3, Sscf45e0), (6, .v (.c (.ptr 17 0))), (8, .v (.c (.ptr 18 0))), (9, .v (.c (.ptr 19 0))), (15, .v (.c (.ic .i64 (1))))], [Bsfd4721, Bsa76b8c, Bsa76b8c, Bsc8128b, Bs9a591a, Bsd348fb, Bs22b41b, .row (.a .y) 33, Bs2be90b, Bs997e77, Bs9a591a, Bsd348fb, Bs757da4, .row (.a .y) 33, Bs2be90b, .cells 30 [.ptr 0 0], Bs63f402, Bs2f241a, Bsfb4f5f, .cells 34 [.b, .b]]⟩
def p23v6 : Sch := ⟨[(0, .v (.c (.ptr 0 0))), (1, .v (.c (.ic .i64 (2)))), (2, Ss22e8ae), (3, Sscf45e0)], [Bsfd4721, Bsa76b8c, Bsa76b8c, Bsc8128b, Bs9a591a, Bsd348fb, Bs22b41b, .row (.a .y) 33, Bs2be90b, Bs997e77, Bs9a591a, Bsd348fb, Bs757da4, .row (.a .y) 33, Bs2be90b, .cells 30 [.ptr 0 0], Bs63f402]⟩
def r23v6 : List Sch := [⟨[(0, Ss710f2d)], [Bsfd4721, Bsa76b8c, Bsa76b8c, Bsc8128b, Bs9a591a, Bsd348fb, Bs22b41b, .row (.a .y) 33, Bs2be90b, Bs997e77, Bs9a591a, Bsd348fb, Bs757da4, .row (.a .y) 33, Bs2be90b, .cells 30 [.ptr 0 0], Bs63f402]⟩]
def o23v6 (a0 : Ty2564bc) (a1 : Tyf90a5e) (a2 : Int × Int × Int) (a3 : Int × Int × Int) (a4 : (Int × Int × Int) × Bool × Int × Int) (a5 : Tyee0fd7) (a6 : List (Int × Int × Int × List UInt8)) (a7 : Int × Int) (a8 : List (List UInt8)) (a9 : List (Int × Int × Bool × List UInt8)) (a10 : (Int × Int × Int) × Bool × Int × Int) (a11 : Tyee0fd7) (a12 : List (Int × Int × Int × List UInt8)) (a13 : Int × Int) (a14 : List (List UInt8)) (a15 : List (Int × Int × Bool × List UInt8)) (a16 : Ty87c277) : Option Ty27ad8a :=
 (bd (α := Ty0b44b8) (bd (α := Ty406602) (o34v1 a1 a2 a3 a4 a5 a6 a7 a8 a9 a10 a11 a12 a13 a14 a15 a16) (fun v1 => (cnd (!v1.1.1.1.1.2.2) (some ((((v1.1.1.1.2, v1.1.1.2.1), v1.1.1.2.2, v1.1.2.1.1), (v1.1.2.1.2, v1.1.2.2.1), v1.1.2.2.2, v1.2.1.1), (v1.2.1.2, v1.2.2.1.1, v1.2.2.1.2, v1.2.2.2.1), (v1.2.2.2.2.1, a16), a0, ((((0 : Int), (0 : Int)), (0 : Int), ([] : List UInt8)), ((0 : Int), (0 : Int)), (0 : Int), ([] : List UInt8)), false, false)) (bd (α := (Int × List UInt8)) (o69 (v1.1.1.1.1.1, v1.1.1.1.1.2.1, v1.2.2.2.2.2)) (fun v2 => (cnd (v2.1 != (0 : Int)) (some ((((v1.1.1.1.2, v1.1.1.2.1), v1.1.1.2.2, v1.1.2.1.1), (v1.1.2.1.2, v1.1.2.2.1), v1.1.2.2.2, v1.2.1.1), (v1.2.1.2, v1.2.2.1.1, v1.2.2.1.2, v1.2.2.2.1), (v1.2.2.2.2.1, a16), a0, ((((0 : Int), (0 : Int)), (0 : Int), ([] : List UInt8)), ((0 : Int), (0 : Int)), (0 : Int), ([] : List UInt8)), false, false)) (bd (α := ((Int × Int) × Int × List UInt8 × Bool)) (o70 v2.2 (a0.1.2.2.2.1, a0.1.2.2.2.2, a0.2.1.1.1.1) (3 : Int) (1 : Int) v1.1.1.1.2.1.2.2.2) (fun v4 => (some ((((v1.1.1.1.2, v1.1.1.2.1), v1.1.1.2.2, v1.1.2.1.1), (v1.1.2.1.2, v1.1.2.2.1), v1.1.2.2.2, v1.2.1.1), (v1.2.1.2, v1.2.2.1.1, v1.2.2.1.2, v1.2.2.2.1), (v1.2.2.2.2.1, a16), a0, ((((0 : Int), (0 : Int)), (0 : Int), ([] : List UInt8)), v4.1, v4.2.1, v4.2.2.1), false, v4.2.2.2)))))))))) (fun v5 => (bd (α := Ty0b44b8) (bd (α := Ty406602) (o34v2 v5.1.1.1.1 v5.1.1.1.2 v5.1.1.2.1 v5.1.1.2.2 v5.1.2.1.1 v5.1.2.1.2 v5.1.2.2.1 v5.1.2.2.2.1 v5.1.2.2.2.2 v5.2.1.1.1 v5.2.1.1.2 v5.2.1.2.1 v5.2.1.2.2.1 v5.2.1.2.2.2 v5.2.2.1.1 v5.2.2.1.2) (fun v6 => (cnd (!v6.1.1.1.1.2.2) (some ((((v6.1.1.1.2, v6.1.1.2.1), v6.1.1.2.2, v6.1.2.1.1), (v6.1.2.1.2, v6.1.2.2.1), v6.1.2.2.2, v6.2.1.1), (v6.2.1.2, v6.2.2.1.1, v6.2.2.1.2, v6.2.2.2.1), (v6.2.2.2.2.1, v5.2.2.1.2), v5.2.2.2)) (bd (α := (Int × List UInt8)) (o69 (v6.1.1.1.1.1, v6.1.1.1.1.2.1, v6.2.2.2.2.2)) (fun v7 => (cnd (v7.1 != (0 : Int)) (some ((((v6.1.1.1.2, v6.1.1.2.1), v6.1.1.2.2, v6.1.2.1.1), (v6.1.2.1.2, v6.1.2.2.1), v6.1.2.2.2, v6.2.1.1), (v6.2.1.2, v6.2.2.1.1, v6.2.2.1.2, v6.2.2.2.1), (v6.2.2.2.2.1, v5.2.2.1.2), v5.2.2.2)) (bd (α := ((Int × Int) × Int × List UInt8 × Bool)) (o70 v7.2 (v5.2.2.2.1.2.2.1.2.1, v5.2.2.2.1.2.2.1.2.2, v5.2.2.2.1.2.2.2.1.1) (3 : Int) (2 : Int) v6.1.1.1.2.1.2.2.2) (fun v9 => (some ((((v6.1.1.1.2, v6.1.1.2.1), v6.1.1.2.2, v6.1.2.1.1), (v6.1.2.1.2, v6.1.2.2.1), v6.1.2.2.2, v6.2.1.1), (v6.2.1.2, v6.2.2.1.1, v6.2.2.1.2, v6.2.2.2.1), (v6.2.2.2.2.1, v5.2.2.1.2), v5.2.2.2.1, ((v9.1, v9.2.1, v9.2.2.1), v5.2.2.2.2.1.2), v9.2.2.2, v5.2.2.2.2.2.2)))))))))) (fun v10 => (some ((((((v10.2.2.2.2.1.1.1, v10.2.2.2.2.1.1.2.1, v10.2.2.2.2.1.1.2.2, v10.2.2.2.2.1.2.1.1), (v10.2.2.2.2.1.2.1.2, v10.2.2.2.2.1.2.2.1), v10.2.2.2.2.1.2.2.2, v10.2.2.2.2.2), v10.1.1.1.1), v10.1.1.1.2, v10.1.1.2.1), (v10.1.1.2.2, v10.1.2.1.1), v10.1.2.1.2, v10.1.2.2.1), (v10.1.2.2.2, v10.2.1.1), (v10.2.1.2.1, v10.2.1.2.2.1), v10.2.1.2.2.2, v10.2.2.1))))))
def h23v6 : HC := (.s .d (.s (.s .d (.b (.u 3 (.v (.s .d (.s .d (.j false [o23v6_s0] .d))) (.v (.s .d (.s .d (.j false [o23v6_s1] .d))) (.v .d .d)))))) .d))
theorem e23v6 (t : Ty4037c5) : evF (stpT Tryz.prog T125 K125) Tryz.f23 p23v6 r23v6 h23v6 t = (o23v6 t.1.1.1.1 t.1.1.1.2 t.1.1.2.1 t.1.1.2.2 t.1.2.1.1 t.1.2.1.2 t.1.2.2.1 t.1.2.2.2 t.2.1.1.1 t.2.1.1.2 t.2.1.2.1 t.2.1.2.2 t.2.2.1.1 t.2.2.1.2 t.2.2.2.1 t.2.2.2.2.1 t.2.2.2.2.2) := by kernel_rfl
def n23v6 : FSp := ⟨p23v6, r23v6, fun t => (o23v6 t.1.1.1.1 t.1.1.1.2 t.1.1.2.1 t.1.1.2.2 t.1.2.1.1 t.1.2.1.2 t.1.2.2.1 t.1.2.2.2 t.2.1.1.1 t.2.1.1.2 t.2.1.2.1 t.2.1.2.2 t.2.2.1.1 t.2.2.1.2 t.2.2.2.1 t.2.2.2.2.1 t.2.2.2.2.2)⟩
theorem fo23v6 : FOk Tryz.prog 23 n23v6 := fk e23v6
def T126 : Tbl := (23, n23v6) :: T125
theorem K126 : TOk Tryz.prog T126 := .cons K125 fo23v6
abbrev Ty0dd8aa : Type := (((Tyf90a5e × Int × Int × Int) × (Int × Int × Int) × (Int × Int × Int) × Bool × Int × Int) × (Tyee0fd7 × List (Int × Int × Int × List UInt8)) × (Int × Int) × List (List UInt8) × List (Int × Int × Bool × List UInt8)) × ((((Int × Int × Int) × Bool × Int × Int) × Tyee0fd7) × (List (Int × Int × Int × List UInt8)) × Int × Int) × (List (List UInt8) × List (Int × Int × Bool × List UInt8)) × Ty9a0469 × (Bool × Bool) × Ty87c277
def p36v1 : Sch := ⟨[(0, .v (.c (.ic .i64 (0)))), (1, .v (.c (.ptr 0 0))), (2, .v (.c (.ptr 16 0))), (3, .v (.c (.ptr 17 0))), (4, .v (.c (.ptr 18 0)))], [.cells 30 [.ptr 1 0], Bs8465f5, Bsa76b8c, Bsa76b8c, Bse08b4f, Bs9a591a, Bsd348fb, Bs08fb81, .row (.a .y) 33, Bs2be90b, Bsaa0460, Bs9a591a, Bsd348fb, Bsc446fd, .row (.a .y) 33, Bs2be90b, Bsfb4f5f, .cells 34 [.b, .b], Bs63f402]⟩
def r36v1 : List Sch := [⟨[(0, .tup [])], [.cells 30 [.ptr 1 0], Bs8465f5, Bsa76b8c, Bsa76b8c, Bse08b4f, Bs9a591a, Bsd348fb, Bs08fb81, .row (.a .y) 33, Bs2be90b, Bsaa0460, Bs9a591a, Bsd348fb, Bsc446fd, .row (.a .y) 33, Bs2be90b, Bsfb4f5f, .cells 34 [.b, .b], Bs63f402]⟩]
def o36v1 (a0 : Tyf90a5e) (a1 : Int × Int × Int) (a2 : Int × Int × Int) (a3 : (Int × Int × Int) × Bool × Int × Int) (a4 : Tyee0fd7) (a5 : List (Int × Int × Int × List UInt8)) (a6 : Int × Int) (a7 : List (List UInt8)) (a8 : List (Int × Int × Bool × List UInt8)) (a9 : (Int × Int × Int) × Bool × Int × Int) (a10 : Tyee0fd7) (a11 : List (Int × Int × Int × List UInt8)) (a12 : Int × Int) (a13 : List (List UInt8)) (a14 : List (Int × Int × Bool × List UInt8)) (a15 : Ty9a0469) (a16 : Bool × Bool) (a17 : Ty87c277) : Option Ty0dd8aa :=
 (bd (α := Tyc628bf) (o37 a15.1 a16.1 a3 a4 a5 a6 a7 a8) (fun v2 => (some ((((a0, a1), a2, v2.1.2.1), (v2.1.2.2, v2.2.1.1), v2.2.1.2, v2.2.2), ((a9, a10), a11, a12), (a13, a14), a15, a16, ((a17.1.1.1, (v2.1.1.1, a17.1.1.2.1.2), a17.1.1.2.2), a17.1.2), a17.2))))
theorem e36v1 (t : Ty0dd8aa) : evF (stpT Tryz.prog T126 K126) Tryz.f36 p36v1 r36v1 .d t = (o36v1 t.1.1.1.1 t.1.1.1.2 t.1.1.2.1 t.1.1.2.2 t.1.2.1.1 t.1.2.1.2 t.1.2.2.1 t.1.2.2.2.1 t.1.2.2.2.2 t.2.1.1.1 t.2.1.1.2 t.2.1.2.1 t.2.1.2.2 t.2.2.1.1 t.2.2.1.2 t.2.2.2.1 t.2.2.2.2.1 t.2.2.2.2.2) := by kernel_rfl
def n36v1 : FSp := ⟨p36v1, r36v1, fun t => (o36v1 t.1.1.1.1 t.1.1.1.2 t.1.1.2.1 t.1.1.2.2 t.1.2.1.1 t.1.2.1.2 t.1.2.2.1 t.1.2.2.2.1 t.1.2.2.2.2 t.2.1.1.1 t.2.1.1.2 t.2.1.2.1 t.2.1.2.2 t.2.2.1.1 t.2.2.1.2 t.2.2.2.1 t.2.2.2.2.1 t.2.2.2.2.2)⟩
theorem fo36v1 : FOk Tryz.prog 36 n36v1 := fk e36v1
def T127 : Tbl := (36, n36v1) :: T126
theorem K127 : TOk Tryz.prog T127 := .cons K126 fo36v1
def p36v2 : Sch := ⟨[(0, .v (.c (.ic .i64 (1)))), (1, .v (.c (.ptr 0 0))), (2, .v (.c (.ptr 16 0))), (3, .v (.c (.ptr 17 0))), (4, .v (.c (.ptr 18 0)))], [.cells 30 [.ptr 1 0], Bs8465f5, Bsa76b8c, Bsa76b8c, Bse08b4f, Bs9a591a, Bsd348fb, Bs08fb81, .row (.a .y) 33, Bs2be90b, Bsaa0460, Bs9a591a, Bsd348fb, Bsc446fd, .row (.a .y) 33, Bs2be90b, Bsfb4f5f, .cells 34 [.b, .b], Bs63f402]⟩
def r36v2 : List Sch := [⟨[(0, .tup [])], [.cells 30 [.ptr 1 0], Bs8465f5, Bsa76b8c, Bsa76b8c, Bse08b4f, Bs9a591a, Bsd348fb, Bs08fb81, .row (.a .y) 33, Bs2be90b, Bsaa0460, Bs9a591a, Bsd348fb, Bsc446fd, .row (.a .y) 33, Bs2be90b, Bsfb4f5f, .cells 34 [.b, .b], Bs63f402]⟩]
def o36v2 (a0 : Tyf90a5e) (a1 : Int × Int × Int) (a2 : Int × Int × Int) (a3 : (Int × Int × Int) × Bool × Int × Int) (a4 : Tyee0fd7) (a5 : List (Int × Int × Int × List UInt8)) (a6 : Int × Int) (a7 : List (List UInt8)) (a8 : List (Int × Int × Bool × List UInt8)) (a9 : (Int × Int × Int) × Bool × Int × Int) (a10 : Tyee0fd7) (a11 : List (Int × Int × Int × List UInt8)) (a12 : Int × Int) (a13 : List (List UInt8)) (a14 : List (Int × Int × Bool × List UInt8)) (a15 : Ty9a0469) (a16 : Bool × Bool) (a17 : Ty87c277) : Option Ty0dd8aa :=
 (bd (α := Tyc628bf) (o37 a15.2 a16.2 a9 a10 a11 a12 a13 a14) (fun v2 => (some ((((a0, a1), a2, a3), (a4, a5), a6, a7, a8), (v2.1.2, v2.2.1), v2.2.2, a15, a16, ((a17.1.1.1, (a17.1.1.2.1.1, v2.1.1.1), a17.1.1.2.2), a17.1.2), a17.2))))
theorem e36v2 (t : Ty0dd8aa) : evF (stpT Tryz.prog T127 K127) Tryz.f36 p36v2 r36v2 .d t = (o36v2 t.1.1.1.1 t.1.1.1.2 t.1.1.2.1 t.1.1.2.2 t.1.2.1.1 t.1.2.1.2 t.1.2.2.1 t.1.2.2.2.1 t.1.2.2.2.2 t.2.1.1.1 t.2.1.1.2 t.2.1.2.1 t.2.1.2.2 t.2.2.1.1 t.2.2.1.2 t.2.2.2.1 t.2.2.2.2.1 t.2.2.2.2.2) := by kernel_rfl
def n36v2 : FSp := ⟨p36v2, r36v2, fun t => (o36v2 t.1.1.1.1 t.1.1.1.2 t.1.1.2.1 t.1.1.2.2 t.1.2.1.1 t.1.2.1.2 t.1.2.2.1 t.1.2.2.2.1 t.1.2.2.2.2 t.2.1.1.1 t.2.1.1.2 t.2.1.2.1 t.2.1.2.2 t.2.2.1.1 t.2.2.1.2 t.2.2.2.1 t.2.2.2.2.1 t.2.2.2.2.2)⟩
theorem fo36v2 : FOk Tryz.prog 36 n36v2 := fk e36v2
def T128 : Tbl := (36, n36v2) :: T127
theorem K128 : TOk Tryz.prog T128 := .cons K127 fo36v2
def Ssbb7495 : SSh := .v (.c (.cap (.cap (.cap (.cap (.fn 36) (.ptr 15 0)) (.ptr 16 0)) (.ptr 17 0)) (.ptr 18 0)))
def p26v7 : Sch := ⟨[(0, .v (.c (.ptr 0 0))), (1, Ssbb7495)], [Bsfd4721, Bsa76b8c, Bsa76b8c, Bsc8128b, Bs9a591a, Bsd348fb, Bs22b41b, .row (.a .y) 33, Bs2be90b, Bs997e77, Bs9a591a, Bsd348fb, Bs757da4, .row (.a .y) 33, Bs2be90b, .cells 30 [.ptr 0 0], Bsfb4f5f, .cells 34 [.b, .b], Bs63f402]⟩
def r26v7 : List Sch := [⟨[(0, .tup [])], [Bsfd4721, Bsa76b8c, Bsa76b8c, Bsc8128b, Bs9a591a, Bsd348fb, Bs22b41b, .row (.a .y) 33, Bs2be90b, Bs997e77, Bs9a591a, Bsd348fb, Bs757da4, .row (.a .y) 33, Bs2be90b, .cells 30 [.ptr 0 0], Bsfb4f5f, .cells 34 [.b, .b], Bs63f402]⟩]
def o26v7 (a0 : Tyf90a5e) (a1 : Int × Int × Int) (a2 : Int × Int × Int) (a3 : (Int × Int × Int) × Bool × Int × Int) (a4 : Tyee0fd7) (a5 : List (Int × Int × Int × List UInt8)) (a6 : Int × Int) (a7 : List (List UInt8)) (a8 : List (Int × Int × Bool × List UInt8)) (a9 : (Int × Int × Int) × Bool × Int × Int) (a10 : Tyee0fd7) (a11 : List (Int × Int × Int × List UInt8)) (a12 : Int × Int) (a13 : List (List UInt8)) (a14 : List (Int × Int × Bool × List UInt8)) (a15 : Ty9a0469) (a16 : Bool × Bool) (a17 : Ty87c277) : Option Ty0dd8aa :=
 (bd (α := Ty0dd8aa) (o36v1 a0 a1 a2 a3 a4 a5 a6 a7 a8 a9 a10 a11 a12 a13 a14 a15 a16 a17) (fun v1 => (bd (α := Ty0dd8aa) (o36v2 v1.1.1.1.1 v1.1.1.1.2 v1.1.1.2.1 v1.1.1.2.2 v1.1.2.1.1 v1.1.2.1.2 v1.1.2.2.1 v1.1.2.2.2.1 v1.1.2.2.2.2 v1.2.1.1.1 v1.2.1.1.2 v1.2.1.2.1 v1.2.1.2.2 v1.2.2.1.1 v1.2.2.1.2 v1.2.2.2.1 v1.2.2.2.2.1 v1.2.2.2.2.2) (fun v2 => (some v2)))))
def h26v7 : HC := (.s .d (.b (.u 3 (.v .d (.v .d (.v .d .d))))))
theorem e26v7 (t : Ty0dd8aa) : evF (stpT Tryz.prog T128 K128) Tryz.f26 p26v7 r26v7 h26v7 t = (o26v7 t.1.1.1.1 t.1.1.1.2 t.1.1.2.1 t.1.1.2.2 t.1.2.1.1 t.1.2.1.2 t.1.2.2.1 t.1.2.2.2.1 t.1.2.2.2.2 t.2.1.1.1 t.2.1.1.2 t.2.1.2.1 t.2.1.2.2 t.2.2.1.1 t.2.2.1.2 t.2.2.2.1 t.2.2.2.2.1 t.2.2.2.2.2) := by kernel_rfl
def n26v7 : FSp := ⟨p26v7, r26v7, fun t => (o26v7 t.1.1.1.1 t.1.1.1.2 t.1.1.2.1 t.1.1.2.2 t.1.2.1.1 t.1.2.1.2 t.1.2.2.1 t.1.2.2.2.1 t.1.2.2.2.2 t.2.1.1.1 t.2.1.1.2 t.2.1.2.1 t.2.1.2.2 t.2.2.1.1 t.2.2.1.2 t.2.2.2.1 t.2.2.2.2.1 t.2.2.2.2.2)⟩
theorem fo26v7 : FOk Tryz.prog 26 n26v7 := fk e26v7
def T129 : Tbl := (26, n26v7) :: T128
theorem K129 : TOk Tryz.prog T129 := .cons K128 fo26v7
abbrev Ty858f7c : Type := (((Tyf90a5e × Int × Int × Int) × (Int × Int × Int) × (Int × Int × Int) × Bool × Int × Int) × (Tyee0fd7 × List (Int × Int × Int × List UInt8)) × (Int × Int) × List (List UInt8)) × (((List (Int × Int × Bool × List UInt8)) × (Int × Int × Int) × Bool × Int × Int) × Tyee0fd7 × List (Int × Int × Int × List UInt8)) × ((Int × Int) × List (List UInt8)) × (List (Int × Int × Bool × List UInt8)) × ((Int × Int) × Int × List UInt8) × List UInt8
def o38v1_s0 : Sch := ⟨[(0, .v (.c (.ic .i64 (0)))), (1, .v (.c (.ptr 0 0))), (3, .v (.c (.ptr 16 0))), (5, .v (.c (.own 17)))], [.cells 30 [.ptr 1 0], Bs8465f5, Bsa76b8c, Bsa76b8c, Bse08b4f, Bs9a591a, Bsd348fb, Bs08fb81, .row (.a .y) 33, Bs2be90b, Bsaa0460, Bs9a591a, Bsd348fb, Bsc446fd, .row (.a .y) 33, Bs2be90b, Bs10dd8a, .row .y 5]⟩
def p38v1 : Sch := ⟨[(0, .v (.c (.ic .i64 (0)))), (1, .v (.c (.ptr 0 0)))], [.cells 30 [.ptr 1 0], Bs8465f5, Bsa76b8c, Bsa76b8c, Bse08b4f, Bs9a591a, Bsd348fb, Bs08fb81, .row (.a .y) 33, Bs2be90b, Bsaa0460, Bs9a591a, Bsd348fb, Bsc446fd, .row (.a .y) 33, Bs2be90b]⟩
def r38v1 : List Sch := [⟨[(0, Ss147516)], [.cells 30 [.ptr 1 0], Bs8465f5, Bsa76b8c, Bsa76b8c, Bse08b4f, Bs9a591a, Bsd348fb, Bs08fb81, .row (.a .y) 33, Bs2be90b, Bsaa0460, Bs9a591a, Bsd348fb, Bsc446fd, .row (.a .y) 33, Bs2be90b, .row .y 5]⟩]
def o38v1 (a0 : Tyf90a5e) (a1 : Int × Int × Int) (a2 : Int × Int × Int) (a3 : (Int × Int × Int) × Bool × Int × Int) (a4 : Tyee0fd7) (a5 : List (Int × Int × Int × List UInt8)) (a6 : Int × Int) (a7 : List (List UInt8)) (a8 : List (Int × Int × Bool × List UInt8)) (a9 : (Int × Int × Int) × Bool × Int × Int) (a10 : Tyee0fd7) (a11 : List (Int × Int × Int × List UInt8)) (a12 : Int × Int) (a13 : List (List UInt8)) (a14 : List (Int × Int × Bool × List UInt8)) : Option Ty406602 :=
 (bd (α := Ty858f7c) (cnd a3.2.1 (bd (α := (List UInt8)) (o180 a1) (fun v1 => (some ((((a0, a1), a2, a3), (a4, a5), a6, a7), ((a8, a9), a10, a11), (a12, a13), a14, (((0 : Int), (0 : Int)), (0 : Int), ([] : List UInt8)), v1)))) (some ((((a0, a1), a2, a3), (a4, a5), a6, a7), ((a8, a9), a10, a11), (a12, a13), a14, (((0 : Int), (0 : Int)), (0 : Int), ([] : List UInt8)), ([] : List UInt8)))) (fun v2 => (bd (α := Ty1ccefe) (o39 v2.2.2.2.2.2 v2.1.1.2.2 v2.1.2.1.1 v2.1.2.1.2 v2.1.2.2.1 v2.1.2.2.2 v2.2.1.1.1) (fun v3 => (some (((((v3.1.1.1.1, v3.1.1.1.2.1, v3.1.1.1.2.2.1), v2.1.1.1.1), v2.1.1.1.2, v2.1.1.2.1), (v3.1.1.2, v3.1.2.1), v3.1.2.2, v3.2.1.1), ((v3.2.1.2, v3.2.2.1), v2.2.1.1.2, v2.2.1.2.1), (v2.2.1.2.2, v2.2.2.1.1), v2.2.2.1.2, v2.2.2.2.1, v3.2.2.2))))))
theorem e38v1 (t : Ty58d09e) : evF (stpT Tryz.prog T129 K129) Tryz.f38 p38v1 r38v1 (.s .d (.s .d (.j false [o38v1_s0] .d))) t = (o38v1 t.1.1.1 t.1.1.2.1 t.1.1.2.2 t.1.2.1.1 t.1.2.1.2 t.1.2.2.1 t.1.2.2.2 t.2.1.1.1 t.2.1.1.2 t.2.1.2.1 t.2.1.2.2 t.2.2.1.1 t.2.2.1.2 t.2.2.2.1 t.2.2.2.2) := by kernel_rfl
def n38v1 : FSp := ⟨p38v1, r38v1, fun t => (o38v1 t.1.1.1 t.1.1.2.1 t.1.1.2.2 t.1.2.1.1 t.1.2.1.2 t.1.2.2.1 t.1.2.2.2 t.2.1.1.1 t.2.1.1.2 t.2.1.2.1 t.2.1.2.2 t.2.2.1.1 t.2.2.1.2 t.2.2.2.1 t.2.2.2.2)⟩
theorem fo38v1 : FOk Tryz.prog 38 n38v1 := fk e38v1
def T130 : Tbl := (38, n38v1) :: T129
theorem K130 : TOk Tryz.prog T130 := .cons K129 fo38v1
def o38v2_s0 : Sch := ⟨[(0, .v (.c (.ic .i64 (1)))), (1, .v (.c (.ptr 0 0))), (3, .v (.c (.ptr 16 0))), (5, .v (.c (.own 17)))], [.cells 30 [.ptr 1 0], Bs8465f5, Bsa76b8c, Bsa76b8c, Bse08b4f, Bs9a591a, Bsd348fb, Bs08fb81, .row (.a .y) 33, Bs2be90b, Bsaa0460, Bs9a591a, Bsd348fb, Bsc446fd, .row (.a .y) 33, Bs2be90b, Bs10dd8a, .row .y 5]⟩
def p38v2 : Sch := ⟨[(0, .v (.c (.ic .i64 (1)))), (1, .v (.c (.ptr 0 0)))], [.cells 30 [.ptr 1 0], Bs8465f5, Bsa76b8c, Bsa76b8c, Bse08b4f, Bs9a591a, Bsd348fb, Bs08fb81, .row (.a .y) 33, Bs2be90b, Bsaa0460, Bs9a591a, Bsd348fb, Bsc446fd, .row (.a .y) 33, Bs2be90b]⟩
def r38v2 : List Sch := [⟨[(0, Ss147516)], [.cells 30 [.ptr 1 0], Bs8465f5, Bsa76b8c, Bsa76b8c, Bse08b4f, Bs9a591a, Bsd348fb, Bs08fb81, .row (.a .y) 33, Bs2be90b, Bsaa0460, Bs9a591a, Bsd348fb, Bsc446fd, .row (.a .y) 33, Bs2be90b, .row .y 5]⟩]
def o38v2 (a0 : Tyf90a5e) (a1 : Int × Int × Int) (a2 : Int × Int × Int) (a3 : (Int × Int × Int) × Bool × Int × Int) (a4 : Tyee0fd7) (a5 : List (Int × Int × Int × List UInt8)) (a6 : Int × Int) (a7 : List (List UInt8)) (a8 : List (Int × Int × Bool × List UInt8)) (a9 : (Int × Int × Int) × Bool × Int × Int) (a10 : Tyee0fd7) (a11 : List (Int × Int × Int × List UInt8)) (a12 : Int × Int) (a13 : List (List UInt8)) (a14 : List (Int × Int × Bool × List UInt8)) : Option Ty406602 :=
 (bd (α := Ty858f7c) (cnd a9.2.1 (bd (α := (List UInt8)) (o180 a2) (fun v1 => (some ((((a0, a1), a2, a3), (a4, a5), a6, a7), ((a8, a9), a10, a11), (a12, a13), a14, (((0 : Int), (0 : Int)), (0 : Int), ([] : List UInt8)), v1)))) (some ((((a0, a1), a2, a3), (a4, a5), a6, a7), ((a8, a9), a10, a11), (a12, a13), a14, (((0 : Int), (0 : Int)), (0 : Int), ([] : List UInt8)), ([] : List UInt8)))) (fun v2 => (bd (α := Ty1ccefe) (o39 v2.2.2.2.2.2 v2.2.1.1.2 v2.2.1.2.1 v2.2.1.2.2 v2.2.2.1.1 v2.2.2.1.2 v2.2.2.2.1) (fun v3 => (some (((((v3.1.1.1.1, v3.1.1.1.2.1, v3.1.1.1.2.2.1), v2.1.1.1.1), v2.1.1.1.2, v2.1.1.2.1), (v2.1.1.2.2, v2.1.2.1.1), v2.1.2.1.2, v2.1.2.2.1), ((v2.1.2.2.2, v2.2.1.1.1), v3.1.1.2, v3.1.2.1), (v3.1.2.2, v3.2.1.1), v3.2.1.2, v3.2.2))))))
theorem e38v2 (t : Ty58d09e) : evF (stpT Tryz.prog T130 K130) Tryz.f38 p38v2 r38v2 (.s .d (.s .d (.j false [o38v2_s0] .d))) t = (o38v2 t.1.1.1 t.1.1.2.1 t.1.1.2.2 t.1.2.1.1 t.1.2.1.2 t.1.2.2.1 t.1.2.2.2 t.2.1.1.1 t.2.1.1.2 t.2.1.2.1 t.2.1.2.2 t.2.2.1.1 t.2.2.1.2 t.2.2.2.1 t.2.2.2.2) := by kernel_rfl
def n38v2 : FSp := ⟨p38v2, r38v2, fun t => (o38v2 t.1.1.1 t.1.1.2.1 t.1.1.2.2 t.1.2.1.1 t.1.2.1.2 t.1.2.2.1 t.1.2.2.2 t.2.1.1.1 t.2.1.1.2 t.2.1.2.1 t.2.1.2.2 t.2.2.1.1 t.2.2.1.2 t.2.2.2.1 t.2.2.2.2)⟩
theorem fo38v2 : FOk Tryz.prog 38 n38v2 := fk e38v2
def T131 : Tbl := (38, n38v2) :: T130
theorem K131 : TOk Tryz.prog T131 := .cons K130 fo38v2
def Ssd54ce6 : SSh := .v (.c (.cap (.fn 38) (.ptr 15 0)))
def o23v7_s0 : Sch := ⟨[(0, .v (.c (.ptr 0 0))), (1, .v (.c (.ic .i64 (3)))), (3, Ssd54ce6), (6, .v (.c (.ptr 16 0))), (8, .v (.c (.ptr 17 0))), (9, .v (.c (.ptr 18 0))), (15, .v (.c (.ic .i64 (0))))], [Bsfd4721, Bsa76b8c, Bsa76b8c, Bsc8128b, Bs9a591a, Bsd348fb, Bs22b41b, .row (.a .y) 33, Bs2be90b, Bs997e77, Bs9a591a, Bsd348fb, Bs757da4, .row (.a .y) 33, Bs2be90b, .cells 30 [.ptr 0 0], Bs2f241a, Bsfb4f5f, .cells 34 [.b, .b]]⟩
def o23v7_s1 : Sch := ⟨[(0, .v (.c (.ptr 0 0))), (1, .v (.c (.ic .i64 (3)))), (3, Ssd54ce6), (6, .v (.c (.ptr 16 0))), (8, .v (.c (.ptr 17 0))), (9, .v (.c (.ptr 18 0))), (15, .v (.c (.ic .i64 (1))))], [Bsfd4721, Bsa76b8c, Bsa76b8c, Bsc8128b, Bs9a591a, Bsd348fb, Bs22b41b, .row (.a .y) 33, Bs2be90b, Bs997e77, Bs9a591a, Bsd348fb, Bs757da4, .row (.a .y) 33, Bs2be90b, .cells 30 [.ptr 0 0], Bs2f241a, Bsfb4f5f, .cells 34 [.b, .b]]⟩
def p23v7 : Sch := ⟨[(0, .v (.c (.ptr 0 0))), (1, .v (.c (.ic .i64 (3)))), (2, Ss22e8ae), (3, Ssd54ce6)], [Bsfd4721, Bsa76b8c, Bsa76b8c, Bsc8128b, Bs9a591a, Bsd348fb, Bs22b41b, .row (.a .y) 33, Bs2be90b, Bs997e77, Bs9a591a, Bsd348fb, Bs757da4, .row (.a .y) 33, Bs2be90b, .cells 30 [.ptr 0 0]]⟩
def r23v7 : List Sch := [⟨[(0, Ss710f2d)], [Bsfd4721, Bsa76b8c, Bsa76b8c, Bsc8128b, Bs9a591a, Bsd348fb, Bs22b41b, .row (.a .y) 33, Bs2be90b, Bs997e77, Bs9a591a, Bsd348fb, Bs757da4, .row (.a .y) 33, Bs2be90b, .cells 30 [.ptr 0 0]]⟩]
def o23v7 (a0 : Ty2564bc) (a1 : Tyf90a5e) (a2 : Int × Int × Int) (a3 : Int × Int × Int) (a4 : (Int × Int × Int) × Bool × Int × Int) (a5 : Tyee0fd7) (a6 : List (Int × Int × Int × List UInt8)) (a7 : Int × Int) (a8 : List (List UInt8)) (a9 : List (Int × Int × Bool × List UInt8)) (a10 : (Int × Int × Int) × Bool × Int × Int) (a11 : Tyee0fd7) (a12 : List (Int × Int × Int × List UInt8)) (a13 : Int × Int) (a14 : List (List UInt8)) (a15 : List (Int × Int × Bool × List UInt8)) : Option Ty030ebb :=
 (bd (α := Ty9ea927) (bd (α := Ty406602) (o38v1 a1 a2 a3 a4 a5 a6 a7 a8 a9 a10 a11 a12 a13 a14 a15) (fun v1 => (cnd (!v1.1.1.1.1.2.2) (some ((((v1.1.1.1.2, v1.1.1.2.1), v1.1.1.2.2, v1.1.2.1.1), (v1.1.2.1.2, v1.1.2.2.1), v1.1.2.2.2, v1.2.1.1), (v1.2.1.2, v1.2.2.1), (v1.2.2.2.1, v1.2.2.2.2.1), a0, ((((0 : Int), (0 : Int)), (0 : Int), ([] : List UInt8)), ((0 : Int), (0 : Int)), (0 : Int), ([] : List UInt8)), false, false)) (bd (α := (Int × List UInt8)) (o69 (v1.1.1.1.1.1, v1.1.1.1.1.2.1, v1.2.2.2.2.2)) (fun v2 => (cnd (v2.1 != (0 : Int)) (some ((((v1.1.1.1.2, v1.1.1.2.1), v1.1.1.2.2, v1.1.2.1.1), (v1.1.2.1.2, v1.1.2.2.1), v1.1.2.2.2, v1.2.1.1), (v1.2.1.2, v1.2.2.1), (v1.2.2.2.1, v1.2.2.2.2.1), a0, ((((0 : Int), (0 : Int)), (0 : Int), ([] : List UInt8)), ((0 : Int), (0 : Int)), (0 : Int), ([] : List UInt8)), false, false)) (bd (α := ((Int × Int) × Int × List UInt8 × Bool)) (o70 v2.2 (a0.2.1.1.1.2, a0.2.1.1.2) (4 : Int) (1 : Int) v1.1.1.1.2.1.2.2.2) (Kfbe6b16 v1 a0)))))))) (fun v5 => (bd (α := Ty9ea927) (bd (α := Ty406602) (o38v2 v5.1.1.1.1 v5.1.1.1.2 v5.1.1.2.1 v5.1.1.2.2 v5.1.2.1.1 v5.1.2.1.2 v5.1.2.2.1 v5.1.2.2.2.1 v5.1.2.2.2.2 v5.2.1.1.1 v5.2.1.1.2 v5.2.1.2.1 v5.2.1.2.2 v5.2.2.1.1 v5.2.2.1.2) (fun v6 => (cnd (!v6.1.1.1.1.2.2) (some ((((v6.1.1.1.2, v6.1.1.2.1), v6.1.1.2.2, v6.1.2.1.1), (v6.1.2.1.2, v6.1.2.2.1), v6.1.2.2.2, v6.2.1.1), (v6.2.1.2, v6.2.2.1), (v6.2.2.2.1, v6.2.2.2.2.1), v5.2.2.2)) (bd (α := (Int × List UInt8)) (o69 (v6.1.1.1.1.1, v6.1.1.1.1.2.1, v6.2.2.2.2.2)) (fun v7 => (cnd (v7.1 != (0 : Int)) (some ((((v6.1.1.1.2, v6.1.1.2.1), v6.1.1.2.2, v6.1.2.1.1), (v6.1.2.1.2, v6.1.2.2.1), v6.1.2.2.2, v6.2.1.1), (v6.2.1.2, v6.2.2.1), (v6.2.2.2.1, v6.2.2.2.2.1), v5.2.2.2)) (bd (α := ((Int × Int) × Int × List UInt8 × Bool)) (o70 v7.2 (v5.2.2.2.1.2.2.2.1.2, v5.2.2.2.1.2.2.2.2) (4 : Int) (2 : Int) v6.1.1.1.2.1.2.2.2) (fun v9 => (some ((((v6.1.1.1.2, v6.1.1.2.1), v6.1.1.2.2, v6.1.2.1.1), (v6.1.2.1.2, v6.1.2.2.1), v6.1.2.2.2, v6.2.1.1), (v6.2.1.2, v6.2.2.1), (v6.2.2.2.1, v6.2.2.2.2.1), v5.2.2.2.1, ((v9.1, v9.2.1, v9.2.2.1), v5.2.2.2.2.1.2), v9.2.2.2, v5.2.2.2.2.2.2)))))))))) Kfa37a10)))
def h23v7 : HC := (.s .d (.s (.s .d (.b (.u 3 (.v (.s .d (.s .d (.j false [o23v7_s0] .d))) (.v (.s .d (.s .d (.j false [o23v7_s1] .d))) (.v .d .d)))))) .d))
theorem e23v7 (t : Tyc44526) : evF (stpT Tryz.prog T131 K131) Tryz.f23 p23v7 r23v7 h23v7 t = (o23v7 t.1.1.1.1 t.1.1.1.2 t.1.1.2.1 t.1.1.2.2 t.1.2.1.1 t.1.2.1.2 t.1.2.2.1 t.1.2.2.2 t.2.1.1.1 t.2.1.1.2 t.2.1.2.1 t.2.1.2.2 t.2.2.1.1 t.2.2.1.2 t.2.2.2.1 t.2.2.2.2) := by kernel_rfl
def n23v7 : FSp := ⟨p23v7, r23v7, fun t => (o23v7 t.1.1.1.1 t.1.1.1.2 t.1.1.2.1 t.1.1.2.2 t.1.2.1.1 t.1.2.1.2 t.1.2.2.1 t.1.2.2.2 t.2.1.1.1 t.2.1.1.2 t.2.1.2.1 t.2.1.2.2 t.2.2.1.1 t.2.2.1.2 t.2.2.2.1 t.2.2.2.2)⟩
theorem fo23v7 : FOk Tryz.prog 23 n23v7 := fk e23v7
def T132 : Tbl := (23, n23v7) :: T131
theorem K132 : TOk Tryz.prog T132 := .cons K131 fo23v7
abbrev Ty089b91 : Type := ((Tyf90a5e × (Int × Int × Int) × Int × Int × Int) × (((Int × Int × Int) × Bool × Int × Int) × Tyee0fd7) × (List (Int × Int × Int × List UInt8)) × Int × Int) × ((((Int × Int × Int) × Bool × Int × Int) × Tyee0fd7) × (List (Int × Int × Int × List UInt8)) × Int × Int) × (List (List UInt8) × List (Int × Int × Bool × List UInt8)) × List (List UInt8) × List (Int × Int × Bool × List UInt8)
abbrev Ty15a187 : Type := (((Int × Int) × Tyf90a5e × Int × Int × Int) × ((Int × Int × Int) × (Int × Int × Int) × Bool × Int × Int) × Tyee0fd7 × (List (Int × Int × Int × List UInt8)) × Int × Int) × ((((Int × Int × Int) × Bool × Int × Int) × Tyee0fd7) × (List (Int × Int × Int × List UInt8)) × Int × Int) × (List (List UInt8) × List (Int × Int × Bool × List UInt8)) × (List (Int × Int × Bool × List UInt8)) × List (List UInt8) × List (Int × Int × Bool × List UInt8)
abbrev Ty2a52ee : Type := (((((Int × Int) × Int × List UInt8) × Bool) × Tyf90a5e × Int × Int × Int) × ((Int × Int × Int) × (Int × Int × Int) × Bool × Int × Int) × Tyee0fd7 × List (Int × Int × Int × List UInt8)) × (((Int × Int) × List (List UInt8)) × (List (Int × Int × Bool × List UInt8)) × (Int × Int × Int) × Bool × Int × Int) × (Tyee0fd7 × List (Int × Int × Int × List UInt8)) × (Int × Int) × List (List UInt8) × List (Int × Int × Bool × List UInt8)
def o41v1_s0 : Sch := ⟨[(0, .v (.c (.ptr 0 0))), (1, .v (.c (.ic .i64 (0)))), (46, .v (.c (.own 15))), (47, .v (.c (.i .i64))), (48, .v (.c (.i .i64)))], [Bsfd4721, Bsa76b8c, Bsa76b8c, Bsc8128b, Bs9a591a, Bsd348fb, Bsd8dd64, .no, .no, Bs997e77, Bs9a591a, Bsd348fb, Bs757da4, .row (.a .y) 33, Bs2be90b, Bs2be90b, .row (.a .y) 33, Bs2be90b]⟩
def p41v1 : Sch := ⟨[(0, .v (.c (.ptr 0 0))), (1, .v (.c (.ic .i64 (0)))), (2, Ss545519), (3, .v (.c (.b)))], [Bsfd4721, Bsa76b8c, Bsa76b8c, Bsc8128b, Bs9a591a, Bsd348fb, Bs22b41b, .row (.a .y) 33, Bs2be90b, Bs997e77, Bs9a591a, Bsd348fb, Bs757da4, .row (.a .y) 33, Bs2be90b]⟩
def r41v1 : List Sch := [⟨[(0, .tup [])], [Bsfd4721, Bsa76b8c, Bsa76b8c, Bsc8128b, Bs9a591a, Bsd348fb, Bs171075, .no, .no, Bs997e77, Bs9a591a, Bsd348fb, Bs757da4, .row (.a .y) 33, Bs2be90b, .row (.a .y) 33, Bs2be90b]⟩]
def o41v1_b0 (v7 : Ty15a187) :=
 (cnd (decide (v7.1.1.1.2 < v7.1.1.1.1)) (gd (decide ((0 : Int) ≤ v7.1.1.1.2 ∧ v7.1.1.1.2 < ((v7.2.2.2.1.length : Nat) : Int))) (bd (α := (Ty8dd30f × Int × Int × Int)) (o181 (((List.getD v7.2.2.2.1 v7.1.1.1.2.toNat ((0 : Int), ((0 : Int), (false, ([] : List UInt8))))).2).1) ((((List.getD v7.2.2.2.1 v7.1.1.1.2.toNat ((0 : Int), ((0 : Int), (false, ([] : List UInt8))))).2).2).2) v7.1.1.2.2) (fun v9 => (some (Ctl.go ((((v7.1.1.1.1, (IntKind.wrap .i64 (v7.1.1.1.2 + (1 : Int)))), v7.1.1.2.1, v9.2), v7.1.2), v7.2)))))) (dnO (some (((v7.1.1.2.1, v7.1.1.2.2, v7.1.2.1.1), (v7.1.2.1.2, v7.1.2.2.1), v7.1.2.2.2), v7.2.1, v7.2.2.1, v7.2.2.2.2))))
def o41v1 (a0 : (Int × Int) × Int × List UInt8) (a1 : Bool) (a2 : Tyf90a5e) (a3 : Int × Int × Int) (a4 : Int × Int × Int) (a5 : (Int × Int × Int) × Bool × Int × Int) (a6 : Tyee0fd7) (a7 : List (Int × Int × Int × List UInt8)) (a8 : Int × Int) (a9 : List (List UInt8)) (a10 : List (Int × Int × Bool × List UInt8)) (a11 : (Int × Int × Int) × Bool × Int × Int) (a12 : Tyee0fd7) (a13 : List (Int × Int × Int × List UInt8)) (a14 : Int × Int) (a15 : List (List UInt8)) (a16 : List (Int × Int × Bool × List UInt8)) : Option Ty089b91 :=
 (bd (α := Ty08f832) (o83 a0 a1 a5 a6 a7 a8 a9 a10) (fun v2 => (cnd (!v2.1.1.1.2.1) (some (((a2, a3, a4), (v2.1.1.2, v2.1.2.1), v2.1.2.2, v2.2.1.1), ((a11, a12), a13, a14), (a15, a16), v2.2.2.2)) (bd (α := (Int × Int × Int × Int)) (o179 v2.2.1.2 a3) (fun v4 => (cnd (v4.1 != (0 : Int)) (bd (α := Ty5419cd) (o22 v2.1.1.2 v2.1.2.1 v2.1.2.2 v2.2.1.1 v2.2.2.2.1 v2.2.2.2.2) (fun v5 => (some (((a2, v4.2, a4), v5.1), ((a11, a12), a13, a14), (a15, a16), v5.2.2)))) (loopO (σ := Ty15a187) fuelN o41v1_b0 ((((((v2.2.2.1.length : Nat) : Int), (0 : Int)), a2, v4.2), (a4, v2.1.1.2), v2.1.2.1, v2.1.2.2, v2.2.1.1), ((a11, a12), a13, a14), (a15, a16), v2.2.2))))))))
def h41v1 : HC := (.s .d (.s (.r 5) (.s .d (.s .d (.s .d (.b (.l [o41v1_s0] .d)))))))
theorem e41v1 (t : Ty2a52ee) : evF (stpT Tryz.prog T132 K132) Tryz.f41 p41v1 r41v1 h41v1 t = (o41v1 t.1.1.1.1 t.1.1.1.2 t.1.1.2.1 t.1.1.2.2 t.1.2.1.1 t.1.2.1.2 t.1.2.2.1 t.1.2.2.2 t.2.1.1.1 t.2.1.1.2 t.2.1.2.1 t.2.1.2.2 t.2.2.1.1 t.2.2.1.2 t.2.2.2.1 t.2.2.2.2.1 t.2.2.2.2.2) := by kernel_rfl
def n41v1 : FSp := ⟨p41v1, r41v1, fun t => (o41v1 t.1.1.1.1 t.1.1.1.2 t.1.1.2.1 t.1.1.2.2 t.1.2.1.1 t.1.2.1.2 t.1.2.2.1 t.1.2.2.2 t.2.1.1.1 t.2.1.1.2 t.2.1.2.1 t.2.1.2.2 t.2.2.1.1 t.2.2.1.2 t.2.2.2.1 t.2.2.2.2.1 t.2.2.2.2.2)⟩
theorem fo41v1 : FOk Tryz.prog 41 n41v1 := fk e41v1
def T133 : Tbl := (41, n41v1) :: T132
theorem K133 : TOk Tryz.prog T133 := .cons K132 fo41v1
def p40v1 : Sch := ⟨[(0, .v (.c (.ic .i64 (0)))), (1, .v (.c (.ptr 0 0))), (2, .v (.c (.ptr 16 0))), (3, .v (.c (.ptr 17 0)))], [.cells 30 [.ptr 1 0], Bs8465f5, Bsa76b8c, Bsa76b8c, Bse08b4f, Bs9a591a, Bsd348fb, Bs08fb81, .row (.a .y) 33, Bs2be90b, Bsaa0460, Bs9a591a, Bsd348fb, Bsc446fd, .row (.a .y) 33, Bs2be90b, Bsfb4f5f, .cells 34 [.b, .b]]⟩
def r40v1 : List Sch := [⟨[(0, .tup [])], [.cells 30 [.ptr 1 0], Bs8465f5, Bsa76b8c, Bsa76b8c, Bse08b4f, Bs9a591a, Bsd348fb, Bs9d5bc6, .no, .no, Bsaa0460, Bs9a591a, Bsd348fb, Bsc446fd, .row (.a .y) 33, Bs2be90b, Bsfb4f5f, .cells 34 [.b, .b], .row (.a .y) 33, Bs2be90b]⟩]
def o40v1 (a0 : Tyf90a5e) (a1 : Int × Int × Int) (a2 : Int × Int × Int) (a3 : (Int × Int × Int) × Bool × Int × Int) (a4 : Tyee0fd7) (a5 : List (Int × Int × Int × List UInt8)) (a6 : Int × Int) (a7 : List (List UInt8)) (a8 : List (Int × Int × Bool × List UInt8)) (a9 : (Int × Int × Int) × Bool × Int × Int) (a10 : Tyee0fd7) (a11 : List (Int × Int × Int × List UInt8)) (a12 : Int × Int) (a13 : List (List UInt8)) (a14 : List (Int × Int × Bool × List UInt8)) (a15 : Ty9a0469) (a16 : Bool × Bool) : Option Tyc0b25a :=
 (bd (α := Ty089b91) (o41v1 a15.1 a16.1 a0 a1 a2 a3 a4 a5 a6 a7 a8 a9 a10 a11 a12 a13 a14) (fun v2 => (some ((((v2.1.1.1, v2.1.1.2.1), v2.1.1.2.2, v2.1.2.1.1), (v2.1.2.1.2, v2.1.2.2.1), v2.1.2.2.2, v2.2.1.1.1), ((v2.2.1.1.2, v2.2.1.2.1), v2.2.1.2.2, v2.2.2.1.1), (v2.2.2.1.2, a15), a16, v2.2.2.2))))
theorem e40v1 (t : Tyc54e99) : evF (stpT Tryz.prog T133 K133) Tryz.f40 p40v1 r40v1 (.r 2) t = (o40v1 t.1.1.1.1 t.1.1.1.2 t.1.1.2.1 t.1.1.2.2 t.1.2.1.1 t.1.2.1.2 t.1.2.2.1 t.1.2.2.2 t.2.1.1.1 t.2.1.1.2 t.2.1.2.1 t.2.1.2.2 t.2.2.1.1 t.2.2.1.2 t.2.2.2.1 t.2.2.2.2.1 t.2.2.2.2.2) := by kernel_rfl
def n40v1 : FSp := ⟨p40v1, r40v1, fun t => (o40v1 t.1.1.1.1 t.1.1.1.2 t.1.1.2.1 t.1.1.2.2 t.1.2.1.1 t.1.2.1.2 t.1.2.2.1 t.1.2.2.2 t.2.1.1.1 t.2.1.1.2 t.2.1.2.1 t.2.1.2.2 t.2.2.1.1 t.2.2.1.2 t.2.2.2.1 t.2.2.2.2.1 t.2.2.2.2.2)⟩
theorem fo40v1 : FOk Tryz.prog 40 n40v1 := fk e40v1
def T134 : Tbl := (40, n40v1) :: T133
theorem K134 : TOk Tryz.prog T134 := .cons K133 fo40v1
abbrev Tyb07b80 : Type := (((Int × Int) × Tyf90a5e × Int × Int × Int) × ((Int × Int × Int) × (Int × Int × Int) × Bool × Int × Int) × Tyee0fd7 × (List (Int × Int × Int × List UInt8)) × Int × Int) × ((List (List UInt8) × List (Int × Int × Bool × List UInt8)) × ((Int × Int × Int) × Bool × Int × Int) × Tyee0fd7) × ((List (Int × Int × Int × List UInt8)) × Int × Int) × (List (Int × Int × Bool × List UInt8)) × List (List UInt8) × List (Int × Int × Bool × List UInt8)
def o41v2_s0 : Sch := ⟨[(0, .v (.c (.ptr 0 0))), (1, .v (.c (.ic .i64 (1)))), (46, .v (.c (.own 15))), (47, .v (.c (.i .i64))), (48, .v (.c (.i .i64)))], [Bsfd4721, Bsa76b8c, Bsa76b8c, Bsc8128b, Bs9a591a, Bsd348fb, Bs22b41b, .row (.a .y) 33, Bs2be90b, Bs997e77, Bs9a591a, Bsd348fb, Bsd8dd64, .no, .no, Bs2be90b, .row (.a .y) 33, Bs2be90b]⟩
def p41v2 : Sch := ⟨[(0, .v (.c (.ptr 0 0))), (1, .v (.c (.ic .i64 (1)))), (2, Ss545519), (3, .v (.c (.b)))], [Bsfd4721, Bsa76b8c, Bsa76b8c, Bsc8128b, Bs9a591a, Bsd348fb, Bs22b41b, .row (.a .y) 33, Bs2be90b, Bs997e77, Bs9a591a, Bsd348fb, Bs757da4, .row (.a .y) 33, Bs2be90b]⟩
def r41v2 : List Sch := [⟨[(0, .tup [])], [Bsfd4721, Bsa76b8c, Bsa76b8c, Bsc8128b, Bs9a591a, Bsd348fb, Bs22b41b, .row (.a .y) 33, Bs2be90b, Bs997e77, Bs9a591a, Bsd348fb, Bs171075, .no, .no, .row (.a .y) 33, Bs2be90b]⟩]
def o41v2_b0 (v7 : Tyb07b80) :=
 (cnd (decide (v7.1.1.1.2 < v7.1.1.1.1)) (gd (decide ((0 : Int) ≤ v7.1.1.1.2 ∧ v7.1.1.1.2 < ((v7.2.2.2.1.length : Nat) : Int))) (bd (α := (Ty8dd30f × Int × Int × Int)) (o181 (((List.getD v7.2.2.2.1 v7.1.1.1.2.toNat ((0 : Int), ((0 : Int), (false, ([] : List UInt8))))).2).1) ((((List.getD v7.2.2.2.1 v7.1.1.1.2.toNat ((0 : Int), ((0 : Int), (false, ([] : List UInt8))))).2).2).2) v7.1.2.1.1) (fun v9 => (some (Ctl.go ((((v7.1.1.1.1, (IntKind.wrap .i64 (v7.1.1.1.2 + (1 : Int)))), v7.1.1.2), (v9.2, v7.1.2.1.2), v7.1.2.2), v7.2)))))) (dnO (some (((v7.1.1.2.1, v7.1.1.2.2, v7.1.2.1.1), (v7.1.2.1.2, v7.1.2.2.1), v7.1.2.2.2), v7.2.1, v7.2.2.1, v7.2.2.2.2))))
def o41v2 (a0 : (Int × Int) × Int × List UInt8) (a1 : Bool) (a2 : Tyf90a5e) (a3 : Int × Int × Int) (a4 : Int × Int × Int) (a5 : (Int × Int × Int) × Bool × Int × Int) (a6 : Tyee0fd7) (a7 : List (Int × Int × Int × List UInt8)) (a8 : Int × Int) (a9 : List (List UInt8)) (a10 : List (Int × Int × Bool × List UInt8)) (a11 : (Int × Int × Int) × Bool × Int × Int) (a12 : Tyee0fd7) (a13 : List (Int × Int × Int × List UInt8)) (a14 : Int × Int) (a15 : List (List UInt8)) (a16 : List (Int × Int × Bool × List UInt8)) : Option Ty58d09e :=
 (bd (α := Ty08f832) (o83 a0 a1 a11 a12 a13 a14 a15 a16) (fun v2 => (cnd (!v2.1.1.1.2.1) (some (((a2, a3, a4), (a5, a6), a7, a8), ((a9, a10), v2.1.1.2, v2.1.2.1), (v2.1.2.2, v2.2.1.1), v2.2.2.2)) (bd (α := (Int × Int × Int × Int)) (o179 v2.2.1.2 a4) (fun v4 => (cnd (v4.1 != (0 : Int)) (bd (α := Ty5419cd) (o22 v2.1.1.2 v2.1.2.1 v2.1.2.2 v2.2.1.1 v2.2.2.2.1 v2.2.2.2.2) (fun v5 => (some (((a2, a3, v4.2), (a5, a6), a7, a8), ((a9, a10), v5.1.1), v5.1.2, v5.2.2)))) (loopO (σ := Tyb07b80) fuelN o41v2_b0 ((((((v2.2.2.1.length : Nat) : Int), (0 : Int)), a2, a3), (v4.2, a5), a6, a7, a8), ((a9, a10), v2.1.1.2, v2.1.2.1), (v2.1.2.2, v2.2.1.1), v2.2.2))))))))
def h41v2 : HC := (.s .d (.s (.r 5) (.s .d (.s .d (.s .d (.b (.l [o41v2_s0] .d)))))))
theorem e41v2 (t : Ty2a52ee) : evF (stpT Tryz.prog T134 K134) Tryz.f41 p41v2 r41v2 h41v2 t = (o41v2 t.1.1.1.1 t.1.1.1.2 t.1.1.2.1 t.1.1.2.2 t.1.2.1.1 t.1.2.1.2 t.1.2.2.1 t.1.2.2.2 t.2.1.1.1 t.2.1.1.2 t.2.1.2.1 t.2.1.2.2 t.2.2.1.1 t.2.2.1.2 t.2.2.2.1 t.2.2.2.2.1 t.2.2.2.2.2) := by kernel_rfl
def n41v2 : FSp := ⟨p41v2, r41v2, fun t => (o41v2 t.1.1.1.1 t.1.1.1.2 t.1.1.2.1 t.1.1.2.2 t.1.2.1.1 t.1.2.1.2 t.1.2.2.1 t.1.2.2.2 t.2.1.1.1 t.2.1.1.2 t.2.1.2.1 t.2.1.2.2 t.2.2.1.1 t.2.2.1.2 t.2.2.2.1 t.2.2.2.2.1 t.2.2.2.2.2)⟩
theorem fo41v2 : FOk Tryz.prog 41 n41v2 := fk e41v2
def T135 : Tbl := (41, n41v2) :: T134
theorem K135 : TOk Tryz.prog T135 := .cons K134 fo41v2
def p40v2 : Sch := ⟨[(0, .v (.c (.ic .i64 (1)))), (1, .v (.c (.ptr 0 0))), (2, .v (.c (.ptr 16 0))), (3, .v (.c (.ptr 17 0)))], [.cells 30 [.ptr 1 0], Bs8465f5, Bsa76b8c, Bsa76b8c, Bse08b4f, Bs9a591a, Bsd348fb, Bs08fb81, .row (.a .y) 33, Bs2be90b, Bsaa0460, Bs9a591a, Bsd348fb, Bsc446fd, .row (.a .y) 33, Bs2be90b, Bsfb4f5f, .cells 34 [.b, .b]]⟩
def r40v2 : List Sch := [⟨[(0, .tup [])], [.cells 30 [.ptr 1 0], Bs8465f5, Bsa76b8c, Bsa76b8c, Bse08b4f, Bs9a591a, Bsd348fb, Bs08fb81, .row (.a .y) 33, Bs2be90b, Bsaa0460, Bs9a591a, Bsd348fb, Bs9d5bc6, .no, .no, Bsfb4f5f, .cells 34 [.b, .b], .row (.a .y) 33, Bs2be90b]⟩]
def o40v2 (a0 : Tyf90a5e) (a1 : Int × Int × Int) (a2 : Int × Int × Int) (a3 : (Int × Int × Int) × Bool × Int × Int) (a4 : Tyee0fd7) (a5 : List (Int × Int × Int × List UInt8)) (a6 : Int × Int) (a7 : List (List UInt8)) (a8 : List (Int × Int × Bool × List UInt8)) (a9 : (Int × Int × Int) × Bool × Int × Int) (a10 : Tyee0fd7) (a11 : List (Int × Int × Int × List UInt8)) (a12 : Int × Int) (a13 : List (List UInt8)) (a14 : List (Int × Int × Bool × List UInt8)) (a15 : Ty9a0469) (a16 : Bool × Bool) : Option Tyf4db64 :=
 (bd (α := Ty58d09e) (o41v2 a15.2 a16.2 a0 a1 a2 a3 a4 a5 a6 a7 a8 a9 a10 a11 a12 a13 a14) (fun v2 => (some ((((v2.1.1.1, v2.1.1.2.1), v2.1.1.2.2, v2.1.2.1.1), (v2.1.2.1.2, v2.1.2.2.1), v2.1.2.2.2, v2.2.1.1.1), ((v2.2.1.1.2, v2.2.1.2.1), v2.2.1.2.2, v2.2.2.1.1), (v2.2.2.1.2, a15), a16, v2.2.2.2))))
theorem e40v2 (t : Tyc54e99) : evF (stpT Tryz.prog T135 K135) Tryz.f40 p40v2 r40v2 (.r 2) t = (o40v2 t.1.1.1.1 t.1.1.1.2 t.1.1.2.1 t.1.1.2.2 t.1.2.1.1 t.1.2.1.2 t.1.2.2.1 t.1.2.2.2 t.2.1.1.1 t.2.1.1.2 t.2.1.2.1 t.2.1.2.2 t.2.2.1.1 t.2.2.1.2 t.2.2.2.1 t.2.2.2.2.1 t.2.2.2.2.2) := by kernel_rfl
def n40v2 : FSp := ⟨p40v2, r40v2, fun t => (o40v2 t.1.1.1.1 t.1.1.1.2 t.1.1.2.1 t.1.1.2.2 t.1.2.1.1 t.1.2.1.2 t.1.2.2.1 t.1.2.2.2 t.2.1.1.1 t.2.1.1.2 t.2.1.2.1 t.2.1.2.2 t.2.2.1.1 t.2.2.1.2 t.2.2.2.1 t.2.2.2.2.1 t.2.2.2.2.2)⟩
theorem fo40v2 : FOk Tryz.prog 40 n40v2 := fk e40v2
def T136 : Tbl := (40, n40v2) :: T135
theorem K136 : TOk Tryz.prog T136 := .cons K135 fo40v2
def Ssd736d1 : SSh := .v (.c (.cap (.cap (.cap (.fn 40) (.ptr 15 0)) (.ptr 16 0)) (.ptr 17 0)))
def p26v8 : Sch := ⟨[(0, .v (.c (.ptr 0 0))), (1, Ssd736d1)], [Bsfd4721, Bsa76b8c, Bsa76b8c, Bsc8128b, Bs9a591a, Bsd348fb, Bs22b41b, .row (.a .y) 33, Bs2be90b, Bs997e77, Bs9a591a, Bsd348fb, Bs757da4, .row (.a .y) 33, Bs2be90b, .cells 30 [.ptr 0 0], Bsfb4f5f, .cells 34 [.b, .b]]⟩
def r26v8 : List Sch := [⟨[(0, .tup [])], [Bsfd4721, Bsa76b8c, Bsa76b8c, Bsc8128b, Bs9a591a, Bsd348fb, Bs9d5bc6, .no, .no, Bs997e77, Bs9a591a, Bsd348fb, Bs967a7f, .no, .no, .cells 30 [.ptr 0 0], Bsfb4f5f, .cells 34 [.b, .b], .row (.a .y) 33, Bs2be90b, .row (.a .y) 33, Bs2be90b]⟩]
def o26v8 (a0 : Tyf90a5e) (a1 : Int × Int × Int) (a2 : Int × Int × Int) (a3 : (Int × Int × Int) × Bool × Int × Int) (a4 : Tyee0fd7) (a5 : List (Int × Int × Int × List UInt8)) (a6 : Int × Int) (a7 : List (List UInt8)) (a8 : List (Int × Int × Bool × List UInt8)) (a9 : (Int × Int × Int) × Bool × Int × Int) (a10 : Tyee0fd7) (a11 : List (Int × Int × Int × List UInt8)) (a12 : Int × Int) (a13 : List (List UInt8)) (a14 : List (Int × Int × Bool × List UInt8)) (a15 : Ty9a0469) (a16 : Bool × Bool) : Option Tydd8a98 :=
 (bd (α := Tyc0b25a) (o40v1 a0 a1 a2 a3 a4 a5 a6 a7 a8 a9 a10 a11 a12 a13 a14 a15 a16) (fun v1 => (bd (α := Tyf4db64) (o40v2 v1.1.1.1.1 v1.1.1.1.2 v1.1.1.2.1 v1.1.1.2.2 v1.1.2.1.1 v1.1.2.1.2 v1.1.2.2.1 v1.2.2.2.2.1 v1.2.2.2.2.2 v1.1.2.2.2 v1.2.1.1.1 v1.2.1.1.2 v1.2.1.2.1 v1.2.1.2.2 v1.2.2.1.1 v1.2.2.1.2 v1.2.2.2.1) (fun v2 => (some ((v2.1.1, v2.1.2.1, v2.1.2.2.1, v2.2.1.1.2), (v2.2.1.2, v2.2.2.1), (v2.2.2.2.1, v2.1.2.2.2), v2.2.1.1.1, v2.2.2.2.2))))))
def h26v8 : HC := (.s .d (.b (.u 3 (.v .d (.v .d (.v .d .d))))))
theorem e26v8 (t : Tyc54e99) : evF (stpT Tryz.prog T136 K136) Tryz.f26 p26v8 r26v8 h26v8 t = (o26v8 t.1.1.1.1 t.1.1.1.2 t.1.1.2.1 t.1.1.2.2 t.1.2.1.1 t.1.2.1.2 t.1.2.2.1 t.1.2.2.2 t.2.1.1.1 t.2.1.1.2 t.2.1.2.1 t.2.1.2.2 t.2.2.1.1 t.2.2.1.2 t.2.2.2.1 t.2.2.2.2.1 t.2.2.2.2.2) := by kernel_rfl
def n26v8 : FSp := ⟨p26v8, r26v8, fun t => (o26v8 t.1.1.1.1 t.1.1.1.2 t.1.1.2.1 t.1.1.2.2 t.1.2.1.1 t.1.2.1.2 t.1.2.2.1 t.1.2.2.2 t.2.1.1.1 t.2.1.1.2 t.2.1.2.1 t.2.1.2.2 t.2.2.1.1 t.2.2.1.2 t.2.2.2.1 t.2.2.2.2.1 t.2.2.2.2.2)⟩
theorem fo26v8 : FOk Tryz.prog 26 n26v8 := fk e26v8
def T137 : Tbl := (26, n26v8) :: T136
theorem K137 : TOk Tryz.prog T137 := .cons K136 fo26v8
def Bs649b77 : BSh := .lent [.ifc 60 (.ptr 2 0), .ifc 60 (.ptr 3 0), .ptr 4 0, .ptr 8 0, .ro .y false, .i .i64, .i .i64, .i .i64, .i .i64, .i .i64, .i .u8, .i .u8, .i .u8, .i .i64, .i .i64, .i .i64, .i .i64]
def Bsb4deb7 : BSh := .lent [.i .i64, .ptr 9 0, .ptr 10 0, .ptr 11 0, .i .i64, .i .i64, .b, .i .i64, .i .i64]
abbrev Tye9d972 : Type := ((Tyf90a5e × (Int × Int × Int) × Int × Int × Int) × ((Int × Int × Int) × Bool × Int × Int) × Tyee0fd7 × List (Int × Int × Int × List UInt8)) × (Ty072402 × ((Int × Int × Int) × Bool × Int × Int) × Tyee0fd7) × (List (Int × Int × Int × List UInt8)) × Ty072402 × Ty87c277
def p42v1 : Sch := ⟨[(0, .v (.c (.ic .i64 (0)))), (1, .v (.c (.ptr 0 0))), (2, .v (.c (.ptr 12 0)))], [.lent [.ptr 1 0], Bs649b77, .lent [.i .u64, .i .i64, .i .i64], .lent [.i .u64, .i .i64, .i .i64], Bse3980d, Bs037393, Bs76555b, Bsf212a0, Bsb4deb7, Bs037393, Bs76555b, Bsf212a0, Bs63f402]⟩
def r42v1 : List Sch := [⟨[(0, .tup [])], [.no, .no, .no, .no, .no, .no, .no, .no, .no, .no, .no, .no, Bs63f402]⟩]
def o42v1 (a0 : Tyf90a5e) (a1 : Int × Int × Int) (a2 : Int × Int × Int) (a3 : (Int × Int × Int) × Bool × Int × Int) (a4 : Tyee0fd7) (a5 : List (Int × Int × Int × List UInt8)) (a6 : Ty072402) (a7 : (Int × Int × Int) × Bool × Int × Int) (a8 : Tyee0fd7) (a9 : List (Int × Int × Int × List UInt8)) (a10 : Ty072402) (a11 : Ty87c277) : Option Ty87c277 :=
 (bd (α := Tyee0fd7) (o43 a3 a4 a5 a6) (fun v1 => (bd (α := Int) (o44 v1) (fun v4 => (bd (α := Int) (o45 v1) (fun v5 => (some ((((a11.1.1.1.1, v4, a11.1.1.1.2.2), a11.1.1.2.1, v5, a11.1.1.2.2.2), a11.1.2), a11.2))))))))
theorem e42v1 (t : Tye9d972) : evF (stpT Tryz.prog T137 K137) Tryz.f42 p42v1 r42v1 .d t = (o42v1 t.1.1.1 t.1.1.2.1 t.1.1.2.2 t.1.2.1 t.1.2.2.1 t.1.2.2.2 t.2.1.1 t.2.1.2.1 t.2.1.2.2 t.2.2.1 t.2.2.2.1 t.2.2.2.2) := by kernel_rfl
def n42v1 : FSp := ⟨p42v1, r42v1, fun t => (o42v1 t.1.1.1 t.1.1.2.1 t.1.1.2.2 t.1.2.1 t.1.2.2.1 t.1.2.2.2 t.2.1.1 t.2.1.2.1 t.2.1.2.2 t.2.2.1 t.2.2.2.1 t.2.2.2.2)⟩
theorem fo42v1 : FOk Tryz.prog 42 n42v1 := fk e42v1
def T138 : Tbl := (42, n42v1) :: T137
theorem K138 : TOk Tryz.prog T138 := .cons K137 fo42v1
def p42v2 : Sch := ⟨[(0, .v (.c (.ic .i64 (1)))), (1, .v (.c (.ptr 0 0))), (2, .v (.c (.ptr 12 0)))], [.lent [.ptr 1 0], Bs649b77, .lent [.i .u64, .i .i64, .i .i64], .lent [.i .u64, .i .i64, .i .i64], Bse3980d, Bs037393, Bs76555b, Bsf212a0, Bsb4deb7, Bs037393, Bs76555b, Bsf212a0, Bs63f402]⟩
def r42v2 : List Sch := [⟨[(0, .tup [])], [.no, .no, .no, .no, .no, .no, .no, .no, .no, .no, .no, .no, Bs63f402]⟩]
def o42v2 (a0 : Tyf90a5e) (a1 : Int × Int × Int) (a2 : Int × Int × Int) (a3 : (Int × Int × Int) × Bool × Int × Int) (a4 : Tyee0fd7) (a5 : List (Int × Int × Int × List UInt8)) (a6 : Ty072402) (a7 : (Int × Int × Int) × Bool × Int × Int) (a8 : Tyee0fd7) (a9 : List (Int × Int × Int × List UInt8)) (a10 : Ty072402) (a11 : Ty87c277) : Option Ty87c277 :=
 (bd (α := Tyee0fd7) (o43 a7 a8 a9 a10) (fun v1 => (bd (α := Int) (o44 v1) (fun v4 => (bd (α := Int) (o45 v1) (fun v5 => (some ((((a11.1.1.1.1, a11.1.1.1.2.1, v4), a11.1.1.2.1, a11.1.1.2.2.1, v5), a11.1.2), a11.2))))))))
theorem e42v2 (t : Tye9d972) : evF (stpT Tryz.prog T138 K138) Tryz.f42 p42v2 r42v2 .d t = (o42v2 t.1.1.1 t.1.1.2.1 t.1.1.2.2 t.1.2.1 t.1.2.2.1 t.1.2.2.2 t.2.1.1 t.2.1.2.1 t.2.1.2.2 t.2.2.1 t.2.2.2.1 t.2.2.2.2) := by kernel_rfl
def n42v2 : FSp := ⟨p42v2, r42v2, fun t => (o42v2 t.1.1.1 t.1.1.2.1 t.1.1.2.2 t.1.2.1 t.1.2.2.1 t.1.2.2.2 t.2.1.1 t.2.1.2.1 t.2.1.2.2 t.2.2.1 t.2.2.2.1 t.2.2.2.2)⟩
theorem fo42v2 : FOk Tryz.prog 42 n42v2 := fk e42v2
def T139 : Tbl := (42, n42v2) :: T138
theorem K139 : TOk Tryz.prog T139 := .cons K138 fo42v2
def Ssc42713 : SSh := .v (.c (.cap (.cap (.fn 42) (.ptr 15 0)) (.ptr 16 0)))
def p26v9 : Sch := ⟨[(0, .v (.c (.ptr 0 0))), (1, Ssc42713)], [Bsfd4721, Bsa76b8c, Bsa76b8c, Bsc8128b, Bs9a591a, Bsd348fb, Bs22b41b, .row (.a .y) 33, Bs2be90b, Bs997e77, Bs9a591a, Bsd348fb, Bs757da4, .row (.a .y) 33, Bs2be90b, .cells 30 [.ptr 0 0], Bs63f402]⟩
def r26v9 : List Sch := [⟨[(0, .tup [])], [Bsfd4721, Bsa76b8c, Bsa76b8c, Bsc8128b, Bs9a591a, Bsd348fb, Bs22b41b, .row (.a .y) 33, Bs2be90b, Bs997e77, Bs9a591a, Bsd348fb, Bs757da4, .row (.a .y) 33, Bs2be90b, .cells 30 [.ptr 0 0], Bs63f402]⟩]
def o26v9 (a0 : Tyf90a5e) (a1 : Int × Int × Int) (a2 : Int × Int × Int) (a3 : (Int × Int × Int) × Bool × Int × Int) (a4 : Tyee0fd7) (a5 : List (Int × Int × Int × List UInt8)) (a6 : Int × Int) (a7 : List (List UInt8)) (a8 : List (Int × Int × Bool × List UInt8)) (a9 : (Int × Int × Int) × Bool × Int × Int) (a10 : Tyee0fd7) (a11 : List (Int × Int × Int × List UInt8)) (a12 : Int × Int) (a13 : List (List UInt8)) (a14 : List (Int × Int × Bool × List UInt8)) (a15 : Ty87c277) : Option Ty23d05b :=
 (bd (α := Ty87c277) (o42v1 a0 a1 a2 a3 a4 a5 (a6, a7, a8) a9 a10 a11 (a12, a13, a14) a15) (fun v1 => (bd (α := Ty87c277) (o42v2 a0 a1 a2 a3 a4 a5 (a6, a7, a8) a9 a10 a11 (a12, a13, a14) v1) (fun v2 => (some ((((a0, a1), a2, a3), (a4, a5), a6, a7), ((a8, a9), a10, a11), (a12, a13), a14, v2))))))
def h26v9 : HC := (.s .d (.b (.u 3 (.v .d (.v .d (.v .d .d))))))
theorem e26v9 (t : Ty23d05b) : evF (stpT Tryz.prog T139 K139) Tryz.f26 p26v9 r26v9 h26v9 t = (o26v9 t.1.1.1.1 t.1.1.1.2 t.1.1.2.1 t.1.1.2.2 t.1.2.1.1 t.1.2.1.2 t.1.2.2.1 t.1.2.2.2 t.2.1.1.1 t.2.1.1.2 t.2.1.2.1 t.2.1.2.2 t.2.2.1.1 t.2.2.1.2 t.2.2.2.1 t.2.2.2.2) := by kernel_rfl
def n26v9 : FSp := ⟨p26v9, r26v9, fun t => (o26v9 t.1.1.1.1 t.1.1.1.2 t.1.1.2.1 t.1.1.2.2 t.1.2.1.1 t.1.2.1.2 t.1.2.2.1 t.1.2.2.2 t.2.1.1.1 t.2.1.1.2 t.2.1.2.1 t.2.1.2.2 t.2.2.1.1 t.2.2.1.2 t.2.2.2.1 t.2.2.2.2)⟩
theorem fo26v9 : FOk Tryz.prog 26 n26v9 := fk e26v9
def T140 : Tbl := (26, n26v9) :: T139
theorem K140 : TOk Tryz.prog T140 := .cons K139 fo26v9
def Ssf05787 : SSh := .v (.c (.cap (.cap (.fn 24) (.ptr 3 0)) (.ptr 4 0)))
def Bs217775 : BSh := .cells 105 [.ifc 60 (.ptr 1 0), .ifc 60 (.ptr 2 0), .cst (.pointer none), .cst (.pointer none), .ro .y true, .i .i64, .i .i64, .i .i64, .i .i64, .i .i64, .i .u8, .i .u8, .i .u8, .i .i64, .i .i64, .i .i64, .i .i64]
def Ssfd2c5d : SSh := .tup [.agg [.ic .u8 (0), .ic .u8 (0), .ic .i64 (0), .cst (.slice none 0 0), .ic .u8 (0), .ic .u8 (0), .ic .i64 (0), .cst (.slice none 0 0)], .agg [.b, .b]]
abbrev Tydd1740 : Type := ((Bool × Bool) × Tyf90a5e) × (Int × Int × Int) × (Int × Int × Int) × List UInt8 × List UInt8
abbrev Ty9f8d2a : Type := (Ty2564bc × Tyf90a5e) × (Int × Int × Int) × (Int × Int × Int) × List UInt8 × List UInt8
def p23v8 : Sch := ⟨[(0, .v (.c (.ptr 0 0))), (1, .v (.c (.ic .i64 (0)))), (2, Ss22e8ae), (3, Ssf05787)], [Bs217775, Bsa76b8c, Bsa76b8c, Bs3fcbc4, .cells 30 [.ptr 0 0]]⟩
def r23v8 : List Sch := [⟨[(0, Ssfd2c5d)], [Bs217775, Bsa76b8c, Bsa76b8c, Bs3fcbc4, .cells 30 [.ptr 0 0]]⟩]
def o23v8 (a0 : Ty2564bc) (a1 : Tyf90a5e) (a2 : Int × Int × Int) (a3 : Int × Int × Int) (a4 : List UInt8 × List UInt8) : Option Tydd1740 :=
 (some (((false, false), a1), a2, a3, a4))
def h23v8 : HC := (.s .d (.s (.s .d (.b (.u 3 (.v .d (.v .d (.v .d .d)))))) .d))
theorem e23v8 (t : Ty9f8d2a) : evF (stpT Tryz.prog T140 K140) Tryz.f23 p23v8 r23v8 h23v8 t = (o23v8 t.1.1 t.1.2 t.2.1 t.2.2.1 t.2.2.2) := by kernel_rfl
def n23v8 : FSp := ⟨p23v8, r23v8, fun t => (o23v8 t.1.1 t.1.2 t.2.1 t.2.2.1 t.2.2.2)⟩
theorem fo23v8 : FOk Tryz.prog 23 n23v8 := fk e23v8
def T141 : Tbl := (23, n23v8) :: T140
theorem K141 : TOk Tryz.prog T141 := .cons K140 fo23v8
def Ssbfbbb0 : SSh := .v (.c (.cap (.cap (.cap (.fn 27) (.ptr 3 0)) (.ptr 4 0)) (.ptr 5 0)))
def Bse1cd3e : BSh := .cells 111 [.i .u8, .i .u8, .i .i64, .cst (.slice none 0 0), .i .u8, .i .u8, .i .i64, .cst (.slice none 0 0)]
abbrev Ty7860ab : Type := (Tyf90a5e × Int × Int × Int) × (Int × Int × Int) × Ty9a0469 × Bool × Bool
abbrev Ty4abdc4 : Type := (Tyf90a5e × Int × Int × Int) × (Int × Int × Int) × ((Int × Int × Int) × Int × Int × Int) × Bool × Bool
def p26v10 : Sch := ⟨[(0, .v (.c (.ptr 0 0))), (1, Ssbfbbb0)], [Bs217775, Bsa76b8c, Bsa76b8c, .cells 30 [.ptr 0 0], Bse1cd3e, .cells 34 [.b, .b]]⟩
def r26v10 : List Sch := [⟨[(0, .tup [])], [Bs217775, Bsa76b8c, Bsa76b8c, .cells 30 [.ptr 0 0], Bsfb4f5f, .cells 34 [.b, .b]]⟩]
def o26v10 (a0 : Tyf90a5e) (a1 : Int × Int × Int) (a2 : Int × Int × Int) (a3 : (Int × Int × Int) × Int × Int × Int) (a4 : Bool × Bool) : Option Ty7860ab :=
 (some ((a0, a1), a2, (((a3.1.1, a3.1.2.1), a3.1.2.2, ([] : List UInt8)), (a3.2.1, a3.2.2.1), a3.2.2.2, ([] : List UInt8)), a4))
def h26v10 : HC := (.s .d (.b (.u 3 (.v .d (.v .d (.v .d .d))))))
theorem e26v10 (t : Ty4abdc4) : evF (stpT Tryz.prog T141 K141) Tryz.f26 p26v10 r26v10 h26v10 t = (o26v10 t.1.1 t.1.2 t.2.1 t.2.2.1 t.2.2.2) := by kernel_rfl
def n26v10 : FSp := ⟨p26v10, r26v10, fun t => (o26v10 t.1.1 t.1.2 t.2.1 t.2.2.1 t.2.2.2)⟩
theorem fo26v10 : FOk Tryz.prog 26 n26v10 := fk e26v10
def T142 : Tbl := (26, n26v10) :: T141
theorem K142 : TOk Tryz.prog T142 := .cons K141 fo26v10
abbrev Ty735aca : Type := ((Bool × Bool) × Tyf90a5e) × (Int × Int × Int) × Int × Int × Int
def p23v9 : Sch := ⟨[(0, .v (.c (.ptr 0 0))), (1, .v (.c (.ic .i64 (1)))), (2, Ss22e8ae), (3, .v (.c (.cap (.fn 29) (.ptr 3 0))))], [Bs217775, Bsa76b8c, Bsa76b8c, .cells 30 [.ptr 0 0]]⟩
def r23v9 : List Sch := [⟨[(0, Ssfd2c5d)], [Bs217775, Bsa76b8c, Bsa76b8c, .cells 30 [.ptr 0 0]]⟩]
def o23v9 (a0 : Ty2564bc) (a1 : Tyf90a5e) (a2 : Int × Int × Int) (a3 : Int × Int × Int) : Option Ty735aca :=
 (some (((false, false), a1), a2, a3))
def h23v9 : HC := (.s .d (.s (.s .d (.b (.u 3 (.v .d (.v .d (.v .d .d)))))) .d))
theorem e23v9 (t : (Ty2564bc × Tyf90a5e) × (Int × Int × Int) × Int × Int × Int) : evF (stpT Tryz.prog T142 K142) Tryz.f23 p23v9 r23v9 h23v9 t = (o23v9 t.1.1 t.1.2 t.2.1 t.2.2) := by kernel_rfl
def n23v9 : FSp := ⟨p23v9, r23v9, fun t => (o23v9 t.1.1 t.1.2 t.2.1 t.2.2)⟩
theorem fo23v9 : FOk Tryz.prog 23 n23v9 := fk e23v9
def T143 : Tbl := (23, n23v9) :: T142
theorem K143 : TOk Tryz.prog T143 := .cons K142 fo23v9
def Ss75a007 : SSh := .v (.c (.cap (.cap (.cap (.cap (.cap (.cap (.fn 31) (.ptr 3 0)) (.ptr 4 0)) (.ptr 5 0)) (.ptr 6 0)) (.ptr 7 0)) (.ptr 8 0)))
abbrev Ty7ecfbb : Type := ((Tyf90a5e × Int × Int × Int) × (Int × Int × Int) × Ty9a0469) × ((Bool × Bool) × Bool × Bool) × Ty87c277 × Ty2564bc
abbrev Ty115b83 : Type := ((Tyf90a5e × Int × Int × Int) × (Int × Int × Int) × (Int × Int × Int) × Int × Int × Int) × ((Bool × Bool) × Bool × Bool) × Ty87c277 × Ty2564bc
def p26v11 : Sch := ⟨[(0, .v (.c (.ptr 0 0))), (1, Ss75a007)], [Bs217775, Bsa76b8c, Bsa76b8c, .cells 30 [.ptr 0 0], Bse1cd3e, .cells 34 [.b, .b], .cells 34 [.b, .b], Bs63f402, Bs2f241a]⟩
def r26v11 : List Sch := [⟨[(0, .tup [])], [Bs217775, Bsa76b8c, Bsa76b8c, .cells 30 [.ptr 0 0], Bsfb4f5f, .cells 34 [.b, .b], .cells 34 [.b, .b], Bs63f402, Bs2f241a]⟩]
def o26v11 (a0 : Tyf90a5e) (a1 : Int × Int × Int) (a2 : Int × Int × Int) (a3 : (Int × Int × Int) × Int × Int × Int) (a4 : Bool × Bool) (a5 : Bool × Bool) (a6 : Ty87c277) (a7 : Ty2564bc) : Option Ty7ecfbb :=
 (some (((a0, a1), a2, ((a3.1.1, a3.1.2.1), a3.1.2.2, ([] : List UInt8)), (a3.2.1, a3.2.2.1), a3.2.2.2, ([] : List UInt8)), (a4, a5), a6, a7))
def h26v11 : HC := (.s .d (.b (.u 3 (.v .d (.v .d (.v .d .d))))))
theorem e26v11 (t : Ty115b83) : evF (stpT Tryz.prog T143 K143) Tryz.f26 p26v11 r26v11 h26v11 t = (o26v11 t.1.1.1 t.1.1.2 t.1.2.1 t.1.2.2 t.2.1.1 t.2.1.2 t.2.2.1 t.2.2.2) := by kernel_rfl
def n26v11 : FSp := ⟨p26v11, r26v11, fun t => (o26v11 t.1.1.1 t.1.1.2 t.1.2.1 t.1.2.2 t.2.1.1 t.2.1.2 t.2.2.1 t.2.2.2)⟩
theorem fo26v11 : FOk Tryz.prog 26 n26v11 := fk e26v11
def T144 : Tbl := (26, n26v11) :: T143
theorem K144 : TOk Tryz.prog T144 := .cons K143 fo26v11
def Ss848588 : SSh := .v (.c (.cap (.cap (.fn 34) (.ptr 3 0)) (.ptr 4 0)))
abbrev Tyd0c082 : Type := ((Bool × Bool) × Tyf90a5e) × (Int × Int × Int) × (Int × Int × Int) × Ty87c277
abbrev Ty3a0007 : Type := (Ty2564bc × Tyf90a5e) × (Int × Int × Int) × (Int × Int × Int) × Ty87c277
def p23v10 : Sch := ⟨[(0, .v (.c (.ptr 0 0))), (1, .v (.c (.ic .i64 (2)))), (2, Ss22e8ae), (3, Ss848588)], [Bs217775, Bsa76b8c, Bsa76b8c, .cells 30 [.ptr 0 0], Bs63f402]⟩
def r23v10 : List Sch := [⟨[(0, Ssfd2c5d)], [Bs217775, Bsa76b8c, Bsa76b8c, .cells 30 [.ptr 0 0], Bs63f402]⟩]
def o23v10 (a0 : Ty2564bc) (a1 : Tyf90a5e) (a2 : Int × Int × Int) (a3 : Int × Int × Int) (a4 : Ty87c277) : Option Tyd0c082 :=
 (some (((false, false), a1), a2, a3, a4))
def h23v10 : HC := (.s .d (.s (.s .d (.b (.u 3 (.v .d (.v .d (.v .d .d)))))) .d))
theorem e23v10 (t : Ty3a0007) : evF (stpT Tryz.prog T144 K144) Tryz.f23 p23v10 r23v10 h23v10 t = (o23v10 t.1.1 t.1.2 t.2.1 t.2.2.1 t.2.2.2) := by kernel_rfl
def n23v10 : FSp := ⟨p23v10, r23v10, fun t => (o23v10 t.1.1 t.1.2 t.2.1 t.2.2.1 t.2.2.2)⟩
theorem fo23v10 : FOk Tryz.prog 23 n23v10 := fk e23v10
def T145 : Tbl := (23, n23v10) :: T144
theorem K145 : TOk Tryz.prog T145 := .cons K144 fo23v10
def Ss3d9a00 : SSh := .v (.c (.cap (.cap (.cap (.cap (.fn 36) (.ptr 3 0)) (.ptr 4 0)) (.ptr 5 0)) (.ptr 6 0)))
abbrev Ty91a674 : Type := (Tyf90a5e × (Int × Int × Int) × Int × Int × Int) × Ty9a0469 × (Bool × Bool) × Ty87c277
abbrev Tye330d4 : Type := (Tyf90a5e × (Int × Int × Int) × Int × Int × Int) × ((Int × Int × Int) × Int × Int × Int) × (Bool × Bool) × Ty87c277
def p26v12 : Sch := ⟨[(0, .v (.c (.ptr 0 0))), (1, Ss3d9a00)], [Bs217775, Bsa76b8c, Bsa76b8c, .cells 30 [.ptr 0 0], Bse1cd3e, .cells 34 [.b, .b], Bs63f402]⟩
def r26v12 : List Sch := [⟨[(0, .tup [])], [Bs217775, Bsa76b8c, Bsa76b8c, .cells 30 [.ptr 0 0], Bsfb4f5f, .cells 34 [.b, .b], Bs63f402]⟩]
def o26v12 (a0 : Tyf90a5e) (a1 : Int × Int × Int) (a2 : Int × Int × Int) (a3 : (Int × Int × Int) × Int × Int × Int) (a4 : Bool × Bool) (a5 : Ty87c277) : Option Ty91a674 :=
 (some ((a0, a1, a2), (((a3.1.1, a3.1.2.1), a3.1.2.2, ([] : List UInt8)), (a3.2.1, a3.2.2.1), a3.2.2.2, ([] : List UInt8)), a4, a5))
def h26v12 : HC := (.s .d (.b (.u 3 (.v .d (.v .d (.v .d .d))))))
theorem e26v12 (t : Tye330d4) : evF (stpT Tryz.prog T145 K145) Tryz.f26 p26v12 r26v12 h26v12 t = (o26v12 t.1.1 t.1.2.1 t.1.2.2 t.2.1 t.2.2.1 t.2.2.2) := by kernel_rfl
def n26v12 : FSp := ⟨p26v12, r26v12, fun t => (o26v12 t.1.1 t.1.2.1 t.1.2.2 t.2.1 t.2.2.1 t.2.2.2)⟩
theorem fo26v12 : FOk Tryz.prog 26 n26v12 := fk e26v12
def T146 : Tbl := (26, n26v12) :: T145
theorem K146 : TOk Tryz.prog T146 := .cons K145 fo26v12
def p23v11 : Sch := ⟨[(0, .v (.c (.ptr 0 0))), (1, .v (.c (.ic .i64 (3)))), (2, Ss22e8ae), (3, .v (.c (.cap (.fn 38) (.ptr 3 0))))], [Bs217775, Bsa76b8c, Bsa76b8c, .cells 30 [.ptr 0 0]]⟩
def r23v11 : List Sch := [⟨[(0, Ssfd2c5d)], [Bs217775, Bsa76b8c, Bsa76b8c, .cells 30 [.ptr 0 0]]⟩]
def o23v11 (a0 : Ty2564bc) (a1 : Tyf90a5e) (a2 : Int × Int × Int) (a3 : Int × Int × Int) : Option Ty735aca :=
 (some (((false, false), a1), a2, a3))
def h23v11 : HC := (.s .d (.s (.s .d (.b (.u 3 (.v .d (.v .d (.v .d .d)))))) .d))
theorem e23v11 (t : (Ty2564bc × Tyf90a5e) × (Int × Int × Int) × Int × Int × Int) : evF (stpT Tryz.prog T146 K146) Tryz.f23 p23v11 r23v11 h23v11 t = (o23v11 t.1.1 t.1.2 t.2.1 t.2.2) := by kernel_rfl
def n23v11 : FSp := ⟨p23v11, r23v11, fun t => (o23v11 t.1.1 t.1.2 t.2.1 t.2.2)⟩
theorem fo23v11 : FOk Tryz.prog 23 n23v11 := fk e23v11
def T147 : Tbl := (23, n23v11) :: T146
theorem K147 : TOk Tryz.prog T147 := .cons K146 fo23v11
def Ssc8ae0d : SSh := .v (.c (.cap (.cap (.cap (.fn 40) (.ptr 3 0)) (.ptr 4 0)) (.ptr 5 0)))
def p26v13 : Sch := ⟨[(0, .v (.c (.ptr 0 0))), (1, Ssc8ae0d)], [Bs217775, Bsa76b8c, Bsa76b8c, .cells 30 [.ptr 0 0], Bse1cd3e, .cells 34 [.b, .b]]⟩
def r26v13 : List Sch := [⟨[(0, .tup [])], [Bs217775, Bsa76b8c, Bsa76b8c, .cells 30 [.ptr 0 0], Bsfb4f5f, .cells 34 [.b, .b]]⟩]
def o26v13 (a0 : Tyf90a5e) (a1 : Int × Int × Int) (a2 : Int × Int × Int) (a3 : (Int × Int × Int) × Int × Int × Int) (a4 : Bool × Bool) : Option Ty7860ab :=
 (some ((a0, a1), a2, (((a3.1.1, a3.1.2.1), a3.1.2.2, ([] : List UInt8)), (a3.2.1, a3.2.2.1), a3.2.2.2, ([] : List UInt8)), a4))
def h26v13 : HC := (.s .d (.b (.u 3 (.v .d (.v .d (.v .d .d))))))
theorem e26v13 (t : Ty4abdc4) : evF (stpT Tryz.prog T147 K147) Tryz.f26 p26v13 r26v13 h26v13 t = (o26v13 t.1.1 t.1.2 t.2.1 t.2.2.1 t.2.2.2) := by kernel_rfl
def n26v13 : FSp := ⟨p26v13, r26v13, fun t => (o26v13 t.1.1 t.1.2 t.2.1 t.2.2.1 t.2.2.2)⟩
theorem fo26v13 : FOk Tryz.prog 26 n26v13 := fk e26v13
def T148 : Tbl := (26, n26v13) :: T147
theorem K148 : TOk Tryz.prog T148 := .cons K147 fo26v13
def Ss24c292 : SSh := .v (.c (.cap (.cap (.fn 42) (.ptr 3 0)) (.ptr 4 0)))
def p26v14 : Sch := ⟨[(0, .v (.c (.ptr 0 0))), (1, Ss24c292)], [Bs217775, Bsa76b8c, Bsa76b8c, .cells 30 [.ptr 0 0], Bs63f402]⟩
def r26v14 : List Sch := [⟨[(0, .tup [])], [Bs217775, Bsa76b8c, Bsa76b8c, .cells 30 [.ptr 0 0], Bs63f402]⟩]
def o26v14 (a0 : Tyf90a5e) (a1 : Int × Int × Int) (a2 : Int × Int × Int) (a3 : Ty87c277) : Option ((Tyf90a5e × Int × Int × Int) × (Int × Int × Int) × Ty87c277) :=
 (some ((a0, a1), a2, a3))
def h26v14 : HC := (.s .d (.b (.u 3 (.v .d (.v .d (.v .d .d))))))
theorem e26v14 (t : (Tyf90a5e × Int × Int × Int) × (Int × Int × Int) × Ty87c277) : evF (stpT Tryz.prog T148 K148) Tryz.f26 p26v14 r26v14 h26v14 t = (o26v14 t.1.1 t.1.2 t.2.1 t.2.2) := by kernel_rfl
def n26v14 : FSp := ⟨p26v14, r26v14, fun t => (o26v14 t.1.1 t.1.2 t.2.1 t.2.2)⟩
theorem fo26v14 : FOk Tryz.prog 26 n26v14 := fk e26v14
def T149 : Tbl := (26, n26v14) :: T148
theorem K149 : TOk Tryz.prog T149 := .cons K148 fo26v14
def Bsab29d6 : BSh := .cells 105 [.ifc 60 (.ptr 3 0), .ifc 60 (.ptr 4 0), .cst (.pointer none), .ptr 5 0, .ro .y true, .i .i64, .i .i64, .i .i64, .i .i64, .i .i64, .i .u8, .i .u8, .i .u8, .i .i64, .i .i64, .i .i64, .i .i64]
def o24v3_s0 : Sch := ⟨[(0, .v (.c (.ic .i64 (1)))), (2, .v (.c (.ptr 1 0))), (4, .v (.c (.ptr 11 0))), (6, .v (.c (.ro .y false)))], [.lent [.ro .y false, .ro .y false], .cells 30 [.ptr 2 0], Bsab29d6, Bsa76b8c, Bsa76b8c, Bs9ac621, Bs9a591a, Bsd348fb, Bs59a69c, .row (.a .y) 33, Bs2be90b, Bs10dd8a]⟩
def p24v3 : Sch := ⟨[(0, .v (.c (.ic .i64 (1)))), (1, .v (.c (.ptr 0 0))), (2, .v (.c (.ptr 1 0)))], [.lent [.ro .y false, .ro .y false], .cells 30 [.ptr 2 0], Bsab29d6, Bsa76b8c, Bsa76b8c, Bs9ac621, Bs9a591a, Bsd348fb, Bs59a69c, .row (.a .y) 33, Bs2be90b]⟩
def r24v3 : List Sch := [⟨[(0, Ss6bf799)], [.no, .cells 30 [.ptr 2 0], Bsab29d6, Bsa76b8c, Bsa76b8c, Bs9ac621, Bs9a591a, Bsd348fb, Bs59a69c, .row (.a .y) 33, Bs2be90b]⟩]
def o24v3 (a0 : List UInt8 × List UInt8) (a1 : Tyf90a5e) (a2 : Int × Int × Int) (a3 : Int × Int × Int) (a4 : (Int × Int × Int) × Bool × Int × Int) (a5 : Tyee0fd7) (a6 : List (Int × Int × Int × List UInt8)) (a7 : Int × Int) (a8 : List (List UInt8)) (a9 : List (Int × Int × Bool × List UInt8)) : Option Tyaee67d :=
 (bd (α := Tyc094e0) (cnd (decide (((a0.2.length : Nat) : Int) > (400 : Int))) (some (((([] : List UInt8), a0, a1), a2, a3, a4), (a5, a6, a7), a8, a9, ((0 : Int), (0 : Int)), (0 : Int), ([] : List UInt8))) (some (((a0.2, a0, a1), a2, a3, a4), (a5, a6, a7), a8, a9, ((0 : Int), (0 : Int)), (0 : Int), ([] : List UInt8)))) Kfab37c5)
def h24v3 : HC := (.s .d (.s .d (.j false [o24v3_s0] (.s .d (.s (.r 1) .d)))))
theorem e24v3 (t : Ty32a440) : evF (stpT Tryz.prog T149 K149) Tryz.f24 p24v3 r24v3 h24v3 t = (o24v3 t.1.1.1 t.1.1.2 t.1.2.1 t.1.2.2.1 t.1.2.2.2 t.2.1.1 t.2.1.2 t.2.2.1 t.2.2.2.1 t.2.2.2.2) := by kernel_rfl
def n24v3 : FSp := ⟨p24v3, r24v3, fun t => (o24v3 t.1.1.1 t.1.1.2 t.1.2.1 t.1.2.2.1 t.1.2.2.2 t.2.1.1 t.2.1.2 t.2.2.1 t.2.2.2.1 t.2.2.2.2)⟩
theorem fo24v3 : FOk Tryz.prog 24 n24v3 := fk e24v3
def T150 : Tbl := (24, n24v3) :: T149
theorem K150 : TOk Tryz.prog T150 := .cons K149 fo24v3
def Bs22cdc5 : BSh := .cells 105 [.ifc 60 (.ptr 1 0), .ifc 60 (.ptr 2 0), .cst (.pointer none), .ptr 3 0, .ro .y true, .i .i64, .i .i64, .i .i64, .i .i64, .i .i64, .i .u8, .i .u8, .i .u8, .i .i64, .i .i64, .i .i64, .i .i64]
def o23v12_s0 : Sch := ⟨[(0, .v (.c (.ptr 0 0))), (1, .v (.c (.ic .i64 (0)))), (3, Ss2b4b17), (6, .v (.c (.ptr 11 0))), (8, .v (.c (.ptr 12 0))), (9, .v (.c (.ptr 13 0))), (15, .v (.c (.ic .i64 (1))))], [Bs22cdc5, Bsa76b8c, Bsa76b8c, Bsc8128b, Bs9a591a, Bsd348fb, Bs22b41b, .row (.a .y) 33, Bs2be90b, Bs3fcbc4, .cells 30 [.ptr 0 0], Bs2f241a, Bsfb4f5f, .cells 34 [.b, .b]]⟩
def p23v12 : Sch := ⟨[(0, .v (.c (.ptr 0 0))), (1, .v (.c (.ic .i64 (0)))), (2, Ss22e8ae), (3, Ss2b4b17)], [Bs22cdc5, Bsa76b8c, Bsa76b8c, Bsc8128b, Bs9a591a, Bsd348fb, Bs22b41b, .row (.a .y) 33, Bs2be90b, Bs3fcbc4, .cells 30 [.ptr 0 0]]⟩
def r23v12 : List Sch := [⟨[(0, Ss710f2d)], [Bs22cdc5, Bsa76b8c, Bsa76b8c, Bsc8128b, Bs9a591a, Bsd348fb, Bs22b41b, .row (.a .y) 33, Bs2be90b, Bs3fcbc4, .cells 30 [.ptr 0 0]]⟩]
def o23v12 (a0 : Ty2564bc) (a1 : Tyf90a5e) (a2 : Int × Int × Int) (a3 : Int × Int × Int) (a4 : (Int × Int × Int) × Bool × Int × Int) (a5 : Tyee0fd7) (a6 : List (Int × Int × Int × List UInt8)) (a7 : Int × Int) (a8 : List (List UInt8)) (a9 : List (Int × Int × Bool × List UInt8)) (a10 : List UInt8 × List UInt8) : Option Tyf38257 :=
 (bd (α := Tyb9ff1a) (bd (α := Tyaee67d) (o24v3 a10 a1 a2 a3 a4 a5 a6 a7 a8 a9) (fun v1 => (cnd (!v1.1.1.1.2.2.2) (some (((v1.1.1.2, v1.1.2.1, v1.1.2.2.1), v1.1.2.2.2, v1.2.1), v1.2.2, (a10, a0), ((((0 : Int), (0 : Int)), (0 : Int), ([] : List UInt8)), ((0 : Int), (0 : Int)), (0 : Int), ([] : List UInt8)), false, false)) (bd (α := (Int × List UInt8)) (o69 (v1.1.1.1.1, v1.1.1.1.2.1, v1.1.1.1.2.2.1)) (fun v2 => (cnd (v2.1 != (0 : Int)) (some (((v1.1.1.2, v1.1.2.1, v1.1.2.2.1), v1.1.2.2.2, v1.2.1), v1.2.2, (a10, a0), ((((0 : Int), (0 : Int)), (0 : Int), ([] : List UInt8)), ((0 : Int), (0 : Int)), (0 : Int), ([] : List UInt8)), false, false)) (bd (α := ((Int × Int) × Int × List UInt8 × Bool)) (o70 v2.2 (a0.2.1.2.1.1, a0.2.1.2.1.2, a0.2.1.2.2.1) (1 : Int) (2 : Int) v1.1.1.2.1.2.2.2) (fun v4 => (some (((v1.1.1.2, v1.1.2.1, v1.1.2.2.1), v1.1.2.2.2, v1.2.1), v1.2.2, (a10, a0), ((v4.1, v4.2.1, v4.2.2.1), ((0 : Int), (0 : Int)), (0 : Int), ([] : List UInt8)), v4.2.2.2, false)))))))))) Kf5ff50b)
def h23v12 : HC := (.s .d (.s (.s .d (.b (.u 3 (.v .d (.v (.s .d (.s .d (.j false [o23v12_s0] .d))) (.v .d .d)))))) .d))
theorem e23v12 (t : Ty7e1ef3) : evF (stpT Tryz.prog T150 K150) Tryz.f23 p23v12 r23v12 h23v12 t = (o23v12 t.1.1.1 t.1.1.2 t.1.2.1 t.1.2.2.1 t.1.2.2.2 t.2.1.1 t.2.1.2.1 t.2.1.2.2 t.2.2.1 t.2.2.2.1 t.2.2.2.2) := by kernel_rfl
def n23v12 : FSp := ⟨p23v12, r23v12, fun t => (o23v12 t.1.1.1 t.1.1.2 t.1.2.1 t.1.2.2.1 t.1.2.2.2 t.2.1.1 t.2.1.2.1 t.2.1.2.2 t.2.2.1 t.2.2.2.1 t.2.2.2.2)⟩
theorem fo23v12 : FOk Tryz.prog 23 n23v12 := fk e23v12
def T151 : Tbl := (23, n23v12) :: T150
theorem K151 : TOk Tryz.prog T151 := .cons K150 fo23v12
end
end Go.Proofs.YtpleflcfaecojaaGreat
namespace Go.Proofs.YtpleflcfaecojaaGreat
set_option linter.unusedVariables false
set_option linter.unusedSimpArgs false
set_option maxRecDepth 100000
open Go.RowKit
abbrev PT : Type := Int × Int × Int × List UInt8
abbrev ST : Type := Int × Int × Bool × List UInt8
def pieces (save : List UInt8) : Nat := max ((save.length + 599) / 600) 1
def pcAt (base : Int) (save : List UInt8) (i : Nat) : PT := (base, (i : Int), (pieces save : Int), (save.drop (600 * i)).take (min (600 * (i + 1)) save.length - 600 * i))
def splitL (base : Int) (save : List UInt8) : List PT := (List.range (pieces save)).map (pcAt base save)
def split (base : Int) (save : List UInt8) : Int × List PT := cond (decide (base < 1) || decide (base > 2305843009213693952)) (1, []) (cond (decide ((save.length : Int) > 524288)) (3, []) (0, splitL base save))
theorem o18_eq (base : Int) (save : List UInt8) : o18 base save = some (split base save) := by
  unfold o18 split
  have e : (cnd (decide (base < (1 : Int))) (some (base, save, true)) (some (base, save, (decide (base > (2305843009213693952 : Int)))))) = some (base, save, decide (base < 1) || decide (base > 2305843009213693952)) := by
    cases decide (base < (1 : Int)) <;> rfl
  rw [e, bdI]
  refine cnd_ext (F := fun x => x) rfl ?_
  by_cases hl : ((save.length : Nat) : Int) > 524288
  · refine (cndT (dt hl)).trans ?_
    rw [dt hl]; rfl
  refine (cndF (df hl)).trans ?_
  rw [df hl, cond_false]
  have hn : maxI (IntKind.i64.wrap (Int.tdiv (IntKind.i64.wrap (IntKind.i64.wrap (((save.length : Nat) : Int) + 600) - 1)) 600)) 1 = (pieces save : Int) := by
    rw [show IntKind.i64.wrap (((save.length : Nat) : Int) + 600) = (save.length : Int) + 600 from wr64 (by omega), show IntKind.i64.wrap ((save.length : Int) + 600 - 1) = (save.length : Int) + 599 by rw [wr64 (by omega)]; omega, Int.tdiv_eq_ediv_of_nonneg (by omega), wr64 (by omega)]
    unfold maxI pieces
    split <;> omega
  dsimp only
  rw [hn]
  have hb : pieces save ≤ 874 := by unfold pieces; omega
  have hq : 600 * pieces save ≤ save.length + 600 := by unfold pieces; omega
  refine loop_from (fun i => ((base, save, (pieces save : Int)), (pieces save : Int), ((i : Nat) : Int), (List.range i).map (pcAt base save))) (pieces save) rfl (fun i hi => ?_) ?_ (by omega)
  · have h1 : IntKind.i64.wrap ((i : Int) * 600) = ((600 * i : Nat) : Int) := by rw [wr64 (by omega)]; omega
    have h2 : IntKind.i64.wrap ((i : Int) + 1) = ((i + 1 : Nat) : Int) := by rw [wr64 (by omega)]; omega
    have h3 : IntKind.i64.wrap (((i + 1 : Nat) : Int) * 600) = ((600 * (i + 1) : Nat) : Int) := by rw [wr64 (by omega)]; omega
    have h4 : minI ((600 * (i + 1) : Nat) : Int) ((save.length : Nat) : Int) = ((min (600 * (i + 1)) save.length : Nat) : Int) := by unfold minI; split <;> omega
    unfold o18_b0
    refine (cndT (dt (by show (i : Int) < (pieces save : Int); omega))).trans ?_
    dsimp only
    rw [h1, h2, h3, h4, gdT (dt (by omega)), show ((min (600 * (i + 1)) save.length : Nat) : Int).toNat = min (600 * (i + 1)) save.length from rfl, show ((600 * i : Nat) : Int).toNat = 600 * i from rfl, o33_eq (by simp; omega), bdI, gdT (dt (by simp; omega)), List.range_succ, List.map_append]
    rfl
  · unfold o18_b0
    refine (cndF (df (by show ¬ (pieces save : Int) < (pieces save : Int); omega))).trans ?_
    exact dnS _
def validP (p : PT) : Bool := decide (p.1 ≥ 1) && (decide (p.1 ≤ 2305843009213693952) && (decide (p.2.2.1 ≥ 1) && (decide (p.2.2.1 ≤ 874) && (decide (p.2.1 ≥ 0) && (decide (p.2.1 < p.2.2.1) && decide ((p.2.2.2.length : Int) ≤ 600))))))
theorem o124_eq (b i c : Int) (d : List UInt8) : o124 ((b, i), c, d) = some (validP (b, i, c, d)) := by
  unfold o124 validP
  dsimp only
  cases decide (b ≥ 1) <;> cases decide (b ≤ 2305843009213693952) <;> cases decide (c ≥ 1) <;> cases decide (c ≤ 874) <;> cases decide (i ≥ 0) <;> cases decide (i < c) <;> rfl
theorem o123_eq (b i c : Int) {d : List UInt8} (h : d.length ≤ 100000000) : o123 ((b, i), c, d) = some ((b, i, c), d) := by
  unfold o123
  exact bdS (o33_eq h)
def hit (ps : List PT) (base have_ : Int) : Bool := decide ((ps.length : Int) > 0) && (base == (ps.getD 0 (0, 0, 0, [])).1 && (decide (have_ ≥ 0) && decide (have_ < (ps.length : Int))))
def serve (ps : List PT) (base have_ steps : Int) (save : List UInt8) : List PT × PT × Int :=
  cond (hit ps base have_) (ps, ps.getD have_.toNat (0, 0, 0, []), 0) (cond ((split steps save).1 != 0) (ps, (0, 0, 0, []), (split steps save).1) ((split steps save).2, (split steps save).2.getD 0 (0, 0, 0, []), 0))
def serveE (x : List PT × PT × Int) := (((x.2.1.1, x.2.1.2.1), x.2.1.2.2.1, x.2.2), x.1, x.2.1.2.2.2)
theorem splitL_len (base : Int) (save : List UInt8) : (splitL base save).length = pieces save := by simp [splitL]
theorem pieces_pos (save : List UInt8) : 0 < pieces save := by unfold pieces; omega
theorem pcAt_len (base : Int) (save : List UInt8) (i : Nat) : (pcAt base save i).2.2.2.length ≤ 600 := by
  simp only [pcAt, List.length_take, List.length_drop]
  omega
theorem splitL_data {base : Int} {save : List UInt8} {p : PT} (h : p ∈ splitL base save) : p.2.2.2.length ≤ 600 := by
  simp only [splitL, List.mem_map] at h
  obtain ⟨i, _, rfl⟩ := h
  exact pcAt_len base save i
theorem getD_data {ps : List PT} (hp : ∀ p ∈ ps, p.2.2.2.length ≤ 600) (i : Nat) : (ps.getD i (0, 0, 0, [])).2.2.2.length ≤ 600 := by
  by_cases h : i < ps.length
  · rw [getD_of h]; exact hp _ (List.getElem_mem h)
  · rw [List.getD_eq_getElem?_getD, List.getElem?_eq_none (by omega)]; simp
theorem o81_eq {ps : List PT} {base have_ steps : Int} {save : List UInt8} (hp : ∀ p ∈ ps, p.2.2.2.length ≤ 600) : o81 (base, have_) steps save ps = some (serveE (serve ps base have_ steps save)) := by
  unfold o81 serve
  have d0 : (0 : Int).toNat = 0 := rfl
  refine (bdS (t := ((steps, save), hit ps base have_, ps, base, have_)) ?_).trans ?_
  · unfold hit
    dsimp only
    by_cases h : ((ps.length : Nat) : Int) > 0
    · rw [cndT (dt h), dt h, gdT (dt (by omega)), d0]
      cases (base == (ps.getD 0 ((0 : Int), (0 : Int), (0 : Int), ([] : List UInt8))).1) <;> cases decide (have_ ≥ 0) <;> rfl
    · rw [cndF (df h), df h]; rfl
  by_cases hh : hit ps base have_ = true
  · refine (cndT hh).trans ?_
    rw [hh, cond_true]
    have hr : 0 ≤ have_ ∧ have_ < (ps.length : Int) := by
      unfold hit at hh
      simp only [Bool.and_eq_true, decide_eq_true_eq] at hh
      exact ⟨hh.2.2.1, hh.2.2.2⟩
    refine (gdT (dt hr)).trans ?_
    exact bdS (o123_eq _ _ _ (Nat.le_trans (getD_data hp _) (by decide)))
  · have hh : hit ps base have_ = false := by simpa using hh
    refine (cndF hh).trans ?_
    rw [hh, cond_false]
    refine (bdS (o18_eq steps save)).trans ?_
    have hs : (split steps save).1 = 0 → (split steps save).2 = splitL steps save := by
      unfold split
      cases (decide (steps < 1) || decide (steps > 2305843009213693952)) with
      | true => intro h; cases h
      | false =>
        cases decide ((save.length : Int) > 524288) with
        | true => intro h; cases h
        | false => exact fun _ => rfl
    by_cases hz : (split steps save).1 = 0
    · refine (cndF (neq_f hz)).trans ?_
      rw [neq_f hz, cond_false, d0]
      have e := hs hz
      have hpos := pieces_pos save
      rw [e]
      refine (gdT (dt (by rw [splitL_len]; omega))).trans ?_
      exact bdS (o123_eq _ _ _ (Nat.le_trans (getD_data (fun p hp => splitL_data hp) _) (by decide)))
    · refine (cndT (neq_t hz)).trans ?_
      rw [neq_t hz]; rfl
def encP (p : PT) : Int × List UInt8 := cond (validP p) (0, putB p.1 8 ++ putB p.2.1 2 ++ putB p.2.2.1 2 ++ p.2.2.2) (1, [])
theorem validP_ok {p : PT} (h : validP p = true) : (1 ≤ p.1 ∧ p.1 ≤ 2305843009213693952) ∧ (1 ≤ p.2.2.1 ∧ p.2.2.1 ≤ 874) ∧ (0 ≤ p.2.1 ∧ p.2.1 < p.2.2.1) ∧ p.2.2.2.length ≤ 600 := by
  unfold validP at h
  simp only [Bool.and_eq_true, decide_eq_true_iff] at h
  omega
theorem four_bytes (i c : Int) : [(u8 (IntKind.u8.wrap i)), (u8 (IntKind.u8.wrap (shrK .i64 i 8))), (u8 (IntKind.u8.wrap c)), (u8 (IntKind.u8.wrap (shrK .i64 c 8)))] = putB i 2 ++ putB c 2 := by
  have e : ∀ n : Int, putB n 2 = [u8 (IntKind.u8.wrap n), u8 (IntKind.u8.wrap (shrK .i64 n 8))] := fun n => by
    have h0 : byteAt n 0 = u8 (IntKind.u8.wrap n) := by
      unfold byteAt
      rw [shr_i64 n 0 (by decide), Int.pow_zero, Int.ediv_one]
    have h1 : byteAt n 1 = u8 (IntKind.u8.wrap (shrK .i64 n 8)) := rfl
    rw [putB_succ, putB_succ, putB_zero, h0, h1]; rfl
  rw [e, e]; rfl
theorem o82_eq (b i c : Int) (d : List UInt8) : o82 ((b, i), c, d) = some (encP (b, i, c, d)) := by
  unfold o82 encP
  refine (bdS (o124_eq b i c d)).trans ?_
  cases hv : validP (b, i, c, d) with
  | false => rfl
  | true =>
    obtain ⟨-, -, -, hd⟩ := validP_ok hv
    dsimp only at hd
    refine (cndF rfl).trans ?_
    rw [cond_true]
    refine loop_from (fun k => (((k : Nat) : Int), ((b, i), c, d), putB b k)) 8 rfl (fun k hk => ?_) ?_ (by omega)
    · unfold o82_b0
      refine (cndT (dt (by show (k : Int) < 8; omega))).trans ((gdT (dt (by show (0 : Int) ≤ IntKind.i64.wrap (8 * (k : Int)); rw [wr64 (by omega)]; omega))).trans ((gdT (dt (by show ((putB b k).length + 1) * 1 ≤ 140737488355328; rw [putB_len]; omega))).trans ?_))
      dsimp only
      rw [wr64 (by omega), wr64 (by omega), putB_succ]
      rfl
    · unfold o82_b0
      refine (cndF (df (by show ¬ ((8 : Nat) : Int) < 8; decide))).trans ?_
      dsimp only
      rw [four_bytes, gdT (dt (by simp [putB_len])), gdT (dt (by simp [putB_len]; omega)), dnS]
      simp only [List.append_assoc]
def rawP (p : List UInt8) : PT := (getI p 8, (natL (p.drop 8) 2 : Int), (natL (p.drop 10) 2 : Int), p.drop 12)
def decP (p : List UInt8) : PT × Int := cond (decide ((p.length : Int) < 12)) ((0, 0, 0, []), 4) (cond (validP (rawP p)) (rawP p, 0) ((0, 0, 0, []), 4))
def decE (x : PT × Int) := (((x.1.1, x.1.2.1), x.1.2.2.1, x.2), x.1.2.2.2)
theorem ofInt_i64 (x : Int) : BitVec.ofInt 64 (IntKind.i64.wrap x) = BitVec.ofInt 64 x := by
  apply BitVec.eq_of_toNat_eq
  rw [BitVec.toNat_ofInt, BitVec.toNat_ofInt, IntKind.wrap_i64]
  congr 1
  have : ((2 ^ 64 : Nat) : Int) = 18446744073709551616 := by decide
  rw [this]
  omega
theorem lor_i64 (x y : Int) : lorK .i64 (IntKind.i64.wrap x) (IntKind.i64.wrap y) = IntKind.i64.wrap (lorK .u64 x y) := by
  unfold lorK
  have e1 : BitVec.ofInt IntKind.i64.bits (IntKind.i64.wrap x) = BitVec.ofInt IntKind.u64.bits x := ofInt_i64 x
  have e2 : BitVec.ofInt IntKind.i64.bits (IntKind.i64.wrap y) = BitVec.ofInt IntKind.u64.bits y := ofInt_i64 y
  rw [e1, e2]
  have hlt : (BitVec.ofInt IntKind.u64.bits x ||| BitVec.ofInt IntKind.u64.bits y).toNat < 2 ^ 64 := BitVec.isLt _
  have : IntKind.u64.wrap (((BitVec.ofInt IntKind.u64.bits x ||| BitVec.ofInt IntKind.u64.bits y).toNat : Nat) : Int) = (((BitVec.ofInt IntKind.u64.bits x ||| BitVec.ofInt IntKind.u64.bits y).toNat : Nat) : Int) := wr_u64 (by omega)
  rw [this]
  rfl
theorem natL_two (q : List UInt8) : ((natL q 2 : Nat) : Int) = ((q.getD 0 0).toNat : Int) + 256 * ((q.getD 1 0).toNat : Int) := by
  simp only [natL, Nat.reducePow]
  omega
theorem two_i64 (a b : UInt8) : IntKind.i64.wrap ((a.toNat : Int) + (shlK .i64 (b.toNat : Int) 8)) = (a.toNat : Int) + 256 * (b.toNat : Int) := by
  have ha := UInt8.toNat_lt a
  have hb := UInt8.toNat_lt b
  have e : shlK .i64 (b.toNat : Int) 8 = 256 * (b.toNat : Int) := by
    unfold shlK
    have : (b.toNat : Int) * 2 ^ (min (8 : Int).toNat IntKind.i64.bits) = 256 * (b.toNat : Int) := by
      rw [show min (8 : Int).toNat IntKind.i64.bits = 8 from rfl, show (2 : Int) ^ 8 = 256 from rfl]; omega
    rw [this]
    exact wr64 (by omega)
  rw [e]
  exact wr64 (by omega)
theorem getD_drop (q : List UInt8) (a i : Nat) : (q.drop a).getD i 0 = q.getD (a + i) 0 := by simp [List.getD_eq_getElem?_getD, List.getElem?_drop]
theorem o125_eq {p : List UInt8} (hp : p.length ≤ 1000000) : o125 p = some (decE (decP p)) := by
  unfold o125 decP
  by_cases h : ((p.length : Nat) : Int) < 12
  · rw [cndT (dt h), dt h]; rfl
  rw [cndF (df h), df h, cond_false]
  have d : (8 : Int).toNat = 8 ∧ (9 : Int).toNat = 9 ∧ (10 : Int).toNat = 10 ∧ (11 : Int).toNat = 11 ∧ (12 : Int).toNat = 12 := ⟨rfl, rfl, rfl, rfl, rfl⟩
  obtain ⟨d8, d9, d10, d11, d12⟩ := d
  rw [gdT (dt (by omega)), gdT (dt (by omega)), gdT (dt (by omega)), gdT (dt (by omega)), gdT (dt (by omega)), d8, d9, d10, d11, d12, o33_eq (by simp; omega), bdI]
  have hb : ∀ i, IntKind.i64.wrap ((p.getD i 0).toNat : Int) = ((p.getD i 0).toNat : Int) := fun i => wr64 (by have := (p.getD i 0).toNat_lt; omega)
  rw [hb, hb, hb, hb, two_i64, two_i64]
  have e : (getI p 8, ((p.getD 8 0).toNat : Int) + 256 * ((p.getD 9 0).toNat : Int), ((p.getD 10 0).toNat : Int) + 256 * ((p.getD 11 0).toNat : Int), List.drop 12 p) = rawP p := by
    unfold rawP
    rw [natL_two, natL_two, getD_drop, getD_drop, getD_drop, getD_drop]
  generalize ((p.getD 8 0).toNat : Int) + 256 * ((p.getD 9 0).toNat : Int) = I at e ⊢
  generalize ((p.getD 10 0).toNat : Int) + 256 * ((p.getD 11 0).toNat : Int) = C at e ⊢
  refine loop_from (fun k => ((p, ((k : Nat) : Int)), (IntKind.i64.wrap (getK p k), I, C), p.drop 12)) 8 rfl (fun k hk => ?_) ?_ (by omega)
  · have hbk := (p.getD k 0).toNat_lt
    unfold o125_b0
    refine (cndT (dt (by show (k : Int) < 8; omega))).trans ((gdT (dt (by show (0 : Int) ≤ k ∧ (k : Int) < (p.length : Int); omega))).trans ((gdT (dt (by show (0 : Int) ≤ IntKind.i64.wrap (8 * (k : Int)); rw [wr64 (by omega)]; omega))).trans ?_))
    dsimp only
    rw [lor_i64, show IntKind.i64.wrap ((k : Int) + 1) = (k : Int) + 1 from wr64 (by omega), show IntKind.i64.wrap (8 * (k : Int)) = 8 * (k : Int) from wr64 (by omega), show (k : Int).toNat = k from rfl, IntWalk.u64_in _ (by omega)]
    rfl
  · unfold o125_b0
    refine (cndF (df (by show ¬ ((8 : Nat) : Int) < 8; decide))).trans ?_
    dsimp only
    rw [getK_eq p 8 (by decide), show IntKind.i64.wrap ((natL p 8 : Nat) : Int) = getI p 8 from rfl, o124_eq, bdI, e]
    have e1 : getI p 8 = (rawP p).1 := rfl
    have e2 : p.drop 12 = (rawP p).2.2.2 := rfl
    have e3 : I = (rawP p).2.1 := by rw [← e]
    have e4 : C = (rawP p).2.2.1 := by rw [← e]
    rw [e1, e2, e3, e4]
    cases validP (rawP p) <;> rfl
end Go.Proofs.YtpleflcfaecojaaGreat
