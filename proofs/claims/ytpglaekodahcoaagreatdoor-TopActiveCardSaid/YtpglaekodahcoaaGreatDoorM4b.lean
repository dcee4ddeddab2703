/-
What functions compute, printed by wip/h/py. Conditions: each theorem's own.
-/
import Derived.Test.YtpglaekodahcoaaGreatDoorM4a
namespace Go.Proofs.YtpglaekodahcoaaGreatDoor
set_option linter.unusedVariables false
set_option linter.unusedSimpArgs false
set_option maxRecDepth 100000
open Go.RowKit
noncomputable section
def Ss9b59a2 : SSh := .v (.agg [.s, .s, .i .u8, .i .i64, .i .i64, .i .i64, .i .i64])
abbrev Ty71039f : Type := (List UInt8 × List UInt8 × Int) × (Int × Int) × Int × Int
def p67 : Sch := ⟨[(0, Ss9b59a2)], []⟩
def r67 : List Sch := [⟨[(0, .v (.c (.s)))], []⟩]
def o67 (a0 : Ty71039f) : Option (List UInt8) :=
 (gd (decide (a0.1.1.length + ([47] : List UInt8).length ≤ 1125899906842624)) (gd (decide ((a0.1.1 ++ ([47] : List UInt8)).length + a0.1.2.1.length ≤ 1125899906842624)) (some ((a0.1.1 ++ ([47] : List UInt8)) ++ a0.1.2.1))))
theorem e67 (t : Ty71039f) : evF (stpT Tryz.prog T115 K115) Tryz.f67 p67 r67 .d t = (o67 t) := by kernel_rfl
theorem fo67 : FOk Tryz.prog 67 ⟨p67, r67, fun t => (o67 t)⟩ := FOk.run_eq (evF_ok (h := .d) (by kernel_rfl) (by kernel_rfl) (by kernel_rfl)) e67
def T116 : Tbl := (67, ⟨p67, r67, fun t => (o67 t)⟩) :: T115
theorem K116 : TOk Tryz.prog T116 := .cons K115 fo67
def Bs3a6650 : BSh := .cells 77 [.s, .s, .i .u8, .i .i64, .i .i64, .i .i64, .i .i64]
abbrev Ty833747 : Type := ((List (List UInt8 × Bool)) × List (List UInt8 × Bool)) × (List (List UInt8 × Bool)) × Ty71039f
abbrev Tyb9cb73 : Type := (Ty71039f × List (List UInt8 × Bool)) × (List (List UInt8 × Bool)) × List (List UInt8 × Bool)
def o69_s0 : Sch := ⟨[(2, .v (.c (.ptr 3 0))), (3, .v (.c (.ptr 4 0)))], [.map .b, .map .b, .map .b, .cells 151 [.mp 0, .mp 1, .mp 2], Bs3a6650]⟩
def p69 : Sch := ⟨[(0, .v (.agg [.mp 0, .mp 1, .mp 2])), (1, Ss9b59a2)], [.map .b, .map .b, .map .b]⟩
def r69 : List Sch := [⟨[(0, .tup [])], [.map .b, .map .b, .map .b]⟩]
def o69 (a0 : Ty71039f) (a1 : List (List UInt8 × Bool)) (a2 : List (List UInt8 × Bool)) (a3 : List (List UInt8 × Bool)) : Option Ty95bafb :=
 (bd (α := (List UInt8)) (o67 a0) (fun v2 => (bd (α := Ty833747) (cnd (a0.1.2.2 == (5 : Int)) (some (((mpPut a1 v2 true), (mpPut a2 a0.1.1 true)), a3, a0)) (some (((mpPut a1 v2 true), a2), a3, a0))) (fun v3 => (cnd (v3.2.2.1.2.2 == (6 : Int)) (bd (α := (List UInt8)) (o67 v3.2.2) (fun v5 => (some (v3.1.1, v3.1.2, (mpPut v3.2.1 v5 true))))) (some (v3.1.1, v3.1.2, v3.2.1)))))))
theorem e69 (t : Tyb9cb73) : evF (stpT Tryz.prog T116 K116) Tryz.f69 p69 r69 (.s .d (.s .d (.j false [o69_s0] .d))) t = (o69 t.1.1 t.1.2 t.2.1 t.2.2) := by kernel_rfl
theorem fo69 : FOk Tryz.prog 69 ⟨p69, r69, fun t => (o69 t.1.1 t.1.2 t.2.1 t.2.2)⟩ := FOk.run_eq (evF_ok (h := (.s .d (.s .d (.j false [o69_s0] .d)))) (by kernel_rfl) (by kernel_rfl) (by kernel_rfl)) e69
def T117 : Tbl := (69, ⟨p69, r69, fun t => (o69 t.1.1 t.1.2 t.2.1 t.2.2)⟩) :: T116
theorem K117 : TOk Tryz.prog T117 := .cons K116 fo69
def Sse3ecad : SSh := .v (.c (.ro (.p .s (.p .s (.p (.i .u8) (.p (.p (.i .i64) (.i .i64)) (.p (.i .i64) (.i .i64)))))) false))
abbrev Tyba56e9 : Type := (List Ty250e00 × Int × Int) × (List (List UInt8 × Bool)) × (List (List UInt8 × Bool)) × List (List UInt8 × Bool)
def Df60bb56 : Ty250e00 := (([] : List UInt8), (([] : List UInt8), ((0 : Int), (((0 : Int), (0 : Int)), ((0 : Int), (0 : Int))))))
def o64v1_s0 : Sch := ⟨[(2, .v (.c (.ptr 0 0))), (3, .v (.c (.ptr 1 0))), (10, Sse3ecad), (11, .v (.c (.i .i64))), (12, .v (.c (.i .i64)))], [Bs402b61, .cells 151 [.mp 2, .mp 3, .mp 4], .map .b, .map .b, .map .b]⟩
def p64v1 : Sch := ⟨[(0, Sse3ecad)], []⟩
def r64v1 : List Sch := [⟨[(0, .v (.agg [.mp 0, .mp 1, .mp 2]))], [.map .b, .map .b, .map .b]⟩]
def o64v1 (a0 : List Ty250e00) : Option Ty95bafb :=
 (loopO (σ := Tyba56e9) fuelN (fun (v2 : Tyba56e9) => (cnd (decide (v2.1.2.2 < v2.1.2.1)) (gd (decide ((0 : Int) ≤ v2.1.2.2 ∧ v2.1.2.2 < ((v2.1.1.length : Nat) : Int))) (bd (α := Ty250e00) (some (List.getD v2.1.1 v2.1.2.2.toNat Df60bb56)) (fun v3 => (bd (α := Ty95bafb) (o69 ((v3.1, v3.2.1, v3.2.2.1), v3.2.2.2) v2.2.1 v2.2.2.1 v2.2.2.2) (fun v4 => (some (Ctl.go ((v2.1.1, v2.1.2.1, (IntKind.wrap .i64 (v2.1.2.2 + (1 : Int)))), v4)))))))) (dnO (some v2.2)))) ((a0, ((a0.length : Nat) : Int), (0 : Int)), ([] : List (List UInt8 × Bool)), ([] : List (List UInt8 × Bool)), ([] : List (List UInt8 × Bool))))
def h64v1 : HC := (.s .d (.s .d (.s (.s .d (.b (.l [o64v1_s0] .d))) .d)))
theorem e64v1 (t : List Ty250e00) : evF (stpT Tryz.prog T117 K117) Tryz.f64 p64v1 r64v1 h64v1 t = (o64v1 t) := by kernel_rfl
theorem fo64v1 : FOk Tryz.prog 64 ⟨p64v1, r64v1, fun t => (o64v1 t)⟩ := FOk.run_eq (evF_ok (h := h64v1) (by kernel_rfl) (by kernel_rfl) (by kernel_rfl)) e64v1
def T118 : Tbl := (64, ⟨p64v1, r64v1, fun t => (o64v1 t)⟩) :: T117
theorem K118 : TOk Tryz.prog T118 := .cons K117 fo64v1
def o191_s0 : Sch := ⟨[(0, .v (.c (.s))), (16, .v (.c (.b)))], []⟩
def o191_s1 : Sch := ⟨[(0, .v (.c (.s))), (34, .v (.c (.b)))], []⟩
def o191_s2 : Sch := ⟨[(0, .v (.c (.s))), (52, .v (.c (.b)))], []⟩
def o191_s3 : Sch := ⟨[(2, .v (.c (.b)))], []⟩
def p191 : Sch := ⟨[(0, .v (.c (.s)))], []⟩
def r191 : List Sch := [⟨[(0, .v (.c (.b)))], []⟩]
def o191 (a0 : List UInt8) : Option Bool :=
 (bd (α := (List UInt8 × Bool)) (cnd (decide (((a0.length : Nat) : Int) < (4 : Int))) (some (a0, true)) (cnd (decide (((a0.length : Nat) : Int) > (5 : Int))) (some (a0, true)) (gd (decide ((0 : Int) ≤ (2 : Int) ∧ (2 : Int) ≤ ((a0.length : Nat) : Int))) (some (a0, (!((List.take (2 : Int).toNat a0) == ([82, 87] : List UInt8)))))))) (fun v1 => (cnd v1.2 (some false) (bd (α := (List UInt8 × Bool)) (cnd (((v1.1.length : Nat) : Int) == (5 : Int)) (gd (decide ((0 : Int) ≤ (4 : Int) ∧ (4 : Int) < ((v1.1.length : Nat) : Int))) (cnd ((((List.getD v1.1 (4 : Int).toNat 0).toNat : Nat) : Int) != (76 : Int)) (gd (decide ((0 : Int) ≤ (4 : Int) ∧ (4 : Int) < ((v1.1.length : Nat) : Int))) (cnd ((((List.getD v1.1 (4 : Int).toNat 0).toNat : Nat) : Int) != (67 : Int)) (gd (decide ((0 : Int) ≤ (4 : Int) ∧ (4 : Int) < ((v1.1.length : Nat) : Int))) (some (v1.1, ((((List.getD v1.1 (4 : Int).toNat 0).toNat : Nat) : Int) != (82 : Int))))) (some (v1.1, false)))) (some (v1.1, false)))) (some (v1.1, false))) (fun v2 => (cnd v2.2 (some false) (bd (α := (List UInt8 × Bool)) (gd (decide ((0 : Int) ≤ (2 : Int) ∧ (2 : Int) < ((v2.1.length : Nat) : Int))) (cnd (decide ((((List.getD v2.1 (2 : Int).toNat 0).toNat : Nat) : Int) < (48 : Int))) (some (v2.1, true)) (gd (decide ((0 : Int) ≤ (2 : Int) ∧ (2 : Int) < ((v2.1.length : Nat) : Int))) (cnd (decide ((((List.getD v2.1 (2 : Int).toNat 0).toNat : Nat) : Int) > (51 : Int))) (some (v2.1, true)) (gd (decide ((0 : Int) ≤ (3 : Int) ∧ (3 : Int) < ((v2.1.length : Nat) : Int))) (cnd (decide ((((List.getD v2.1 (3 : Int).toNat 0).toNat : Nat) : Int) < (48 : Int))) (some (v2.1, true)) (gd (decide ((0 : Int) ≤ (3 : Int) ∧ (3 : Int) < ((v2.1.length : Nat) : Int))) (some (v2.1, (decide ((((List.getD v2.1 (3 : Int).toNat 0).toNat : Nat) : Int) > (57 : Int)))))))))))) (fun v3 => (cnd v3.2 (some false) (gd (decide ((0 : Int) ≤ (2 : Int) ∧ (2 : Int) < ((v3.1.length : Nat) : Int))) (gd (decide ((0 : Int) ≤ (3 : Int) ∧ (3 : Int) < ((v3.1.length : Nat) : Int))) (bd (α := Bool) (cnd (decide ((IntKind.wrap .i64 ((IntKind.wrap .i64 ((IntKind.wrap .i64 (IntKind.wrap .u8 ((((List.getD v3.1 (2 : Int).toNat 0).toNat : Nat) : Int) - (48 : Int)))) * (10 : Int))) + (IntKind.wrap .i64 (IntKind.wrap .u8 ((((List.getD v3.1 (3 : Int).toNat 0).toNat : Nat) : Int) - (48 : Int)))))) ≥ (1 : Int))) (some (decide ((IntKind.wrap .i64 ((IntKind.wrap .i64 ((IntKind.wrap .i64 (IntKind.wrap .u8 ((((List.getD v3.1 (2 : Int).toNat 0).toNat : Nat) : Int) - (48 : Int)))) * (10 : Int))) + (IntKind.wrap .i64 (IntKind.wrap .u8 ((((List.getD v3.1 (3 : Int).toNat 0).toNat : Nat) : Int) - (48 : Int)))))) ≤ (36 : Int)))) (some false)) (fun v4 => (some v4))))))))))))))
def h191 : HC := (.s .d (.s (.s (.j false [o191_s0] .d) .d) (.s (.s (.j false [o191_s1] .d) .d) (.s (.s (.j false [o191_s2] .d) .d) (.s .d (.s (.j false [o191_s3] .d) .d))))))
theorem e191 (t : List UInt8) : evF (stpT Tryz.prog T118 K118) Tryz.f191 p191 r191 h191 t = (o191 t) := by kernel_rfl
theorem fo191 : FOk Tryz.prog 191 ⟨p191, r191, fun t => (o191 t)⟩ := FOk.run_eq (evF_ok (h := h191) (by kernel_rfl) (by kernel_rfl) (by kernel_rfl)) e191
def T119 : Tbl := (191, ⟨p191, r191, fun t => (o191 t)⟩) :: T118
theorem K119 : TOk Tryz.prog T119 := .cons K118 fo191
def o132_s0 : Sch := ⟨[(16, .v (.c (.b)))], []⟩
def p132 : Sch := ⟨[(0, .v (.c (.s))), (1, .v (.c (.i .u8)))], []⟩
def r132 : List Sch := [⟨[(0, .v (.c (.i .i64)))], []⟩]
def o132 (a0 : List UInt8) (a1 : Int) : Option Int :=
 (bd (α := Bool) (bd (α := Bool) (o130 a0 (6 : Int)) (fun v1 => (cnd (!v1) (some true) (cnd (a1 == (6 : Int)) (bd (α := Bool) (o191 a0) (fun v2 => (some (!v2)))) (some false))))) (fun v3 => (cnd v3 (some (5 : Int)) (some (0 : Int)))))
def h132 : HC := (.s .d (.s (.s (.j false [o132_s0] .d) .d) .d))
theorem e132 (t : List UInt8 × Int) : evF (stpT Tryz.prog T119 K119) Tryz.f132 p132 r132 h132 t = (o132 t.1 t.2) := by kernel_rfl
theorem fo132 : FOk Tryz.prog 132 ⟨p132, r132, fun t => (o132 t.1 t.2)⟩ := FOk.run_eq (evF_ok (h := h132) (by kernel_rfl) (by kernel_rfl) (by kernel_rfl)) e132
def T120 : Tbl := (132, ⟨p132, r132, fun t => (o132 t.1 t.2)⟩) :: T119
theorem K120 : TOk Tryz.prog T120 := .cons K119 fo132
def o192_s0 : Sch := ⟨[(0, .v (.c (.s))), (8, .v (.c (.i .i64))), (9, .v (.c (.i .i64))), (33, .v (.c (.b)))], []⟩
def o192_s1 : Sch := ⟨[(0, .v (.c (.s))), (8, .v (.c (.i .i64))), (9, .v (.c (.i .i64)))], []⟩
def p192 : Sch := ⟨[(0, .v (.c (.s)))], []⟩
def r192 : List Sch := [⟨[(0, .v (.c (.b)))], []⟩]
def o192 (a0 : List UInt8) : Option Bool :=
 (cnd (((a0.length : Nat) : Int) != (2 : Int)) (some false) (loopO (σ := List UInt8 × Int × Int) fuelN (fun (v2 : List UInt8 × Int × Int) => (cnd (decide (v2.2.2 < v2.2.1)) (bd (α := ((List UInt8 × Int) × Int × Bool)) (gd (decide ((0 : Int) ≤ v2.2.2 ∧ v2.2.2 < ((v2.1.length : Nat) : Int))) (cnd (decide ((((List.getD v2.1 v2.2.2.toNat 0).toNat : Nat) : Int) < (65 : Int))) (gd (decide ((0 : Int) ≤ v2.2.2 ∧ v2.2.2 < ((v2.1.length : Nat) : Int))) (cnd (decide ((((List.getD v2.1 v2.2.2.toNat 0).toNat : Nat) : Int) < (48 : Int))) (some ((v2.1, v2.2.1), v2.2.2, true)) (gd (decide ((0 : Int) ≤ v2.2.2 ∧ v2.2.2 < ((v2.1.length : Nat) : Int))) (some ((v2.1, v2.2.1), v2.2.2, (decide ((((List.getD v2.1 v2.2.2.toNat 0).toNat : Nat) : Int) > (57 : Int)))))))) (gd (decide ((0 : Int) ≤ v2.2.2 ∧ v2.2.2 < ((v2.1.length : Nat) : Int))) (cnd (decide ((((List.getD v2.1 v2.2.2.toNat 0).toNat : Nat) : Int) > (90 : Int))) (gd (decide ((0 : Int) ≤ v2.2.2 ∧ v2.2.2 < ((v2.1.length : Nat) : Int))) (cnd (decide ((((List.getD v2.1 v2.2.2.toNat 0).toNat : Nat) : Int) < (48 : Int))) (some ((v2.1, v2.2.1), v2.2.2, true)) (gd (decide ((0 : Int) ≤ v2.2.2 ∧ v2.2.2 < ((v2.1.length : Nat) : Int))) (some ((v2.1, v2.2.1), v2.2.2, (decide ((((List.getD v2.1 v2.2.2.toNat 0).toNat : Nat) : Int) > (57 : Int)))))))) (some ((v2.1, v2.2.1), v2.2.2, false)))))) (fun v3 => (cnd v3.2.2 (dnO (some false)) (some (Ctl.go (v3.1.1, v3.1.2, (IntKind.wrap .i64 (v3.2.1 + (1 : Int))))))))) (dnO (some true)))) (a0, ((a0.length : Nat) : Int), (0 : Int))))
def h192 : HC := (.s .d (.s .d (.s (.s .d (.b (.l [o192_s1] (.s .d (.s .d (.s (.b (.s .d (.s (.j false [o192_s0] .d) .d))) .d)))))) .d)))
theorem e192 (t : List UInt8) : evF (stpT Tryz.prog T120 K120) Tryz.f192 p192 r192 h192 t = (o192 t) := by kernel_rfl
theorem fo192 : FOk Tryz.prog 192 ⟨p192, r192, fun t => (o192 t)⟩ := FOk.run_eq (evF_ok (h := h192) (by kernel_rfl) (by kernel_rfl) (by kernel_rfl)) e192
def T121 : Tbl := (192, ⟨p192, r192, fun t => (o192 t)⟩) :: T120
theorem K121 : TOk Tryz.prog T121 := .cons K120 fo192
def o133_s0 : Sch := ⟨[(20, .v (.c (.b)))], []⟩
def p133 : Sch := ⟨[(0, .v (.c (.s))), (1, .v (.c (.i .u8)))], []⟩
def r133 : List Sch := [⟨[(0, .v (.c (.i .i64)))], []⟩]
def o133 (a0 : List UInt8) (a1 : Int) : Option Int :=
 (bd (α := Bool) (cnd (a1 == (6 : Int)) (bd (α := Bool) (o130 a0 (6 : Int)) (fun v1 => (cnd (!v1) (some true) (cnd (a1 != (6 : Int)) (bd (α := Bool) (o192 a0) (fun v2 => (some (!v2)))) (some false))))) (cnd (a1 != (6 : Int)) (bd (α := Bool) (o192 a0) (fun v3 => (some (!v3)))) (some false))) (fun v4 => (cnd v4 (some (5 : Int)) (some (0 : Int)))))
def h133 : HC := (.s .d (.s (.s (.j false [o133_s0] .d) .d) .d))
theorem e133 (t : List UInt8 × Int) : evF (stpT Tryz.prog T121 K121) Tryz.f133 p133 r133 h133 t = (o133 t.1 t.2) := by kernel_rfl
theorem fo133 : FOk Tryz.prog 133 ⟨p133, r133, fun t => (o133 t.1 t.2)⟩ := FOk.run_eq (evF_ok (h := h133) (by kernel_rfl) (by kernel_rfl) (by kernel_rfl)) e133
def T122 : Tbl := (133, ⟨p133, r133, fun t => (o133 t.1 t.2)⟩) :: T121
theorem K122 : TOk Tryz.prog T122 := .cons K121 fo133
def o120_s0 : Sch := ⟨[(2, .v (.c (.b)))], []⟩
def p120 : Sch := ⟨[(0, .v (.c (.i .u8)))], []⟩
def r120 : List Sch := [⟨[(0, .v (.c (.b)))], []⟩]
def o120 (a0 : Int) : Option Bool :=
 (bd (α := Bool) (cnd (a0 == (5 : Int)) (some true) (some (a0 == (6 : Int)))) (fun v1 => (some v1)))
theorem e120 (t : Int) : evF (stpT Tryz.prog T122 K122) Tryz.f120 p120 r120 (.s .d (.s (.j false [o120_s0] .d) .d)) t = (o120 t) := by kernel_rfl
theorem fo120 : FOk Tryz.prog 120 ⟨p120, r120, fun t => (o120 t)⟩ := FOk.run_eq (evF_ok (h := (.s .d (.s (.j false [o120_s0] .d) .d))) (by kernel_rfl) (by kernel_rfl) (by kernel_rfl)) e120
def T123 : Tbl := (120, ⟨p120, r120, fun t => (o120 t)⟩) :: T122
theorem K123 : TOk Tryz.prog T123 := .cons K122 fo120
def o122_s0 : Sch := ⟨[(2, .v (.c (.b)))], []⟩
def p122 : Sch := ⟨[(0, .v (.c (.i .u8)))], []⟩
def r122 : List Sch := [⟨[(0, .v (.c (.b)))], []⟩]
def o122 (a0 : Int) : Option Bool :=
 (bd (α := Bool) (cnd (a0 == (2 : Int)) (some true) (cnd (a0 == (3 : Int)) (some true) (some (a0 == (4 : Int))))) (fun v1 => (some v1)))
theorem e122 (t : Int) : evF (stpT Tryz.prog T123 K123) Tryz.f122 p122 r122 (.s .d (.s (.j false [o122_s0] .d) .d)) t = (o122 t) := by kernel_rfl
theorem fo122 : FOk Tryz.prog 122 ⟨p122, r122, fun t => (o122 t)⟩ := FOk.run_eq (evF_ok (h := (.s .d (.s (.j false [o122_s0] .d) .d))) (by kernel_rfl) (by kernel_rfl) (by kernel_rfl)) e122
def T124 : Tbl := (122, ⟨p122, r122, fun t => (o122 t)⟩) :: T123
theorem K124 : TOk Tryz.prog T124 := .cons K123 fo122
def o65_s0 : Sch := ⟨[(1, .v (.c (.ptr 0 0))), (12, .v (.c (.b)))], [Bs3a6650]⟩
def o65_s1 : Sch := ⟨[(1, .v (.c (.ptr 0 0))), (43, .v (.c (.b)))], [Bs3a6650]⟩
def o65_s2 : Sch := ⟨[(57, .v (.c (.b)))], []⟩
def o65_s3 : Sch := ⟨[(1, .v (.c (.ptr 0 0)))], [Bs3a6650]⟩
def p65 : Sch := ⟨[(0, Ss9b59a2)], []⟩
def r65 : List Sch := [⟨[(0, .v (.c (.i .i64)))], []⟩]
def o65 (a0 : Ty71039f) : Option Int :=
 (bd (α := (Bool × Ty71039f)) (cnd (decide (a0.1.2.2 < (1 : Int))) (some (true, a0)) (some ((decide (a0.1.2.2 > (6 : Int))), a0))) (fun v1 => (cnd v1.1 (some (17 : Int)) (bd (α := Int) (o132 v1.2.1.1 v1.2.1.2.2) (fun v2 => (cnd (v2 != (0 : Int)) (some v2) (bd (α := Int) (o133 v1.2.1.2.1 v1.2.1.2.2) (fun v3 => (cnd (v3 != (0 : Int)) (some v3) (bd (α := Bool) (o134 v1.2.2.1) (fun v4 => (cnd (!v4) (some (2 : Int)) (jd (α := Ty71039f) (bd (α := Bool) (o120 v1.2.1.2.2) (fun v5 => (cnd v5 (bd (α := (Bool × Ty71039f)) (cnd (decide (v1.2.2.2.1 < (-200000 : Int))) (some (true, v1.2)) (some ((decide (v1.2.2.2.1 > (6000000 : Int))), v1.2))) (fun v6 => (cnd v6.1 (dnO (some (2 : Int))) (some (Ctl.go v6.2))))) (cnd (v1.2.2.2.1 != (0 : Int)) (dnO (some (1 : Int))) (some (Ctl.go v1.2)))))) (fun v7 => (bd (α := Bool) (o122 v7.1.2.2) (fun v8 => (cnd v8 (bd (α := Bool) (cnd (decide (v7.2.2.2 < (1 : Int))) (some true) (some (decide (v7.2.2.2 > (8000000 : Int))))) (fun v9 => (cnd v9 (some (2 : Int)) (some (0 : Int))))) (cnd (v7.2.2.2 != (0 : Int)) (some (1 : Int)) (some (0 : Int))))))))))))))))))))
def h65 : HC := (.s .d (.s (.s (.j false [o65_s0] .d) .d) (.s .d (.s .d (.s .d (.j true [o65_s3] (.s (.s .d (.c (.s (.j false [o65_s1] .d) .d) .d)) (.s (.s .d (.c (.s (.j false [o65_s2] .d) .d) .d)) .d))))))))
theorem e65 (t : Ty71039f) : evF (stpT Tryz.prog T124 K124) Tryz.f65 p65 r65 h65 t = (o65 t) := by kernel_rfl
theorem fo65 : FOk Tryz.prog 65 ⟨p65, r65, fun t => (o65 t)⟩ := FOk.run_eq (evF_ok (h := h65) (by kernel_rfl) (by kernel_rfl) (by kernel_rfl)) e65
def T125 : Tbl := (65, ⟨p65, r65, fun t => (o65 t)⟩) :: T124
theorem K125 : TOk Tryz.prog T125 := .cons K124 fo65
abbrev Tycfb6dd : Type := (Int × (List (List UInt8 × Bool)) × List (List UInt8 × Bool)) × ((List (List UInt8 × Bool)) × List (List UInt8 × Bool)) × (List (List UInt8 × Bool)) × List (List UInt8 × Bool)
abbrev Ty3e4b0a : Type := ((Bool × List (List UInt8 × Bool)) × (List (List UInt8 × Bool)) × List (List UInt8 × Bool)) × ((List (List UInt8 × Bool)) × List (List UInt8 × Bool)) × (List (List UInt8 × Bool)) × Ty71039f
abbrev Ty8d77b1 : Type := (Bool × (List (List UInt8 × Bool)) × List (List UInt8 × Bool)) × ((List (List UInt8 × Bool)) × List (List UInt8 × Bool)) × (List (List UInt8 × Bool)) × List (List UInt8 × Bool)
abbrev Ty63a0d5 : Type := ((Ty71039f × Int × Int) × (List (List UInt8 × Bool)) × List (List UInt8 × Bool)) × ((List (List UInt8 × Bool)) × List (List UInt8 × Bool)) × (List (List UInt8 × Bool)) × List (List UInt8 × Bool)
def o68_s0 : Sch := ⟨[(4, .v (.c (.ptr 6 0))), (7, .v (.c (.ptr 7 0))), (30, .v (.c (.b)))], [.map .b, .map .b, .map .b, .map .b, .map .b, .map .b, Bs3a6650, .cells 151 [.mp 3, .mp 4, .mp 5]]⟩
def o68_s1 : Sch := ⟨[(41, .v (.c (.b)))], [.map .b, .map .b, .map .b, .map .b, .map .b, .map .b]⟩
def p68 : Sch := ⟨[(0, Ss9b59a2), (1, .v (.agg [.i .i64, .i .i64])), (2, .v (.agg [.mp 0, .mp 1, .mp 2])), (3, .v (.agg [.mp 3, .mp 4, .mp 5]))], [.map .b, .map .b, .map .b, .map .b, .map .b, .map .b]⟩
def r68 : List Sch := [⟨[(0, .v (.c (.i .i64)))], [.map .b, .map .b, .map .b, .map .b, .map .b, .map .b]⟩]
def o68 (a0 : Ty71039f) (a1 : Int × Int) (a2 : List (List UInt8 × Bool)) (a3 : List (List UInt8 × Bool)) (a4 : List (List UInt8 × Bool)) (a5 : List (List UInt8 × Bool)) (a6 : List (List UInt8 × Bool)) (a7 : List (List UInt8 × Bool)) : Option Tycfb6dd :=
 (bd (α := (Int × Int × Int)) (o131 a1 a0.2.1) (fun v1 => (cnd (v1.2.2 != (0 : Int)) (some ((v1.2.2, a2, a3), (a4, a5), a6, a7)) (bd (α := Ty3e4b0a) (cnd (a0.1.2.2 == (5 : Int)) (some ((((mpGet false a3 a0.1.1), a2), a3, a4), (a5, a6), a7, a0)) (some (((false, a2), a3, a4), (a5, a6), a7, a0))) (fun v2 => (cnd v2.1.1.1 (some (((7 : Int), v2.1.1.2, v2.1.2.1), (v2.1.2.2, v2.2.1.1), v2.2.1.2, v2.2.2.1)) (bd (α := Ty8d77b1) (cnd (v2.2.2.2.1.2.2 == (6 : Int)) (some (((!(mpGet false v2.2.1.2 v2.2.2.2.1.2.1)), v2.1.1.2, v2.1.2.1), (v2.1.2.2, v2.2.1.1), v2.2.1.2, v2.2.2.1)) (some ((false, v2.1.1.2, v2.1.2.1), (v2.1.2.2, v2.2.1.1), v2.2.1.2, v2.2.2.1))) (fun v3 => (cnd v3.1.1 (some (((6 : Int), v3.1.2), v3.2)) (some (((0 : Int), v3.1.2), v3.2)))))))))))
def h68 : HC := (.s .d (.s .d (.s (.s (.j false [o68_s0] .d) .d) (.s (.s (.j false [o68_s1] .d) .d) .d))))
theorem e68 (t : Ty63a0d5) : evF (stpT Tryz.prog T125 K125) Tryz.f68 p68 r68 h68 t = (o68 t.1.1.1 t.1.1.2 t.1.2.1 t.1.2.2 t.2.1.1 t.2.1.2 t.2.2.1 t.2.2.2) := by kernel_rfl
theorem fo68 : FOk Tryz.prog 68 ⟨p68, r68, fun t => (o68 t.1.1.1 t.1.1.2 t.1.2.1 t.1.2.2 t.2.1.1 t.2.1.2 t.2.2.1 t.2.2.2)⟩ := FOk.run_eq (evF_ok (h := h68) (by kernel_rfl) (by kernel_rfl) (by kernel_rfl)) e68
def T126 : Tbl := (68, ⟨p68, r68, fun t => (o68 t.1.1.1 t.1.1.2 t.1.2.1 t.1.2.2 t.2.1.1 t.2.1.2 t.2.2.1 t.2.2.2)⟩) :: T125
theorem K126 : TOk Tryz.prog T126 := .cons K125 fo68
def p108 : Sch := ⟨[(0, .v (.c (.s)))], []⟩
def r108 : List Sch := [⟨[(0, .v (.c (.b)))], []⟩]
def o108 (a0 : List UInt8) : Option Bool :=
 (some (!(a0 == a0)))
theorem e108 (t : List UInt8) : evF (stpT Tryz.prog T126 K126) Tryz.f108 p108 r108 .d t = (o108 t) := by kernel_rfl
theorem fo108 : FOk Tryz.prog 108 ⟨p108, r108, fun t => (o108 t)⟩ := FOk.run_eq (evF_ok (h := .d) (by kernel_rfl) (by kernel_rfl) (by kernel_rfl)) e108
def T127 : Tbl := (108, ⟨p108, r108, fun t => (o108 t)⟩) :: T126
theorem K127 : TOk Tryz.prog T127 := .cons K126 fo108
def p48 : Sch := ⟨[(0, .v (.c (.s))), (1, .v (.c (.s)))], []⟩
def r48 : List Sch := [⟨[(0, .v (.c (.i .i64)))], []⟩]
def o48 (a0 : List UInt8) (a1 : List UInt8) : Option Int :=
 (bd (α := Bool) (o108 a0) (fun v1 => (bd (α := Bool) (o108 a1) (fun v2 => (cnd v1 (cnd v2 (some (0 : Int)) (some (-1 : Int))) (cnd v2 (some (1 : Int)) (cnd (Op.bytesLess a0 a1) (some (-1 : Int)) (cnd (!(Op.bytesLess a0 a1 || a0 == a1)) (some (1 : Int)) (some (0 : Int))))))))))
theorem e48 (t : List UInt8 × List UInt8) : evF (stpT Tryz.prog T127 K127) Tryz.f48 p48 r48 .d t = (o48 t.1 t.2) := by kernel_rfl
theorem fo48 : FOk Tryz.prog 48 ⟨p48, r48, fun t => (o48 t.1 t.2)⟩ := FOk.run_eq (evF_ok (h := .d) (by kernel_rfl) (by kernel_rfl) (by kernel_rfl)) e48
def T128 : Tbl := (48, ⟨p48, r48, fun t => (o48 t.1 t.2)⟩) :: T127
theorem K128 : TOk Tryz.prog T128 := .cons K127 fo48
def p66 : Sch := ⟨[(0, .v (.c (.i .i64)))], []⟩
def r66 : List Sch := [⟨[(0, .v (.c (.i .i64)))], []⟩]
def o66 (a0 : Int) : Option Int :=
 (cnd (a0 == (0 : Int)) (some (7 : Int)) (cnd (decide (a0 < (0 : Int))) (some (9 : Int)) (some (0 : Int))))
theorem e66 (t : Int) : evF (stpT Tryz.prog T128 K128) Tryz.f66 p66 r66 .d t = (o66 t) := by kernel_rfl
theorem fo66 : FOk Tryz.prog 66 ⟨p66, r66, fun t => (o66 t)⟩ := FOk.run_eq (evF_ok (h := .d) (by kernel_rfl) (by kernel_rfl) (by kernel_rfl)) e66
def T129 : Tbl := (66, ⟨p66, r66, fun t => (o66 t)⟩) :: T128
theorem K129 : TOk Tryz.prog T129 := .cons K128 fo66
def Sse68d1e : SSh := .tup [.c (.s), .c (.s), .c (.i .i64)]
def o193_s0 : Sch := ⟨[(2, .v (.c (.s))), (3, .v (.c (.s))), (26, .v (.c (.b)))], []⟩
def p193 : Sch := ⟨[(0, .v (.c (.s)))], []⟩
def r193 : List Sch := [⟨[(0, Sse68d1e)], []⟩]
def o193 (a0 : List UInt8) : Option (List UInt8 × List UInt8 × Int) :=
 (bd (α := (List UInt8 × List UInt8 × Bool)) (o153 a0 ([47] : List UInt8)) (fun v1 => (cnd (!v1.2.2) (some (([] : List UInt8), ([] : List UInt8), (4 : Int))) (bd (α := (List UInt8 × List UInt8 × Bool)) (bd (α := Bool) (o130 v1.1 (6 : Int)) (fun v2 => (cnd (!v2) (some (v1.1, v1.2.1, true)) (bd (α := Bool) (o130 v1.2.1 (6 : Int)) (fun v3 => (cnd (!v3) (bd (α := Bool) (o192 v1.2.1) (fun v4 => (some (v1.1, v1.2.1, (!v4))))) (some (v1.1, v1.2.1, false)))))))) (fun v5 => (cnd v5.2.2 (some (([] : List UInt8), ([] : List UInt8), (5 : Int))) (some (v5.1, v5.2.1, (0 : Int)))))))))
def h193 : HC := (.s .d (.s .d (.s .d (.s (.s (.j false [o193_s0] .d) .d) .d))))
theorem e193 (t : List UInt8) : evF (stpT Tryz.prog T129 K129) Tryz.f193 p193 r193 h193 t = (o193 t) := by kernel_rfl
theorem fo193 : FOk Tryz.prog 193 ⟨p193, r193, fun t => (o193 t)⟩ := FOk.run_eq (evF_ok (h := h193) (by kernel_rfl) (by kernel_rfl) (by kernel_rfl)) e193
def T130 : Tbl := (193, ⟨p193, r193, fun t => (o193 t)⟩) :: T129
theorem K130 : TOk Tryz.prog T130 := .cons K129 fo193
def Ssb2f72a : SSh := .v (.agg [.s, .i .i64, .i .i64, .i .u8])
def p247 : Sch := ⟨[(0, Ssb2f72a), (1, .v (.c (.ptr 0 0)))], [.lent [.s]]⟩
def r247 : List Sch := [⟨[(0, .v (.c (.b)))], [.no]⟩]
def o247 (a0 : (List UInt8 × Int) × Int × Int) (a1 : List UInt8) : Option Bool :=
 (some (a0.1.1 == a1))
theorem e247 (t : ((List UInt8 × Int) × Int × Int) × List UInt8) : evF (stpT Tryz.prog T130 K130) Tryz.f247 p247 r247 .d t = (o247 t.1 t.2) := by kernel_rfl
theorem fo247 : FOk Tryz.prog 247 ⟨p247, r247, fun t => (o247 t.1 t.2)⟩ := FOk.run_eq (evF_ok (h := .d) (by kernel_rfl) (by kernel_rfl) (by kernel_rfl)) e247
def T131 : Tbl := (247, ⟨p247, r247, fun t => (o247 t.1 t.2)⟩) :: T130
theorem K131 : TOk Tryz.prog T131 := .cons K130 fo247
def Ss368f50 : SSh := .v (.c (.ro (.p .s (.p (.p (.i .i64) (.i .i64)) (.i .u8))) false))
def Ssec8477 : SSh := .v (.c (.cap (.fn 247) (.ptr 0 0)))
abbrev Tye3db43 : Type := ((List (List UInt8 × (Int × Int) × Int)) × Int) × Int × List UInt8
def Dfe5cb60 : List UInt8 × (Int × Int) × Int := (([] : List UInt8), (((0 : Int), (0 : Int)), (0 : Int)))
def o246_s0 : Sch := ⟨[(0, Ss368f50), (1, Ssec8477), (7, .v (.c (.i .i64))), (8, .v (.c (.i .i64)))], [.cells 9 [.s]]⟩
def p246 : Sch := ⟨[(0, Ss368f50), (1, Ssec8477)], [.cells 9 [.s]]⟩
def r246 : List Sch := [⟨[(0, .v (.c (.i .i64)))], [.cells 9 [.s]]⟩]
def o246 (a0 : List (List UInt8 × (Int × Int) × Int)) (a1 : List UInt8) : Option (Int × List UInt8) :=
 (loopO (σ := Tye3db43) fuelN (fun (v2 : Tye3db43) => (cnd (decide (v2.2.1 < v2.1.2)) (gd (decide ((0 : Int) ≤ v2.2.1 ∧ v2.2.1 < ((v2.1.1.length : Nat) : Int))) (bd (α := List UInt8 × (Int × Int) × Int) (some (List.getD v2.1.1 v2.2.1.toNat Dfe5cb60)) (fun v3 => (bd (α := Bool) (o247 ((v3.1, v3.2.1.1), v3.2.1.2, v3.2.2) v2.2.2) (fun v4 => (cnd v4 (dnO (some v2.2)) (some (Ctl.go (v2.1, (IntKind.wrap .i64 (v2.2.1 + (1 : Int))), v2.2.2))))))))) (dnO (some ((-1 : Int), v2.2.2))))) ((a0, ((a0.length : Nat) : Int)), (0 : Int), a1))
def h246 : HC := (.s .d (.s (.s .d (.b (.l [o246_s0] .d))) .d))
theorem e246 (t : (List (List UInt8 × (Int × Int) × Int)) × List UInt8) : evF (stpT Tryz.prog T131 K131) Tryz.f246 p246 r246 h246 t = (o246 t.1 t.2) := by kernel_rfl
theorem fo246 : FOk Tryz.prog 246 ⟨p246, r246, fun t => (o246 t.1 t.2)⟩ := FOk.run_eq (evF_ok (h := h246) (by kernel_rfl) (by kernel_rfl) (by kernel_rfl)) e246
def T132 : Tbl := (246, ⟨p246, r246, fun t => (o246 t.1 t.2)⟩) :: T131
theorem K132 : TOk Tryz.prog T132 := .cons K131 fo246
def Ssa0c3bb : SSh := .v (.agg [.s, .ro (.p .s (.p (.p (.i .i64) (.i .i64)) (.i .u8))) false])
def p194 : Sch := ⟨[(0, Ssa0c3bb), (1, .v (.c (.s)))], []⟩
def r194 : List Sch := [⟨[(0, .v (.c (.i .i64)))], []⟩]
def o194 (a0 : Tybbc8ca) (a1 : List UInt8) : Option Int :=
 (bd (α := (Int × List UInt8)) (o246 a0.2 a1) (fun v1 => (some v1.1)))
theorem e194 (t : Tybbc8ca × List UInt8) : evF (stpT Tryz.prog T132 K132) Tryz.f194 p194 r194 .d t = (o194 t.1 t.2) := by kernel_rfl
theorem fo194 : FOk Tryz.prog 194 ⟨p194, r194, fun t => (o194 t.1 t.2)⟩ := FOk.run_eq (evF_ok (h := .d) (by kernel_rfl) (by kernel_rfl) (by kernel_rfl)) e194
def T133 : Tbl := (194, ⟨p194, r194, fun t => (o194 t.1 t.2)⟩) :: T132
theorem K133 : TOk Tryz.prog T133 := .cons K132 fo194
def Ssd03dbe : SSh := .v (.agg [.ic .i64 (-200000), .ic .i64 (6000000)])
def p195 : Sch := ⟨[], []⟩
def r195 : List Sch := [⟨[(0, Ssd03dbe)], []⟩]
def o195 : Option Unit :=
 (some ())
theorem e195 (t : Unit) : evF (stpT Tryz.prog T133 K133) Tryz.f195 p195 r195 .d t = o195 := by kernel_rfl
theorem fo195 : FOk Tryz.prog 195 ⟨p195, r195, fun t => o195⟩ := FOk.run_eq (evF_ok (h := .d) (by kernel_rfl) (by kernel_rfl) (by kernel_rfl)) e195
def T134 : Tbl := (195, ⟨p195, r195, fun t => o195⟩) :: T133
theorem K134 : TOk Tryz.prog T134 := .cons K133 fo195
def Bs915fe2 : BSh := .cells 85 [.s, .i .i64, .i .i64, .i .u8]
def o135_s0 : Sch := ⟨[(43, .v (.c (.b)))], []⟩
def o135_s1 : Sch := ⟨[(5, .v (.c (.ptr 0 0))), (44, .v (.c (.b)))], [Bs915fe2]⟩
def p135 : Sch := ⟨[(0, Ssa0c3bb), (1, .v (.c (.i .i64)))], []⟩
def r135 : List Sch := [⟨[(0, .v (.c (.i .i64)))], []⟩]
def o135 (a0 : Tybbc8ca) (a1 : Int) : Option Int :=
 (gd (decide ((0 : Int) ≤ a1 ∧ a1 < ((a0.2.length : Nat) : Int))) (bd (α := List UInt8 × (Int × Int) × Int) (some (List.getD a0.2 a1.toNat Dfe5cb60)) (fun v1 => (bd (α := (List UInt8 × List UInt8 × Int)) (o193 v1.1) (fun v2 => (cnd (v2.2.2 != (0 : Int)) (some (5 : Int)) (bd (α := Int) (o194 a0 v1.1) (fun v3 => (cnd (decide (v3 < a1)) (some (7 : Int)) (cnd (a1 == (IntKind.wrap .i64 (((a0.2.length : Nat) : Int) - (1 : Int)))) (bd (α := Bool) (bd (α := Unit) o195 (fun v5 => (cnd (!((v1.2.1.1 == (-200000 : Int)) && (v1.2.1.2 == (6000000 : Int)))) (some true) (some (v1.2.2 != (0 : Int)))))) (fun v6 => (cnd v6 (some (1 : Int)) (some (0 : Int))))) (bd (α := (Bool × (List UInt8 × Int) × Int × Int)) (cnd (decide (v1.2.1.1 < (-200000 : Int))) (some (true, (v1.1, v1.2.1.1), v1.2.1.2, v1.2.2)) (cnd (decide (v1.2.1.1 > v1.2.1.2)) (some (true, (v1.1, v1.2.1.1), v1.2.1.2, v1.2.2)) (some ((decide (v1.2.1.2 > (6000000 : Int))), (v1.1, v1.2.1.1), v1.2.1.2, v1.2.2)))) (fun v7 => (cnd v7.1 (some (2 : Int)) (cnd (decide (v7.2.2.2 > (2 : Int))) (some (17 : Int)) (some (0 : Int))))))))))))))))
def h135 : HC := (.s .d (.s .d (.s .d (.s .d (.s (.s .d (.c (.s (.s (.j false [o135_s0] .d) .d) .d) .d)) (.s (.b (.s (.j false [o135_s1] .d) .d)) .d))))))
theorem e135 (t : Tybbc8ca × Int) : evF (stpT Tryz.prog T134 K134) Tryz.f135 p135 r135 h135 t = (o135 t.1 t.2) := by kernel_rfl
theorem fo135 : FOk Tryz.prog 135 ⟨p135, r135, fun t => (o135 t.1 t.2)⟩ := FOk.run_eq (evF_ok (h := h135) (by kernel_rfl) (by kernel_rfl) (by kernel_rfl)) e135
def T135 : Tbl := (135, ⟨p135, r135, fun t => (o135 t.1 t.2)⟩) :: T134
theorem K135 : TOk Tryz.prog T135 := .cons K134 fo135
def Bs9b9f65 : BSh := .cells 81 [.s, .ro (.p .s (.p (.p (.i .i64) (.i .i64)) (.i .u8))) false]
def o70_s0 : Sch := ⟨[(1, .v (.c (.ptr 0 0))), (22, .v (.c (.i .i64))), (23, .v (.c (.i .i64)))], [Bs9b9f65]⟩
def p70 : Sch := ⟨[(0, Ssa0c3bb)], []⟩
def r70 : List Sch := [⟨[(0, .v (.c (.i .i64)))], []⟩]
def o70 (a0 : Tybbc8ca) : Option Int :=
 (bd (α := Bool) (o130 a0.1 (8 : Int)) (fun v1 => (cnd (!v1) (some (5 : Int)) (cnd (decide (((a0.2.length : Nat) : Int) < (2 : Int))) (some (1 : Int)) (cnd (decide (((a0.2.length : Nat) : Int) > (40 : Int))) (some (3 : Int)) (loopO (σ := Int × Int × Tybbc8ca) fuelN (fun (v3 : Int × Int × Tybbc8ca) => (cnd (decide (v3.2.1 < v3.1)) (bd (α := Int) (o135 v3.2.2 v3.2.1) (fun v4 => (cnd (v4 != (0 : Int)) (dnO (some v4)) (some (Ctl.go (v3.1, (IntKind.wrap .i64 (v3.2.1 + (1 : Int))), v3.2.2)))))) (dnO (some (0 : Int))))) (((a0.2.length : Nat) : Int), (0 : Int), a0)))))))
def h70 : HC := (.s .d (.s .d (.s (.s .d (.b (.l [o70_s0] .d))) .d)))
theorem e70 (t : Tybbc8ca) : evF (stpT Tryz.prog T135 K135) Tryz.f70 p70 r70 h70 t = (o70 t) := by kernel_rfl
theorem fo70 : FOk Tryz.prog 70 ⟨p70, r70, fun t => (o70 t)⟩ := FOk.run_eq (evF_ok (h := h70) (by kernel_rfl) (by kernel_rfl) (by kernel_rfl)) e70
def T136 : Tbl := (70, ⟨p70, r70, fun t => (o70 t)⟩) :: T135
theorem K136 : TOk Tryz.prog T136 := .cons K135 fo70
def p136 : Sch := ⟨[(0, .v (.c (.i .u8)))], []⟩
def r136 : List Sch := [⟨[(0, .v (.c (.cst (.slice none 0 0))))], []⟩, ⟨[(0, .v (.c (.own 0)))], [.row .y 90]⟩]
def o136 (a0 : Int) : Option (Unit ⊕ (List UInt8)) :=
 (cnd (a0 == (1 : Int)) (some (Sum.inr ([(u8 (1 : Int)), (u8 (2 : Int)), (u8 (3 : Int))] : List UInt8))) (cnd (a0 == (2 : Int)) (some (Sum.inr ([(u8 (3 : Int)), (u8 (2 : Int)), (u8 (1 : Int))] : List UInt8))) (cnd (a0 == (3 : Int)) (some (Sum.inr ([(u8 (3 : Int)), (u8 (2 : Int)), (u8 (4 : Int))] : List UInt8))) (some (Sum.inl ())))))
theorem e136 (t : Int) : evF (stpT Tryz.prog T136 K136) Tryz.f136 p136 r136 .d t = (o136 t) := by kernel_rfl
theorem fo136 : FOk Tryz.prog 136 ⟨p136, r136, fun t => (o136 t)⟩ := FOk.run_eq (evF_ok (h := .d) (by kernel_rfl) (by kernel_rfl) (by kernel_rfl)) e136
def T137 : Tbl := (136, ⟨p136, r136, fun t => (o136 t)⟩) :: T136
theorem K137 : TOk Tryz.prog T137 := .cons K136 fo136
def o196_s0 : Sch := ⟨[(0, .v (.c (.ro .y false))), (1, .v (.c (.i .u8))), (7, .v (.c (.i .i64))), (8, .v (.c (.i .i64)))], []⟩
def p196 : Sch := ⟨[(0, .v (.c (.ro .y false))), (1, .v (.c (.i .u8)))], []⟩
def r196 : List Sch := [⟨[(0, .v (.c (.i .i64)))], []⟩]
def o196 (a0 : List UInt8) (a1 : Int) : Option Int :=
 (loopO (σ := (List UInt8 × Int) × Int × Int) fuelN (fun (v2 : (List UInt8 × Int) × Int × Int) => (cnd (decide (v2.2.2 < v2.2.1)) (gd (decide ((0 : Int) ≤ v2.2.2 ∧ v2.2.2 < ((v2.1.1.length : Nat) : Int))) (cnd (v2.1.2 == ((UInt8.toNat (List.getD v2.1.1 v2.2.2.toNat (0 : UInt8)) : Nat) : Int)) (dnO (some v2.2.2)) (some (Ctl.go (v2.1, v2.2.1, (IntKind.wrap .i64 (v2.2.2 + (1 : Int)))))))) (dnO (some (-1 : Int))))) ((a0, a1), ((a0.length : Nat) : Int), (0 : Int)))
def h196 : HC := (.s .d (.s (.s .d (.b (.l [o196_s0] .d))) .d))
theorem e196 (t : List UInt8 × Int) : evF (stpT Tryz.prog T137 K137) Tryz.f196 p196 r196 h196 t = (o196 t.1 t.2) := by kernel_rfl
theorem fo196 : FOk Tryz.prog 196 ⟨p196, r196, fun t => (o196 t.1 t.2)⟩ := FOk.run_eq (evF_ok (h := h196) (by kernel_rfl) (by kernel_rfl) (by kernel_rfl)) e196
def T138 : Tbl := (196, ⟨p196, r196, fun t => (o196 t.1 t.2)⟩) :: T137
theorem K138 : TOk Tryz.prog T138 := .cons K137 fo196
def o182_s0 : Sch := ⟨[(2, .v (.c (.b)))], []⟩
def p182 : Sch := ⟨[(0, .v (.c (.i .u8)))], []⟩
def r182 : List Sch := [⟨[(0, .v (.c (.b)))], []⟩]
def o182 (a0 : Int) : Option Bool :=
 (bd (α := Bool) (cnd (decide (a0 ≥ (1 : Int))) (some (decide (a0 ≤ (17 : Int)))) (some false)) (fun v1 => (some v1)))
theorem e182 (t : Int) : evF (stpT Tryz.prog T138 K138) Tryz.f182 p182 r182 (.s .d (.s (.j false [o182_s0] .d) .d)) t = (o182 t) := by kernel_rfl
theorem fo182 : FOk Tryz.prog 182 ⟨p182, r182, fun t => (o182 t)⟩ := FOk.run_eq (evF_ok (h := (.s .d (.s (.j false [o182_s0] .d) .d))) (by kernel_rfl) (by kernel_rfl) (by kernel_rfl)) e182
def T139 : Tbl := (182, ⟨p182, r182, fun t => (o182 t)⟩) :: T138
theorem K139 : TOk Tryz.prog T139 := .cons K138 fo182
def p183 : Sch := ⟨[(0, .v (.c (.s))), (1, .v (.c (.b)))], []⟩
def r183 : List Sch := [⟨[(0, .v (.c (.i .i64)))], []⟩]
def o183 (a0 : List UInt8) (a1 : Bool) : Option Int :=
 (cnd a1 (bd (α := (List UInt8 × List UInt8 × Int)) (o193 a0) (fun v1 => (cnd (v1.2.2 != (0 : Int)) (some (5 : Int)) (some (0 : Int))))) (cnd (!(a0 == ([] : List UInt8))) (some (1 : Int)) (some (0 : Int))))
theorem e183 (t : List UInt8 × Bool) : evF (stpT Tryz.prog T139 K139) Tryz.f183 p183 r183 .d t = (o183 t.1 t.2) := by kernel_rfl
theorem fo183 : FOk Tryz.prog 183 ⟨p183, r183, fun t => (o183 t.1 t.2)⟩ := FOk.run_eq (evF_ok (h := .d) (by kernel_rfl) (by kernel_rfl) (by kernel_rfl)) e183
def T140 : Tbl := (183, ⟨p183, r183, fun t => (o183 t.1 t.2)⟩) :: T139
theorem K140 : TOk Tryz.prog T140 := .cons K139 fo183
def o184_s0 : Sch := ⟨[(0, .v (.c (.i .i64))), (1, .v (.c (.b))), (9, .v (.c (.b)))], []⟩
def o184_s1 : Sch := ⟨[(21, .v (.c (.b)))], []⟩
def p184 : Sch := ⟨[(0, .v (.c (.i .i64))), (1, .v (.c (.b))), (2, .v (.c (.i .i64))), (3, .v (.c (.i .i64)))], []⟩
def r184 : List Sch := [⟨[(0, .v (.c (.i .i64)))], []⟩]
def o184 (a0 : Int) (a1 : Bool) (a2 : Int) (a3 : Int) : Option Int :=
 (bd (α := (Int × Bool × Bool)) (cnd a1 (cnd (decide (a0 < a2)) (some (a0, a1, true)) (some (a0, a1, (decide (a0 > a3))))) (some (a0, a1, false))) (fun v1 => (cnd v1.2.2 (some (2 : Int)) (bd (α := Bool) (cnd (!v1.2.1) (some (v1.1 != (0 : Int))) (some false)) (fun v2 => (cnd v2 (some (1 : Int)) (some (0 : Int))))))))
def h184 : HC := (.s .d (.s (.b (.s (.j false [o184_s0] .d) (.c .d (.s (.j false [o184_s1] .d) .d)))) .d))
theorem e184 (t : (Int × Bool) × Int × Int) : evF (stpT Tryz.prog T140 K140) Tryz.f184 p184 r184 h184 t = (o184 t.1.1 t.1.2 t.2.1 t.2.2) := by kernel_rfl
theorem fo184 : FOk Tryz.prog 184 ⟨p184, r184, fun t => (o184 t.1.1 t.1.2 t.2.1 t.2.2)⟩ := FOk.run_eq (evF_ok (h := h184) (by kernel_rfl) (by kernel_rfl) (by kernel_rfl)) e184
def T141 : Tbl := (184, ⟨p184, r184, fun t => (o184 t.1.1 t.1.2 t.2.1 t.2.2)⟩) :: T140
theorem K141 : TOk Tryz.prog T141 := .cons K140 fo184
def Bse5e53b : BSh := .cells 96 [.i .u8, .s, .s, .i .u8, .b, .i .i64, .i .i64, .i .i64, .i .i64, .i .i64, .i .i64, .i .i64, .i .i64]
def Ss3e3d2b : SSh := .v (.agg [.i .u8, .s, .s, .i .u8, .b, .i .i64, .i .i64, .i .i64, .i .i64, .i .i64, .i .i64, .i .i64, .i .i64])
abbrev Ty22ecb9 : Type := ((Int × List UInt8 × List UInt8) × Int × Bool × Int) × (Int × Int × Int) × (Int × Int) × Int × Int
def o126_s0 : Sch := ⟨[(1, .v (.c (.ptr 0 0))), (3, .v (.c (.i .u16))), (47, .v (.c (.b)))], [Bse5e53b]⟩
def o126_s1 : Sch := ⟨[(1, .v (.c (.ptr 0 0))), (3, .v (.c (.i .u16))), (57, .v (.c (.b)))], [Bse5e53b]⟩
def o126_s2 : Sch := ⟨[(1, .v (.c (.ptr 0 0))), (10, .v (.c (.b)))], [Bse5e53b]⟩
def o126_s3 : Sch := ⟨[(1, .v (.c (.ptr 0 0))), (10, .v (.c (.b))), (107, .v (.c (.b)))], [Bse5e53b]⟩
def o126_s4 : Sch := ⟨[(1, .v (.c (.ptr 0 0))), (127, .v (.c (.b)))], [Bse5e53b]⟩
def o126_s5 : Sch := ⟨[(135, .v (.c (.b)))], []⟩
def o126_s6 : Sch := ⟨[(1, .v (.c (.ptr 0 0))), (3, .v (.c (.i .u16)))], [Bse5e53b]⟩
def p126 : Sch := ⟨[(0, Ss3e3d2b)], []⟩
def r126 : List Sch := [⟨[(0, .v (.c (.i .i64)))], []⟩]
def o126 (a0 : Ty22ecb9) : Option Int :=
 (bd (α := Bool) (o182 a0.1.1.1) (fun v1 => (cnd (!v1) (some (17 : Int)) (gd (decide ((0 : Int) ≤ a0.1.1.1 ∧ a0.1.1.1 < (18 : Int))) (bd (α := Int) (o183 a0.1.1.2.1 ((landK .u16 (List.getD gl0 a0.1.1.1.toNat (0 : Int)) (1 : Int)) != (0 : Int))) (fun v2 => (cnd (v2 != (0 : Int)) (some v2) (bd (α := Int) (o183 a0.1.1.2.2 ((landK .u16 (List.getD gl0 a0.1.1.1.toNat (0 : Int)) (2 : Int)) != (0 : Int))) (fun v3 => (cnd (v3 != (0 : Int)) (some v3) (jd (α := (Int × Ty22ecb9)) (cnd ((landK .u16 (List.getD gl0 a0.1.1.1.toNat (0 : Int)) (4 : Int)) != (0 : Int)) (bd (α := (Int × Bool × Ty22ecb9)) (cnd (a0.1.2.1 != (1 : Int)) (some ((List.getD gl0 a0.1.1.1.toNat (0 : Int)), (a0.1.2.1 != (2 : Int)), a0)) (some ((List.getD gl0 a0.1.1.1.toNat (0 : Int)), false, a0))) (fun v4 => (cnd v4.2.1 (dnO (some (1 : Int))) (some (Ctl.go (v4.1, v4.2.2)))))) (cnd (a0.1.2.1 != (0 : Int)) (dnO (some (1 : Int))) (some (Ctl.go ((List.getD gl0 a0.1.1.1.toNat (0 : Int)), a0))))) (fun v5 => (bd (α := (Int × Bool × Ty22ecb9)) (cnd v5.2.1.2.2.1 (some (v5.1, ((landK .u16 v5.1 (8 : Int)) == (0 : Int)), v5.2)) (some (v5.1, false, v5.2))) (fun v6 => (cnd v6.2.1 (some (1 : Int)) (bd (α := Int) (o184 v6.2.2.1.2.2.2 ((landK .u16 v6.1 (16 : Int)) != (0 : Int)) (0 : Int) (129599999 : Int)) (fun v7 => (cnd (v7 != (0 : Int)) (some v7) (bd (α := Int) (o184 v6.2.2.2.1.1 ((landK .u16 v6.1 (32 : Int)) != (0 : Int)) (1 : Int) (2000000 : Int)) (fun v8 => (cnd (v8 != (0 : Int)) (some v8) (bd (α := Int) (o184 v6.2.2.2.1.2.1 ((landK .u16 v6.1 (64 : Int)) != (0 : Int)) (1 : Int) (2000000 : Int)) (fun v9 => (cnd (v9 != (0 : Int)) (some v9) (bd (α := Int) (o184 v6.2.2.2.1.2.2 ((landK .u16 v6.1 (128 : Int)) != (0 : Int)) (0 : Int) (129599999 : Int)) (fun v10 => (cnd (v10 != (0 : Int)) (some v10) (bd (α := (Bool × Ty22ecb9)) (cnd (v6.2.2.1.1.1 == (7 : Int)) (some (true, v6.2.2)) (cnd (v6.2.2.1.1.1 == (11 : Int)) (some (true, v6.2.2)) (some ((v6.2.2.1.1.1 == (14 : Int)), v6.2.2)))) (fun v11 => (bd (α := (Bool × Bool × Ty22ecb9)) (cnd (decide (v11.2.2.2.1.1 < (-200000 : Int))) (some (v11.1, true, v11.2)) (cnd (decide (v11.2.2.2.1.1 > v11.2.2.2.1.2)) (some (v11.1, true, v11.2)) (some (v11.1, (decide (v11.2.2.2.1.2 > (6000000 : Int))), v11.2)))) (fun v12 => (cnd v12.2.1 (some (2 : Int)) (bd (α := (Bool × Ty22ecb9)) (cnd v12.1 (some ((v12.2.2.2.2.1.1 == (-200000 : Int)), v12.2.2)) (some (false, v12.2.2))) (fun v13 => (cnd v13.1 (some (2 : Int)) (bd (α := Bool) (cnd (decide (v13.2.2.2.2.1 < (0 : Int))) (some true) (cnd (decide (v13.2.2.2.2.1 > (1000 : Int))) (some true) (cnd (decide (v13.2.2.2.2.2 < (0 : Int))) (some true) (some (decide (v13.2.2.2.2.2 > (120000 : Int))))))) (fun v14 => (cnd v14 (some (2 : Int)) (some (0 : Int))))))))))))))))))))))))))))))))))))))))
def h126 : HC := (.s .d (.s .d (.s .d (.s .d (.s .d (.j true [o126_s6] (.s (.s .d (.c (.s (.j false [o126_s0] .d) .d) .d)) (.s (.s (.j false [o126_s1] .d) .d) (.s .d (.s .d (.s .d (.s .d (.s (.j false [o126_s2] .d) (.s (.b (.s (.j false [o126_s3] .d) (.c .d (.s (.j false [o126_s4] .d) (.c .d (.s (.j false [o126_s5] .d) .d)))))) .d))))))))))))))
theorem e126 (t : Ty22ecb9) : evF (stpT Tryz.prog T141 K141) Tryz.f126 p126 r126 h126 t = (o126 t) := by kernel_rfl
theorem fo126 : FOk Tryz.prog 126 ⟨p126, r126, fun t => (o126 t)⟩ := FOk.run_eq (evF_ok (h := h126) (by kernel_rfl) (by kernel_rfl) (by kernel_rfl)) e126
def T142 : Tbl := (126, ⟨p126, r126, fun t => (o126 t)⟩) :: T141
theorem K142 : TOk Tryz.prog T142 := .cons K141 fo126
def Ss8e6017 : SSh := .v (.agg [.s, .s, .i .u8, .ro (.p (.i .u8) (.p .s (.a (.p (.i .u8) (.p .s (.p .s (.p (.i .u8) (.p .b (.p (.i .i64) (.p (.i .i64) (.p (.i .i64) (.p (.i .i64) (.p (.p (.i .i64) (.i .i64)) (.p (.i .i64) (.i .i64))))))))))))))) false])
def o197_s0 : Sch := ⟨[(2, .v (.c (.i .u8))), (17, .v (.c (.b)))], []⟩
def o197_s1 : Sch := ⟨[(2, .v (.c (.i .u8))), (19, .v (.c (.b)))], []⟩
def p197 : Sch := ⟨[(0, Ss8e6017), (1, .v (.c (.i .u8))), (2, .v (.c (.i .u8)))], []⟩
def r197 : List Sch := [⟨[(0, .v (.c (.b)))], []⟩]
def o197 (a0 : Ty83d737) (a1 : Int) (a2 : Int) : Option Bool :=
 (bd (α := (Int × Bool)) (cnd (a1 == (4 : Int)) (some (a2, true)) (cnd (a1 == (1 : Int)) (some (a2, (a0.2.1 == (1 : Int)))) (some (a2, false)))) (fun v1 => (cnd v1.2 (bd (α := (Int × Bool)) (cnd (v1.1 == (3 : Int)) (some (v1.1, true)) (cnd (v1.1 == (4 : Int)) (some (v1.1, true)) (cnd (v1.1 == (7 : Int)) (some (v1.1, true)) (cnd (v1.1 == (8 : Int)) (some (v1.1, true)) (some (v1.1, (v1.1 == (10 : Int)))))))) (fun v2 => (cnd v2.2 (some true) (some (v2.1 == (1 : Int)))))) (some (v1.1 == (1 : Int))))))
def h197 : HC := (.s .d (.s (.s (.j false [o197_s0] .d) (.c (.s .d (.b (.j false [o197_s1] .d))) .d)) .d))
theorem e197 (t : Ty83d737 × Int × Int) : evF (stpT Tryz.prog T142 K142) Tryz.f197 p197 r197 h197 t = (o197 t.1 t.2.1 t.2.2) := by kernel_rfl
theorem fo197 : FOk Tryz.prog 197 ⟨p197, r197, fun t => (o197 t.1 t.2.1 t.2.2)⟩ := FOk.run_eq (evF_ok (h := h197) (by kernel_rfl) (by kernel_rfl) (by kernel_rfl)) e197
def T143 : Tbl := (197, ⟨p197, r197, fun t => (o197 t.1 t.2.1 t.2.2)⟩) :: T142
theorem K143 : TOk Tryz.prog T143 := .cons K142 fo197
def o248_s0 : Sch := ⟨[(0, .v (.c (.i .u8))), (1, .v (.c (.i .u8))), (12, .v (.c (.b)))], []⟩
def o248_s1 : Sch := ⟨[(29, .v (.c (.b)))], []⟩
def o248_s2 : Sch := ⟨[(47, .v (.c (.b)))], []⟩
def o248_s3 : Sch := ⟨[(1, .v (.c (.i .u8))), (13, .v (.c (.i .u8))), (40, .v (.c (.b)))], []⟩
def o248_s4 : Sch := ⟨[(1, .v (.c (.i .u8))), (13, .v (.c (.i .u8))), (23, .v (.c (.b)))], []⟩
def o248_s5 : Sch := ⟨[(1, .v (.c (.i .u8))), (13, .v (.c (.i .u8))), (14, .v (.c (.b)))], []⟩
def p248 : Sch := ⟨[(0, .v (.c (.i .u8))), (1, .v (.c (.i .u8)))], []⟩
def r248 : List Sch := [⟨[(0, .v (.c (.b)))], []⟩]
def o248 (a0 : Int) (a1 : Int) : Option Bool :=
 (bd (α := (Int × Int × Bool)) (bd (α := Bool) (o182 a0) (fun v1 => (cnd (!v1) (some (a0, a1, true)) (bd (α := Bool) (o182 a1) (fun v2 => (some (a0, a1, (!v2)))))))) (fun v3 => (cnd v3.2.2 (some false) (bd (α := (Int × Int × Bool)) (cnd (v3.1 == (1 : Int)) (some (v3.2.1, v3.1, true)) (cnd (v3.1 == (2 : Int)) (some (v3.2.1, v3.1, true)) (cnd (v3.1 == (3 : Int)) (some (v3.2.1, v3.1, true)) (cnd (v3.1 == (4 : Int)) (some (v3.2.1, v3.1, true)) (cnd (v3.1 == (5 : Int)) (some (v3.2.1, v3.1, true)) (some (v3.2.1, v3.1, (v3.1 == (6 : Int))))))))) (fun v4 => (cnd v4.2.2 (some (v4.1 != (1 : Int))) (bd (α := (Int × Int × Bool)) (cnd (v4.2.1 == (14 : Int)) (some (v4.1, v4.2.1, true)) (cnd (v4.2.1 == (15 : Int)) (some (v4.1, v4.2.1, true)) (cnd (v4.2.1 == (16 : Int)) (some (v4.1, v4.2.1, true)) (some (v4.1, v4.2.1, (v4.2.1 == (17 : Int))))))) (fun v5 => (cnd v5.2.2 (bd (α := Bool) (cnd (v5.1 == (2 : Int)) (some true) (cnd (v5.1 == (3 : Int)) (some true) (cnd (v5.1 == (4 : Int)) (some true) (cnd (v5.1 == (7 : Int)) (some true) (cnd (v5.1 == (8 : Int)) (some true) (cnd (v5.1 == (9 : Int)) (some true) (cnd (v5.1 == (10 : Int)) (some true) (cnd (v5.1 == (11 : Int)) (some true) (cnd (v5.1 == (12 : Int)) (some true) (some (v5.1 == (13 : Int)))))))))))) (fun v6 => (cnd v6 (some true) (some false)))) (bd (α := (Int × Int × Bool)) (cnd (v5.2.1 == (7 : Int)) (some (v5.1, v5.2.1, true)) (cnd (v5.2.1 == (8 : Int)) (some (v5.1, v5.2.1, true)) (cnd (v5.2.1 == (10 : Int)) (some (v5.1, v5.2.1, true)) (cnd (v5.2.1 == (11 : Int)) (some (v5.1, v5.2.1, true)) (some (v5.1, v5.2.1, (v5.2.1 == (12 : Int)))))))) (fun v7 => (cnd v7.2.2 (bd (α := Bool) (cnd (v7.1 == (3 : Int)) (some true) (cnd (v7.1 == (4 : Int)) (some true) (cnd (v7.1 == (7 : Int)) (some true) (cnd (v7.1 == (8 : Int)) (some true) (cnd (v7.1 == (9 : Int)) (some true) (some (v7.1 == (10 : Int)))))))) (fun v8 => (cnd v8 (some true) (some false)))) (cnd (v7.2.1 == (9 : Int)) (some (v7.1 == (3 : Int))) (some false))))))))))))))
def h248 : HC := (.s .d (.s (.s (.j false [o248_s0] .d) .d) (.s (.s .d (.b (.j false [o248_s5] (.s .d (.c .d (.j false [o248_s4] (.s .d (.c (.s .d (.b (.j false [o248_s1] .d))) (.j false [o248_s3] (.s .d (.c (.s .d (.b (.j false [o248_s2] .d))) .d))))))))))) .d)))
theorem e248 (t : Int × Int) : evF (stpT Tryz.prog T143 K143) Tryz.f248 p248 r248 h248 t = (o248 t.1 t.2) := by kernel_rfl
theorem fo248 : FOk Tryz.prog 248 ⟨p248, r248, fun t => (o248 t.1 t.2)⟩ := FOk.run_eq (evF_ok (h := h248) (by kernel_rfl) (by kernel_rfl) (by kernel_rfl)) e248
def T144 : Tbl := (248, ⟨p248, r248, fun t => (o248 t.1 t.2)⟩) :: T143
theorem K144 : TOk Tryz.prog T144 := .cons K143 fo248
def o249_s0 : Sch := ⟨[(4, .v (.c (.b)))], []⟩
def p249 : Sch := ⟨[(0, .v (.c (.i .u8)))], []⟩
def r249 : List Sch := [⟨[(0, .v (.c (.b)))], []⟩]
def o249 (a0 : Int) : Option Bool :=
 (bd (α := Bool) (cnd (a0 == (11 : Int)) (some true) (cnd (a0 == (12 : Int)) (some true) (cnd (a0 == (13 : Int)) (some true) (cnd (a0 == (14 : Int)) (some true) (cnd (a0 == (15 : Int)) (some true) (cnd (a0 == (16 : Int)) (some true) (some (a0 == (17 : Int))))))))) (fun v1 => (cnd v1 (some true) (some false))))
def h249 : HC := (.s .d (.s (.s .d (.b (.j false [o249_s0] .d))) .d))
theorem e249 (t : Int) : evF (stpT Tryz.prog T144 K144) Tryz.f249 p249 r249 h249 t = (o249 t) := by kernel_rfl
theorem fo249 : FOk Tryz.prog 249 ⟨p249, r249, fun t => (o249 t)⟩ := FOk.run_eq (evF_ok (h := h249) (by kernel_rfl) (by kernel_rfl) (by kernel_rfl)) e249
def T145 : Tbl := (249, ⟨p249, r249, fun t => (o249 t)⟩) :: T144
theorem K145 : TOk Tryz.prog T145 := .cons K144 fo249
def o198_s0 : Sch := ⟨[(4, .v (.c (.b)))], []⟩
def p198 : Sch := ⟨[(0, Ss3e3d2b), (1, Ss3e3d2b)], []⟩
def r198 : List Sch := [⟨[(0, .v (.c (.b)))], []⟩]
def o198 (a0 : Ty22ecb9) (a1 : Ty22ecb9) : Option Bool :=
 (bd (α := Bool) (bd (α := Bool) (o248 a0.1.1.1 a1.1.1.1) (fun v1 => (cnd v1 (bd (α := Bool) (o249 a1.1.1.1) (fun v2 => (cnd (!v2) (some true) (some (a0.1.1.2.1 == a1.1.1.2.1))))) (some false)))) (fun v3 => (some v3)))
theorem e198 (t : Ty22ecb9 × Ty22ecb9) : evF (stpT Tryz.prog T145 K145) Tryz.f198 p198 r198 (.s .d (.s (.j false [o198_s0] .d) .d)) t = (o198 t.1 t.2) := by kernel_rfl
theorem fo198 : FOk Tryz.prog 198 ⟨p198, r198, fun t => (o198 t.1 t.2)⟩ := FOk.run_eq (evF_ok (h := (.s .d (.s (.j false [o198_s0] .d) .d))) (by kernel_rfl) (by kernel_rfl) (by kernel_rfl)) e198
def T146 : Tbl := (198, ⟨p198, r198, fun t => (o198 t.1 t.2)⟩) :: T145
theorem K146 : TOk Tryz.prog T146 := .cons K145 fo198
def Bs0fd177 : BSh := .cells 89 [.s, .s, .i .u8, .ro (.p (.i .u8) (.p .s (.a (.p (.i .u8) (.p .s (.p .s (.p (.i .u8) (.p .b (.p (.i .i64) (.p (.i .i64) (.p (.i .i64) (.p (.i .i64) (.p (.p (.i .i64) (.i .i64)) (.p (.i .i64) (.i .i64))))))))))))))) false]
def Bs9e0fa6 : BSh := .cells 93 [.i .u8, .s, .ro (.p (.i .u8) (.p .s (.p .s (.p (.i .u8) (.p .b (.p (.i .i64) (.p (.i .i64) (.p (.i .i64) (.p (.i .i64) (.p (.p (.i .i64) (.i .i64)) (.p (.i .i64) (.i .i64)))))))))))) true]
def Sscd5aaa : SSh := .v (.c (.ro (.p (.i .u8) (.p .s (.p .s (.p (.i .u8) (.p .b (.p (.i .i64) (.p (.i .i64) (.p (.i .i64) (.p (.i .i64) (.p (.p (.i .i64) (.i .i64)) (.p (.i .i64) (.i .i64)))))))))))) true))
abbrev Ty449ed1 : Type := (Int × Int × Bool) × Ty83d737 × (Int × List UInt8 × List Tyab9aec) × Int × List UInt8 × List Tyab9aec
abbrev Ty137649 : Type := (List Tyab9aec × Int) × Int × Ty83d737 × Int × List UInt8 × List Tyab9aec
def Df6c39f5 : Tyab9aec := ((0 : Int), (([] : List UInt8), (([] : List UInt8), ((0 : Int), (false, ((0 : Int), ((0 : Int), ((0 : Int), ((0 : Int), (((0 : Int), (0 : Int)), ((0 : Int), (0 : Int))))))))))))
abbrev Ty8ade18 : Type := (List Tyab9aec × Int × Int) × Bool × Ty83d737 × Int × List UInt8 × List Tyab9aec
def o137_s0 : Sch := ⟨[(1, .v (.c (.i .i64))), (2, .v (.c (.ptr 0 0))), (5, .v (.c (.own 1)))], [Bs0fd177, .row .y 90]⟩
def o137_s1 : Sch := ⟨[(2, .v (.c (.ptr 0 0))), (6, .v (.c (.ptr 1 0))), (7, .v (.c (.i .i64))), (8, .v (.c (.ptr 2 0))), (9, .v (.c (.i .i64))), (40, .v (.c (.b)))], [Bs0fd177, Bs9e0fa6, Bs9e0fa6]⟩
def o137_s2 : Sch := ⟨[(2, .v (.c (.ptr 0 0))), (6, .v (.c (.ptr 1 0))), (56, .v (.c (.b)))], [Bs0fd177, Bs9e0fa6]⟩
def o137_s3 : Sch := ⟨[(2, .v (.c (.ptr 0 0))), (6, .v (.c (.ptr 1 0))), (10, .v (.c (.b)))], [Bs0fd177, Bs9e0fa6]⟩
def o137_s4 : Sch := ⟨[(2, .v (.c (.ptr 0 0))), (6, .v (.c (.ptr 1 0))), (75, .v (.c (.b)))], [Bs0fd177, Bs9e0fa6]⟩
def o137_s5 : Sch := ⟨[(2, .v (.c (.ptr 0 0))), (6, .v (.c (.ptr 1 0))), (103, Sscd5aaa), (104, .v (.c (.i .i64))), (105, .v (.c (.i .i64))), (140, .v (.c (.b)))], [Bs0fd177, Bs9e0fa6]⟩
def o137_s6 : Sch := ⟨[(2, .v (.c (.ptr 0 0))), (6, .v (.c (.ptr 1 0))), (103, Sscd5aaa), (104, .v (.c (.i .i64))), (105, .v (.c (.i .i64)))], [Bs0fd177, Bs9e0fa6]⟩
def o137_s7 : Sch := ⟨[(2, .v (.c (.ptr 0 0))), (6, .v (.c (.ptr 1 0)))], [Bs0fd177, Bs9e0fa6]⟩
def p137 : Sch := ⟨[(0, Ss8e6017), (1, .v (.c (.i .i64)))], []⟩
def r137 : List Sch := [⟨[(0, .v (.c (.i .i64)))], []⟩]
def o137 (a0 : Ty83d737) (a1 : Int) : Option Int :=
 (bd (α := (Int × Ty83d737 × List UInt8)) (bd (α := Unit ⊕ (List UInt8)) (o136 a0.2.1) (fun v1 => (sm v1 (fun v2 => (some (a1, a0, ([] : List UInt8)))) (fun v3 => (some (a1, a0, v3)))))) (fun v4 => (gd (decide ((0 : Int) ≤ v4.1 ∧ v4.1 < ((v4.2.1.2.2.length : Nat) : Int))) (bd (α := Int × List UInt8 × List Tyab9aec) (some (List.getD v4.2.1.2.2 v4.1.toNat Df766161)) (fun v5 => (bd (α := Int) (o196 v4.2.2 v5.1) (fun v6 => (cnd (decide (v6 < (0 : Int))) (some (17 : Int)) (jd (α := (Ty83d737 × Int × List UInt8 × List Tyab9aec)) (cnd (decide (v4.1 > (0 : Int))) (gd (decide ((0 : Int) ≤ (IntKind.wrap .i64 (v4.1 - (1 : Int))) ∧ (IntKind.wrap .i64 (v4.1 - (1 : Int))) < ((v4.2.1.2.2.length : Nat) : Int))) (bd (α := Int × List UInt8 × List Tyab9aec) (some (List.getD v4.2.1.2.2 (IntKind.wrap .i64 (v4.1 - (1 : Int))).toNat Df766161)) (fun v7 => (bd (α := Int) (o196 v4.2.2 v7.1) (fun v8 => (bd (α := Ty449ed1) (cnd (decide (v6 < v8)) (some ((v6, v8, true), v4.2.1, v5, v7)) (cnd (v6 == v8) (some ((v6, v8, (Op.bytesLess v5.2.1 v7.2.1)), v4.2.1, v5, v7)) (some ((v6, v8, false), v4.2.1, v5, v7)))) (fun v9 => (cnd v9.1.2.2 (dnO (some (9 : Int))) (bd (α := (Bool × Ty83d737 × Int × List UInt8 × List Tyab9aec)) (cnd (v9.1.1 == v9.1.2.1) (some ((v9.2.2.1.2.1 == v9.2.2.2.2.1), v9.2.1, v9.2.2.1)) (some (false, v9.2.1, v9.2.2.1))) (fun v10 => (cnd v10.1 (dnO (some (7 : Int))) (some (Ctl.go v10.2))))))))))))) (some (Ctl.go (v4.2.1, v5)))) (fun v11 => (bd (α := (Bool × Ty83d737 × Int × List UInt8 × List Tyab9aec)) (cnd (v11.2.1 == (1 : Int)) (some (true, v11)) (some ((v11.2.1 == (3 : Int)), v11))) (fun v12 => (bd (α := (Bool × Ty83d737 × Int × List UInt8 × List Tyab9aec)) (cnd v12.1 (bd (α := Bool) (o130 v12.2.2.2.1 (8 : Int)) (fun v13 => (cnd (!v13) (some (true, v12.2)) (cnd (!v12.1) (some ((!(v12.2.2.2.1 == ([] : List UInt8))), v12.2)) (some (false, v12.2)))))) (cnd (!v12.1) (some ((!(v12.2.2.2.1 == ([] : List UInt8))), v12.2)) (some (false, v12.2)))) (fun v14 => (cnd v14.1 (some (5 : Int)) (cnd (((v14.2.2.2.2.length : Nat) : Int) == (0 : Int)) (some (1 : Int)) (cnd (decide (((v14.2.2.2.2.length : Nat) : Int) > (24 : Int))) (some (3 : Int)) (loopO (σ := Ty137649) fuelN (fun (v16 : Ty137649) => (cnd (decide (v16.2.1 < v16.1.2)) (gd (decide ((0 : Int) ≤ v16.2.1 ∧ v16.2.1 < ((v16.1.1.length : Nat) : Int))) (bd (α := Tyab9aec) (some (List.getD v16.1.1 v16.2.1.toNat Df6c39f5)) (fun v17 => (bd (α := Int) (o126 (((v17.1, v17.2.1, v17.2.2.1), v17.2.2.2.1, v17.2.2.2.2.1, v17.2.2.2.2.2.1), (v17.2.2.2.2.2.2.1, v17.2.2.2.2.2.2.2.1, v17.2.2.2.2.2.2.2.2.1), v17.2.2.2.2.2.2.2.2.2)) (fun v18 => (cnd (v18 != (0 : Int)) (dnO (some v18)) (bd (α := Ty8ade18) (cnd (v16.2.1 == (0 : Int)) (bd (α := Bool) (o197 v16.2.2.1 v16.2.2.2.1 v17.1) (fun v24 => (cnd (!v24) (some ((v16.1.1, v16.1.2, v16.2.1), true, v16.2.2)) (cnd (decide (v16.2.1 > (0 : Int))) (gd (decide ((0 : Int) ≤ (IntKind.wrap .i64 (v16.2.1 - (1 : Int))) ∧ (IntKind.wrap .i64 (v16.2.1 - (1 : Int))) < ((v16.2.2.2.2.2.length : Nat) : Int))) (bd (α := Tyab9aec) (some (List.getD v16.2.2.2.2.2 (IntKind.wrap .i64 (v16.2.1 - (1 : Int))).toNat Df6c39f5)) (fun v25 => (bd (α := Bool) (o198 (((v25.1, v25.2.1, v25.2.2.1), v25.2.2.2.1, v25.2.2.2.2.1, v25.2.2.2.2.2.1), (v25.2.2.2.2.2.2.1, v25.2.2.2.2.2.2.2.1, v25.2.2.2.2.2.2.2.2.1), v25.2.2.2.2.2.2.2.2.2) (((v17.1, v17.2.1, v17.2.2.1), v17.2.2.2.1, v17.2.2.2.2.1, v17.2.2.2.2.2.1), (v17.2.2.2.2.2.2.1, v17.2.2.2.2.2.2.2.1, v17.2.2.2.2.2.2.2.2.1), v17.2.2.2.2.2.2.2.2.2)) (fun v26 => (some ((v16.1.1, v16.1.2, v16.2.1), (!v26), v16.2.2))))))) (some ((v16.1.1, v16.1.2, v16.2.1), false, v16.2.2)))))) (cnd (decide (v16.2.1 > (0 : Int))) (gd (decide ((0 : Int) ≤ (IntKind.wrap .i64 (v16.2.1 - (1 : Int))) ∧ (IntKind.wrap .i64 (v16.2.1 - (1 : Int))) < ((v16.2.2.2.2.2.length : Nat) : Int))) (bd (α := Tyab9aec) (some (List.getD v16.2.2.2.2.2 (IntKind.wrap .i64 (v16.2.1 - (1 : Int))).toNat Df6c39f5)) (fun v27 => (bd (α := Bool) (o198 (((v27.1, v27.2.1, v27.2.2.1), v27.2.2.2.1, v27.2.2.2.2.1, v27.2.2.2.2.2.1), (v27.2.2.2.2.2.2.1, v27.2.2.2.2.2.2.2.1, v27.2.2.2.2.2.2.2.2.1), v27.2.2.2.2.2.2.2.2.2) (((v17.1, v17.2.1, v17.2.2.1), v17.2.2.2.1, v17.2.2.2.2.1, v17.2.2.2.2.2.1), (v17.2.2.2.2.2.2.1, v17.2.2.2.2.2.2.2.1, v17.2.2.2.2.2.2.2.2.1), v17.2.2.2.2.2.2.2.2.2)) (fun v28 => (some ((v16.1.1, v16.1.2, v16.2.1), (!v28), v16.2.2))))))) (some ((v16.1.1, v16.1.2, v16.2.1), false, v16.2.2)))) (fun v29 => (cnd v29.2.1 (dnO (some (9 : Int))) (some (Ctl.go ((v29.1.1, v29.1.2.1), (IntKind.wrap .i64 (v29.1.2.2 + (1 : Int))), v29.2.2)))))))))))) (dnO (some (0 : Int))))) ((v14.2.2.2.2, ((v14.2.2.2.2.length : Nat) : Int)), (0 : Int), v14.2)))))))))))))))))))
def h137 : HC := (.s .d (.s (.j false [o137_s0] .d) (.s .d (.s .d (.s .d (.j true [o137_s7] (.s (.s .d (.c (.s .d (.s .d (.b (.s (.j false [o137_s1] .d) (.c .d (.s (.j false [o137_s2] .d) .d)))))) .d)) (.s (.j false [o137_s3] .d) (.s (.b (.s (.j false [o137_s4] .d) .d)) (.s (.s .d (.b (.l [o137_s6] (.s .d (.s .d (.s (.b (.s .d (.s .d (.s (.j false [o137_s5] .d) .d)))) .d)))))) .d))))))))))
theorem e137 (t : Ty83d737 × Int) : evF (stpT Tryz.prog T146 K146) Tryz.f137 p137 r137 h137 t = (o137 t.1 t.2) := by kernel_rfl
theorem fo137 : FOk Tryz.prog 137 ⟨p137, r137, fun t => (o137 t.1 t.2)⟩ := FOk.run_eq (evF_ok (h := h137) (by kernel_rfl) (by kernel_rfl) (by kernel_rfl)) e137
def T147 : Tbl := (137, ⟨p137, r137, fun t => (o137 t.1 t.2)⟩) :: T146
theorem K147 : TOk Tryz.prog T147 := .cons K146 fo137
def Ss306de7 : SSh := .v (.c (.ro (.p (.i .u8) (.p .s (.p .s (.p (.i .u8) (.p .b (.p (.i .i64) (.p (.i .i64) (.p (.i .i64) (.p (.i .i64) (.p (.p (.i .i64) (.i .i64)) (.p (.i .i64) (.i .i64)))))))))))) false))
def Bs33a637 : BSh := .row (.p (.i .u8) (.p .s (.p .s (.p (.i .u8) (.p .b (.p (.i .i64) (.p (.i .i64) (.p (.i .i64) (.p (.i .i64) (.p (.p (.i .i64) (.i .i64)) (.p (.i .i64) (.i .i64)))))))))))) 96
def p145 : Sch := ⟨[(0, Ss306de7)], []⟩
def r145 : List Sch := [⟨[(0, .v (.c (.own 0)))], [Bs33a637]⟩]
def o145 (a0 : List Tyab9aec) : Option (List Tyab9aec) :=
 (nlO (List.isEmpty a0) (some ([] : List Tyab9aec)) (gd (decide ((([] : List Tyab9aec).length + a0.length) * 112 ≤ 140737488355328)) (some (([] : List Tyab9aec) ++ a0))))
theorem e145 (t : List Tyab9aec) : evF (stpT Tryz.prog T147 K147) Tryz.f145 p145 r145 .d t = (o145 t) := by kernel_rfl
theorem fo145 : FOk Tryz.prog 145 ⟨p145, r145, fun t => (o145 t)⟩ := FOk.run_eq (evF_ok (h := .d) (by kernel_rfl) (by kernel_rfl) (by kernel_rfl)) e145
def T148 : Tbl := (145, ⟨p145, r145, fun t => (o145 t)⟩) :: T147
theorem K148 : TOk Tryz.prog T148 := .cons K147 fo145
def Ss17a299 : SSh := .v (.c (.ro (.p (.i .u8) (.p .s (.a (.p (.i .u8) (.p .s (.p .s (.p (.i .u8) (.p .b (.p (.i .i64) (.p (.i .i64) (.p (.i .i64) (.p (.i .i64) (.p (.p (.i .i64) (.i .i64)) (.p (.i .i64) (.i .i64))))))))))))))) false))
def Bs7bad19 : BSh := .cells 93 [.ic .u8 (0), .s, .cst (.slice none 0 0)]
def Sseebeb3 : SSh := .tup [.agg [.i .u8, .s, .own 0], .c (.b)]
abbrev Ty6e4296 : Type := (Int × List UInt8 × List (Int × List UInt8 × List Tyab9aec)) × Int × Int × List UInt8
abbrev Tyc4ef08 : Type := ((Int × List UInt8) × (List (Int × List UInt8 × List Tyab9aec)) × Int) × (Int × Bool) × List UInt8 × Int × List UInt8 × List Tyab9aec
def o138_s0 : Sch := ⟨[(1, .v (.c (.i .u8))), (2, .v (.c (.s))), (6, .v (.c (.ptr 0 0))), (9, .v (.c (.ptr 1 0))), (11, Ss17a299), (12, .v (.c (.i .i64))), (13, .v (.c (.i .i64))), (26, .v (.c (.b)))], [Bs7bad19, Bs9e0fa6]⟩
def o138_s1 : Sch := ⟨[(1, .v (.c (.i .u8))), (2, .v (.c (.s))), (6, .v (.c (.ptr 0 0))), (11, Ss17a299), (12, .v (.c (.i .i64))), (13, .v (.c (.i .i64)))], [Bs7bad19]⟩
def p138 : Sch := ⟨[(0, Ss8e6017), (1, .v (.c (.i .u8))), (2, .v (.c (.s)))], []⟩
def r138 : List Sch := [⟨[(0, Sseebeb3)], [Bs33a637]⟩]
def o138 (a0 : Ty83d737) (a1 : Int) (a2 : List UInt8) : Option ((Int × List UInt8 × Bool) × List Tyab9aec) :=
 (loopO (σ := Ty6e4296) fuelN (fun (v2 : Ty6e4296) => (cnd (decide (v2.2.2.1 < v2.2.1)) (gd (decide ((0 : Int) ≤ v2.2.2.1 ∧ v2.2.2.1 < ((v2.1.2.2.length : Nat) : Int))) (bd (α := Int × List UInt8 × List Tyab9aec) (some (List.getD v2.1.2.2 v2.2.2.1.toNat Df766161)) (fun v3 => (bd (α := Tyc4ef08) (cnd (v3.1 == v2.1.1) (some (((v2.1.1, v2.1.2.1), v2.1.2.2, v2.2.1), (v2.2.2.1, (v3.2.1 == v2.1.2.1)), v2.2.2.2, v3)) (some (((v2.1.1, v2.1.2.1), v2.1.2.2, v2.2.1), (v2.2.2.1, false), v2.2.2.2, v3))) (fun v4 => (cnd v4.2.1.2 (bd (α := (List Tyab9aec)) (o145 v4.2.2.2.2.2) (fun v5 => (dnO (some ((v4.2.2.2.1, v4.2.2.2.2.1, true), v5))))) (some (Ctl.go ((v4.1.1.1, v4.1.1.2, v4.1.2.1), v4.1.2.2, (IntKind.wrap .i64 (v4.2.1.1 + (1 : Int))), v4.2.2.1))))))))) (dnO (some (((0 : Int), ([] : List UInt8), false), ([] : List Tyab9aec)))))) ((a1, a2, a0.2.2), ((a0.2.2.length : Nat) : Int), (0 : Int), ([] : List UInt8)))
def h138 : HC := (.s .d (.s (.s .d (.b (.l [o138_s1] (.s .d (.s .d (.s (.b (.s .d (.s (.j false [o138_s0] .d) .d))) .d)))))) .d))
theorem e138 (t : Ty83d737 × Int × List UInt8) : evF (stpT Tryz.prog T148 K148) Tryz.f138 p138 r138 h138 t = (o138 t.1 t.2.1 t.2.2) := by kernel_rfl
theorem fo138 : FOk Tryz.prog 138 ⟨p138, r138, fun t => (o138 t.1 t.2.1 t.2.2)⟩ := FOk.run_eq (evF_ok (h := h138) (by kernel_rfl) (by kernel_rfl) (by kernel_rfl)) e138
def T149 : Tbl := (138, ⟨p138, r138, fun t => (o138 t.1 t.2.1 t.2.2)⟩) :: T148
theorem K149 : TOk Tryz.prog T149 := .cons K148 fo138
def o71_s0 : Sch := ⟨[(1, .v (.c (.ptr 0 0))), (7, .v (.c (.b)))], [Bs0fd177]⟩
def o71_s1 : Sch := ⟨[(1, .v (.c (.ptr 0 0))), (18, .v (.c (.b)))], [Bs0fd177]⟩
def o71_s2 : Sch := ⟨[(1, .v (.c (.ptr 0 0))), (30, .v (.c (.i .i64))), (31, .v (.c (.i .i64)))], [Bs0fd177]⟩
def o71_s3 : Sch := ⟨[(56, .v (.c (.b)))], []⟩
def p71 : Sch := ⟨[(0, Ss8e6017)], []⟩
def r71 : List Sch := [⟨[(0, .v (.c (.i .i64)))], []⟩]
def o71 (a0 : Ty83d737) : Option Int :=
 (bd (α := (Bool × Ty83d737)) (bd (α := Bool) (o130 a0.1.1 (6 : Int)) (fun v1 => (cnd (!v1) (some (true, a0)) (bd (α := Bool) (o130 a0.1.2 (8 : Int)) (fun v2 => (some ((!v2), a0))))))) (fun v3 => (cnd v3.1 (some (5 : Int)) (bd (α := (Bool × Ty83d737)) (bd (α := Unit ⊕ (List UInt8)) (o136 v3.2.2.1) (fun v4 => (sm v4 (fun v5 => (some (true, v3.2))) (fun v6 => (gd (decide (0 < v6.length)) (some (false, v3.2))))))) (fun v7 => (cnd v7.1 (some (17 : Int)) (cnd (decide (((v7.2.2.2.length : Nat) : Int) > (12 : Int))) (some (3 : Int)) (loopO (σ := Int × Int × Ty83d737) fuelN (fun (v9 : Int × Int × Ty83d737) => (cnd (decide (v9.2.1 < v9.1)) (bd (α := Int) (o137 v9.2.2 v9.2.1) (fun v10 => (cnd (v10 != (0 : Int)) (dnO (some v10)) (some (Ctl.go (v9.1, (IntKind.wrap .i64 (v9.2.1 + (1 : Int))), v9.2.2)))))) (dnO (cnd (((v9.2.2.2.2.length : Nat) : Int) == (0 : Int)) (some (6 : Int)) (bd (α := ((Int × List UInt8 × Bool) × List Tyab9aec)) (o138 v9.2.2 (2 : Int) ([] : List UInt8)) (fun v11 => (bd (α := Bool) (cnd (v9.2.2.2.1 == (3 : Int)) (some (!v11.1.2.2)) (some false)) (fun v12 => (cnd v12 (some (6 : Int)) (some (0 : Int))))))))))) (((v7.2.2.2.length : Nat) : Int), (0 : Int), v7.2)))))))))
def h71 : HC := (.s .d (.s (.b (.s (.j false [o71_s0] .d) (.c .d (.s (.j false [o71_s1] .d) .d)))) (.s (.s .d (.b (.l [o71_s2] .d))) (.s .d (.s (.s .d (.s (.j false [o71_s3] .d) .d)) .d)))))
theorem e71 (t : Ty83d737) : evF (stpT Tryz.prog T149 K149) Tryz.f71 p71 r71 h71 t = (o71 t) := by kernel_rfl
theorem fo71 : FOk Tryz.prog 71 ⟨p71, r71, fun t => (o71 t)⟩ := FOk.run_eq (evF_ok (h := h71) (by kernel_rfl) (by kernel_rfl) (by kernel_rfl)) e71
def T150 : Tbl := (71, ⟨p71, r71, fun t => (o71 t)⟩) :: T149
theorem K150 : TOk Tryz.prog T150 := .cons K149 fo71
def Ss9fb5cc : SSh := .v (.agg [.i .u8, .s, .ro (.p (.i .u8) (.p .s (.p .s (.p (.i .u8) (.p .b (.p (.i .i64) (.p (.i .i64) (.p (.i .i64) (.p (.i .i64) (.p (.p (.i .i64) (.i .i64)) (.p (.i .i64) (.i .i64)))))))))))) false])
abbrev Ty7a2fde : Type := (Int × List (List UInt8 × Bool)) × (List (List UInt8 × Bool)) × List (List UInt8 × Bool)
abbrev Ty3f3283 : Type := (Bool × List (List UInt8 × Bool)) × (List (List UInt8 × Bool)) × List (List UInt8 × Bool)
abbrev Tyf4a52d : Type := (Ty83d737 × Int × List UInt8 × List Tyab9aec) × (List (List UInt8 × Bool)) × (List (List UInt8 × Bool)) × List (List UInt8 × Bool)
def o72_s0 : Sch := ⟨[(21, .v (.c (.b)))], [.map .b, .map .b, .map .b]⟩
def p72 : Sch := ⟨[(0, Ss8e6017), (1, Ss9fb5cc), (2, .v (.agg [.mp 0, .mp 1, .mp 2]))], [.map .b, .map .b, .map .b]⟩
def r72 : List Sch := [⟨[(0, .v (.c (.i .i64)))], [.map .b, .map .b, .map .b]⟩]
def o72 (a0 : Ty83d737) (a1 : Int × List UInt8 × List Tyab9aec) (a2 : List (List UInt8 × Bool)) (a3 : List (List UInt8 × Bool)) (a4 : List (List UInt8 × Bool)) : Option Ty7a2fde :=
 (bd (α := Ty3f3283) (cnd (a1.1 == (1 : Int)) (gd (decide (a1.2.1.length + ([47] : List UInt8).length ≤ 1125899906842624)) (gd (decide ((a1.2.1 ++ ([47] : List UInt8)).length + a0.1.1.length ≤ 1125899906842624)) (some (((!(mpGet false a4 ((a1.2.1 ++ ([47] : List UInt8)) ++ a0.1.1))), a2), a3, a4)))) (some ((false, a2), a3, a4))) (fun v1 => (cnd v1.1.1 (some (((6 : Int), v1.1.2), v1.2)) (some (((0 : Int), v1.1.2), v1.2)))))
def h72 : HC := (.s .d (.s (.s (.j false [o72_s0] .d) .d) .d))
theorem e72 (t : Tyf4a52d) : evF (stpT Tryz.prog T150 K150) Tryz.f72 p72 r72 h72 t = (o72 t.1.1 t.1.2 t.2.1 t.2.2.1 t.2.2.2) := by kernel_rfl
theorem fo72 : FOk Tryz.prog 72 ⟨p72, r72, fun t => (o72 t.1.1 t.1.2 t.2.1 t.2.2.1 t.2.2.2)⟩ := FOk.run_eq (evF_ok (h := h72) (by kernel_rfl) (by kernel_rfl) (by kernel_rfl)) e72
def T151 : Tbl := (72, ⟨p72, r72, fun t => (o72 t.1.1 t.1.2 t.2.1 t.2.2.1 t.2.2.2)⟩) :: T150
theorem K151 : TOk Tryz.prog T151 := .cons K150 fo72
abbrev Ty5a5275 : Type := (List UInt8 × List (List UInt8 × Bool)) × (List (List UInt8 × Bool)) × List (List UInt8 × Bool)
def o139_s0 : Sch := ⟨[(4, .v (.c (.b)))], [.map .b, .map .b, .map .b]⟩
def p139 : Sch := ⟨[(0, .v (.agg [.mp 0, .mp 1, .mp 2])), (1, .v (.c (.s)))], [.map .b, .map .b, .map .b]⟩
def r139 : List Sch := [⟨[(0, .v (.c (.b)))], [.map .b, .map .b, .map .b]⟩]
def o139 (a0 : List UInt8) (a1 : List (List UInt8 × Bool)) (a2 : List (List UInt8 × Bool)) (a3 : List (List UInt8 × Bool)) : Option Ty3f3283 :=
 (bd (α := Ty3f3283) (cnd (a0 == ([] : List UInt8)) (some ((true, a1), a2, a3)) (some (((mpGet false a1 a0), a1), a2, a3))) (fun v1 => (some v1)))
theorem e139 (t : Ty5a5275) : evF (stpT Tryz.prog T151 K151) Tryz.f139 p139 r139 (.s .d (.s (.j false [o139_s0] .d) .d)) t = (o139 t.1.1 t.1.2 t.2.1 t.2.2) := by kernel_rfl
theorem fo139 : FOk Tryz.prog 139 ⟨p139, r139, fun t => (o139 t.1.1 t.1.2 t.2.1 t.2.2)⟩ := FOk.run_eq (evF_ok (h := (.s .d (.s (.j false [o139_s0] .d) .d))) (by kernel_rfl) (by kernel_rfl) (by kernel_rfl)) e139
def T152 : Tbl := (139, ⟨p139, r139, fun t => (o139 t.1.1 t.1.2 t.2.1 t.2.2)⟩) :: T151
theorem K152 : TOk Tryz.prog T152 := .cons K151 fo139
abbrev Ty663af6 : Type := (Ty22ecb9 × List (List UInt8 × Bool)) × (List (List UInt8 × Bool)) × List (List UInt8 × Bool)
def o73_s0 : Sch := ⟨[(16, .v (.c (.b)))], [.map .b, .map .b, .map .b]⟩
def p73 : Sch := ⟨[(0, Ss3e3d2b), (1, .v (.agg [.mp 0, .mp 1, .mp 2]))], [.map .b, .map .b, .map .b]⟩
def r73 : List Sch := [⟨[(0, .v (.c (.i .i64)))], [.map .b, .map .b, .map .b]⟩]
def o73 (a0 : Ty22ecb9) (a1 : List (List UInt8 × Bool)) (a2 : List (List UInt8 × Bool)) (a3 : List (List UInt8 × Bool)) : Option Ty7a2fde :=
 (bd (α := Ty3f3283) (bd (α := Ty3f3283) (o139 a0.1.1.2.1 a1 a2 a3) (fun v1 => (cnd (!v1.1.1) (some ((true, v1.1.2), v1.2)) (bd (α := Ty3f3283) (o139 a0.1.1.2.2 v1.1.2 v1.2.1 v1.2.2) (fun v2 => (some (((!v2.1.1), v2.1.2), v2.2))))))) (fun v3 => (cnd v3.1.1 (some (((6 : Int), v3.1.2), v3.2)) (some (((0 : Int), v3.1.2), v3.2)))))
def h73 : HC := (.s .d (.s (.s (.j false [o73_s0] .d) .d) .d))
theorem e73 (t : Ty663af6) : evF (stpT Tryz.prog T152 K152) Tryz.f73 p73 r73 h73 t = (o73 t.1.1 t.1.2 t.2.1 t.2.2) := by kernel_rfl
theorem fo73 : FOk Tryz.prog 73 ⟨p73, r73, fun t => (o73 t.1.1 t.1.2 t.2.1 t.2.2)⟩ := FOk.run_eq (evF_ok (h := h73) (by kernel_rfl) (by kernel_rfl) (by kernel_rfl)) e73
def T153 : Tbl := (73, ⟨p73, r73, fun t => (o73 t.1.1 t.1.2 t.2.1 t.2.2)⟩) :: T152
theorem K153 : TOk Tryz.prog T153 := .cons K152 fo73
def p111 : Sch := ⟨[(0, .v (.c (.s))), (1, .v (.c (.s)))], []⟩
def r111 : List Sch := [⟨[(0, .v (.c (.i .i64)))], []⟩]
def o111 (a0 : List UInt8) (a1 : List UInt8) : Option Int :=
 (bd (α := Int) (o174 a0 a1) (fun v1 => (some v1)))
theorem e111 (t : List UInt8 × List UInt8) : evF (stpT Tryz.prog T153 K153) Tryz.f111 p111 r111 .d t = (o111 t.1 t.2) := by kernel_rfl
theorem fo111 : FOk Tryz.prog 111 ⟨p111, r111, fun t => (o111 t.1 t.2)⟩ := FOk.run_eq (evF_ok (h := .d) (by kernel_rfl) (by kernel_rfl) (by kernel_rfl)) e111
def T154 : Tbl := (111, ⟨p111, r111, fun t => (o111 t.1 t.2)⟩) :: T153
theorem K154 : TOk Tryz.prog T154 := .cons K153 fo111
def p175 : Sch := ⟨[(0, .v (.c (.i .u8)))], []⟩
def r175 : List Sch := [⟨[(0, .v (.c (.b)))], []⟩]
def o175 (a0 : Int) : Option Bool :=
 (some (a0 != a0))
theorem e175 (t : Int) : evF (stpT Tryz.prog T154 K154) Tryz.f175 p175 r175 .d t = (o175 t) := by kernel_rfl
theorem fo175 : FOk Tryz.prog 175 ⟨p175, r175, fun t => (o175 t)⟩ := FOk.run_eq (evF_ok (h := .d) (by kernel_rfl) (by kernel_rfl) (by kernel_rfl)) e175
def T155 : Tbl := (175, ⟨p175, r175, fun t => (o175 t)⟩) :: T154
theorem K155 : TOk Tryz.prog T155 := .cons K154 fo175
def p112 : Sch := ⟨[(0, .v (.c (.i .u8))), (1, .v (.c (.i .u8)))], []⟩
def r112 : List Sch := [⟨[(0, .v (.c (.i .i64)))], []⟩]
def o112 (a0 : Int) (a1 : Int) : Option Int :=
 (bd (α := Bool) (o175 a0) (fun v1 => (bd (α := Bool) (o175 a1) (fun v2 => (cnd v1 (cnd v2 (some (0 : Int)) (some (-1 : Int))) (cnd v2 (some (1 : Int)) (cnd (decide (a0 < a1)) (some (-1 : Int)) (cnd (decide (a0 > a1)) (some (1 : Int)) (some (0 : Int))))))))))
theorem e112 (t : Int × Int) : evF (stpT Tryz.prog T155 K155) Tryz.f112 p112 r112 .d t = (o112 t.1 t.2) := by kernel_rfl
theorem fo112 : FOk Tryz.prog 112 ⟨p112, r112, fun t => (o112 t.1 t.2)⟩ := FOk.run_eq (evF_ok (h := .d) (by kernel_rfl) (by kernel_rfl) (by kernel_rfl)) e112
def T156 : Tbl := (112, ⟨p112, r112, fun t => (o112 t.1 t.2)⟩) :: T155
theorem K156 : TOk Tryz.prog T156 := .cons K155 fo112
def o110_s0 : Sch := ⟨[(3, .v (.c (.ic .i64 (0)))), (6, .v (.c (.ro (.i .i64) false))), (7, .v (.c (.i .i64))), (8, .v (.c (.i .i64)))], []⟩
def p110 : Sch := ⟨[(0, .v (.c (.ro (.i .i64) false)))], []⟩
def r110 : List Sch := [⟨[(0, .v (.c (.i .i64)))], []⟩]
def o110 (a0 : List Int) : Option Int :=
 (loopO (σ := List Int × Int × Int) fuelN (fun (v2 : List Int × Int × Int) => (cnd (decide (v2.2.2 < v2.2.1)) (gd (decide ((0 : Int) ≤ v2.2.2 ∧ v2.2.2 < ((v2.1.length : Nat) : Int))) (cnd ((List.getD v2.1 v2.2.2.toNat (0 : Int)) != (0 : Int)) (dnO (some (List.getD v2.1 v2.2.2.toNat (0 : Int)))) (some (Ctl.go (v2.1, v2.2.1, (IntKind.wrap .i64 (v2.2.2 + (1 : Int)))))))) (dnO (some (0 : Int))))) (a0, ((a0.length : Nat) : Int), (0 : Int)))
def h110 : HC := (.s .d (.s .d (.s (.s .d (.b (.l [o110_s0] .d))) .d)))
theorem e110 (t : List Int) : evF (stpT Tryz.prog T156 K156) Tryz.f110 p110 r110 h110 t = (o110 t) := by kernel_rfl
theorem fo110 : FOk Tryz.prog 110 ⟨p110, r110, fun t => (o110 t)⟩ := FOk.run_eq (evF_ok (h := h110) (by kernel_rfl) (by kernel_rfl) (by kernel_rfl)) e110
def T157 : Tbl := (110, ⟨p110, r110, fun t => (o110 t)⟩) :: T156
theorem K157 : TOk Tryz.prog T157 := .cons K156 fo110
def p50 : Sch := ⟨[(0, Ss8e6017), (1, Ss8e6017)], []⟩
def r50 : List Sch := [⟨[(0, .v (.c (.i .i64)))], []⟩]
def o50 (a0 : Ty83d737) (a1 : Ty83d737) : Option Int :=
 (bd (α := Int) (o111 a0.1.1 a1.1.1) (fun v5 => (bd (α := Int) (o112 a0.2.1 a1.2.1) (fun v6 => (bd (α := Int) (o111 a0.1.2 a1.1.2) (fun v7 => (bd (α := Int) (o110 ([v5, v6, v7] : List Int)) (fun v8 => (some v8)))))))))
theorem e50 (t : Ty83d737 × Ty83d737) : evF (stpT Tryz.prog T157 K157) Tryz.f50 p50 r50 (.s .d (.s (.r 1) .d)) t = (o50 t.1 t.2) := by kernel_rfl
theorem fo50 : FOk Tryz.prog 50 ⟨p50, r50, fun t => (o50 t.1 t.2)⟩ := FOk.run_eq (evF_ok (h := (.s .d (.s (.r 1) .d))) (by kernel_rfl) (by kernel_rfl) (by kernel_rfl)) e50
def T158 : Tbl := (50, ⟨p50, r50, fun t => (o50 t.1 t.2)⟩) :: T157
theorem K158 : TOk Tryz.prog T158 := .cons K157 fo50
def Ssd9c38c : SSh := .v (.c (.ro (.p .s (.a (.p .s (.p (.p (.i .i64) (.i .i64)) (.i .u8))))) false))
def Ss1e9aae : SSh := .v (.c (.ro (.p .s (.p (.p (.i .i64) (.i .i64)) (.i .u8))) true))
def Bs285959 : BSh := .cells 81 [.s, .ro (.p .s (.p (.p (.i .i64) (.i .i64)) (.i .u8))) true]
def Ss2410e8 : SSh := .v (.c (.ro (.p .s (.p .s (.p (.i .u8) (.a (.p (.i .u8) (.p .s (.a (.p (.i .u8) (.p .s (.p .s (.p (.i .u8) (.p .b (.p (.i .i64) (.p (.i .i64) (.p (.i .i64) (.p (.i .i64) (.p (.p (.i .i64) (.i .i64)) (.p (.i .i64) (.i .i64))))))))))))))))))) false))
def Ss18df24 : SSh := .v (.c (.ro (.p (.i .u8) (.p .s (.a (.p (.i .u8) (.p .s (.p .s (.p (.i .u8) (.p .b (.p (.i .i64) (.p (.i .i64) (.p (.i .i64) (.p (.i .i64) (.p (.p (.i .i64) (.i .i64)) (.p (.i .i64) (.i .i64))))))))))))))) true))
abbrev Ty4dc644 : Type := ((List Ty250e00 × Int) × Int × Ty3283d1 × List (List UInt8 × Bool)) × ((List (List UInt8 × Bool)) × List (List UInt8 × Bool)) × (List (List UInt8 × Bool)) × (List (List UInt8 × Bool)) × List (List UInt8 × Bool)
abbrev Ty3450a1 : Type := ((List Ty250e00 × Int) × Int × Ty3283d1 × Ty71039f) × ((List (List UInt8 × Bool)) × (List (List UInt8 × Bool)) × List (List UInt8 × Bool)) × (List (List UInt8 × Bool)) × (List (List UInt8 × Bool)) × List (List UInt8 × Bool)
abbrev Ty51c32a : Type := (List Tybbc8ca × Int × Int) × (Ty3283d1 × List (List UInt8 × Bool)) × (List (List UInt8 × Bool)) × List (List UInt8 × Bool)
abbrev Ty16ae74 : Type := ((List Tybbc8ca × Int) × Int × Ty3283d1) × (Tybbc8ca × List (List UInt8 × Bool)) × (List (List UInt8 × Bool)) × List (List UInt8 × Bool)
abbrev Ty781f5b : Type := ((List Tybbc8ca × Int) × Int × (List (List UInt8 × (Int × Int) × Int)) × Int) × (Int × Ty3283d1) × (List (List UInt8 × Bool)) × (List (List UInt8 × Bool)) × List (List UInt8 × Bool)
abbrev Tye60b5f : Type := (List Tycd215c × Int × Int) × (Ty3283d1 × List (List UInt8 × Bool)) × (List (List UInt8 × Bool)) × List (List UInt8 × Bool)
abbrev Ty2b04a4 : Type := ((List Tycd215c × Int) × Int × Ty3283d1) × (Ty83d737 × List (List UInt8 × Bool)) × (List (List UInt8 × Bool)) × List (List UInt8 × Bool)
abbrev Ty0614a9 : Type := ((List Tycd215c × Int) × Int × (List (Int × List UInt8 × List Tyab9aec)) × Int) × (Int × Ty3283d1 × Ty83d737) × (List (List UInt8 × Bool)) × (List (List UInt8 × Bool)) × List (List UInt8 × Bool)
abbrev Tya8f789 : Type := ((List Tycd215c × Int) × Int × (List (Int × List UInt8 × List Tyab9aec)) × Int) × (Int × Ty3283d1) × (List (List UInt8 × Bool)) × (List (List UInt8 × Bool)) × List (List UInt8 × Bool)
abbrev Ty9312e8 : Type := ((List Tycd215c × Int × Int) × (List (Int × List UInt8 × List Tyab9aec)) × Int × Int) × (List Tyab9aec × Int × Int) × (Ty3283d1 × List (List UInt8 × Bool)) × (List (List UInt8 × Bool)) × List (List UInt8 × Bool)
def o26v1_s0 : Sch := ⟨[(1, .v (.c (.ptr 0 0))), (50, .v (.c (.b)))], [Bsbad59e]⟩
def o26v1_s1 : Sch := ⟨[(1, .v (.c (.ptr 0 0))), (4, .v (.c (.ptr 1 0))), (5, .v (.c (.ptr 2 0))), (7, .v (.c (.ptr 3 0))), (56, Sse3ecad), (57, .v (.c (.i .i64))), (58, .v (.c (.i .i64)))], [Bsbad59e, .cells 151 [.mp 4, .mp 5, .mp 6], .cells 151 [.mp 7, .mp 8, .mp 9], Bs3a6650, .map .b, .map .b, .map .b, .map .b, .map .b, .map .b]⟩
def o26v1_s2 : Sch := ⟨[(1, .v (.c (.ptr 0 0))), (4, .v (.c (.ptr 1 0))), (5, .v (.c (.ptr 2 0))), (56, Sse3ecad), (57, .v (.c (.i .i64))), (58, .v (.c (.i .i64)))], [Bsbad59e, .cells 151 [.mp 3, .mp 4, .mp 5], .cells 151 [.mp 6, .mp 7, .mp 8], .map .b, .map .b, .map .b, .map .b, .map .b, .map .b]⟩
def o26v1_s3 : Sch := ⟨[(1, .v (.c (.ptr 0 0))), (4, .v (.c (.ptr 1 0))), (99, Ssd9c38c), (100, .v (.c (.i .i64))), (101, .v (.c (.i .i64))), (128, Ss1e9aae), (129, .v (.c (.i .i64))), (130, .v (.c (.i .i64)))], [Bsbad59e, .cells 151 [.mp 2, .mp 3, .mp 4], .map .b, .map .b, .map .b]⟩
def o26v1_s4 : Sch := ⟨[(1, .v (.c (.ptr 0 0))), (4, .v (.c (.ptr 1 0))), (12, .v (.c (.ptr 2 0))), (99, Ssd9c38c), (100, .v (.c (.i .i64))), (101, .v (.c (.i .i64)))], [Bsbad59e, .cells 151 [.mp 3, .mp 4, .mp 5], Bs285959, .map .b, .map .b, .map .b]⟩
def o26v1_s5 : Sch := ⟨[(1, .v (.c (.ptr 0 0))), (4, .v (.c (.ptr 1 0))), (99, Ssd9c38c), (100, .v (.c (.i .i64))), (101, .v (.c (.i .i64)))], [Bsbad59e, .cells 151 [.mp 2, .mp 3, .mp 4], .map .b, .map .b, .map .b]⟩
def o26v1_s6 : Sch := ⟨[(1, .v (.c (.ptr 0 0))), (4, .v (.c (.ptr 1 0))), (18, .v (.c (.ptr 2 0))), (143, Ss2410e8), (144, .v (.c (.i .i64))), (145, .v (.c (.i .i64))), (176, Ss18df24), (177, .v (.c (.i .i64))), (178, .v (.c (.i .i64)))], [Bsbad59e, .cells 151 [.mp 3, .mp 4, .mp 5], Bsb7ec44, .map .b, .map .b, .map .b]⟩
def o26v1_s7 : Sch := ⟨[(1, .v (.c (.ptr 0 0))), (4, .v (.c (.ptr 1 0))), (143, Ss2410e8), (144, .v (.c (.i .i64))), (145, .v (.c (.i .i64))), (191, Ss18df24), (192, .v (.c (.i .i64))), (193, .v (.c (.i .i64))), (198, Sscd5aaa), (199, .v (.c (.i .i64))), (200, .v (.c (.i .i64)))], [Bsbad59e, .cells 151 [.mp 2, .mp 3, .mp 4], .map .b, .map .b, .map .b]⟩
def o26v1_s8 : Sch := ⟨[(1, .v (.c (.ptr 0 0))), (4, .v (.c (.ptr 1 0))), (143, Ss2410e8), (144, .v (.c (.i .i64))), (145, .v (.c (.i .i64))), (191, Ss18df24), (192, .v (.c (.i .i64))), (193, .v (.c (.i .i64)))], [Bsbad59e, .cells 151 [.mp 2, .mp 3, .mp 4], .map .b, .map .b, .map .b]⟩
def o26v1_s9 : Sch := ⟨[(1, .v (.c (.ptr 0 0))), (4, .v (.c (.ptr 1 0))), (18, .v (.c (.ptr 2 0))), (143, Ss2410e8), (144, .v (.c (.i .i64))), (145, .v (.c (.i .i64)))], [Bsbad59e, .cells 151 [.mp 3, .mp 4, .mp 5], Bsb7ec44, .map .b, .map .b, .map .b]⟩
def o26v1_s10 : Sch := ⟨[(1, .v (.c (.ptr 0 0))), (4, .v (.c (.ptr 1 0))), (143, Ss2410e8), (144, .v (.c (.i .i64))), (145, .v (.c (.i .i64)))], [Bsbad59e, .cells 151 [.mp 2, .mp 3, .mp 4], .map .b, .map .b, .map .b]⟩
def p26v1 : Sch := ⟨[(0, Ss069f38)], []⟩
def r26v1 : List Sch := [⟨[(0, .v (.c (.i .i64)))], []⟩]
def o26v1 (a0 : Ty3283d1) : Option Int :=
 (bd (α := Int) (o63 ((a0.1.1.1, a0.1.1.2, a0.1.2.1), a0.1.2.2, a0.2.1)) (fun v1 => (cnd (v1 != (0 : Int)) (some v1) (bd (α := (Bool × Ty3283d1)) (cnd (decide (((a0.2.2.1.length : Nat) : Int) > (400 : Int))) (some (true, a0)) (cnd (decide (((a0.2.2.2.1.length : Nat) : Int) > (60 : Int))) (some (true, a0)) (some ((decide (((a0.2.2.2.2.length : Nat) : Int) > (60 : Int))), a0)))) (fun v2 => (cnd v2.1 (some (3 : Int)) (bd (α := Ty95bafb) (o64v1 v2.2.2.2.1) (fun v3 => (bd (α := Ty95bafb) (o64v1 ([] : List Ty250e00)) (fun v4 => (loopO (σ := Ty4dc644) fuelN (fun (v6 : Ty4dc644) => (cnd (decide (v6.1.2.1 < v6.1.1.2)) (gd (decide ((0 : Int) ≤ v6.1.2.1 ∧ v6.1.2.1 < ((v6.1.1.1.length : Nat) : Int))) (bd (α := Ty250e00) (some (List.getD v6.1.1.1 v6.1.2.1.toNat Df60bb56)) (fun v7 => (bd (α := Int) (o65 ((v7.1, v7.2.1, v7.2.2.1), v7.2.2.2)) (fun v8 => (cnd (v8 != (0 : Int)) (dnO (some v8)) (jd (α := Ty3450a1) (cnd (decide (v6.1.2.1 > (0 : Int))) (bd (α := (List UInt8)) (o67 ((v7.1, v7.2.1, v7.2.2.1), v7.2.2.2)) (fun v14 => (gd (decide ((0 : Int) ≤ (IntKind.wrap .i64 (v6.1.2.1 - (1 : Int))) ∧ (IntKind.wrap .i64 (v6.1.2.1 - (1 : Int))) < ((v6.1.2.2.1.2.2.1.length : Nat) : Int))) (bd (α := Ty250e00) (some (List.getD v6.1.2.2.1.2.2.1 (IntKind.wrap .i64 (v6.1.2.1 - (1 : Int))).toNat Df60bb56)) (fun v15 => (bd (α := (List UInt8)) (o67 ((v15.1, v15.2.1, v15.2.2.1), v15.2.2.2)) (fun v16 => (bd (α := Int) (o48 v14 v16) (fun v17 => (bd (α := Int) (o66 v17) (fun v18 => (cnd (v18 != (0 : Int)) (dnO (dnO (some v18))) (some (Ctl.go ((v6.1.1, v6.1.2.1, v6.1.2.2.1, (v7.1, v7.2.1, v7.2.2.1), v7.2.2.2), (v6.1.2.2.2, v6.2.1), v6.2.2))))))))))))))) (some (Ctl.go ((v6.1.1, v6.1.2.1, v6.1.2.2.1, (v7.1, v7.2.1, v7.2.2.1), v7.2.2.2), (v6.1.2.2.2, v6.2.1), v6.2.2)))) (fun v19 => (bd (α := Tycfb6dd) (o68 v19.1.2.2.2 v19.1.2.2.1.2.1 v19.2.2.1 v19.2.2.2.1 v19.2.2.2.2 v19.2.1.1 v19.2.1.2.1 v19.2.1.2.2) (fun v20 => (cnd (v20.1.1 != (0 : Int)) (dnO (some v20.1.1)) (bd (α := Ty95bafb) (o69 v19.1.2.2.2 v20.1.2.1 v20.1.2.2 v20.2.1.1) (fun v21 => (some (Ctl.go ((v19.1.1, (IntKind.wrap .i64 (v19.1.2.1 + (1 : Int))), v19.1.2.2.1, v20.2.1.2), v20.2.2, v21)))))))))))))))) (dnO (loopO (σ := Ty51c32a) fuelN (fun (v23 : Ty51c32a) => (cnd (decide (v23.1.2.2 < v23.1.2.1)) (gd (decide ((0 : Int) ≤ v23.1.2.2 ∧ v23.1.2.2 < ((v23.1.1.length : Nat) : Int))) (bd (α := Tybbc8ca) (some (List.getD v23.1.1 v23.1.2.2.toNat Df620925)) (fun v24 => (bd (α := Int) (o70 v24) (fun v25 => (cnd (v25 != (0 : Int)) (dnO (some v25)) (jd (α := Ty16ae74) (cnd (decide (v23.1.2.2 > (0 : Int))) (gd (decide ((0 : Int) ≤ (IntKind.wrap .i64 (v23.1.2.2 - (1 : Int))) ∧ (IntKind.wrap .i64 (v23.1.2.2 - (1 : Int))) < ((v23.2.1.1.2.2.2.1.length : Nat) : Int))) (bd (α := Int) (o48 v24.1 ((List.getD v23.2.1.1.2.2.2.1 (IntKind.wrap .i64 (v23.1.2.2 - (1 : Int))).toNat Df620925).1)) (fun v28 => (bd (α := Int) (o66 v28) (fun v29 => (cnd (v29 != (0 : Int)) (dnO (dnO (some v29))) (some (Ctl.go (((v23.1.1, v23.1.2.1), v23.1.2.2, v23.2.1.1), (v24, v23.2.1.2), v23.2.2))))))))) (some (Ctl.go (((v23.1.1, v23.1.2.1), v23.1.2.2, v23.2.1.1), (v24, v23.2.1.2), v23.2.2)))) (fun v30 => (loopO (σ := Ty781f5b) fuelN (fun (v32 : Ty781f5b) => (cnd (decide (v32.2.1.1 < v32.1.2.2.2)) (gd (decide ((0 : Int) ≤ v32.2.1.1 ∧ v32.2.1.1 < ((v32.1.2.2.1.length : Nat) : Int))) (bd (α := List UInt8 × (Int × Int) × Int) (some (List.getD v32.1.2.2.1 v32.2.1.1.toNat Dfe5cb60)) (fun v33 => (cnd (!(mpGet false v32.2.2.1 v33.1)) (dnO (dnO (some (6 : Int)))) (some (Ctl.go (v32.1, ((IntKind.wrap .i64 (v32.2.1.1 + (1 : Int))), v32.2.1.2), v32.2.2))))))) (dnO (some (Ctl.go ((v32.1.1.1, v32.1.1.2, (IntKind.wrap .i64 (v32.1.2.1 + (1 : Int)))), (v32.2.1.2, v32.2.2.1), v32.2.2.2)))))) ((v30.1.1, v30.1.2.1, v30.2.1.1.2, ((v30.2.1.1.2.length : Nat) : Int)), ((0 : Int), v30.1.2.2), v30.2.1.2, v30.2.2)))))))))) (dnO (loopO (σ := Tye60b5f) fuelN (fun (v35 : Tye60b5f) => (cnd (decide (v35.1.2.2 < v35.1.2.1)) (gd (decide ((0 : Int) ≤ v35.1.2.2 ∧ v35.1.2.2 < ((v35.1.1.length : Nat) : Int))) (bd (α := Tycd215c) (some (List.getD v35.1.1 v35.1.2.2.toNat Dffc8db7)) (fun v36 => (bd (α := Int) (o71 ((v36.1, v36.2.1), v36.2.2)) (fun v37 => (cnd (v37 != (0 : Int)) (dnO (some v37)) (jd (α := Ty2b04a4) (cnd (decide (v35.1.2.2 > (0 : Int))) (gd (decide ((0 : Int) ≤ (IntKind.wrap .i64 (v35.1.2.2 - (1 : Int))) ∧ (IntKind.wrap .i64 (v35.1.2.2 - (1 : Int))) < ((v35.2.1.1.2.2.2.2.length : Nat) : Int))) (bd (α := Tycd215c) (some (List.getD v35.2.1.1.2.2.2.2 (IntKind.wrap .i64 (v35.1.2.2 - (1 : Int))).toNat Dffc8db7)) (fun v41 => (bd (α := Int) (o50 ((v36.1, v36.2.1), v36.2.2) ((v41.1, v41.2.1), v41.2.2)) (fun v42 => (bd (α := Int) (o66 v42) (fun v43 => (cnd (v43 != (0 : Int)) (dnO (dnO (some v43))) (some (Ctl.go (((v35.1.1, v35.1.2.1), v35.1.2.2, v35.2.1.1), (((v36.1, v36.2.1), v36.2.2), v35.2.1.2), v35.2.2))))))))))) (some (Ctl.go (((v35.1.1, v35.1.2.1), v35.1.2.2, v35.2.1.1), (((v36.1, v36.2.1), v36.2.2), v35.2.1.2), v35.2.2)))) (fun v44 => (cnd (!(mpGet false v44.2.2.1 v44.2.1.1.1.1)) (dnO (some (6 : Int))) (loopO (σ := Ty0614a9) fuelN (fun (v46 : Ty0614a9) => (cnd (decide (v46.2.1.1 < v46.1.2.2.2)) (gd (decide ((0 : Int) ≤ v46.2.1.1 ∧ v46.2.1.1 < ((v46.1.2.2.1.length : Nat) : Int))) (bd (α := Int × List UInt8 × List Tyab9aec) (some (List.getD v46.1.2.2.1 v46.2.1.1.toNat Df766161)) (fun v47 => (bd (α := Ty7a2fde) (o72 v46.2.1.2.2 v47 v46.2.2.1 v46.2.2.2.1 v46.2.2.2.2) (fun v48 => (cnd (v48.1.1 != (0 : Int)) (dnO (dnO (some v48.1.1))) (some (Ctl.go (v46.1, ((IntKind.wrap .i64 (v46.2.1.1 + (1 : Int))), v46.2.1.2), v48.1.2, v48.2))))))))) (dnO (loopO (σ := Tya8f789) fuelN (fun (v50 : Tya8f789) => (cnd (decide (v50.2.1.1 < v50.1.2.2.2)) (gd (decide ((0 : Int) ≤ v50.2.1.1 ∧ v50.2.1.1 < ((v50.1.2.2.1.length : Nat) : Int))) (bd (α := Int × List UInt8 × List Tyab9aec) (some (List.getD v50.1.2.2.1 v50.2.1.1.toNat Df766161)) (fun v51 => (loopO (σ := Ty9312e8) fuelN (fun (v53 : Ty9312e8) => (cnd (decide (v53.2.1.2.2 < v53.2.1.2.1)) (gd (decide ((0 : Int) ≤ v53.2.1.2.2 ∧ v53.2.1.2.2 < ((v53.2.1.1.length : Nat) : Int))) (bd (α := Tyab9aec) (some (List.getD v53.2.1.1 v53.2.1.2.2.toNat Df6c39f5)) (fun v54 => (bd (α := Ty7a2fde) (o73 (((v54.1, v54.2.1, v54.2.2.1), v54.2.2.2.1, v54.2.2.2.2.1, v54.2.2.2.2.2.1), (v54.2.2.2.2.2.2.1, v54.2.2.2.2.2.2.2.1, v54.2.2.2.2.2.2.2.2.1), v54.2.2.2.2.2.2.2.2.2) v53.2.2.1.2 v53.2.2.2.1 v53.2.2.2.2) (fun v55 => (cnd (v55.1.1 != (0 : Int)) (dnO (dnO (dnO (some v55.1.1)))) (some (Ctl.go (v53.1, (v53.2.1.1, v53.2.1.2.1, (IntKind.wrap .i64 (v53.2.1.2.2 + (1 : Int)))), (v53.2.2.1.1, v55.1.2), v55.2))))))))) (dnO (some (Ctl.go (((v53.1.1.1, v53.1.1.2.1), v53.1.1.2.2, v53.1.2.1, v53.1.2.2.1), ((IntKind.wrap .i64 (v53.1.2.2.2 + (1 : Int))), v53.2.2.1.1), v53.2.2.1.2, v53.2.2.2)))))) (((v50.1.1.1, v50.1.1.2, v50.1.2.1), v50.1.2.2.1, v50.1.2.2.2, v50.2.1.1), (v51.2.2, ((v51.2.2.length : Nat) : Int), (0 : Int)), (v50.2.1.2, v50.2.2.1), v50.2.2.2))))) (dnO (some (Ctl.go ((v50.1.1.1, v50.1.1.2, (IntKind.wrap .i64 (v50.1.2.1 + (1 : Int)))), (v50.2.1.2, v50.2.2.1), v50.2.2.2)))))) ((v46.1.1, v46.1.2.1, v46.2.1.2.2.2.2, ((v46.2.1.2.2.2.2.length : Nat) : Int)), ((0 : Int), v46.2.1.2.1), v46.2.2))))) ((v44.1.1, v44.1.2.1, v44.2.1.1.2.2, ((v44.2.1.1.2.2.length : Nat) : Int)), ((0 : Int), v44.1.2.2, v44.2.1.1), v44.2.1.2, v44.2.2))))))))))) (dnO (some (0 : Int))))) ((v23.2.1.1.2.2.2.2, ((v23.2.1.1.2.2.2.2.length : Nat) : Int), (0 : Int)), v23.2))))) ((v6.1.2.2.1.2.2.2.1, ((v6.1.2.2.1.2.2.2.1.length : Nat) : Int), (0 : Int)), v6.1.2.2, v6.2.1))))) (((v2.2.2.2.1, ((v2.2.2.2.1.length : Nat) : Int)), (0 : Int), v2.2, v3.1), v3.2, v4))))))))))))
def h26v1 : HC := (.s .d (.s .d (.s (.s (.j false [o26v1_s0] .d) .d) (.s .d (.s (.s .d (.b (.l [o26v1_s2] (.s .d (.s .d (.s (.b (.s .d (.s .d (.j true [o26v1_s1] .d)))) .d)))))) (.s (.s .d (.b (.l [o26v1_s5] (.s .d (.s .d (.s (.b (.s .d (.s .d (.j true [o26v1_s4] (.s .d (.s .d (.b (.l [o26v1_s3] .d)))))))) .d)))))) (.s (.s .d (.b (.l [o26v1_s10] (.s .d (.s .d (.s (.b (.s .d (.s .d (.j true [o26v1_s9] (.s .d (.s .d (.s (.s .d (.b (.l [o26v1_s6] .d))) (.s .d (.b (.l [o26v1_s8] (.s .d (.s .d (.s (.b (.s .d (.s .d (.b (.l [o26v1_s7] .d))))) .d))))))))))))) .d)))))) .d)))))))
theorem e26v1 (t : Ty3283d1) : evF (stpT Tryz.prog T158 K158) Tryz.f26 p26v1 r26v1 h26v1 t = (o26v1 t) := by kernel_rfl
theorem fo26v1 : FOk Tryz.prog 26 ⟨p26v1, r26v1, fun t => (o26v1 t)⟩ := FOk.run_eq (evF_ok (h := h26v1) (by kernel_rfl) (by kernel_rfl) (by kernel_rfl)) e26v1
def T159 : Tbl := (26, ⟨p26v1, r26v1, fun t => (o26v1 t)⟩) :: T158
theorem K159 : TOk Tryz.prog T159 := .cons K158 fo26v1
def o27v1_s0 : Sch := ⟨[(0, .v (.c (.ptr 0 0))), (6, .v (.c (.ro .s false))), (7, .v (.c (.i .i64))), (8, .v (.c (.i .i64)))], [.cells 70 [.own 2], .no, .row .y 5]⟩
def p27v1 : Sch := ⟨[(0, .v (.c (.ptr 0 0))), (1, .v (.c (.ro .s false)))], [.cells 70 [.own 1], .row .y 5]⟩
def r27v1 : List Sch := [⟨[(0, .tup [])], [.cells 70 [.own 2], .no, .row .y 5]⟩]
def o27v1 (a0 : List (List UInt8)) (a1 : List UInt8) : Option (List UInt8) :=
 (loopO (σ := (List (List UInt8) × Int) × Int × List UInt8) fuelN (fun (v2 : (List (List UInt8) × Int) × Int × List UInt8) => (cnd (decide (v2.2.1 < v2.1.2)) (gd (decide ((0 : Int) ≤ v2.2.1 ∧ v2.2.1 < ((v2.1.1.length : Nat) : Int))) (gd (decide ((v2.2.2.length + ([(u8 (IntKind.wrap .u8 (((List.getD v2.1.1 v2.2.1.toNat ([] : List UInt8)).length : Nat) : Int)))] : List UInt8).length) * 1 ≤ 140737488355328)) (gd (decide ((v2.2.2 ++ ([(u8 (IntKind.wrap .u8 (((List.getD v2.1.1 v2.2.1.toNat ([] : List UInt8)).length : Nat) : Int)))] : List UInt8)).length + (List.getD v2.1.1 v2.2.1.toNat ([] : List UInt8)).length ≤ 140737488355328)) (some (Ctl.go (v2.1, (IntKind.wrap .i64 (v2.2.1 + (1 : Int))), ((v2.2.2 ++ ([(u8 (IntKind.wrap .u8 (((List.getD v2.1.1 v2.2.1.toNat ([] : List UInt8)).length : Nat) : Int)))] : List UInt8)) ++ (List.getD v2.1.1 v2.2.1.toNat ([] : List UInt8))))))))) (dnO (some v2.2.2)))) ((a0, ((a0.length : Nat) : Int)), (0 : Int), a1))
theorem e27v1 (t : List (List UInt8) × List UInt8) : evF (stpT Tryz.prog T159 K159) Tryz.f27 p27v1 r27v1 (.s .d (.b (.l [o27v1_s0] .d))) t = (o27v1 t.1 t.2) := by kernel_rfl
theorem fo27v1 : FOk Tryz.prog 27 ⟨p27v1, r27v1, fun t => (o27v1 t.1 t.2)⟩ := FOk.run_eq (evF_ok (h := (.s .d (.b (.l [o27v1_s0] .d)))) (by kernel_rfl) (by kernel_rfl) (by kernel_rfl)) e27v1
def T160 : Tbl := (27, ⟨p27v1, r27v1, fun t => (o27v1 t.1 t.2)⟩) :: T159
theorem K160 : TOk Tryz.prog T160 := .cons K159 fo27v1
def o32_s0 : Sch := ⟨[(0, .v (.c (.ptr 0 0))), (3, .v (.c (.ptr 2 0))), (4, .v (.c (.i .u8)))], [.cells 70 [.own 1], .row .y 5, Bse5e53b]⟩
def p32 : Sch := ⟨[(0, .v (.c (.ptr 0 0))), (1, Ss3e3d2b)], [.cells 70 [.own 1], .row .y 5]⟩
def r32 : List Sch := [⟨[(0, .tup [])], [.cells 70 [.own 2], .no, .row .y 5]⟩]
def o32 (a0 : Ty22ecb9) (a1 : List UInt8) : Option (List UInt8) :=
 (bd (α := (Int × List UInt8 × Ty22ecb9)) (cnd a0.1.2.2.1 (some ((1 : Int), a1, a0)) (some ((0 : Int), a1, a0))) (fun v1 => (bd (α := (List UInt8)) (o31 ([(u8 v1.2.2.1.1.1)] : List UInt8) v1.2.1) (fun v2 => (bd (α := (List UInt8)) (o27v1 ([v1.2.2.1.1.2.1, v1.2.2.1.1.2.2] : List (List UInt8)) v2) (fun v3 => (bd (α := (List UInt8)) (o31 ([(u8 v1.2.2.1.2.1), (u8 v1.1)] : List UInt8) v3) (fun v4 => (bd (α := (List UInt8)) (o28 ([v1.2.2.1.2.2.2, v1.2.2.2.1.1, v1.2.2.2.1.2.1, v1.2.2.2.1.2.2, v1.2.2.2.2.1.1, v1.2.2.2.2.1.2, v1.2.2.2.2.2.1, v1.2.2.2.2.2.2] : List Int) v4) (fun v5 => (some v5)))))))))))
theorem e32 (t : Ty22ecb9 × List UInt8) : evF (stpT Tryz.prog T160 K160) Tryz.f32 p32 r32 (.s .d (.s .d (.j false [o32_s0] .d))) t = (o32 t.1 t.2) := by kernel_rfl
theorem fo32 : FOk Tryz.prog 32 ⟨p32, r32, fun t => (o32 t.1 t.2)⟩ := FOk.run_eq (evF_ok (h := (.s .d (.s .d (.j false [o32_s0] .d)))) (by kernel_rfl) (by kernel_rfl) (by kernel_rfl)) e32
def T161 : Tbl := (32, ⟨p32, r32, fun t => (o32 t.1 t.2)⟩) :: T160
theorem K161 : TOk Tryz.prog T161 := .cons K160 fo32
abbrev Tycca799 : Type := (List Ty250e00 × Int × Int) × Ty3283d1 × List UInt8 × List UInt8
abbrev Ty5b3860 : Type := (List Tybbc8ca × Int × Int) × Ty3283d1 × List UInt8 × List UInt8
abbrev Ty782be2 : Type := ((List Tybbc8ca × Int) × Int × List (List UInt8 × (Int × Int) × Int)) × (Int × Int) × Ty3283d1 × List UInt8 × List UInt8
abbrev Ty5cd954 : Type := ((List Tycd215c × Int) × Int × List (Int × List UInt8 × List Tyab9aec)) × (Int × Int) × List UInt8 × List UInt8
abbrev Tyf09fe6 : Type := ((List Tycd215c × Int) × Int × (List (Int × List UInt8 × List Tyab9aec)) × Int) × (Int × List Tyab9aec × Int) × Int × List UInt8 × List UInt8
def o7v1_s0 : Sch := ⟨[(1, .v (.c (.ptr 0 0))), (5, .v (.c (.ptr 1 0))), (7, .v (.c (.ptr 2 0))), (64, Sse3ecad), (65, .v (.c (.i .i64))), (66, .v (.c (.i .i64)))], [Bsbad59e, .cells 70 [.own 3], .cells 70 [.own 4], .row .y 5, .row .y 5]⟩
def o7v1_s1 : Sch := ⟨[(1, .v (.c (.ptr 0 0))), (5, .v (.c (.ptr 1 0))), (7, .v (.c (.ptr 2 0))), (107, Ssd9c38c), (108, .v (.c (.i .i64))), (109, .v (.c (.i .i64))), (124, Ss1e9aae), (125, .v (.c (.i .i64))), (126, .v (.c (.i .i64)))], [Bsbad59e, .cells 70 [.own 3], .cells 70 [.own 4], .row .y 5, .row .y 5]⟩
def o7v1_s2 : Sch := ⟨[(1, .v (.c (.ptr 0 0))), (5, .v (.c (.ptr 1 0))), (7, .v (.c (.ptr 2 0))), (107, Ssd9c38c), (108, .v (.c (.i .i64))), (109, .v (.c (.i .i64)))], [Bsbad59e, .cells 70 [.own 3], .cells 70 [.own 4], .row .y 5, .row .y 5]⟩
def o7v1_s3 : Sch := ⟨[(5, .v (.c (.ptr 0 0))), (7, .v (.c (.ptr 1 0))), (162, Ss2410e8), (163, .v (.c (.i .i64))), (164, .v (.c (.i .i64))), (186, Ss18df24), (187, .v (.c (.i .i64))), (188, .v (.c (.i .i64))), (208, Sscd5aaa), (209, .v (.c (.i .i64))), (210, .v (.c (.i .i64)))], [.cells 70 [.own 2], .cells 70 [.own 3], .row .y 5, .row .y 5]⟩
def o7v1_s4 : Sch := ⟨[(5, .v (.c (.ptr 0 0))), (7, .v (.c (.ptr 1 0))), (162, Ss2410e8), (163, .v (.c (.i .i64))), (164, .v (.c (.i .i64))), (186, Ss18df24), (187, .v (.c (.i .i64))), (188, .v (.c (.i .i64)))], [.cells 70 [.own 2], .cells 70 [.own 3], .row .y 5, .row .y 5]⟩
def o7v1_s5 : Sch := ⟨[(5, .v (.c (.ptr 0 0))), (7, .v (.c (.ptr 1 0))), (162, Ss2410e8), (163, .v (.c (.i .i64))), (164, .v (.c (.i .i64)))], [.cells 70 [.own 2], .cells 70 [.own 3], .row .y 5, .row .y 5]⟩
def p7v1 : Sch := ⟨[(0, Ss069f38)], []⟩
def r7v1 : List Sch := [⟨[(0, .tup [.c (.own 0), .c (.i .i64)])], [.row .y 5]⟩]
def o7v1 (a0 : Ty3283d1) : Option (Int × List UInt8) :=
 (bd (α := Int) (o26v1 a0) (fun v1 => (cnd (v1 != (0 : Int)) (some (v1, ([] : List UInt8))) (gd (decide (0 < ([(u8 (70 : Int)), (u8 (68 : Int)), (u8 (66 : Int)), (u8 (49 : Int))] : List UInt8).length)) (bd (α := (List UInt8)) (o27 ([a0.1.1.1] : List (List UInt8))) (fun v2 => (bd (α := (List UInt8)) (o28 ([a0.1.1.2, a0.1.2.1, a0.1.2.2, a0.2.1.1, a0.2.1.2] : List Int) v2) (fun v3 => (bd (α := (List UInt8)) (o29 (1 : Int) v3 ([(u8 (70 : Int)), (u8 (68 : Int)), (u8 (66 : Int)), (u8 (49 : Int))] : List UInt8)) (fun v4 => (bd (α := (List UInt8)) (o30v1 ((a0.2.2.1.length : Nat) : Int) (2 : Int)) (fun v5 => (loopO (σ := Tycca799) fuelN (fun (v7 : Tycca799) => (cnd (decide (v7.1.2.2 < v7.1.2.1)) (gd (decide ((0 : Int) ≤ v7.1.2.2 ∧ v7.1.2.2 < ((v7.1.1.length : Nat) : Int))) (bd (α := Ty250e00) (some (List.getD v7.1.1 v7.1.2.2.toNat Df60bb56)) (fun v8 => (bd (α := (List UInt8)) (o27v1 ([v8.1, v8.2.1] : List (List UInt8)) v7.2.2.2) (fun v9 => (bd (α := (List UInt8)) (o31 ([(u8 v8.2.2.1)] : List UInt8) v9) (fun v10 => (bd (α := (List UInt8)) (o28 ([v8.2.2.2.1.1, v8.2.2.2.1.2, v8.2.2.2.2.1, v8.2.2.2.2.2] : List Int) v10) (fun v11 => (some (Ctl.go ((v7.1.1, v7.1.2.1, (IntKind.wrap .i64 (v7.1.2.2 + (1 : Int)))), v7.2.1, v7.2.2.1, v11)))))))))))) (dnO (bd (α := (List UInt8)) (o29 (2 : Int) v7.2.2.2 v7.2.2.1) (fun v12 => (bd (α := (List UInt8)) (o30v1 ((v7.2.1.2.2.2.1.length : Nat) : Int) (2 : Int)) (fun v13 => (loopO (σ := Ty5b3860) fuelN (fun (v15 : Ty5b3860) => (cnd (decide (v15.1.2.2 < v15.1.2.1)) (gd (decide ((0 : Int) ≤ v15.1.2.2 ∧ v15.1.2.2 < ((v15.1.1.length : Nat) : Int))) (bd (α := Tybbc8ca) (some (List.getD v15.1.1 v15.1.2.2.toNat Df620925)) (fun v16 => (bd (α := (List UInt8)) (o27v1 ([v16.1] : List (List UInt8)) v15.2.2.2) (fun v17 => (bd (α := (List UInt8)) (o30 ((v16.2.length : Nat) : Int) (2 : Int) v17) (fun v18 => (loopO (σ := Ty782be2) fuelN (fun (v20 : Ty782be2) => (cnd (decide (v20.2.1.2 < v20.2.1.1)) (gd (decide ((0 : Int) ≤ v20.2.1.2 ∧ v20.2.1.2 < ((v20.1.2.2.length : Nat) : Int))) (bd (α := List UInt8 × (Int × Int) × Int) (some (List.getD v20.1.2.2 v20.2.1.2.toNat Dfe5cb60)) (fun v21 => (bd (α := (List UInt8)) (o27v1 ([v21.1] : List (List UInt8)) v20.2.2.2.2) (fun v22 => (bd (α := (List UInt8)) (o28 ([v21.2.1.1, v21.2.1.2] : List Int) v22) (fun v23 => (bd (α := (List UInt8)) (o31 ([(u8 v21.2.2)] : List UInt8) v23) (fun v24 => (some (Ctl.go (v20.1, (v20.2.1.1, (IntKind.wrap .i64 (v20.2.1.2 + (1 : Int)))), v20.2.2.1, v20.2.2.2.1, v24)))))))))))) (dnO (some (Ctl.go ((v20.1.1.1, v20.1.1.2, (IntKind.wrap .i64 (v20.1.2.1 + (1 : Int)))), v20.2.2)))))) (((v15.1.1, v15.1.2.1), v15.1.2.2, v16.2), (((v16.2.length : Nat) : Int), (0 : Int)), v15.2.1, v15.2.2.1, v18))))))))) (dnO (bd (α := (List UInt8)) (o29 (3 : Int) v15.2.2.2 v15.2.2.1) (fun v25 => (bd (α := (List UInt8)) (o30v1 ((v15.2.1.2.2.2.2.length : Nat) : Int) (2 : Int)) (fun v26 => (loopO (σ := (List Tycd215c × Int) × Int × List UInt8 × List UInt8) fuelN (fun (v28 : (List Tycd215c × Int) × Int × List UInt8 × List UInt8) => (cnd (decide (v28.2.1 < v28.1.2)) (gd (decide ((0 : Int) ≤ v28.2.1 ∧ v28.2.1 < ((v28.1.1.length : Nat) : Int))) (bd (α := Tycd215c) (some (List.getD v28.1.1 v28.2.1.toNat Dffc8db7)) (fun v29 => (bd (α := (List UInt8)) (o27v1 ([v29.1, v29.2.1] : List (List UInt8)) v28.2.2.2) (fun v30 => (bd (α := (List UInt8)) (o31 ([(u8 v29.2.2.1)] : List UInt8) v30) (fun v31 => (bd (α := (List UInt8)) (o30 ((v29.2.2.2.length : Nat) : Int) (2 : Int) v31) (fun v32 => (loopO (σ := Ty5cd954) fuelN (fun (v34 : Ty5cd954) => (cnd (decide (v34.2.1.2 < v34.2.1.1)) (gd (decide ((0 : Int) ≤ v34.2.1.2 ∧ v34.2.1.2 < ((v34.1.2.2.length : Nat) : Int))) (bd (α := Int × List UInt8 × List Tyab9aec) (some (List.getD v34.1.2.2 v34.2.1.2.toNat Df766161)) (fun v35 => (bd (α := (List UInt8)) (o31 ([(u8 v35.1)] : List UInt8) v34.2.2.2) (fun v36 => (bd (α := (List UInt8)) (o27v1 ([v35.2.1] : List (List UInt8)) v36) (fun v37 => (bd (α := (List UInt8)) (o30 ((v35.2.2.length : Nat) : Int) (2 : Int) v37) (fun v38 => (loopO (σ := Tyf09fe6) fuelN (fun (v40 : Tyf09fe6) => (cnd (decide (v40.2.2.1 < v40.2.1.2.2)) (gd (decide ((0 : Int) ≤ v40.2.2.1 ∧ v40.2.2.1 < ((v40.2.1.2.1.length : Nat) : Int))) (bd (α := Tyab9aec) (some (List.getD v40.2.1.2.1 v40.2.2.1.toNat Df6c39f5)) (fun v41 => (bd (α := (List UInt8)) (o32 (((v41.1, v41.2.1, v41.2.2.1), v41.2.2.2.1, v41.2.2.2.2.1, v41.2.2.2.2.2.1), (v41.2.2.2.2.2.2.1, v41.2.2.2.2.2.2.2.1, v41.2.2.2.2.2.2.2.2.1), v41.2.2.2.2.2.2.2.2.2) v40.2.2.2.2) (fun v42 => (some (Ctl.go (v40.1, v40.2.1, (IntKind.wrap .i64 (v40.2.2.1 + (1 : Int))), v40.2.2.2.1, v42)))))))) (dnO (some (Ctl.go ((v40.1.1, v40.1.2.1, v40.1.2.2.1), (v40.1.2.2.2, (IntKind.wrap .i64 (v40.2.1.1 + (1 : Int)))), v40.2.2.2)))))) ((v34.1.1, v34.1.2.1, v34.1.2.2, v34.2.1.1), (v34.2.1.2, v35.2.2, ((v35.2.2.length : Nat) : Int)), (0 : Int), v34.2.2.1, v38))))))))))) (dnO (some (Ctl.go (v34.1.1, (IntKind.wrap .i64 (v34.1.2.1 + (1 : Int))), v34.2.2)))))) ((v28.1, v28.2.1, v29.2.2.2), (((v29.2.2.2.length : Nat) : Int), (0 : Int)), v28.2.2.1, v32))))))))))) (dnO (bd (α := (List UInt8)) (o29 (4 : Int) v28.2.2.2 v28.2.2.1) (fun v43 => (bd (α := (List UInt8)) (o33 v43) (fun v44 => (some ((0 : Int), v44))))))))) ((v15.2.1.2.2.2.2, ((v15.2.1.2.2.2.2.length : Nat) : Int)), (0 : Int), v25, v26))))))))) ((v7.2.1.2.2.2.1, ((v7.2.1.2.2.2.1.length : Nat) : Int), (0 : Int)), v7.2.1, v12, v13))))))))) ((a0.2.2.1, ((a0.2.2.1.length : Nat) : Int), (0 : Int)), a0, v4, v5))))))))))))))
def h7v1 : HC := (.s .d (.s .d (.s .d (.s .d (.s .d (.s .d (.s .d (.s .d (.s .d (.s .d (.s (.s .d (.b (.l [o7v1_s0] .d))) (.s .d (.s .d (.s .d (.s (.s .d (.b (.l [o7v1_s2] (.s .d (.s .d (.s (.b (.s .d (.s .d (.s .d (.s .d (.b (.l [o7v1_s1] .d))))))) .d)))))) (.s .d (.s .d (.s .d (.s (.s .d (.b (.l [o7v1_s5] (.s .d (.s .d (.s (.b (.s .d (.s .d (.s .d (.s .d (.s .d (.b (.l [o7v1_s4] (.s .d (.s .d (.s (.b (.s .d (.s .d (.s .d (.s .d (.s .d (.b (.l [o7v1_s3] .d)))))))) .d))))))))))) .d)))))) .d)))))))))))))))))))
theorem e7v1 (t : Ty3283d1) : evF (stpT Tryz.prog T161 K161) Tryz.f7 p7v1 r7v1 h7v1 t = (o7v1 t) := by kernel_rfl
theorem fo7v1 : FOk Tryz.prog 7 ⟨p7v1, r7v1, fun t => (o7v1 t)⟩ := FOk.run_eq (evF_ok (h := h7v1) (by kernel_rfl) (by kernel_rfl) (by kernel_rfl)) e7v1
def T162 : Tbl := (7, ⟨p7v1, r7v1, fun t => (o7v1 t)⟩) :: T161
theorem K162 : TOk Tryz.prog T162 := .cons K161 fo7v1
def o17_s0 : Sch := ⟨[(0, .v (.c (.ro .y false))), (1, .v (.c (.i .i64))), (2, .v (.c (.i .u32))), (8, .v (.c (.own 0))), (24, .v (.c (.b)))], [.row .y 5]⟩
def o17_s1 : Sch := ⟨[(0, .v (.c (.ro .y false))), (1, .v (.c (.i .i64))), (2, .v (.c (.i .u32))), (8, .v (.c (.own 0))), (10, .v (.c (.i .i64))), (25, .v (.c (.i .i64))), (44, .v (.c (.b)))], [.row .y 5]⟩
def o17_s2 : Sch := ⟨[(0, .v (.c (.ro .y false))), (1, .v (.c (.i .i64))), (2, .v (.c (.i .u32))), (8, .v (.c (.own 0))), (25, .v (.c (.i .i64)))], [.row .y 5]⟩
def p17 : Sch := ⟨[(0, .v (.c (.ro .y false))), (1, .v (.c (.i .i64))), (2, .v (.c (.i .u32)))], []⟩
def r17 : List Sch := [⟨[(0, .tup [.c (.own 0), .c (.i .i64)])], [.row .y 5]⟩]
def o17 (a0 : List UInt8) (a1 : Int) (a2 : Int) : Option (Int × List UInt8) :=
 (bd (α := (List UInt8)) (o37 a0) (fun v1 => (cnd (a2 == (0 : Int)) (some ((0 : Int), v1)) (bd (α := ((List UInt8 × Int) × Int × Bool × List UInt8)) (cnd (decide (a1 < (-31 : Int))) (some ((a0, a1), a2, true, v1)) (some ((a0, a1), a2, (decide (a1 ≥ (IntKind.wrap .i64 ((8 : Int) * ((a0.length : Nat) : Int))))), v1))) (fun v2 => (cnd v2.2.2.1 (some ((2 : Int), ([] : List UInt8))) (loopO (σ := (List UInt8 × Int) × Int × Int × List UInt8) fuelN (fun (v4 : (List UInt8 × Int) × Int × Int × List UInt8) => (cnd (decide (v4.2.2.1 < (32 : Int))) (gd (decide ((0 : Int) ≤ v4.2.2.1)) (cnd ((landK .u32 (shrK .u32 v4.2.1 v4.2.2.1) (1 : Int)) == (0 : Int)) (some (Ctl.go (v4.1, v4.2.1, (IntKind.wrap .i64 (v4.2.2.1 + (1 : Int))), v4.2.2.2))) (bd (α := ((List UInt8 × Int × Int) × (Int × Int) × Bool × List UInt8)) (cnd (decide ((IntKind.wrap .i64 (v4.1.2 + v4.2.2.1)) < (0 : Int))) (some ((v4.1.1, v4.1.2, v4.2.1), ((IntKind.wrap .i64 (v4.1.2 + v4.2.2.1)), v4.2.2.1), true, v4.2.2.2)) (some ((v4.1.1, v4.1.2, v4.2.1), ((IntKind.wrap .i64 (v4.1.2 + v4.2.2.1)), v4.2.2.1), (decide ((IntKind.wrap .i64 (v4.1.2 + v4.2.2.1)) ≥ (IntKind.wrap .i64 ((8 : Int) * ((v4.1.1.length : Nat) : Int))))), v4.2.2.2))) (fun v5 => (cnd v5.2.2.1 (dnO (some ((2 : Int), ([] : List UInt8)))) (gd (decide ((0 : Int) ≤ (IntKind.wrap .i64 (Int.tdiv v5.2.1.1 (8 : Int))) ∧ (IntKind.wrap .i64 (Int.tdiv v5.2.1.1 (8 : Int))) < ((v5.2.2.2.length : Nat) : Int))) (gd (decide ((0 : Int) ≤ (Int.tmod v5.2.1.1 (8 : Int)))) (gd (decide ((0 : Int) ≤ (IntKind.wrap .i64 (Int.tdiv v5.2.1.1 (8 : Int))) ∧ (IntKind.wrap .i64 (Int.tdiv v5.2.1.1 (8 : Int))) < ((v5.2.2.2.length : Nat) : Int))) (some (Ctl.go ((v5.1.1, v5.1.2.1), v5.1.2.2, (IntKind.wrap .i64 (v5.2.1.2 + (1 : Int))), (List.set v5.2.2.2 ((IntKind.wrap .i64 (Int.tdiv v5.2.1.1 (8 : Int))).toNat) (u8 (lxorK .u8 ((UInt8.toNat (List.getD v5.2.2.2 ((IntKind.wrap .i64 (Int.tdiv v5.2.1.1 (8 : Int))).toNat) (0 : UInt8)) : Nat) : Int) (shlK .u8 (1 : Int) (Int.tmod v5.2.1.1 (8 : Int))))))))))))))))) (dnO (some ((0 : Int), v4.2.2.2))))) (v2.1, v2.2.1, (0 : Int), v2.2.2.2))))))))
def h17 : HC := (.s .d (.s .d (.s .d (.s (.s (.j false [o17_s0] .d) .d) (.s (.s .d (.b (.l [o17_s2] (.s .d (.s .d (.s (.b (.s .d (.s .d (.s .d (.s (.s (.j false [o17_s1] .d) .d) .d))))) .d)))))) .d)))))
theorem e17 (t : List UInt8 × Int × Int) : evF (stpT Tryz.prog T162 K162) Tryz.f17 p17 r17 h17 t = (o17 t.1 t.2.1 t.2.2) := by kernel_rfl
theorem fo17 : FOk Tryz.prog 17 ⟨p17, r17, fun t => (o17 t.1 t.2.1 t.2.2)⟩ := FOk.run_eq (evF_ok (h := h17) (by kernel_rfl) (by kernel_rfl) (by kernel_rfl)) e17
def T163 : Tbl := (17, ⟨p17, r17, fun t => (o17 t.1 t.2.1 t.2.2)⟩) :: T162
theorem K163 : TOk Tryz.prog T163 := .cons K162 fo17
def Bsbbb766 : BSh := .cells 102 [.s, .ic .i64 (0), .ic .i64 (0), .ic .i64 (0), .ic .i64 (0), .ic .i64 (0), .cst (.slice none 0 0), .cst (.slice none 0 0), .cst (.slice none 0 0), .bc false, .s, .ic .i64 (0), .ic .i64 (0), .ic .i64 (0), .ic .i64 (0), .ic .i64 (0), .cst (.slice none 0 0), .cst (.slice none 0 0), .cst (.slice none 0 0), .bc false]
def p9 : Sch := ⟨[], []⟩
def r9 : List Sch := [⟨[(0, .v (.c (.ptr 0 0)))], [Bsbbb766]⟩]
def o9 : Option (List UInt8 × List UInt8) :=
 (some (([] : List UInt8), ([] : List UInt8)))
theorem e9 (t : Unit) : evF (stpT Tryz.prog T163 K163) Tryz.f9 p9 r9 .d t = o9 := by kernel_rfl
theorem fo9 : FOk Tryz.prog 9 ⟨p9, r9, fun t => o9⟩ := FOk.run_eq (evF_ok (h := .d) (by kernel_rfl) (by kernel_rfl) (by kernel_rfl)) e9
def T164 : Tbl := (9, ⟨p9, r9, fun t => o9⟩) :: T163
theorem K164 : TOk Tryz.prog T164 := .cons K163 fo9
def Ss93347b : SSh := .tup [.c (.ro .y true), .c (.i .i64)]
def o79_s0 : Sch := ⟨[(0, .v (.c (.ro .y false))), (4, .v (.c (.i .i64))), (54, .v (.c (.b)))], []⟩
def p79 : Sch := ⟨[(0, .v (.c (.ro .y false)))], []⟩
def r79 : List Sch := [⟨[(0, Ss93347b)], []⟩]
def o79 (a0 : List UInt8) : Option (List UInt8 × Int) :=
 (cnd (decide ((IntKind.wrap .i64 (((a0.length : Nat) : Int) - (4 : Int))) < (0 : Int))) (some (([] : List UInt8), (4 : Int))) (gd (decide ((0 : Int) ≤ (IntKind.wrap .i64 (((a0.length : Nat) : Int) - (4 : Int))) ∧ (IntKind.wrap .i64 (((a0.length : Nat) : Int) - (4 : Int))) ≤ ((a0.length : Nat) : Int))) (bd (α := Int) (o74 (List.take (IntKind.wrap .i64 (((a0.length : Nat) : Int) - (4 : Int))).toNat a0)) (fun v1 => (bd (α := (List UInt8 × Int × Bool)) (gd (decide ((0 : Int) ≤ (IntKind.wrap .i64 (((a0.length : Nat) : Int) - (4 : Int))) ∧ (IntKind.wrap .i64 (((a0.length : Nat) : Int) - (4 : Int))) < ((a0.length : Nat) : Int))) (cnd (((UInt8.toNat (List.getD a0 (IntKind.wrap .i64 (((a0.length : Nat) : Int) - (4 : Int))).toNat (0 : UInt8)) : Nat) : Int) != (IntKind.wrap .u8 v1)) (some (a0, (IntKind.wrap .i64 (((a0.length : Nat) : Int) - (4 : Int))), true)) (gd (decide ((0 : Int) ≤ (IntKind.wrap .i64 ((IntKind.wrap .i64 (((a0.length : Nat) : Int) - (4 : Int))) + (1 : Int))) ∧ (IntKind.wrap .i64 ((IntKind.wrap .i64 (((a0.length : Nat) : Int) - (4 : Int))) + (1 : Int))) < ((a0.length : Nat) : Int))) (cnd (((UInt8.toNat (List.getD a0 (IntKind.wrap .i64 ((IntKind.wrap .i64 (((a0.length : Nat) : Int) - (4 : Int))) + (1 : Int))).toNat (0 : UInt8)) : Nat) : Int) != (IntKind.wrap .u8 (shrK .u32 v1 (8 : Int)))) (some (a0, (IntKind.wrap .i64 (((a0.length : Nat) : Int) - (4 : Int))), true)) (gd (decide ((0 : Int) ≤ (IntKind.wrap .i64 ((IntKind.wrap .i64 (((a0.length : Nat) : Int) - (4 : Int))) + (2 : Int))) ∧ (IntKind.wrap .i64 ((IntKind.wrap .i64 (((a0.length : Nat) : Int) - (4 : Int))) + (2 : Int))) < ((a0.length : Nat) : Int))) (cnd (((UInt8.toNat (List.getD a0 (IntKind.wrap .i64 ((IntKind.wrap .i64 (((a0.length : Nat) : Int) - (4 : Int))) + (2 : Int))).toNat (0 : UInt8)) : Nat) : Int) != (IntKind.wrap .u8 (shrK .u32 v1 (16 : Int)))) (some (a0, (IntKind.wrap .i64 (((a0.length : Nat) : Int) - (4 : Int))), true)) (gd (decide ((0 : Int) ≤ (IntKind.wrap .i64 ((IntKind.wrap .i64 (((a0.length : Nat) : Int) - (4 : Int))) + (3 : Int))) ∧ (IntKind.wrap .i64 ((IntKind.wrap .i64 (((a0.length : Nat) : Int) - (4 : Int))) + (3 : Int))) < ((a0.length : Nat) : Int))) (some (a0, (IntKind.wrap .i64 (((a0.length : Nat) : Int) - (4 : Int))), (((UInt8.toNat (List.getD a0 (IntKind.wrap .i64 ((IntKind.wrap .i64 (((a0.length : Nat) : Int) - (4 : Int))) + (3 : Int))).toNat (0 : UInt8)) : Nat) : Int) != (IntKind.wrap .u8 (shrK .u32 v1 (24 : Int))))))))))))) (fun v2 => (cnd v2.2.2 (some (([] : List UInt8), (12 : Int))) (gd (decide ((0 : Int) ≤ v2.2.1 ∧ v2.2.1 ≤ ((v2.1.length : Nat) : Int))) (bd (α := (List UInt8)) (o37 (List.take v2.2.1.toNat v2.1)) (fun v3 => (some (v3, (0 : Int)))))))))))))
def h79 : HC := (.s .d (.s .d (.s .d (.s .d (.s (.s (.j false [o79_s0] .d) .d) .d)))))
theorem e79 (t : List UInt8) : evF (stpT Tryz.prog T164 K164) Tryz.f79 p79 r79 h79 t = (o79 t) := by kernel_rfl
theorem fo79 : FOk Tryz.prog 79 ⟨p79, r79, fun t => (o79 t)⟩ := FOk.run_eq (evF_ok (h := h79) (by kernel_rfl) (by kernel_rfl) (by kernel_rfl)) e79
def T165 : Tbl := (79, ⟨p79, r79, fun t => (o79 t)⟩) :: T164
theorem K165 : TOk Tryz.prog T165 := .cons K164 fo79
def Bsefa04b : BSh := .cells 170 [.ro .y true, .i .i64, .i .i64, .b]
def o80_s0 : Sch := ⟨[(0, .v (.c (.ptr 0 0))), (1, .v (.c (.i .i64))), (26, .v (.c (.b)))], [Bsefa04b]⟩
def p80 : Sch := ⟨[(0, .v (.c (.ptr 0 0))), (1, .v (.c (.i .i64)))], [Bsefa04b]⟩
def r80 : List Sch := [⟨[(0, .v (.c (.ro .y true)))], [Bsefa04b]⟩]
def o80 (a0 : Int) (a1 : (List UInt8 × Int) × Int × Bool) : Option (List UInt8 × (List UInt8 × Int) × Int × Bool) :=
 (bd (α := (Int × Bool × (List UInt8 × Int) × Int × Bool)) (cnd a1.2.2 (some (a0, true, a1)) (cnd (decide (a0 < (0 : Int))) (some (a0, true, a1)) (some (a0, (decide (a0 > (IntKind.wrap .i64 (a1.2.1 - a1.1.2)))), a1)))) (fun v1 => (cnd v1.2.1 (some (([] : List UInt8), v1.2.2.1, v1.2.2.2.1, true)) (gd (decide ((0 : Int) ≤ v1.2.2.1.2 ∧ v1.2.2.1.2 ≤ (IntKind.wrap .i64 (v1.2.2.1.2 + v1.1)) ∧ (IntKind.wrap .i64 (v1.2.2.1.2 + v1.1)) ≤ ((v1.2.2.1.1.length : Nat) : Int))) (some ((List.take ((IntKind.wrap .i64 (v1.2.2.1.2 + v1.1)).toNat - v1.2.2.1.2.toNat) (List.drop v1.2.2.1.2.toNat v1.2.2.1.1)), (v1.2.2.1.1, (IntKind.wrap .i64 (v1.2.2.1.2 + v1.1))), v1.2.2.2))))))
def h80 : HC := (.s .d (.s (.s (.j false [o80_s0] .d) .d) .d))
theorem e80 (t : Int × (List UInt8 × Int) × Int × Bool) : evF (stpT Tryz.prog T165 K165) Tryz.f80 p80 r80 h80 t = (o80 t.1 t.2) := by kernel_rfl
theorem fo80 : FOk Tryz.prog 80 ⟨p80, r80, fun t => (o80 t.1 t.2)⟩ := FOk.run_eq (evF_ok (h := h80) (by kernel_rfl) (by kernel_rfl) (by kernel_rfl)) e80
def T166 : Tbl := (80, ⟨p80, r80, fun t => (o80 t.1 t.2)⟩) :: T165
theorem K166 : TOk Tryz.prog T166 := .cons K165 fo80
def p81 : Sch := ⟨[(0, .v (.c (.ptr 0 0)))], [Bsefa04b]⟩
def r81 : List Sch := [⟨[(0, .v (.c (.i .u8)))], [Bsefa04b]⟩]
def o81 (a0 : (List UInt8 × Int) × Int × Bool) : Option (Int × (List UInt8 × Int) × Int × Bool) :=
 (bd (α := (List UInt8 × (List UInt8 × Int) × Int × Bool)) (o80 (1 : Int) a0) (fun v1 => (cnd v1.2.2.2 (some ((0 : Int), v1.2)) (gd (decide ((0 : Int) ≤ (0 : Int) ∧ (0 : Int) < ((v1.1.length : Nat) : Int))) (some (((UInt8.toNat (List.getD v1.1 (0 : Int).toNat (0 : UInt8)) : Nat) : Int), v1.2))))))
theorem e81 (t : (List UInt8 × Int) × Int × Bool) : evF (stpT Tryz.prog T166 K166) Tryz.f81 p81 r81 .d t = (o81 t) := by kernel_rfl
theorem fo81 : FOk Tryz.prog 81 ⟨p81, r81, fun t => (o81 t)⟩ := FOk.run_eq (evF_ok (h := .d) (by kernel_rfl) (by kernel_rfl) (by kernel_rfl)) e81
def T167 : Tbl := (81, ⟨p81, r81, fun t => (o81 t)⟩) :: T166
theorem K167 : TOk Tryz.prog T167 := .cons K166 fo81
abbrev Ty2fccb5 : Type := (Int × List UInt8) × Int × Int × (List UInt8 × Int) × Int × Bool
def o82_s0 : Sch := ⟨[(5, .v (.c (.i .u64))), (10, .v (.c (.ro .y true))), (11, .v (.c (.i .i64))), (12, .v (.c (.i .i64)))], [Bsefa04b]⟩
def p82 : Sch := ⟨[(0, .v (.c (.ptr 0 0))), (1, .v (.c (.i .i64)))], [Bsefa04b]⟩
def r82 : List Sch := [⟨[(0, .v (.c (.i .i64)))], [Bsefa04b]⟩]
def o82 (a0 : Int) (a1 : (List UInt8 × Int) × Int × Bool) : Option (Int × (List UInt8 × Int) × Int × Bool) :=
 (bd (α := (List UInt8 × (List UInt8 × Int) × Int × Bool)) (o80 a0 a1) (fun v1 => (loopO (σ := Ty2fccb5) fuelN (fun (v3 : Ty2fccb5) => (cnd (decide (v3.2.2.1 < v3.2.1)) (gd (decide ((0 : Int) ≤ v3.2.2.1 ∧ v3.2.2.1 < ((v3.1.2.length : Nat) : Int))) (gd (decide ((0 : Int) ≤ (IntKind.wrap .i64 ((8 : Int) * v3.2.2.1)))) (some (Ctl.go (((lorK .u64 v3.1.1 (shlK .u64 (IntKind.wrap .u64 ((UInt8.toNat (List.getD v3.1.2 v3.2.2.1.toNat (0 : UInt8)) : Nat) : Int)) (IntKind.wrap .i64 ((8 : Int) * v3.2.2.1)))), v3.1.2), v3.2.1, (IntKind.wrap .i64 (v3.2.2.1 + (1 : Int))), v3.2.2.2))))) (dnO (some ((IntKind.wrap .i64 v3.1.1), v3.2.2.2))))) (((0 : Int), v1.1), ((v1.1.length : Nat) : Int), (0 : Int), v1.2))))
def h82 : HC := (.s .d (.s .d (.s (.s .d (.b (.l [o82_s0] .d))) .d)))
theorem e82 (t : Int × (List UInt8 × Int) × Int × Bool) : evF (stpT Tryz.prog T167 K167) Tryz.f82 p82 r82 h82 t = (o82 t.1 t.2) := by kernel_rfl
theorem fo82 : FOk Tryz.prog 82 ⟨p82, r82, fun t => (o82 t.1 t.2)⟩ := FOk.run_eq (evF_ok (h := h82) (by kernel_rfl) (by kernel_rfl) (by kernel_rfl)) e82
def T168 : Tbl := (82, ⟨p82, r82, fun t => (o82 t.1 t.2)⟩) :: T167
theorem K168 : TOk Tryz.prog T168 := .cons K167 fo82
def p83 : Sch := ⟨[(0, .v (.c (.ptr 0 0)))], [Bsefa04b]⟩
def r83 : List Sch := [⟨[(0, .v (.c (.s)))], [Bsefa04b]⟩]
def o83 (a0 : (List UInt8 × Int) × Int × Bool) : Option (List UInt8 × (List UInt8 × Int) × Int × Bool) :=
 (bd (α := (Int × (List UInt8 × Int) × Int × Bool)) (o81 a0) (fun v1 => (bd (α := (List UInt8 × (List UInt8 × Int) × Int × Bool)) (o80 (IntKind.wrap .i64 v1.1) v1.2) (fun v2 => (some v2)))))
theorem e83 (t : (List UInt8 × Int) × Int × Bool) : evF (stpT Tryz.prog T168 K168) Tryz.f83 p83 r83 .d t = (o83 t) := by kernel_rfl
theorem fo83 : FOk Tryz.prog 83 ⟨p83, r83, fun t => (o83 t)⟩ := FOk.run_eq (evF_ok (h := .d) (by kernel_rfl) (by kernel_rfl) (by kernel_rfl)) e83
def T169 : Tbl := (83, ⟨p83, r83, fun t => (o83 t)⟩) :: T168
theorem K169 : TOk Tryz.prog T169 := .cons K168 fo83
def p84 : Sch := ⟨[(0, .v (.c (.ptr 0 0)))], [Bsefa04b]⟩
def r84 : List Sch := [⟨[(0, .v (.c (.i .i64)))], [Bsefa04b]⟩]
def o84 (a0 : (List UInt8 × Int) × Int × Bool) : Option (Int × (List UInt8 × Int) × Int × Bool) :=
 (bd (α := (Int × (List UInt8 × Int) × Int × Bool)) (o82 (8 : Int) a0) (fun v1 => (some v1)))
theorem e84 (t : (List UInt8 × Int) × Int × Bool) : evF (stpT Tryz.prog T169 K169) Tryz.f84 p84 r84 .d t = (o84 t) := by kernel_rfl
theorem fo84 : FOk Tryz.prog 84 ⟨p84, r84, fun t => (o84 t)⟩ := FOk.run_eq (evF_ok (h := .d) (by kernel_rfl) (by kernel_rfl) (by kernel_rfl)) e84
def T170 : Tbl := (84, ⟨p84, r84, fun t => (o84 t)⟩) :: T169
theorem K170 : TOk Tryz.prog T170 := .cons K169 fo84
def p86 : Sch := ⟨[(0, .v (.c (.ptr 0 0)))], [Bsefa04b]⟩
def r86 : List Sch := [⟨[(0, Ss9b59a2)], [Bsefa04b]⟩]
def o86 (a0 : (List UInt8 × Int) × Int × Bool) : Option (Ty71039f × (List UInt8 × Int) × Int × Bool) :=
 (bd (α := (List UInt8 × (List UInt8 × Int) × Int × Bool)) (o83 a0) (fun v1 => (bd (α := (List UInt8 × (List UInt8 × Int) × Int × Bool)) (o83 v1.2) (fun v2 => (bd (α := (Int × (List UInt8 × Int) × Int × Bool)) (o81 v2.2) (fun v3 => (bd (α := (Int × (List UInt8 × Int) × Int × Bool)) (o84 v3.2) (fun v4 => (bd (α := (Int × (List UInt8 × Int) × Int × Bool)) (o84 v4.2) (fun v5 => (bd (α := (Int × (List UInt8 × Int) × Int × Bool)) (o84 v5.2) (fun v6 => (bd (α := (Int × (List UInt8 × Int) × Int × Bool)) (o84 v6.2) (fun v7 => (some (((v1.1, v2.1, v3.1), (v4.1, v5.1), v6.1, v7.1), v7.2))))))))))))))))
theorem e86 (t : (List UInt8 × Int) × Int × Bool) : evF (stpT Tryz.prog T170 K170) Tryz.f86 p86 r86 .d t = (o86 t) := by kernel_rfl
theorem fo86 : FOk Tryz.prog 86 ⟨p86, r86, fun t => (o86 t)⟩ := FOk.run_eq (evF_ok (h := .d) (by kernel_rfl) (by kernel_rfl) (by kernel_rfl)) e86
def T171 : Tbl := (86, ⟨p86, r86, fun t => (o86 t)⟩) :: T170
theorem K171 : TOk Tryz.prog T171 := .cons K170 fo86
abbrev Tyffb828 : Type := (Int × Int) × ((List UInt8 × Int) × Int × Bool) × List Ty250e00
def o85_s0 : Sch := ⟨[(0, .v (.c (.ptr 0 0))), (1, .v (.c (.fn 86))), (5, .v (.c (.own 1))), (7, .v (.c (.i .i64))), (8, .v (.c (.i .i64)))], [Bsefa04b, Bs5762ff]⟩
def p85 : Sch := ⟨[(0, .v (.c (.ptr 0 0))), (1, .v (.c (.fn 86)))], [Bsefa04b]⟩
def r85 : List Sch := [⟨[(0, .v (.c (.own 1)))], [Bsefa04b, Bs5762ff]⟩]
def o85 (a0 : (List UInt8 × Int) × Int × Bool) : Option (((List UInt8 × Int) × Int × Bool) × List Ty250e00) :=
 (bd (α := (Int × (List UInt8 × Int) × Int × Bool)) (o82 (2 : Int) a0) (fun v1 => (loopO (σ := Tyffb828) fuelN (fun (v3 : Tyffb828) => (cnd (decide (v3.1.2 < v3.1.1)) (cnd v3.2.1.2.2 (dnO (some (v3.2.1, ([] : List Ty250e00)))) (bd (α := (Ty71039f × (List UInt8 × Int) × Int × Bool)) (o86 v3.2.1) (fun v4 => (gd (decide ((v3.2.2.length + ([(v4.1.1.1, (v4.1.1.2.1, (v4.1.1.2.2, ((v4.1.2.1.1, v4.1.2.1.2), (v4.1.2.2.1, v4.1.2.2.2)))))] : List Ty250e00).length) * 72 ≤ 140737488355328)) (some (Ctl.go ((v3.1.1, (IntKind.wrap .i64 (v3.1.2 + (1 : Int)))), v4.2, (v3.2.2 ++ ([(v4.1.1.1, (v4.1.1.2.1, (v4.1.1.2.2, ((v4.1.2.1.1, v4.1.2.1.2), (v4.1.2.2.1, v4.1.2.2.2)))))] : List Ty250e00))))))))) (dnO (some v3.2)))) ((v1.1, (0 : Int)), v1.2, ([] : List Ty250e00)))))
def h85 : HC := (.s .d (.s .d (.s (.s .d (.b (.l [o85_s0] .d))) .d)))
theorem e85 (t : (List UInt8 × Int) × Int × Bool) : evF (stpT Tryz.prog T171 K171) Tryz.f85 p85 r85 h85 t = (o85 t) := by kernel_rfl
theorem fo85 : FOk Tryz.prog 85 ⟨p85, r85, fun t => (o85 t)⟩ := FOk.run_eq (evF_ok (h := h85) (by kernel_rfl) (by kernel_rfl) (by kernel_rfl)) e85
def T172 : Tbl := (85, ⟨p85, r85, fun t => (o85 t)⟩) :: T171
theorem K172 : TOk Tryz.prog T172 := .cons K171 fo85
abbrev Ty1655dd : Type := ((List UInt8 × Int) × Int × Int) × (List UInt8 × Int) × Int × Bool
def p149 : Sch := ⟨[(0, .v (.c (.ptr 0 0)))], [Bsefa04b]⟩
def r149 : List Sch := [⟨[(0, Ssb2f72a)], [Bsefa04b]⟩]
def o149 (a0 : (List UInt8 × Int) × Int × Bool) : Option Ty1655dd :=
 (bd (α := (List UInt8 × (List UInt8 × Int) × Int × Bool)) (o83 a0) (fun v1 => (bd (α := (Int × (List UInt8 × Int) × Int × Bool)) (o84 v1.2) (fun v2 => (bd (α := (Int × (List UInt8 × Int) × Int × Bool)) (o84 v2.2) (fun v3 => (bd (α := (Int × (List UInt8 × Int) × Int × Bool)) (o81 v3.2) (fun v4 => (some (((v1.1, v2.1), v3.1, v4.1), v4.2))))))))))
theorem e149 (t : (List UInt8 × Int) × Int × Bool) : evF (stpT Tryz.prog T172 K172) Tryz.f149 p149 r149 .d t = (o149 t) := by kernel_rfl
theorem fo149 : FOk Tryz.prog 149 ⟨p149, r149, fun t => (o149 t)⟩ := FOk.run_eq (evF_ok (h := .d) (by kernel_rfl) (by kernel_rfl) (by kernel_rfl)) e149
def T173 : Tbl := (149, ⟨p149, r149, fun t => (o149 t)⟩) :: T172
theorem K173 : TOk Tryz.prog T173 := .cons K172 fo149
def Bs8e9229 : BSh := .row (.p .s (.p (.p (.i .i64) (.i .i64)) (.i .u8))) 85
abbrev Ty57c663 : Type := ((List UInt8 × Int) × Int × Bool) × List (List UInt8 × (Int × Int) × Int)
abbrev Tydf91e9 : Type := (Int × Int) × ((List UInt8 × Int) × Int × Bool) × List (List UInt8 × (Int × Int) × Int)
def o148_s0 : Sch := ⟨[(0, .v (.c (.ptr 0 0))), (1, .v (.c (.fn 149))), (5, .v (.c (.own 1))), (7, .v (.c (.i .i64))), (8, .v (.c (.i .i64)))], [Bsefa04b, Bs8e9229]⟩
def p148 : Sch := ⟨[(0, .v (.c (.ptr 0 0))), (1, .v (.c (.fn 149)))], [Bsefa04b]⟩
def r148 : List Sch := [⟨[(0, .v (.c (.own 1)))], [Bsefa04b, Bs8e9229]⟩]
def o148 (a0 : (List UInt8 × Int) × Int × Bool) : Option Ty57c663 :=
 (bd (α := (Int × (List UInt8 × Int) × Int × Bool)) (o82 (2 : Int) a0) (fun v1 => (loopO (σ := Tydf91e9) fuelN (fun (v3 : Tydf91e9) => (cnd (decide (v3.1.2 < v3.1.1)) (cnd v3.2.1.2.2 (dnO (some (v3.2.1, ([] : List (List UInt8 × (Int × Int) × Int))))) (bd (α := Ty1655dd) (o149 v3.2.1) (fun v4 => (gd (decide ((v3.2.2.length + ([(v4.1.1.1, ((v4.1.1.2, v4.1.2.1), v4.1.2.2))] : List (List UInt8 × (Int × Int) × Int)).length) * 40 ≤ 140737488355328)) (some (Ctl.go ((v3.1.1, (IntKind.wrap .i64 (v3.1.2 + (1 : Int)))), v4.2, (v3.2.2 ++ ([(v4.1.1.1, ((v4.1.1.2, v4.1.2.1), v4.1.2.2))] : List (List UInt8 × (Int × Int) × Int)))))))))) (dnO (some v3.2)))) ((v1.1, (0 : Int)), v1.2, ([] : List (List UInt8 × (Int × Int) × Int))))))
def h148 : HC := (.s .d (.s .d (.s (.s .d (.b (.l [o148_s0] .d))) .d)))
theorem e148 (t : (List UInt8 × Int) × Int × Bool) : evF (stpT Tryz.prog T173 K173) Tryz.f148 p148 r148 h148 t = (o148 t) := by kernel_rfl
theorem fo148 : FOk Tryz.prog 148 ⟨p148, r148, fun t => (o148 t)⟩ := FOk.run_eq (evF_ok (h := h148) (by kernel_rfl) (by kernel_rfl) (by kernel_rfl)) e148
def T174 : Tbl := (148, ⟨p148, r148, fun t => (o148 t)⟩) :: T173
theorem K174 : TOk Tryz.prog T174 := .cons K173 fo148
abbrev Ty5e46a6 : Type := List UInt8 × ((List UInt8 × Int) × Int × Bool) × List (List UInt8 × (Int × Int) × Int)
def p88 : Sch := ⟨[(0, .v (.c (.ptr 0 0)))], [Bsefa04b]⟩
def r88 : List Sch := [⟨[(0, .v (.agg [.s, .own 1]))], [Bsefa04b, Bs8e9229]⟩]
def o88 (a0 : (List UInt8 × Int) × Int × Bool) : Option Ty5e46a6 :=
 (bd (α := (List UInt8 × (List UInt8 × Int) × Int × Bool)) (o83 a0) (fun v1 => (bd (α := Ty57c663) (o148 v1.2) (fun v2 => (some (v1.1, v2))))))
theorem e88 (t : (List UInt8 × Int) × Int × Bool) : evF (stpT Tryz.prog T174 K174) Tryz.f88 p88 r88 .d t = (o88 t) := by kernel_rfl
theorem fo88 : FOk Tryz.prog 88 ⟨p88, r88, fun t => (o88 t)⟩ := FOk.run_eq (evF_ok (h := .d) (by kernel_rfl) (by kernel_rfl) (by kernel_rfl)) e88
def T175 : Tbl := (88, ⟨p88, r88, fun t => (o88 t)⟩) :: T174
theorem K175 : TOk Tryz.prog T175 := .cons K174 fo88
abbrev Ty387a8e : Type := (Int × Int) × ((List UInt8 × Int) × Int × Bool) × List Tybbc8ca
def o87_s0 : Sch := ⟨[(0, .v (.c (.ptr 0 0))), (1, .v (.c (.fn 88))), (5, .v (.c (.own 1))), (7, .v (.c (.i .i64))), (8, .v (.c (.i .i64)))], [Bsefa04b, Bsf0f14b]⟩
def p87 : Sch := ⟨[(0, .v (.c (.ptr 0 0))), (1, .v (.c (.fn 88)))], [Bsefa04b]⟩
def r87 : List Sch := [⟨[(0, .v (.c (.own 1)))], [Bsefa04b, Bsf0f14b]⟩]
def o87 (a0 : (List UInt8 × Int) × Int × Bool) : Option (((List UInt8 × Int) × Int × Bool) × List Tybbc8ca) :=
 (bd (α := (Int × (List UInt8 × Int) × Int × Bool)) (o82 (2 : Int) a0) (fun v1 => (loopO (σ := Ty387a8e) fuelN (fun (v3 : Ty387a8e) => (cnd (decide (v3.1.2 < v3.1.1)) (cnd v3.2.1.2.2 (dnO (some (v3.2.1, ([] : List Tybbc8ca)))) (bd (α := Ty5e46a6) (o88 v3.2.1) (fun v4 => (gd (decide ((v3.2.2.length + ([(v4.1, v4.2.2)] : List Tybbc8ca).length) * 40 ≤ 140737488355328)) (some (Ctl.go ((v3.1.1, (IntKind.wrap .i64 (v3.1.2 + (1 : Int)))), v4.2.1, (v3.2.2 ++ ([(v4.1, v4.2.2)] : List Tybbc8ca))))))))) (dnO (some v3.2)))) ((v1.1, (0 : Int)), v1.2, ([] : List Tybbc8ca)))))
def h87 : HC := (.s .d (.s .d (.s (.s .d (.b (.l [o87_s0] .d))) .d)))
theorem e87 (t : (List UInt8 × Int) × Int × Bool) : evF (stpT Tryz.prog T175 K175) Tryz.f87 p87 r87 h87 t = (o87 t) := by kernel_rfl
theorem fo87 : FOk Tryz.prog 87 ⟨p87, r87, fun t => (o87 t)⟩ := FOk.run_eq (evF_ok (h := h87) (by kernel_rfl) (by kernel_rfl) (by kernel_rfl)) e87
def T176 : Tbl := (87, ⟨p87, r87, fun t => (o87 t)⟩) :: T175
theorem K176 : TOk Tryz.prog T176 := .cons K175 fo87
def Bs188497 : BSh := .cells 96 [.ic .u8 (0), .s, .s, .ic .u8 (0), .bc false, .ic .i64 (0), .ic .i64 (0), .ic .i64 (0), .ic .i64 (0), .ic .i64 (0), .ic .i64 (0), .ic .i64 (0), .ic .i64 (0)]
def Bs737b30 : BSh := .cells 96 [.i .u8, .s, .s, .i .u8, .bc false, .ic .i64 (0), .ic .i64 (0), .ic .i64 (0), .ic .i64 (0), .ic .i64 (0), .ic .i64 (0), .ic .i64 (0), .ic .i64 (0)]
abbrev Ty3b2986 : Type := (Int × (List UInt8 × Int) × Int × Bool) × (List UInt8 × List UInt8) × (Int × List UInt8) × List UInt8 × Int
def o202_s0 : Sch := ⟨[(0, .v (.c (.ptr 0 0))), (2, .v (.c (.ptr 1 0))), (3, .v (.c (.ptr 2 0))), (4, .v (.c (.i .u8)))], [Bsefa04b, Bs188497, Bs737b30]⟩
def p202 : Sch := ⟨[(0, .v (.c (.ptr 0 0)))], [Bsefa04b]⟩
def r202 : List Sch := [⟨[(0, Ss3e3d2b)], [Bsefa04b]⟩]
def o202 (a0 : (List UInt8 × Int) × Int × Bool) : Option (Ty22ecb9 × (List UInt8 × Int) × Int × Bool) :=
 (bd (α := (Int × (List UInt8 × Int) × Int × Bool)) (o81 a0) (fun v1 => (bd (α := (List UInt8 × (List UInt8 × Int) × Int × Bool)) (o83 v1.2) (fun v2 => (bd (α := (List UInt8 × (List UInt8 × Int) × Int × Bool)) (o83 v2.2) (fun v3 => (bd (α := (Int × (List UInt8 × Int) × Int × Bool)) (o81 v3.2) (fun v4 => (bd (α := (Int × (List UInt8 × Int) × Int × Bool)) (o81 v4.2) (fun v5 => (bd (α := Ty3b2986) (cnd (decide (v5.1 > (1 : Int))) (some ((v5.1, v5.2.1, v5.2.2.1, true), (([] : List UInt8), ([] : List UInt8)), (v1.1, v2.1), v3.1, v4.1)) (some (v5, (([] : List UInt8), ([] : List UInt8)), (v1.1, v2.1), v3.1, v4.1))) (fun v6 => (bd (α := (Int × (List UInt8 × Int) × Int × Bool)) (o84 v6.1.2) (fun v7 => (bd (α := (Int × (List UInt8 × Int) × Int × Bool)) (o84 v7.2) (fun v8 => (bd (α := (Int × (List UInt8 × Int) × Int × Bool)) (o84 v8.2) (fun v9 => (bd (α := (Int × (List UInt8 × Int) × Int × Bool)) (o84 v9.2) (fun v10 => (bd (α := (Int × (List UInt8 × Int) × Int × Bool)) (o84 v10.2) (fun v11 => (bd (α := (Int × (List UInt8 × Int) × Int × Bool)) (o84 v11.2) (fun v12 => (bd (α := (Int × (List UInt8 × Int) × Int × Bool)) (o84 v12.2) (fun v13 => (bd (α := (Int × (List UInt8 × Int) × Int × Bool)) (o84 v13.2) (fun v14 => (some ((((v6.2.2.1.1, v6.2.2.1.2, v6.2.2.2.1), v6.2.2.2.2, (v6.1.1 == (1 : Int)), v7.1), (v8.1, v9.1, v10.1), (v11.1, v12.1), v13.1, v14.1), v14.2))))))))))))))))))))))))))))))
def h202 : HC := (.s .d (.s .d (.s .d (.j false [o202_s0] .d))))
theorem e202 (t : (List UInt8 × Int) × Int × Bool) : evF (stpT Tryz.prog T176 K176) Tryz.f202 p202 r202 h202 t = (o202 t) := by kernel_rfl
theorem fo202 : FOk Tryz.prog 202 ⟨p202, r202, fun t => (o202 t)⟩ := FOk.run_eq (evF_ok (h := h202) (by kernel_rfl) (by kernel_rfl) (by kernel_rfl)) e202
def T177 : Tbl := (202, ⟨p202, r202, fun t => (o202 t)⟩) :: T176
theorem K177 : TOk Tryz.prog T177 := .cons K176 fo202
abbrev Ty510a01 : Type := (Int × Int) × ((List UInt8 × Int) × Int × Bool) × List Tyab9aec
def o201_s0 : Sch := ⟨[(0, .v (.c (.ptr 0 0))), (1, .v (.c (.fn 202))), (5, .v (.c (.own 1))), (7, .v (.c (.i .i64))), (8, .v (.c (.i .i64)))], [Bsefa04b, Bs33a637]⟩
def p201 : Sch := ⟨[(0, .v (.c (.ptr 0 0))), (1, .v (.c (.fn 202)))], [Bsefa04b]⟩
def r201 : List Sch := [⟨[(0, .v (.c (.own 1)))], [Bsefa04b, Bs33a637]⟩]
def o201 (a0 : (List UInt8 × Int) × Int × Bool) : Option (((List UInt8 × Int) × Int × Bool) × List Tyab9aec) :=
 (bd (α := (Int × (List UInt8 × Int) × Int × Bool)) (o82 (2 : Int) a0) (fun v1 => (loopO (σ := Ty510a01) fuelN (fun (v3 : Ty510a01) => (cnd (decide (v3.1.2 < v3.1.1)) (cnd v3.2.1.2.2 (dnO (some (v3.2.1, ([] : List Tyab9aec)))) (bd (α := (Ty22ecb9 × (List UInt8 × Int) × Int × Bool)) (o202 v3.2.1) (fun v4 => (gd (decide ((v3.2.2.length + ([(v4.1.1.1.1, (v4.1.1.1.2.1, (v4.1.1.1.2.2, (v4.1.1.2.1, (v4.1.1.2.2.1, (v4.1.1.2.2.2, (v4.1.2.1.1, (v4.1.2.1.2.1, (v4.1.2.1.2.2, ((v4.1.2.2.1.1, v4.1.2.2.1.2), (v4.1.2.2.2.1, v4.1.2.2.2.2)))))))))))] : List Tyab9aec).length) * 112 ≤ 140737488355328)) (some (Ctl.go ((v3.1.1, (IntKind.wrap .i64 (v3.1.2 + (1 : Int)))), v4.2, (v3.2.2 ++ ([(v4.1.1.1.1, (v4.1.1.1.2.1, (v4.1.1.1.2.2, (v4.1.1.2.1, (v4.1.1.2.2.1, (v4.1.1.2.2.2, (v4.1.2.1.1, (v4.1.2.1.2.1, (v4.1.2.1.2.2, ((v4.1.2.2.1.1, v4.1.2.2.1.2), (v4.1.2.2.2.1, v4.1.2.2.2.2)))))))))))] : List Tyab9aec))))))))) (dnO (some v3.2)))) ((v1.1, (0 : Int)), v1.2, ([] : List Tyab9aec)))))
def h201 : HC := (.s .d (.s .d (.s (.s .d (.b (.l [o201_s0] .d))) .d)))
theorem e201 (t : (List UInt8 × Int) × Int × Bool) : evF (stpT Tryz.prog T177 K177) Tryz.f201 p201 r201 h201 t = (o201 t) := by kernel_rfl
theorem fo201 : FOk Tryz.prog 201 ⟨p201, r201, fun t => (o201 t)⟩ := FOk.run_eq (evF_ok (h := h201) (by kernel_rfl) (by kernel_rfl) (by kernel_rfl)) e201
def T178 : Tbl := (201, ⟨p201, r201, fun t => (o201 t)⟩) :: T177
theorem K178 : TOk Tryz.prog T178 := .cons K177 fo201
abbrev Tya4d9bf : Type := (Int × List UInt8) × ((List UInt8 × Int) × Int × Bool) × List Tyab9aec
def p151 : Sch := ⟨[(0, .v (.c (.ptr 0 0)))], [Bsefa04b]⟩
def r151 : List Sch := [⟨[(0, .v (.agg [.i .u8, .s, .own 1]))], [Bsefa04b, Bs33a637]⟩]
def o151 (a0 : (List UInt8 × Int) × Int × Bool) : Option Tya4d9bf :=
 (bd (α := (Int × (List UInt8 × Int) × Int × Bool)) (o81 a0) (fun v1 => (bd (α := (List UInt8 × (List UInt8 × Int) × Int × Bool)) (o83 v1.2) (fun v2 => (bd (α := (((List UInt8 × Int) × Int × Bool) × List Tyab9aec)) (o201 v2.2) (fun v3 => (some ((v1.1, v2.1), v3))))))))
theorem e151 (t : (List UInt8 × Int) × Int × Bool) : evF (stpT Tryz.prog T178 K178) Tryz.f151 p151 r151 .d t = (o151 t) := by kernel_rfl
theorem fo151 : FOk Tryz.prog 151 ⟨p151, r151, fun t => (o151 t)⟩ := FOk.run_eq (evF_ok (h := .d) (by kernel_rfl) (by kernel_rfl) (by kernel_rfl)) e151
def T179 : Tbl := (151, ⟨p151, r151, fun t => (o151 t)⟩) :: T178
theorem K179 : TOk Tryz.prog T179 := .cons K178 fo151
abbrev Tyc77590 : Type := ((List UInt8 × Int) × Int × Bool) × List (Int × List UInt8 × List Tyab9aec)
abbrev Tye3fc88 : Type := (Int × Int) × ((List UInt8 × Int) × Int × Bool) × List (Int × List UInt8 × List Tyab9aec)
def o150_s0 : Sch := ⟨[(0, .v (.c (.ptr 0 0))), (1, .v (.c (.fn 151))), (5, .v (.c (.own 1))), (7, .v (.c (.i .i64))), (8, .v (.c (.i .i64)))], [Bsefa04b, Bs689925]⟩
def p150 : Sch := ⟨[(0, .v (.c (.ptr 0 0))), (1, .v (.c (.fn 151)))], [Bsefa04b]⟩
def r150 : List Sch := [⟨[(0, .v (.c (.own 1)))], [Bsefa04b, Bs689925]⟩]
def o150 (a0 : (List UInt8 × Int) × Int × Bool) : Option Tyc77590 :=
 (bd (α := (Int × (List UInt8 × Int) × Int × Bool)) (o82 (2 : Int) a0) (fun v1 => (loopO (σ := Tye3fc88) fuelN (fun (v3 : Tye3fc88) => (cnd (decide (v3.1.2 < v3.1.1)) (cnd v3.2.1.2.2 (dnO (some (v3.2.1, ([] : List (Int × List UInt8 × List Tyab9aec))))) (bd (α := Tya4d9bf) (o151 v3.2.1) (fun v4 => (gd (decide ((v3.2.2.length + ([(v4.1.1, (v4.1.2, v4.2.2))] : List (Int × List UInt8 × List Tyab9aec)).length) * 48 ≤ 140737488355328)) (some (Ctl.go ((v3.1.1, (IntKind.wrap .i64 (v3.1.2 + (1 : Int)))), v4.2.1, (v3.2.2 ++ ([(v4.1.1, (v4.1.2, v4.2.2))] : List (Int × List UInt8 × List Tyab9aec)))))))))) (dnO (some v3.2)))) ((v1.1, (0 : Int)), v1.2, ([] : List (Int × List UInt8 × List Tyab9aec))))))
def h150 : HC := (.s .d (.s .d (.s (.s .d (.b (.l [o150_s0] .d))) .d)))
theorem e150 (t : (List UInt8 × Int) × Int × Bool) : evF (stpT Tryz.prog T179 K179) Tryz.f150 p150 r150 h150 t = (o150 t) := by kernel_rfl
theorem fo150 : FOk Tryz.prog 150 ⟨p150, r150, fun t => (o150 t)⟩ := FOk.run_eq (evF_ok (h := h150) (by kernel_rfl) (by kernel_rfl) (by kernel_rfl)) e150
def T180 : Tbl := (150, ⟨p150, r150, fun t => (o150 t)⟩) :: T179
theorem K180 : TOk Tryz.prog T180 := .cons K179 fo150
abbrev Ty4675a0 : Type := (List UInt8 × List UInt8 × Int) × ((List UInt8 × Int) × Int × Bool) × List (Int × List UInt8 × List Tyab9aec)
def p90 : Sch := ⟨[(0, .v (.c (.ptr 0 0)))], [Bsefa04b]⟩
def r90 : List Sch := [⟨[(0, .v (.agg [.s, .s, .i .u8, .own 1]))], [Bsefa04b, Bs689925]⟩]
def o90 (a0 : (List UInt8 × Int) × Int × Bool) : Option Ty4675a0 :=
 (bd (α := (List UInt8 × (List UInt8 × Int) × Int × Bool)) (o83 a0) (fun v1 => (bd (α := (List UInt8 × (List UInt8 × Int) × Int × Bool)) (o83 v1.2) (fun v2 => (bd (α := (Int × (List UInt8 × Int) × Int × Bool)) (o81 v2.2) (fun v3 => (bd (α := Tyc77590) (o150 v3.2) (fun v4 => (some ((v1.1, v2.1, v3.1), v4))))))))))
theorem e90 (t : (List UInt8 × Int) × Int × Bool) : evF (stpT Tryz.prog T180 K180) Tryz.f90 p90 r90 .d t = (o90 t) := by kernel_rfl
theorem fo90 : FOk Tryz.prog 90 ⟨p90, r90, fun t => (o90 t)⟩ := FOk.run_eq (evF_ok (h := .d) (by kernel_rfl) (by kernel_rfl) (by kernel_rfl)) e90
def T181 : Tbl := (90, ⟨p90, r90, fun t => (o90 t)⟩) :: T180
theorem K181 : TOk Tryz.prog T181 := .cons K180 fo90
abbrev Ty6073f6 : Type := (Int × Int) × ((List UInt8 × Int) × Int × Bool) × List Tycd215c
def o89_s0 : Sch := ⟨[(0, .v (.c (.ptr 0 0))), (1, .v (.c (.fn 90))), (5, .v (.c (.own 1))), (7, .v (.c (.i .i64))), (8, .v (.c (.i .i64)))], [Bsefa04b, Bs403ed2]⟩
def p89 : Sch := ⟨[(0, .v (.c (.ptr 0 0))), (1, .v (.c (.fn 90)))], [Bsefa04b]⟩
def r89 : List Sch := [⟨[(0, .v (.c (.own 1)))], [Bsefa04b, Bs403ed2]⟩]
def o89 (a0 : (List UInt8 × Int) × Int × Bool) : Option (((List UInt8 × Int) × Int × Bool) × List Tycd215c) :=
 (bd (α := (Int × (List UInt8 × Int) × Int × Bool)) (o82 (2 : Int) a0) (fun v1 => (loopO (σ := Ty6073f6) fuelN (fun (v3 : Ty6073f6) => (cnd (decide (v3.1.2 < v3.1.1)) (cnd v3.2.1.2.2 (dnO (some (v3.2.1, ([] : List Tycd215c)))) (bd (α := Ty4675a0) (o90 v3.2.1) (fun v4 => (gd (decide ((v3.2.2.length + ([(v4.1.1, (v4.1.2.1, (v4.1.2.2, v4.2.2)))] : List Tycd215c).length) * 64 ≤ 140737488355328)) (some (Ctl.go ((v3.1.1, (IntKind.wrap .i64 (v3.1.2 + (1 : Int)))), v4.2.1, (v3.2.2 ++ ([(v4.1.1, (v4.1.2.1, (v4.1.2.2, v4.2.2)))] : List Tycd215c))))))))) (dnO (some v3.2)))) ((v1.1, (0 : Int)), v1.2, ([] : List Tycd215c)))))
def h89 : HC := (.s .d (.s .d (.s (.s .d (.b (.l [o89_s0] .d))) .d)))
theorem e89 (t : (List UInt8 × Int) × Int × Bool) : evF (stpT Tryz.prog T181 K181) Tryz.f89 p89 r89 h89 t = (o89 t) := by kernel_rfl
theorem fo89 : FOk Tryz.prog 89 ⟨p89, r89, fun t => (o89 t)⟩ := FOk.run_eq (evF_ok (h := h89) (by kernel_rfl) (by kernel_rfl) (by kernel_rfl)) e89
def T182 : Tbl := (89, ⟨p89, r89, fun t => (o89 t)⟩) :: T181
theorem K182 : TOk Tryz.prog T182 := .cons K181 fo89
def Bs72c75b : BSh := .cells 30 [.s, .i .i64, .i .i64, .i .i64, .i .i64, .i .i64, .own 4, .own 5, .own 6]
def Bs6d3bd1 : BSh := .row (.p (.i .u8) (.p (.i .i64) (.p (.i .i64) (.i .i64)))) 65
def Bsc33670 : BSh := .cells 30 [.s, .i .i64, .i .i64, .i .i64, .i .i64, .i .i64, .own 6, .own 7, .own 8]
def Bs18e1fa : BSh := .cells 65 [.i .u8, .i .i64, .i .i64, .i .i64]
def Ss986083 : SSh := .tup [.agg [.s, .i .i64, .i .i64, .i .i64, .i .i64, .i .i64, .own 0, .own 1, .own 2], .c (.own 3), .c (.i .i64)]
abbrev Ty9cb662 : Type := (List UInt8 × Int × Int) × (Int × Int) × Int × Int
abbrev Ty1ffe5e : Type := (Ty9cb662 × List Ty250e00) × List Tybbc8ca × List Tycd215c × List (Int × Int × Int × Int)
abbrev Ty96d3ae : Type := ((List UInt8 × Int) × List UInt8 × (List UInt8 × Int) × Int × Bool) × (Tyc0a991 × List (Int × Int × Int × Int)) × List Ty250e00 × List Tybbc8ca × List Tycd215c
abbrev Ty6d9886 : Type := ((List UInt8 × Int) × Bool × List UInt8 × (List UInt8 × Int) × Int × Bool) × (Tyc0a991 × List (Int × Int × Int × Int)) × List Ty250e00 × List Tybbc8ca × List Tycd215c
abbrev Ty7314ac : Type := ((List UInt8 × Int) × Int × Bool × List UInt8) × (((List UInt8 × Int) × Int × Bool) × Tyc0a991 × List (Int × Int × Int × Int)) × List Ty250e00 × List Tybbc8ca × List Tycd215c
abbrev Ty9e59bf : Type := ((List UInt8 × Int) × List UInt8 × ((List UInt8 × Int) × Int × Bool) × Tyc0a991) × ((List (Int × Int × Int × Int)) × ((Int × Int) × Int × Int) × (List UInt8 × Int) × Int × Bool) × List Ty250e00 × List Tybbc8ca × List Tycd215c
abbrev Ty6ef1ed : Type := ((List UInt8 × Int × Bool) × List UInt8 × ((List UInt8 × Int) × Int × Bool) × Tyc0a991) × ((List (Int × Int × Int × Int)) × ((Int × Int) × Int × Int) × (List UInt8 × Int) × Int × Bool) × List Ty250e00 × List Tybbc8ca × List Tycd215c
abbrev Tyac9a53 : Type := (Bool × List UInt8 × Tyc0a991) × ((List (Int × Int × Int × Int)) × List Ty250e00) × List Tybbc8ca × List Tycd215c
def o39_s0 : Sch := ⟨[(2, .v (.c (.ptr 0 0))), (5, .v (.c (.ro .y true))), (7, .v (.c (.ptr 1 0))), (8, .v (.c (.ptr 2 0))), (9, .v (.c (.own 3))), (10, .v (.c (.i .u8))), (41, .v (.c (.b)))], [Bs68b8ea, Bsefa04b, Bs72c75b, Bs6d3bd1, Bs5762ff, Bsf0f14b, Bs403ed2]⟩
def o39_s1 : Sch := ⟨[(2, .v (.c (.ptr 0 0))), (5, .v (.c (.ro .y true))), (7, .v (.c (.ptr 1 0))), (8, .v (.c (.ptr 2 0))), (9, .v (.c (.own 3))), (10, .v (.c (.i .u8))), (11, .v (.c (.i .i64))), (67, .v (.c (.b)))], [Bs68b8ea, Bsefa04b, Bs72c75b, Bs6d3bd1, Bs5762ff, Bsf0f14b, Bs403ed2]⟩
def o39_s2 : Sch := ⟨[(2, .v (.c (.ptr 0 0))), (5, .v (.c (.ro .y true))), (7, .v (.c (.ptr 1 0))), (8, .v (.c (.ptr 2 0))), (9, .v (.c (.own 3))), (10, .v (.c (.i .u8))), (12, .v (.c (.ptr 4 0))), (13, .v (.c (.ptr 5 0))), (146, .v (.c (.b)))], [Bs68b8ea, Bsefa04b, Bsc33670, Bs6d3bd1, Bs18e1fa, Bsefa04b, Bs5762ff, Bsf0f14b, Bs403ed2]⟩
def o39_s3 : Sch := ⟨[(2, .v (.c (.ptr 0 0))), (5, .v (.c (.ro .y true))), (7, .v (.c (.ptr 1 0))), (8, .v (.c (.ptr 2 0))), (9, .v (.c (.own 3))), (10, .v (.c (.i .u8))), (12, .v (.c (.ptr 4 0))), (13, .v (.c (.ptr 5 0)))], [Bs68b8ea, Bsefa04b, Bsc33670, Bs6d3bd1, Bs18e1fa, Bsefa04b, Bs5762ff, Bsf0f14b, Bs403ed2]⟩
def o39_s4 : Sch := ⟨[(2, .v (.c (.ptr 0 0))), (5, .v (.c (.ro .y true))), (7, .v (.c (.ptr 1 0))), (8, .v (.c (.ptr 2 0))), (9, .v (.c (.own 3))), (10, .v (.c (.i .u8)))], [Bs68b8ea, Bsefa04b, Bs72c75b, Bs6d3bd1, Bs5762ff, Bsf0f14b, Bs403ed2]⟩
def o39_s5 : Sch := ⟨[(2, .v (.c (.ptr 0 0))), (8, .v (.c (.ptr 1 0))), (9, .v (.c (.own 2))), (173, .v (.c (.b)))], [Bs68b8ea, Bscaa62c, Bs6d3bd1, Bs5762ff, Bsf0f14b, Bs403ed2]⟩
def p39 : Sch := ⟨[(0, .v (.c (.ro .y false)))], []⟩
def r39 : List Sch := [⟨[(0, Ss986083)], [Bs5762ff, Bsf0f14b, Bs403ed2, Bs6d3bd1]⟩]
def o39 (a0 : List UInt8) : Option Ty1ffe5e :=
 (bd (α := (List UInt8 × Int)) (o79 a0) (fun v1 => (cnd (v1.2 != (0 : Int)) (some ((((([] : List UInt8), (0 : Int), (0 : Int)), ((0 : Int), (0 : Int)), (0 : Int), v1.2), ([] : List Ty250e00)), ([] : List Tybbc8ca), ([] : List Tycd215c), ([] : List (Int × Int × Int × Int)))) (bd (α := (List UInt8 × (List UInt8 × Int) × Int × Bool)) (o80 (4 : Int) ((v1.1, (0 : Int)), ((v1.1.length : Nat) : Int), false)) (fun v2 => (cnd (!(v2.1 == ([70, 68, 66, 49] : List UInt8))) (some ((((([] : List UInt8), (0 : Int), (0 : Int)), ((0 : Int), (0 : Int)), (0 : Int), (4 : Int)), ([] : List Ty250e00)), ([] : List Tybbc8ca), ([] : List Tycd215c), ([] : List (Int × Int × Int × Int)))) (loopO (σ := Ty96d3ae) fuelN (fun (v5 : Ty96d3ae) => (bd (α := Ty6d9886) (cnd (decide (v5.1.1.2 ≤ (4 : Int))) (some ((v5.1.1, (!v5.1.2.2.2.2), v5.1.2), v5.2)) (some ((v5.1.1, false, v5.1.2), v5.2))) (fun v6 => (cnd v6.1.2.1 (bd (α := Ty96d3ae) (bd (α := (Int × (List UInt8 × Int) × Int × Bool)) (o81 v6.1.2.2.2) (fun v7 => (cnd (v7.1 != v6.1.1.2) (some ((v6.1.1, v6.1.2.2.1, v7.2.1, v7.2.2.1, true), v6.2)) (some ((v6.1.1, v6.1.2.2.1, v7.2), v6.2))))) (fun v8 => (bd (α := (Int × (List UInt8 × Int) × Int × Bool)) (o82 (4 : Int) v8.1.2.2) (fun v9 => (bd (α := Ty7314ac) (cnd v9.2.2.2 (some ((v8.1.1, v9.1, true, v8.1.2.1), (v9.2, v8.2.1), v8.2.2)) (some ((v8.1.1, v9.1, (decide (v9.1 > (IntKind.wrap .i64 (((v8.1.1.1.length : Nat) : Int) - v9.2.1.2)))), v8.1.2.1), (v9.2, v8.2.1), v8.2.2))) (fun v10 => (cnd v10.1.2.2.1 (dnO (some ((((([] : List UInt8), (0 : Int), (0 : Int)), ((0 : Int), (0 : Int)), (0 : Int), (4 : Int)), ([] : List Ty250e00)), ([] : List Tybbc8ca), ([] : List Tycd215c), ([] : List (Int × Int × Int × Int))))) (bd (α := Ty9e59bf) (cnd (v10.1.1.2 == (1 : Int)) (bd (α := (List UInt8 × (List UInt8 × Int) × Int × Bool)) (o83 ((v10.1.1.1, v10.2.1.1.1.2), (IntKind.wrap .i64 (v10.2.1.1.1.2 + v10.1.2.1)), false)) (fun v11 => (bd (α := (Int × (List UInt8 × Int) × Int × Bool)) (o84 v11.2) (fun v12 => (bd (α := (Int × (List UInt8 × Int) × Int × Bool)) (o84 v12.2) (fun v13 => (bd (α := (Int × (List UInt8 × Int) × Int × Bool)) (o84 v13.2) (fun v14 => (bd (α := (Int × (List UInt8 × Int) × Int × Bool)) (o84 v14.2) (fun v15 => (bd (α := (Int × (List UInt8 × Int) × Int × Bool)) (o84 v15.2) (fun v16 => (some ((v10.1.1, v10.1.2.2.2, v10.2.1.1, (v11.1, v12.1, v13.1), v14.1, v15.1, v16.1), (v10.2.1.2.2, ((v10.1.1.2, v10.2.1.1.1.2), v10.1.2.1, (1 : Int)), v16.2), v10.2.2)))))))))))))) (cnd (v10.1.1.2 == (2 : Int)) (bd (α := (((List UInt8 × Int) × Int × Bool) × List Ty250e00)) (o85 ((v10.1.1.1, v10.2.1.1.1.2), (IntKind.wrap .i64 (v10.2.1.1.1.2 + v10.1.2.1)), false)) (fun v17 => (some ((v10.1.1, v10.1.2.2.2, v10.2.1.1, v10.2.1.2.1), (v10.2.1.2.2, ((v10.1.1.2, v10.2.1.1.1.2), v10.1.2.1, ((v17.2.length : Nat) : Int)), v17.1), v17.2, v10.2.2.2)))) (cnd (v10.1.1.2 == (3 : Int)) (bd (α := (((List UInt8 × Int) × Int × Bool) × List Tybbc8ca)) (o87 ((v10.1.1.1, v10.2.1.1.1.2), (IntKind.wrap .i64 (v10.2.1.1.1.2 + v10.1.2.1)), false)) (fun v18 => (some ((v10.1.1, v10.1.2.2.2, v10.2.1.1, v10.2.1.2.1), (v10.2.1.2.2, ((v10.1.1.2, v10.2.1.1.1.2), v10.1.2.1, ((v18.2.length : Nat) : Int)), v18.1), v10.2.2.1, v18.2, v10.2.2.2.2)))) (bd (α := (((List UInt8 × Int) × Int × Bool) × List Tycd215c)) (o89 ((v10.1.1.1, v10.2.1.1.1.2), (IntKind.wrap .i64 (v10.2.1.1.1.2 + v10.1.2.1)), false)) (fun v19 => (some ((v10.1.1, v10.1.2.2.2, v10.2.1.1, v10.2.1.2.1), (v10.2.1.2.2, ((v10.1.1.2, v10.2.1.1.1.2), v10.1.2.1, ((v19.2.length : Nat) : Int)), v19.1), v10.2.2.1, v10.2.2.2.1, v19.2))))))) (fun v20 => (bd (α := Ty6ef1ed) (cnd v20.2.1.2.2.2.2 (some (((v20.1.1.1, v20.1.1.2, true), v20.1.2), v20.2)) (some (((v20.1.1.1, v20.1.1.2, (v20.2.1.2.2.1.2 != v20.2.1.2.2.2.1)), v20.1.2), v20.2))) (fun v21 => (cnd v21.1.1.2.2 (dnO (some ((((([] : List UInt8), (0 : Int), (0 : Int)), ((0 : Int), (0 : Int)), (0 : Int), (4 : Int)), ([] : List Ty250e00)), ([] : List Tybbc8ca), ([] : List Tycd215c), ([] : List (Int × Int × Int × Int))))) (gd (decide ((v21.2.1.1.length + ([(v21.2.1.2.1.1.1, (v21.2.1.2.1.1.2, (v21.2.1.2.1.2.1, v21.2.1.2.1.2.2)))] : List (Int × Int × Int × Int)).length) * 32 ≤ 140737488355328)) (some (Ctl.go (((v21.1.1.1, (IntKind.wrap .u8 (v21.1.1.2.1 + (1 : Int)))), v21.1.2.1, (v21.1.2.2.1.1.1, v21.2.1.2.2.2.1), v21.1.2.2.1.2), (v21.1.2.2.2, (v21.2.1.1 ++ ([(v21.2.1.2.1.1.1, (v21.2.1.2.1.1.2, (v21.2.1.2.1.2.1, v21.2.1.2.1.2.2)))] : List (Int × Int × Int × Int)))), v21.2.2)))))))))))))))) (dnO (bd (α := Tyac9a53) (cnd v6.1.2.2.2.2.2 (some ((true, v6.1.2.2.1, v6.2.1.1), (v6.2.1.2, v6.2.2.1), v6.2.2.2)) (some (((v6.1.2.2.2.1.2 != v6.1.2.2.2.2.1), v6.1.2.2.1, v6.2.1.1), (v6.2.1.2, v6.2.2.1), v6.2.2.2))) (fun v22 => (cnd v22.1.1 (some ((((([] : List UInt8), (0 : Int), (0 : Int)), ((0 : Int), (0 : Int)), (0 : Int), (4 : Int)), ([] : List Ty250e00)), ([] : List Tybbc8ca), ([] : List Tycd215c), ([] : List (Int × Int × Int × Int)))) (some (((v22.1.2.2.1, (v22.1.2.2.2.1, v22.1.2.2.2.2.1), v22.1.2.2.2.2.2, (0 : Int)), v22.2.1.2), v22.2.2.1, v22.2.2.2, v22.2.1.1)))))))))) (((v1.1, (1 : Int)), ([] : List UInt8), v2.2), (((([] : List UInt8), (0 : Int), (0 : Int)), (0 : Int), (0 : Int), (0 : Int)), ([] : List (Int × Int × Int × Int))), ([] : List Ty250e00), ([] : List Tybbc8ca), ([] : List Tycd215c)))))))))
def h39 : HC := (.s .d (.s .d (.s .d (.s .d (.s .d (.s .d (.s .d (.s (.s .d (.b (.l [o39_s4] (.s (.s (.j false [o39_s0] .d) .d) (.s (.b (.j false [o39_s4] (.s .d (.s .d (.s (.s (.j false [o39_s1] .d) .d) (.s .d (.s (.r 1) (.j false [o39_s3] (.s .d (.s (.s (.j false [o39_s2] .d) .d) .d)))))))))) .d))))) (.s (.s (.j false [o39_s5] .d) .d) .d)))))))))
theorem e39 (t : List UInt8) : evF (stpT Tryz.prog T182 K182) Tryz.f39 p39 r39 h39 t = (o39 t) := by kernel_rfl
theorem fo39 : FOk Tryz.prog 39 ⟨p39, r39, fun t => (o39 t)⟩ := FOk.run_eq (evF_ok (h := h39) (by kernel_rfl) (by kernel_rfl) (by kernel_rfl)) e39
def T183 : Tbl := (39, ⟨p39, r39, fun t => (o39 t)⟩) :: T182
theorem K183 : TOk Tryz.prog T183 := .cons K182 fo39
def Ssb4c152 : SSh := .tup [.agg [.s, .i .i64, .i .i64, .i .i64, .i .i64, .i .i64, .own 0, .own 1, .own 2], .c (.i .i64)]
def p24 : Sch := ⟨[(0, .v (.c (.ro .y false)))], []⟩
def r24 : List Sch := [⟨[(0, Ssb4c152)], [Bs5762ff, Bsf0f14b, Bs403ed2]⟩]
def o24 (a0 : List UInt8) : Option ((Ty9cb662 × List Ty250e00) × List Tybbc8ca × List Tycd215c) :=
 (bd (α := Ty1ffe5e) (o39 a0) (fun v1 => (cnd (v1.1.1.2.2.2 != (0 : Int)) (some ((((([] : List UInt8), (0 : Int), (0 : Int)), ((0 : Int), (0 : Int)), (0 : Int), v1.1.1.2.2.2), ([] : List Ty250e00)), ([] : List Tybbc8ca), ([] : List Tycd215c))) (bd (α := Int) (o26v1 (((v1.1.1.1.1, v1.1.1.1.2.1), v1.1.1.1.2.2, v1.1.1.2.1.1), (v1.1.1.2.1.2, v1.1.1.2.2.1), v1.1.2, v1.2.1, v1.2.2.1)) (fun v2 => (cnd (v2 != (0 : Int)) (some ((((([] : List UInt8), (0 : Int), (0 : Int)), ((0 : Int), (0 : Int)), (0 : Int), v2), ([] : List Ty250e00)), ([] : List Tybbc8ca), ([] : List Tycd215c))) (some (((v1.1.1.1, v1.1.1.2.1, v1.1.1.2.2.1, (0 : Int)), v1.1.2), v1.2.1, v1.2.2.1))))))))
theorem e24 (t : List UInt8) : evF (stpT Tryz.prog T183 K183) Tryz.f24 p24 r24 .d t = (o24 t) := by kernel_rfl
theorem fo24 : FOk Tryz.prog 24 ⟨p24, r24, fun t => (o24 t)⟩ := FOk.run_eq (evF_ok (h := .d) (by kernel_rfl) (by kernel_rfl) (by kernel_rfl)) e24
def T184 : Tbl := (24, ⟨p24, r24, fun t => (o24 t)⟩) :: T183
theorem K184 : TOk Tryz.prog T184 := .cons K183 fo24
def Bsb3588a : BSh := .cells 102 [.s, .i .i64, .i .i64, .i .i64, .i .i64, .i .i64, .cst (.slice none 0 0), .cst (.slice none 0 0), .cst (.slice none 0 0), .b, .s, .i .i64, .i .i64, .i .i64, .i .i64, .i .i64, .cst (.slice none 0 0), .cst (.slice none 0 0), .cst (.slice none 0 0), .b]
def Bse316c9 : BSh := .cells 30 [.s, .i .i64, .i .i64, .i .i64, .i .i64, .i .i64, .own 2, .own 3, .own 4]
def Bs634882 : BSh := .cells 102 [.s, .i .i64, .i .i64, .i .i64, .i .i64, .i .i64, .cst (.slice none 0 0), .cst (.slice none 0 0), .cst (.slice none 0 0), .b, .s, .i .i64, .i .i64, .i .i64, .i .i64, .i .i64, .own 1, .own 2, .own 3, .b]
abbrev Ty3bae59 : Type := ((List UInt8 × Int × Int) × (Int × Int) × Int × Bool) × (List UInt8 × Int × Int) × (Int × Int) × Int × Bool
abbrev Tye73613 : Type := (Int × Ty3bae59) × List Ty250e00 × List Tybbc8ca × List Tycd215c
abbrev Ty3aabf2 : Type := (Bool × Ty3bae59 × Tyc0a991) × List Ty250e00 × List Tybbc8ca × List Tycd215c
def o10_s0 : Sch := ⟨[(0, .v (.c (.ptr 0 0))), (5, .v (.c (.ptr 1 0))), (34, .v (.c (.b)))], [Bsb3588a, Bse316c9, Bs5762ff, Bsf0f14b, Bs403ed2]⟩
def p10 : Sch := ⟨[(0, .v (.c (.ptr 0 0))), (1, .v (.c (.ro .y false)))], [Bsb3588a]⟩
def r10 : List Sch := [⟨[(0, .v (.c (.i .i64)))], [Bs634882, Bs5762ff, Bsf0f14b, Bs403ed2]⟩]
def o10 (a0 : List UInt8) (a1 : Ty3bae59) : Option Tye73613 :=
 (bd (α := ((Ty9cb662 × List Ty250e00) × List Tybbc8ca × List Tycd215c)) (o24 a0) (fun v1 => (cnd (v1.1.1.2.2.2 != (0 : Int)) (some ((v1.1.1.2.2.2, a1), ([] : List Ty250e00), ([] : List Tybbc8ca), ([] : List Tycd215c))) (bd (α := Ty3aabf2) (cnd a1.1.2.2.2 (some (((a1.1.1.2.1 == v1.1.1.1.2.1), a1, v1.1.1.1, v1.1.1.2.1.1, v1.1.1.2.1.2, v1.1.1.2.2.1), v1.1.2, v1.2)) (some ((false, a1, v1.1.1.1, v1.1.1.2.1.1, v1.1.1.2.1.2, v1.1.1.2.2.1), v1.1.2, v1.2))) (fun v2 => (cnd v2.1.1 (some (((7 : Int), v2.1.2.1), ([] : List Ty250e00), ([] : List Tybbc8ca), ([] : List Tycd215c))) (some (((0 : Int), v2.1.2.1.1, v2.1.2.2.1, (v2.1.2.2.2.1, v2.1.2.2.2.2.1), v2.1.2.2.2.2.2, true), v2.2))))))))
def h10 : HC := (.s .d (.s .d (.s .d (.s .d (.s (.s (.j false [o10_s0] .d) .d) .d)))))
theorem e10 (t : List UInt8 × Ty3bae59) : evF (stpT Tryz.prog T184 K184) Tryz.f10 p10 r10 h10 t = (o10 t.1 t.2) := by kernel_rfl
theorem fo10 : FOk Tryz.prog 10 ⟨p10, r10, fun t => (o10 t.1 t.2)⟩ := FOk.run_eq (evF_ok (h := h10) (by kernel_rfl) (by kernel_rfl) (by kernel_rfl)) e10
def T185 : Tbl := (10, ⟨p10, r10, fun t => (o10 t.1 t.2)⟩) :: T184
theorem K185 : TOk Tryz.prog T185 := .cons K184 fo10
def o116_s0 : Sch := ⟨[(0, .v (.c (.i .i64))), (5, .v (.c (.own 0))), (6, .v (.c (.i .i64)))], [.row .y 5]⟩
def p116 : Sch := ⟨[(0, .v (.c (.i .i64))), (1, .v (.c (.i .i64)))], []⟩
def r116 : List Sch := [⟨[(0, .v (.c (.s)))], []⟩]
def o116 (a0 : Int) (a1 : Int) : Option (List UInt8) :=
 (gd (decide ((0 : Int) ≤ a1 ∧ a1 * (1 : Int) ≤ (140737488355328 : Int))) (loopO (σ := Int × Int × List UInt8) fuelN (fun (v1 : Int × Int × List UInt8) => (cnd (decide (v1.2.1 ≥ (0 : Int))) (gd (decide ((0 : Int) ≤ v1.2.1 ∧ v1.2.1 < ((v1.2.2.length : Nat) : Int))) (some (Ctl.go ((IntKind.wrap .i64 (Int.tdiv v1.1 (10 : Int))), (IntKind.wrap .i64 (v1.2.1 - (1 : Int))), (List.set v1.2.2 v1.2.1.toNat (u8 (IntKind.wrap .u8 (IntKind.wrap .i64 ((48 : Int) + (Int.tmod v1.1 (10 : Int))))))))))) (dnO (some v1.2.2)))) (a0, (IntKind.wrap .i64 (a1 - (1 : Int))), (List.replicate a1.toNat (u8 (0 : Int))))))
def h116 : HC := (.s .d (.s .d (.s (.s .d (.b (.l [o116_s0] .d))) .d)))
theorem e116 (t : Int × Int) : evF (stpT Tryz.prog T185 K185) Tryz.f116 p116 r116 h116 t = (o116 t.1 t.2) := by kernel_rfl
theorem fo116 : FOk Tryz.prog 116 ⟨p116, r116, fun t => (o116 t.1 t.2)⟩ := FOk.run_eq (evF_ok (h := h116) (by kernel_rfl) (by kernel_rfl) (by kernel_rfl)) e116
def T186 : Tbl := (116, ⟨p116, r116, fun t => (o116 t.1 t.2)⟩) :: T185
theorem K186 : TOk Tryz.prog T186 := .cons K185 fo116
def p55 : Sch := ⟨[(0, .v (.c (.i .i64)))], []⟩
def r55 : List Sch := [⟨[(0, .tup [.c (.s), .c (.i .i64)])], []⟩]
def o55 (a0 : Int) : Option (List UInt8 × Int) :=
 (bd (α := (Int × Int × Int)) (o115 a0) (fun v1 => (cnd (v1.2.2 != (0 : Int)) (some (([] : List UInt8), v1.2.2)) (bd (α := (List UInt8)) (o116 a0 (4 : Int)) (fun v2 => (some (v2, (0 : Int))))))))
theorem e55 (t : Int) : evF (stpT Tryz.prog T186 K186) Tryz.f55 p55 r55 .d t = (o55 t) := by kernel_rfl
theorem fo55 : FOk Tryz.prog 55 ⟨p55, r55, fun t => (o55 t)⟩ := FOk.run_eq (evF_ok (h := .d) (by kernel_rfl) (by kernel_rfl) (by kernel_rfl)) e55
def T187 : Tbl := (55, ⟨p55, r55, fun t => (o55 t)⟩) :: T186
theorem K187 : TOk Tryz.prog T187 := .cons K186 fo55
def p78 : Sch := ⟨[(0, .v (.c (.i .i64)))], []⟩
def r78 : List Sch := [⟨[(0, .tup [.c (.s), .c (.i .i64)])], []⟩]
def o78 (a0 : Int) : Option (List UInt8 × Int) :=
 (bd (α := ((Int × Int) × Int × Int)) (o76 a0) (fun v1 => (cnd (v1.2.2 != (0 : Int)) (some (([] : List UInt8), v1.2.2)) (bd (α := (List UInt8)) (o116 v1.1.1 (4 : Int)) (fun v2 => (gd (decide (v2.length + ([45] : List UInt8).length ≤ 1125899906842624)) (bd (α := (List UInt8)) (o116 v1.1.2 (2 : Int)) (fun v3 => (gd (decide ((v2 ++ ([45] : List UInt8)).length + v3.length ≤ 1125899906842624)) (gd (decide (((v2 ++ ([45] : List UInt8)) ++ v3).length + ([45] : List UInt8).length ≤ 1125899906842624)) (bd (α := (List UInt8)) (o116 v1.2.1 (2 : Int)) (fun v4 => (gd (decide ((((v2 ++ ([45] : List UInt8)) ++ v3) ++ ([45] : List UInt8)).length + v4.length ≤ 1125899906842624)) (some (((((v2 ++ ([45] : List UInt8)) ++ v3) ++ ([45] : List UInt8)) ++ v4), (0 : Int))))))))))))))))
theorem e78 (t : Int) : evF (stpT Tryz.prog T187 K187) Tryz.f78 p78 r78 .d t = (o78 t) := by kernel_rfl
theorem fo78 : FOk Tryz.prog 78 ⟨p78, r78, fun t => (o78 t)⟩ := FOk.run_eq (evF_ok (h := .d) (by kernel_rfl) (by kernel_rfl) (by kernel_rfl)) e78
def T188 : Tbl := (78, ⟨p78, r78, fun t => (o78 t)⟩) :: T187
theorem K188 : TOk Tryz.prog T188 := .cons K187 fo78
def Ssc67551 : SSh := .v (.agg [.s, .i .i64, .i .i64, .i .i64, .i .i64, .i .i64, .cst (.slice none 0 0), .cst (.slice none 0 0), .cst (.slice none 0 0), .b])
abbrev Tyf3ea03 : Type := (Int × List UInt8 × List UInt8) × List UInt8 × List UInt8 × Tyc0a991
abbrev Ty3b94e8 : Type := (List UInt8 × List UInt8) × List UInt8 × List UInt8 × Tyc0a991
def o38_s0 : Sch := ⟨[(5, .v (.c (.ptr 0 0))), (6, .v (.c (.s))), (8, .v (.c (.s))), (10, .v (.c (.s))), (12, .v (.c (.s)))], [Bsa1a855]⟩
def o38_s1 : Sch := ⟨[(1, .v (.c (.i .i64))), (5, .v (.c (.ptr 0 0))), (6, .v (.c (.s))), (8, .v (.c (.s))), (10, .v (.c (.s))), (12, .v (.c (.s)))], [Bsa1a855]⟩
def o38_s2 : Sch := ⟨[(1, .v (.c (.i .i64))), (5, .v (.c (.ptr 0 0))), (6, .v (.c (.s))), (8, .v (.c (.s))), (10, .v (.c (.s)))], [Bsa1a855]⟩
def p38 : Sch := ⟨[(0, Ssc67551), (1, .v (.c (.i .i64)))], []⟩
def r38 : List Sch := [⟨[(0, .v (.c (.s)))], []⟩]
def o38 (a0 : Ty035810) (a1 : Int) : Option (List UInt8) :=
 (cnd (!a0.2.2.2) (some ([78, 79, 78, 69] : List UInt8)) (bd (α := (List UInt8 × Int)) (o55 a0.1.2.1) (fun v1 => (bd (α := (List UInt8 × Int)) (o78 a0.1.2.2) (fun v2 => (bd (α := (List UInt8 × Int)) (o78 (IntKind.wrap .i64 (a0.2.1.1 - (1 : Int)))) (fun v3 => (bd (α := ((Int × List UInt8) × List UInt8 × List UInt8 × Tyc0a991)) (cnd (v3.2 != (0 : Int)) (some ((a1, v1.1), v2.1, ([45] : List UInt8), a0.1, a0.2.1.1, a0.2.1.2, a0.2.2.1)) (some ((a1, v1.1), v2.1, v3.1, a0.1, a0.2.1.1, a0.2.1.2, a0.2.2.1))) (fun v4 => (bd (α := Tyf3ea03) (cnd (decide (v4.1.1 < v4.2.2.2.1.2.2)) (some ((v4.1.1, v4.1.2, v4.2.1), v4.2.2.1, ([69, 65, 82, 76, 89] : List UInt8), v4.2.2.2)) (some ((v4.1.1, v4.1.2, v4.2.1), v4.2.2.1, ([69, 70, 70, 69, 67, 84, 73, 86, 69] : List UInt8), v4.2.2.2))) (fun v5 => (bd (α := Ty3b94e8) (cnd (decide (v5.1.1 ≥ v5.2.2.2.2.1)) (some (v5.1.2, v5.2.1, ([69, 88, 80, 73, 82, 69, 68] : List UInt8), v5.2.2.2)) (some (v5.1.2, v5.2))) (fun v6 => (bd (α := (List UInt8)) (o53 ([v6.2.2.2.1.1, v6.1.1, v6.1.2, v6.2.1, v6.2.2.1] : List (List UInt8)) ([32] : List UInt8)) (fun v7 => (some v7))))))))))))))))
def h38 : HC := (.s .d (.s .d (.s .d (.s .d (.s .d (.s .d (.j false [o38_s2] (.s .d (.s .d (.j false [o38_s1] (.s .d (.j false [o38_s0] .d))))))))))))
theorem e38 (t : Ty035810 × Int) : evF (stpT Tryz.prog T188 K188) Tryz.f38 p38 r38 h38 t = (o38 t.1 t.2) := by kernel_rfl
theorem fo38 : FOk Tryz.prog 38 ⟨p38, r38, fun t => (o38 t.1 t.2)⟩ := FOk.run_eq (evF_ok (h := h38) (by kernel_rfl) (by kernel_rfl) (by kernel_rfl)) e38
def T189 : Tbl := (38, ⟨p38, r38, fun t => (o38 t.1 t.2)⟩) :: T188
theorem K189 : TOk Tryz.prog T189 := .cons K188 fo38
def Ssf4e326 : SSh := .v (.agg [.s, .i .i64, .i .i64, .i .i64, .i .i64, .i .i64, .ro (.p .s (.p .s (.p (.i .u8) (.p (.p (.i .i64) (.i .i64)) (.p (.i .i64) (.i .i64)))))) false, .ro (.p .s (.a (.p .s (.p (.p (.i .i64) (.i .i64)) (.i .u8))))) false, .ro (.p .s (.p .s (.p (.i .u8) (.a (.p (.i .u8) (.p .s (.a (.p (.i .u8) (.p .s (.p .s (.p (.i .u8) (.p .b (.p (.i .i64) (.p (.i .i64) (.p (.i .i64) (.p (.i .i64) (.p (.p (.i .i64) (.i .i64)) (.p (.i .i64) (.i .i64))))))))))))))))))) false, .b])
abbrev Ty395ce1 : Type := ((List UInt8 × Int) × Int × Int × Int) × (Int × List Ty250e00) × List Tybbc8ca × List Tycd215c × Bool
def o38v1_s0 : Sch := ⟨[(5, .v (.c (.ptr 0 0))), (6, .v (.c (.s))), (8, .v (.c (.s))), (10, .v (.c (.s))), (12, .v (.c (.s)))], [Bsa1a855]⟩
def o38v1_s1 : Sch := ⟨[(1, .v (.c (.i .i64))), (5, .v (.c (.ptr 0 0))), (6, .v (.c (.s))), (8, .v (.c (.s))), (10, .v (.c (.s))), (12, .v (.c (.s)))], [Bsa1a855]⟩
def o38v1_s2 : Sch := ⟨[(1, .v (.c (.i .i64))), (5, .v (.c (.ptr 0 0))), (6, .v (.c (.s))), (8, .v (.c (.s))), (10, .v (.c (.s)))], [Bsa1a855]⟩
def p38v1 : Sch := ⟨[(0, Ssf4e326), (1, .v (.c (.i .i64)))], []⟩
def r38v1 : List Sch := [⟨[(0, .v (.c (.s)))], []⟩]
def o38v1 (a0 : Ty395ce1) (a1 : Int) : Option (List UInt8) :=
 (cnd (!a0.2.2.2.2) (some ([78, 79, 78, 69] : List UInt8)) (bd (α := (List UInt8 × Int)) (o55 a0.1.1.2) (fun v1 => (bd (α := (List UInt8 × Int)) (o78 a0.1.2.1) (fun v2 => (bd (α := (List UInt8 × Int)) (o78 (IntKind.wrap .i64 (a0.1.2.2.1 - (1 : Int)))) (fun v3 => (bd (α := ((Int × List UInt8) × List UInt8 × List UInt8 × Tyc0a991)) (cnd (v3.2 != (0 : Int)) (some ((a1, v1.1), v2.1, ([45] : List UInt8), (a0.1.1.1, a0.1.1.2, a0.1.2.1), a0.1.2.2.1, a0.1.2.2.2, a0.2.1.1)) (some ((a1, v1.1), v2.1, v3.1, (a0.1.1.1, a0.1.1.2, a0.1.2.1), a0.1.2.2.1, a0.1.2.2.2, a0.2.1.1))) (fun v4 => (bd (α := Tyf3ea03) (cnd (decide (v4.1.1 < v4.2.2.2.1.2.2)) (some ((v4.1.1, v4.1.2, v4.2.1), v4.2.2.1, ([69, 65, 82, 76, 89] : List UInt8), v4.2.2.2)) (some ((v4.1.1, v4.1.2, v4.2.1), v4.2.2.1, ([69, 70, 70, 69, 67, 84, 73, 86, 69] : List UInt8), v4.2.2.2))) (fun v5 => (bd (α := Ty3b94e8) (cnd (decide (v5.1.1 ≥ v5.2.2.2.2.1)) (some (v5.1.2, v5.2.1, ([69, 88, 80, 73, 82, 69, 68] : List UInt8), v5.2.2.2)) (some (v5.1.2, v5.2))) (fun v6 => (bd (α := (List UInt8)) (o53 ([v6.2.2.2.1.1, v6.1.1, v6.1.2, v6.2.1, v6.2.2.1] : List (List UInt8)) ([32] : List UInt8)) (fun v7 => (some v7))))))))))))))))
def h38v1 : HC := (.s .d (.s .d (.s .d (.s .d (.s .d (.s .d (.j false [o38v1_s2] (.s .d (.s .d (.j false [o38v1_s1] (.s .d (.j false [o38v1_s0] .d))))))))))))
theorem e38v1 (t : Ty395ce1 × Int) : evF (stpT Tryz.prog T189 K189) Tryz.f38 p38v1 r38v1 h38v1 t = (o38v1 t.1 t.2) := by kernel_rfl
theorem fo38v1 : FOk Tryz.prog 38 ⟨p38v1, r38v1, fun t => (o38v1 t.1 t.2)⟩ := FOk.run_eq (evF_ok (h := h38v1) (by kernel_rfl) (by kernel_rfl) (by kernel_rfl)) e38v1
def T190 : Tbl := (38, ⟨p38v1, r38v1, fun t => (o38v1 t.1 t.2)⟩) :: T189
theorem K190 : TOk Tryz.prog T190 := .cons K189 fo38v1
def Bsf45a62 : BSh := .lent [.s, .i .i64, .i .i64, .i .i64, .i .i64, .i .i64, .cst (.slice none 0 0), .cst (.slice none 0 0), .cst (.slice none 0 0), .b, .s, .i .i64, .i .i64, .i .i64, .i .i64, .i .i64, .ro (.p .s (.p .s (.p (.i .u8) (.p (.p (.i .i64) (.i .i64)) (.p (.i .i64) (.i .i64)))))) false, .ro (.p .s (.a (.p .s (.p (.p (.i .i64) (.i .i64)) (.i .u8))))) false, .ro (.p .s (.p .s (.p (.i .u8) (.a (.p (.i .u8) (.p .s (.a (.p (.i .u8) (.p .s (.p .s (.p (.i .u8) (.p .b (.p (.i .i64) (.p (.i .i64) (.p (.i .i64) (.p (.i .i64) (.p (.p (.i .i64) (.i .i64)) (.p (.i .i64) (.i .i64))))))))))))))))))) false, .b]
abbrev Tybafed3 : Type := (((List UInt8 × Int) × Int × Int) × (Int × Int) × Bool × List UInt8) × ((Int × Int) × Int × Int) × (Int × List Ty250e00) × List Tybbc8ca × List Tycd215c × Bool
def p18 : Sch := ⟨[(0, .v (.c (.ptr 0 0))), (1, .v (.c (.i .i64)))], [Bsf45a62]⟩
def r18 : List Sch := [⟨[(0, .v (.c (.s)))], [.no]⟩]
def o18 (a0 : Int) (a1 : Tybafed3) : Option (List UInt8) :=
 (bd (α := (List UInt8)) (o38v1 ((a1.1.1.1, a1.1.1.2.1, a1.1.1.2.2, a1.1.2.1.1), (a1.1.2.1.2, ([] : List Ty250e00)), ([] : List Tybbc8ca), ([] : List Tycd215c), a1.1.2.2.1) a0) (fun v3 => (gd (decide (v3.length + ([10] : List UInt8).length ≤ 1125899906842624)) (bd (α := (List UInt8)) (o38v1 (((a1.1.2.2.2, a1.2.1.1.1), a1.2.1.1.2, a1.2.1.2), a1.2.2) a0) (fun v4 => (gd (decide ((v3 ++ ([10] : List UInt8)).length + v4.length ≤ 1125899906842624)) (gd (decide (((v3 ++ ([10] : List UInt8)) ++ v4).length + ([10] : List UInt8).length ≤ 1125899906842624)) (some (((v3 ++ ([10] : List UInt8)) ++ v4) ++ ([10] : List UInt8))))))))))
theorem e18 (t : Int × Tybafed3) : evF (stpT Tryz.prog T190 K190) Tryz.f18 p18 r18 .d t = (o18 t.1 t.2) := by kernel_rfl
theorem fo18 : FOk Tryz.prog 18 ⟨p18, r18, fun t => (o18 t.1 t.2)⟩ := FOk.run_eq (evF_ok (h := .d) (by kernel_rfl) (by kernel_rfl) (by kernel_rfl)) e18
def T191 : Tbl := (18, ⟨p18, r18, fun t => (o18 t.1 t.2)⟩) :: T190
theorem K191 : TOk Tryz.prog T191 := .cons K190 fo18
def Ss22a834 : SSh := .tup [.agg [.s, .i .i64, .i .i64, .i .i64, .i .i64, .i .i64], .c (.i .i64)]
def p19 : Sch := ⟨[(0, .v (.c (.ro .y false)))], []⟩
def r19 : List Sch := [⟨[(0, Ss22a834)], []⟩]
def o19 (a0 : List UInt8) : Option Ty9cb662 :=
 (bd (α := Ty1ffe5e) (o39 a0) (fun v1 => (some v1.1.1)))
theorem e19 (t : List UInt8) : evF (stpT Tryz.prog T191 K191) Tryz.f19 p19 r19 .d t = (o19 t) := by kernel_rfl
theorem fo19 : FOk Tryz.prog 19 ⟨p19, r19, fun t => (o19 t)⟩ := FOk.run_eq (evF_ok (h := .d) (by kernel_rfl) (by kernel_rfl) (by kernel_rfl)) e19
def T192 : Tbl := (19, ⟨p19, r19, fun t => (o19 t)⟩) :: T191
theorem K192 : TOk Tryz.prog T192 := .cons K191 fo19
def p20 : Sch := ⟨[(0, .v (.c (.ro .y false)))], []⟩
def r20 : List Sch := [⟨[(0, .tup [.c (.own 0), .c (.i .i64)])], [Bs6d3bd1]⟩]
def o20 (a0 : List UInt8) : Option (Int × List (Int × Int × Int × Int)) :=
 (bd (α := Ty1ffe5e) (o39 a0) (fun v1 => (some (v1.1.1.2.2.2, v1.2.2.2))))
theorem e20 (t : List UInt8) : evF (stpT Tryz.prog T192 K192) Tryz.f20 p20 r20 .d t = (o20 t) := by kernel_rfl
theorem fo20 : FOk Tryz.prog 20 ⟨p20, r20, fun t => (o20 t)⟩ := FOk.run_eq (evF_ok (h := .d) (by kernel_rfl) (by kernel_rfl) (by kernel_rfl)) e20
def T193 : Tbl := (20, ⟨p20, r20, fun t => (o20 t)⟩) :: T192
theorem K193 : TOk Tryz.prog T193 := .cons K192 fo20
def p21 : Sch := ⟨[(0, .v (.c (.ro .y false)))], []⟩
def r21 : List Sch := [⟨[(0, .v (.c (.i .i64)))], []⟩]
def o21 (a0 : List UInt8) : Option Int :=
 (bd (α := ((Ty9cb662 × List Ty250e00) × List Tybbc8ca × List Tycd215c)) (o24 a0) (fun v1 => (some v1.1.1.2.2.2)))
theorem e21 (t : List UInt8) : evF (stpT Tryz.prog T193 K193) Tryz.f21 p21 r21 .d t = (o21 t) := by kernel_rfl
theorem fo21 : FOk Tryz.prog 21 ⟨p21, r21, fun t => (o21 t)⟩ := FOk.run_eq (evF_ok (h := .d) (by kernel_rfl) (by kernel_rfl) (by kernel_rfl)) e21
def T194 : Tbl := (21, ⟨p21, r21, fun t => (o21 t)⟩) :: T193
theorem K194 : TOk Tryz.prog T194 := .cons K193 fo21
def Bs620a5c : BSh := .cells 102 [.s, .i .i64, .i .i64, .i .i64, .i .i64, .i .i64, .cst (.slice none 0 0), .cst (.slice none 0 0), .cst (.slice none 0 0), .b, .s, .i .i64, .i .i64, .i .i64, .i .i64, .i .i64, .own 4, .own 5, .own 6, .b]
abbrev Ty1db1e4 : Type := ((Bool × Ty3bae59) × List Ty250e00 × List Tybbc8ca) × (List Tycd215c × Tyc0a991) × List Ty250e00 × List Tybbc8ca × List Tycd215c
abbrev Tydad336 : Type := (List UInt8 × Ty3bae59) × List Ty250e00 × List Tybbc8ca × List Tycd215c
def o10v1_s0 : Sch := ⟨[(0, .v (.c (.ptr 0 0))), (5, .v (.c (.ptr 4 0))), (34, .v (.c (.b)))], [Bs634882, Bs5762ff, Bsf0f14b, Bs403ed2, Bsd7bd94, Bs5762ff, Bsf0f14b, Bs403ed2]⟩
def p10v1 : Sch := ⟨[(0, .v (.c (.ptr 0 0))), (1, .v (.c (.ro .y false)))], [Bs634882, Bs5762ff, Bsf0f14b, Bs403ed2]⟩
def r10v1 : List Sch := [⟨[(0, .v (.c (.i .i64)))], [Bs620a5c, .no, .no, .no, Bs5762ff, Bsf0f14b, Bs403ed2]⟩]
def o10v1 (a0 : List UInt8) (a1 : Ty3bae59) (a2 : List Ty250e00) (a3 : List Tybbc8ca) (a4 : List Tycd215c) : Option Tye73613 :=
 (bd (α := ((Ty9cb662 × List Ty250e00) × List Tybbc8ca × List Tycd215c)) (o24 a0) (fun v1 => (cnd (v1.1.1.2.2.2 != (0 : Int)) (some ((v1.1.1.2.2.2, a1), a2, a3, a4)) (bd (α := Ty1db1e4) (cnd a1.1.2.2.2 (some ((((a1.1.1.2.1 == v1.1.1.1.2.1), a1), a2, a3), (a4, v1.1.1.1, v1.1.1.2.1.1, v1.1.1.2.1.2, v1.1.1.2.2.1), v1.1.2, v1.2)) (some (((false, a1), a2, a3), (a4, v1.1.1.1, v1.1.1.2.1.1, v1.1.1.2.1.2, v1.1.1.2.2.1), v1.1.2, v1.2))) (fun v2 => (cnd v2.1.1.1 (some (((7 : Int), v2.1.1.2), v2.1.2.1, v2.1.2.2, v2.2.1.1)) (some (((0 : Int), v2.1.1.2.1, v2.2.1.2.1, (v2.2.1.2.2.1, v2.2.1.2.2.2.1), v2.2.1.2.2.2.2, true), v2.2.2))))))))
def h10v1 : HC := (.s .d (.s .d (.s .d (.s .d (.s (.s (.j false [o10v1_s0] .d) .d) .d)))))
theorem e10v1 (t : Tydad336) : evF (stpT Tryz.prog T194 K194) Tryz.f10 p10v1 r10v1 h10v1 t = (o10v1 t.1.1 t.1.2 t.2.1 t.2.2.1 t.2.2.2) := by kernel_rfl
theorem fo10v1 : FOk Tryz.prog 10 ⟨p10v1, r10v1, fun t => (o10v1 t.1.1 t.1.2 t.2.1 t.2.2.1 t.2.2.2)⟩ := FOk.run_eq (evF_ok (h := h10v1) (by kernel_rfl) (by kernel_rfl) (by kernel_rfl)) e10v1
def T195 : Tbl := (10, ⟨p10v1, r10v1, fun t => (o10v1 t.1.1 t.1.2 t.2.1 t.2.2.1 t.2.2.2)⟩) :: T194
theorem K195 : TOk Tryz.prog T195 := .cons K194 fo10v1
def p104v1 : Sch := ⟨[(0, Sse3ecad)], []⟩
def r104v1 : List Sch := [⟨[(0, .v (.c (.own 0)))], [Bs5762ff]⟩]
def o104v1 (a0 : List Ty250e00) : Option (List Ty250e00) :=
 (nlO (List.isEmpty a0) (some ([] : List Ty250e00)) (gd (decide ((([] : List Ty250e00).length + a0.length) * 72 ≤ 140737488355328)) (some (([] : List Ty250e00) ++ a0))))
theorem e104v1 (t : List Ty250e00) : evF (stpT Tryz.prog T195 K195) Tryz.f104 p104v1 r104v1 .d t = (o104v1 t) := by kernel_rfl
theorem fo104v1 : FOk Tryz.prog 104 ⟨p104v1, r104v1, fun t => (o104v1 t)⟩ := FOk.run_eq (evF_ok (h := .d) (by kernel_rfl) (by kernel_rfl) (by kernel_rfl)) e104v1
def T196 : Tbl := (104, ⟨p104v1, r104v1, fun t => (o104v1 t)⟩) :: T195
theorem K196 : TOk Tryz.prog T196 := .cons K195 fo104v1
def p141 : Sch := ⟨[(0, Ssd9c38c)], []⟩
def r141 : List Sch := [⟨[(0, .v (.c (.own 0)))], [Bsf0f14b]⟩]
def o141 (a0 : List Tybbc8ca) : Option (List Tybbc8ca) :=
 (nlO (List.isEmpty a0) (some ([] : List Tybbc8ca)) (gd (decide ((([] : List Tybbc8ca).length + a0.length) * 40 ≤ 140737488355328)) (some (([] : List Tybbc8ca) ++ a0))))
theorem e141 (t : List Tybbc8ca) : evF (stpT Tryz.prog T196 K196) Tryz.f141 p141 r141 .d t = (o141 t) := by kernel_rfl
theorem fo141 : FOk Tryz.prog 141 ⟨p141, r141, fun t => (o141 t)⟩ := FOk.run_eq (evF_ok (h := .d) (by kernel_rfl) (by kernel_rfl) (by kernel_rfl)) e141
def T197 : Tbl := (141, ⟨p141, r141, fun t => (o141 t)⟩) :: T196
theorem K197 : TOk Tryz.prog T197 := .cons K196 fo141
def p142 : Sch := ⟨[(0, Ss368f50)], []⟩
def r142 : List Sch := [⟨[(0, .v (.c (.own 0)))], [Bs8e9229]⟩]
def o142 (a0 : List (List UInt8 × (Int × Int) × Int)) : Option (List (List UInt8 × (Int × Int) × Int)) :=
 (nlO (List.isEmpty a0) (some ([] : List (List UInt8 × (Int × Int) × Int))) (gd (decide ((([] : List (List UInt8 × (Int × Int) × Int)).length + a0.length) * 40 ≤ 140737488355328)) (some (([] : List (List UInt8 × (Int × Int) × Int)) ++ a0))))
theorem e142 (t : List (List UInt8 × (Int × Int) × Int)) : evF (stpT Tryz.prog T197 K197) Tryz.f142 p142 r142 .d t = (o142 t) := by kernel_rfl
theorem fo142 : FOk Tryz.prog 142 ⟨p142, r142, fun t => (o142 t)⟩ := FOk.run_eq (evF_ok (h := .d) (by kernel_rfl) (by kernel_rfl) (by kernel_rfl)) e142
def T198 : Tbl := (142, ⟨p142, r142, fun t => (o142 t)⟩) :: T197
theorem K198 : TOk Tryz.prog T198 := .cons K197 fo142
def p143 : Sch := ⟨[(0, Ss2410e8)], []⟩
def r143 : List Sch := [⟨[(0, .v (.c (.own 0)))], [Bs403ed2]⟩]
def o143 (a0 : List Tycd215c) : Option (List Tycd215c) :=
 (nlO (List.isEmpty a0) (some ([] : List Tycd215c)) (gd (decide ((([] : List Tycd215c).length + a0.length) * 64 ≤ 140737488355328)) (some (([] : List Tycd215c) ++ a0))))
theorem e143 (t : List Tycd215c) : evF (stpT Tryz.prog T198 K198) Tryz.f143 p143 r143 .d t = (o143 t) := by kernel_rfl
theorem fo143 : FOk Tryz.prog 143 ⟨p143, r143, fun t => (o143 t)⟩ := FOk.run_eq (evF_ok (h := .d) (by kernel_rfl) (by kernel_rfl) (by kernel_rfl)) e143
def T199 : Tbl := (143, ⟨p143, r143, fun t => (o143 t)⟩) :: T198
theorem K199 : TOk Tryz.prog T199 := .cons K198 fo143
def p144 : Sch := ⟨[(0, Ss17a299)], []⟩
def r144 : List Sch := [⟨[(0, .v (.c (.own 0)))], [Bs689925]⟩]
def o144 (a0 : List (Int × List UInt8 × List Tyab9aec)) : Option (List (Int × List UInt8 × List Tyab9aec)) :=
 (nlO (List.isEmpty a0) (some ([] : List (Int × List UInt8 × List Tyab9aec))) (gd (decide ((([] : List (Int × List UInt8 × List Tyab9aec)).length + a0.length) * 48 ≤ 140737488355328)) (some (([] : List (Int × List UInt8 × List Tyab9aec)) ++ a0))))
theorem e144 (t : List (Int × List UInt8 × List Tyab9aec)) : evF (stpT Tryz.prog T199 K199) Tryz.f144 p144 r144 .d t = (o144 t) := by kernel_rfl
theorem fo144 : FOk Tryz.prog 144 ⟨p144, r144, fun t => (o144 t)⟩ := FOk.run_eq (evF_ok (h := .d) (by kernel_rfl) (by kernel_rfl) (by kernel_rfl)) e144
def T200 : Tbl := (144, ⟨p144, r144, fun t => (o144 t)⟩) :: T199
theorem K200 : TOk Tryz.prog T200 := .cons K199 fo144
def Bs7fda32 : BSh := .cells 30 [.s, .i .i64, .i .i64, .i .i64, .i .i64, .i .i64, .own 2, .own 3, .ro (.p .s (.p .s (.p (.i .u8) (.a (.p (.i .u8) (.p .s (.a (.p (.i .u8) (.p .s (.p .s (.p (.i .u8) (.p .b (.p (.i .i64) (.p (.i .i64) (.p (.i .i64) (.p (.i .i64) (.p (.p (.i .i64) (.i .i64)) (.p (.i .i64) (.i .i64))))))))))))))))))) false]
abbrev Ty441571 : Type := (List UInt8 × Int × Int) × (Int × Int) × Int × List Tycd215c
abbrev Tybc3998 : Type := (Int × Int × Ty441571) × List UInt8 × List Ty250e00 × List Tybbc8ca
abbrev Tyd5b716 : Type := (Int × Int × Tyc0a991) × (List UInt8 × List Ty250e00) × List Tybbc8ca × List Tycd215c
abbrev Tyf920e0 : Type := ((Int × Int) × Int × Int × Int) × (Tyc0a991 × List UInt8 × List (Int × List UInt8 × List Tyab9aec)) × List Ty250e00 × List Tybbc8ca × List Tycd215c
def o75_s0 : Sch := ⟨[(1, .v (.c (.ptr 0 0))), (2, .v (.c (.ptr 1 0))), (17, .v (.c (.i .i64))), (18, .v (.c (.i .i64)))], [Bs7fda32, Bs68b8ea, Bs5762ff, Bsf0f14b]⟩
def o75_s1 : Sch := ⟨[(1, .v (.c (.ptr 0 0))), (2, .v (.c (.ptr 1 0))), (4, .v (.c (.i .i64))), (5, .v (.c (.own 2))), (40, .v (.c (.i .i64))), (41, .v (.c (.i .i64))), (52, .v (.c (.i .i64))), (53, .v (.c (.i .i64)))], [Bscaa62c, Bs68b8ea, Bs689925, Bs5762ff, Bsf0f14b, Bs403ed2]⟩
def o75_s2 : Sch := ⟨[(1, .v (.c (.ptr 0 0))), (2, .v (.c (.ptr 1 0))), (40, .v (.c (.i .i64))), (41, .v (.c (.i .i64)))], [Bse316c9, Bs68b8ea, Bs5762ff, Bsf0f14b, Bs403ed2]⟩
def p75 : Sch := ⟨[(0, Ss069f38)], []⟩
def r75 : List Sch := [⟨[(0, Ss2339d4)], [Bs5762ff, Bsf0f14b, Bs403ed2]⟩]
def o75 (a0 : Ty3283d1) : Option ((Tyc0a991 × List Ty250e00) × List Tybbc8ca × List Tycd215c) :=
 (bd (α := (List Ty250e00)) (o104v1 a0.2.2.1) (fun v1 => (bd (α := (List Tybbc8ca)) (o141 a0.2.2.2.1) (fun v2 => (loopO (σ := Tybc3998) fuelN (fun (v4 : Tybc3998) => (cnd (decide (v4.1.2.1 < v4.1.1)) (gd (decide ((0 : Int) ≤ v4.1.2.1 ∧ v4.1.2.1 < ((v4.2.2.2.length : Nat) : Int))) (bd (α := (List (List UInt8 × (Int × Int) × Int))) (o142 ((List.getD v4.2.2.2 v4.1.2.1.toNat Df620925).2)) (fun v6 => (gd (decide ((0 : Int) ≤ v4.1.2.1 ∧ v4.1.2.1 < ((v4.2.2.2.length : Nat) : Int))) (some (Ctl.go ((v4.1.1, (IntKind.wrap .i64 (v4.1.2.1 + (1 : Int))), v4.1.2.2), v4.2.1, v4.2.2.1, (List.set v4.2.2.2 v4.1.2.1.toNat ((List.getD v4.2.2.2 v4.1.2.1.toNat Df620925).1, v6))))))))) (dnO (bd (α := (List Tycd215c)) (o143 v4.1.2.2.2.2.2) (fun v7 => (loopO (σ := Tyd5b716) fuelN (fun (v9 : Tyd5b716) => (cnd (decide (v9.1.2.1 < v9.1.1)) (gd (decide ((0 : Int) ≤ v9.1.2.1 ∧ v9.1.2.1 < ((v9.2.2.2.length : Nat) : Int))) (bd (α := (List (Int × List UInt8 × List Tyab9aec))) (o144 ((((List.getD v9.2.2.2 v9.1.2.1.toNat Dffc8db7).2).2).2)) (fun v10 => (loopO (σ := Tyf920e0) fuelN (fun (v12 : Tyf920e0) => (cnd (decide (v12.1.2.2.2 < v12.1.2.2.1)) (gd (decide ((0 : Int) ≤ v12.1.2.2.2 ∧ v12.1.2.2.2 < ((v12.2.1.2.2.length : Nat) : Int))) (bd (α := (List Tyab9aec)) (o145 (((List.getD v12.2.1.2.2 v12.1.2.2.2.toNat Df766161).2).2)) (fun v13 => (gd (decide ((0 : Int) ≤ v12.1.2.2.2 ∧ v12.1.2.2.2 < ((v12.2.1.2.2.length : Nat) : Int))) (some (Ctl.go ((v12.1.1, v12.1.2.1, v12.1.2.2.1, (IntKind.wrap .i64 (v12.1.2.2.2 + (1 : Int)))), (v12.2.1.1, v12.2.1.2.1, (List.set v12.2.1.2.2 v12.1.2.2.2.toNat ((List.getD v12.2.1.2.2 v12.1.2.2.2.toNat Df766161).1, (((List.getD v12.2.1.2.2 v12.1.2.2.2.toNat Df766161).2).1, v13)))), v12.2.2))))))) (dnO (gd (decide ((0 : Int) ≤ v12.1.1.1 ∧ v12.1.1.1 < ((v12.2.2.2.2.length : Nat) : Int))) (some (Ctl.go ((v12.1.1.2, (IntKind.wrap .i64 (v12.1.2.1 + (1 : Int))), v12.2.1.1), (v12.2.1.2.1, v12.2.2.1), v12.2.2.2.1, (List.set v12.2.2.2.2 v12.1.1.1.toNat ((List.getD v12.2.2.2.2 v12.1.1.1.toNat Dffc8db7).1, (((List.getD v12.2.2.2.2 v12.1.1.1.toNat Dffc8db7).2).1, ((((List.getD v12.2.2.2.2 v12.1.1.1.toNat Dffc8db7).2).2).1, v12.2.1.2.2))))))))))) (((v9.1.2.1, v9.1.1), v9.1.2.1, ((v10.length : Nat) : Int), (0 : Int)), (v9.1.2.2, v9.2.1.1, v10), v9.2.1.2, v9.2.2))))) (dnO (some ((v9.1.2.2, v9.2.1.2), v9.2.2))))) ((((v7.length : Nat) : Int), (0 : Int), v4.1.2.2.1, v4.1.2.2.2.1.1, v4.1.2.2.2.1.2, v4.1.2.2.2.2.1), (v4.2.1, v4.2.2.1), v4.2.2.2, v7))))))) ((((v2.length : Nat) : Int), (0 : Int), (a0.1.1.1, a0.1.1.2, a0.1.2.1), (a0.1.2.2, a0.2.1.1), a0.2.1.2, a0.2.2.2.2), ([] : List UInt8), v1, v2))))))
def h75 : HC := (.s .d (.s .d (.s .d (.s (.s .d (.b (.l [o75_s0] (.s .d (.s .d (.s (.b (.s .d (.r 1))) .d)))))) (.s .d (.s (.s .d (.b (.l [o75_s2] (.s .d (.s .d (.s (.b (.s .d (.s .d (.s (.s .d (.b (.l [o75_s1] .d))) .d)))) .d)))))) .d))))))
theorem e75 (t : Ty3283d1) : evF (stpT Tryz.prog T200 K200) Tryz.f75 p75 r75 h75 t = (o75 t) := by kernel_rfl
theorem fo75 : FOk Tryz.prog 75 ⟨p75, r75, fun t => (o75 t)⟩ := FOk.run_eq (evF_ok (h := h75) (by kernel_rfl) (by kernel_rfl) (by kernel_rfl)) e75
def T201 : Tbl := (75, ⟨p75, r75, fun t => (o75 t)⟩) :: T200
theorem K201 : TOk Tryz.prog T201 := .cons K200 fo75
def p35 : Sch := ⟨[(0, Ssf4e326)], []⟩
def r35 : List Sch := [⟨[(0, Ssb4c152)], [Bs5762ff, Bsf0f14b, Bs403ed2]⟩]
def o35 (a0 : Ty395ce1) : Option ((Ty9cb662 × List Ty250e00) × List Tybbc8ca × List Tycd215c) :=
 (cnd (!a0.2.2.2.2) (some ((((([] : List UInt8), (0 : Int), (0 : Int)), ((0 : Int), (0 : Int)), (0 : Int), (6 : Int)), ([] : List Ty250e00)), ([] : List Tybbc8ca), ([] : List Tycd215c))) (bd (α := ((Tyc0a991 × List Ty250e00) × List Tybbc8ca × List Tycd215c)) (o75 ((a0.1.1, a0.1.2.1, a0.1.2.2.1), (a0.1.2.2.2, a0.2.1.1), a0.2.1.2, a0.2.2.1, a0.2.2.2.1)) (fun v1 => (some (((v1.1.1.1, (v1.1.1.2.1, v1.1.1.2.2.1), v1.1.1.2.2.2, (0 : Int)), v1.1.2), v1.2)))))
theorem e35 (t : Ty395ce1) : evF (stpT Tryz.prog T201 K201) Tryz.f35 p35 r35 .d t = (o35 t) := by kernel_rfl
theorem fo35 : FOk Tryz.prog 35 ⟨p35, r35, fun t => (o35 t)⟩ := FOk.run_eq (evF_ok (h := .d) (by kernel_rfl) (by kernel_rfl) (by kernel_rfl)) e35
def T202 : Tbl := (35, ⟨p35, r35, fun t => (o35 t)⟩) :: T201
theorem K202 : TOk Tryz.prog T202 := .cons K201 fo35
def Ssa02dd3 : SSh := .tup [.agg [.s, .i .i64, .i .i64, .i .i64, .i .i64, .i .i64, .own 1, .own 2, .own 3], .c (.i .i64)]
def p14 : Sch := ⟨[(0, .v (.c (.ptr 0 0)))], [Bsf45a62]⟩
def r14 : List Sch := [⟨[(0, Ssa02dd3)], [.no, Bs5762ff, Bsf0f14b, Bs403ed2]⟩]
def o14 (a0 : Tybafed3) : Option ((Ty9cb662 × List Ty250e00) × List Tybbc8ca × List Tycd215c) :=
 (bd (α := ((Ty9cb662 × List Ty250e00) × List Tybbc8ca × List Tycd215c)) (o35 (((a0.1.2.2.2, a0.2.1.1.1), a0.2.1.1.2, a0.2.1.2), a0.2.2)) (fun v1 => (some v1)))
theorem e14 (t : Tybafed3) : evF (stpT Tryz.prog T202 K202) Tryz.f14 p14 r14 .d t = (o14 t) := by kernel_rfl
theorem fo14 : FOk Tryz.prog 14 ⟨p14, r14, fun t => (o14 t)⟩ := FOk.run_eq (evF_ok (h := .d) (by kernel_rfl) (by kernel_rfl) (by kernel_rfl)) e14
def T203 : Tbl := (14, ⟨p14, r14, fun t => (o14 t)⟩) :: T202
theorem K203 : TOk Tryz.prog T203 := .cons K202 fo14
def o40_s0 : Sch := ⟨[(2, .v (.c (.ptr 0 0))), (3, .v (.c (.ptr 1 0))), (19, .v (.c (.b)))], [Bs9b9f65, Bs9b9f65]⟩
def o40_s1 : Sch := ⟨[(2, .v (.c (.ptr 0 0))), (3, .v (.c (.ptr 1 0))), (22, .v (.c (.i .i64))), (23, .v (.c (.i .i64)))], [Bs9b9f65, Bs9b9f65]⟩
def p40 : Sch := ⟨[(0, Ssa0c3bb), (1, Ssa0c3bb)], []⟩
def r40 : List Sch := [⟨[(0, .v (.c (.b)))], []⟩]
def o40 (a0 : Tybbc8ca) (a1 : Tybbc8ca) : Option Bool :=
 (bd (α := (Bool × Tybbc8ca × Tybbc8ca)) (cnd (!(a0.1 == a1.1)) (some (true, a0, a1)) (some ((((a0.2.length : Nat) : Int) != ((a1.2.length : Nat) : Int)), a0, a1))) (fun v1 => (cnd v1.1 (some false) (loopO (σ := (Int × Int) × Tybbc8ca × Tybbc8ca) fuelN (fun (v3 : (Int × Int) × Tybbc8ca × Tybbc8ca) => (cnd (decide (v3.1.2 < v3.1.1)) (gd (decide ((0 : Int) ≤ v3.1.2 ∧ v3.1.2 < ((v3.2.1.2.length : Nat) : Int))) (bd (α := List UInt8 × (Int × Int) × Int) (some (List.getD v3.2.1.2 v3.1.2.toNat Dfe5cb60)) (fun v6 => (gd (decide ((0 : Int) ≤ v3.1.2 ∧ v3.1.2 < ((v3.2.2.2.length : Nat) : Int))) (bd (α := List UInt8 × (Int × Int) × Int) (some (List.getD v3.2.2.2 v3.1.2.toNat Dfe5cb60)) (fun v7 => (cnd (!((strEq v6.1 v7.1) && (((v6.2.1.1 == v7.2.1.1) && (v6.2.1.2 == v7.2.1.2)) && (v6.2.2 == v7.2.2)))) (dnO (some false)) (some (Ctl.go ((v3.1.1, (IntKind.wrap .i64 (v3.1.2 + (1 : Int)))), v3.2)))))))))) (dnO (some true)))) ((((v1.2.1.2.length : Nat) : Int), (0 : Int)), v1.2)))))
def h40 : HC := (.s .d (.s (.s (.j false [o40_s0] .d) .d) (.s (.s .d (.b (.l [o40_s1] .d))) .d)))
theorem e40 (t : Tybbc8ca × Tybbc8ca) : evF (stpT Tryz.prog T203 K203) Tryz.f40 p40 r40 h40 t = (o40 t.1 t.2) := by kernel_rfl
theorem fo40 : FOk Tryz.prog 40 ⟨p40, r40, fun t => (o40 t.1 t.2)⟩ := FOk.run_eq (evF_ok (h := h40) (by kernel_rfl) (by kernel_rfl) (by kernel_rfl)) e40
def T204 : Tbl := (40, ⟨p40, r40, fun t => (o40 t.1 t.2)⟩) :: T203
theorem K204 : TOk Tryz.prog T204 := .cons K203 fo40
def o91_s0 : Sch := ⟨[(0, Ss306de7), (1, Ss306de7), (12, .v (.c (.i .i64))), (13, .v (.c (.i .i64)))], []⟩
def p91 : Sch := ⟨[(0, Ss306de7), (1, Ss306de7)], []⟩
def r91 : List Sch := [⟨[(0, .v (.c (.b)))], []⟩]
def o91 (a0 : List Tyab9aec) (a1 : List Tyab9aec) : Option Bool :=
 (cnd (((a0.length : Nat) : Int) != ((a1.length : Nat) : Int)) (some false) (loopO (σ := (List Tyab9aec × List Tyab9aec) × Int × Int) fuelN (fun (v2 : (List Tyab9aec × List Tyab9aec) × Int × Int) => (cnd (decide (v2.2.2 < v2.2.1)) (gd (decide ((0 : Int) ≤ v2.2.2 ∧ v2.2.2 < ((v2.1.1.length : Nat) : Int))) (bd (α := Tyab9aec) (some (List.getD v2.1.1 v2.2.2.toNat Df6c39f5)) (fun v5 => (gd (decide ((0 : Int) ≤ v2.2.2 ∧ v2.2.2 < ((v2.1.2.length : Nat) : Int))) (bd (α := Tyab9aec) (some (List.getD v2.1.2 v2.2.2.toNat Df6c39f5)) (fun v6 => (cnd (!((v5.1 == v6.1) && ((strEq v5.2.1 v6.2.1) && ((strEq v5.2.2.1 v6.2.2.1) && ((v5.2.2.2.1 == v6.2.2.2.1) && ((v5.2.2.2.2.1 == v6.2.2.2.2.1) && ((v5.2.2.2.2.2.1 == v6.2.2.2.2.2.1) && ((v5.2.2.2.2.2.2.1 == v6.2.2.2.2.2.2.1) && ((v5.2.2.2.2.2.2.2.1 == v6.2.2.2.2.2.2.2.1) && ((v5.2.2.2.2.2.2.2.2.1 == v6.2.2.2.2.2.2.2.2.1) && (((v5.2.2.2.2.2.2.2.2.2.1.1 == v6.2.2.2.2.2.2.2.2.2.1.1) && (v5.2.2.2.2.2.2.2.2.2.1.2 == v6.2.2.2.2.2.2.2.2.2.1.2)) && ((v5.2.2.2.2.2.2.2.2.2.2.1 == v6.2.2.2.2.2.2.2.2.2.2.1) && (v5.2.2.2.2.2.2.2.2.2.2.2 == v6.2.2.2.2.2.2.2.2.2.2.2))))))))))))) (dnO (some false)) (some (Ctl.go (v2.1, v2.2.1, (IntKind.wrap .i64 (v2.2.2 + (1 : Int))))))))))))) (dnO (some true)))) ((a0, a1), ((a0.length : Nat) : Int), (0 : Int))))
def h91 : HC := (.s .d (.s .d (.s (.s .d (.b (.l [o91_s0] .d))) .d)))
theorem e91 (t : List Tyab9aec × List Tyab9aec) : evF (stpT Tryz.prog T204 K204) Tryz.f91 p91 r91 h91 t = (o91 t.1 t.2) := by kernel_rfl
theorem fo91 : FOk Tryz.prog 91 ⟨p91, r91, fun t => (o91 t.1 t.2)⟩ := FOk.run_eq (evF_ok (h := h91) (by kernel_rfl) (by kernel_rfl) (by kernel_rfl)) e91
def T205 : Tbl := (91, ⟨p91, r91, fun t => (o91 t.1 t.2)⟩) :: T204
theorem K205 : TOk Tryz.prog T205 := .cons K204 fo91
def o41_s0 : Sch := ⟨[(2, .v (.c (.ptr 0 0))), (3, .v (.c (.ptr 1 0))), (33, .v (.c (.b)))], [Bs0fd177, Bs0fd177]⟩
def o41_s1 : Sch := ⟨[(2, .v (.c (.ptr 0 0))), (3, .v (.c (.ptr 1 0))), (36, .v (.c (.i .i64))), (37, .v (.c (.i .i64))), (83, .v (.c (.b)))], [Bs0fd177, Bs0fd177]⟩
def o41_s2 : Sch := ⟨[(2, .v (.c (.ptr 0 0))), (3, .v (.c (.ptr 1 0))), (36, .v (.c (.i .i64))), (37, .v (.c (.i .i64)))], [Bs0fd177, Bs0fd177]⟩
def p41 : Sch := ⟨[(0, Ss8e6017), (1, Ss8e6017)], []⟩
def r41 : List Sch := [⟨[(0, .v (.c (.b)))], []⟩]
def o41 (a0 : Ty83d737) (a1 : Ty83d737) : Option Bool :=
 (bd (α := (Bool × Ty83d737 × Ty83d737)) (cnd (!(a0.1.1 == a1.1.1)) (some (true, a0, a1)) (cnd (!(a0.1.2 == a1.1.2)) (some (true, a0, a1)) (cnd (a0.2.1 != a1.2.1) (some (true, a0, a1)) (some ((((a0.2.2.length : Nat) : Int) != ((a1.2.2.length : Nat) : Int)), a0, a1))))) (fun v1 => (cnd v1.1 (some false) (loopO (σ := (Int × Int) × Ty83d737 × Ty83d737) fuelN (fun (v3 : (Int × Int) × Ty83d737 × Ty83d737) => (cnd (decide (v3.1.2 < v3.1.1)) (bd (α := ((Int × Int) × Bool × Ty83d737 × Ty83d737)) (gd (decide ((0 : Int) ≤ v3.1.2 ∧ v3.1.2 < ((v3.2.1.2.2.length : Nat) : Int))) (gd (decide ((0 : Int) ≤ v3.1.2 ∧ v3.1.2 < ((v3.2.2.2.2.length : Nat) : Int))) (cnd ((List.getD v3.2.1.2.2 v3.1.2.toNat Df766161).1 != (List.getD v3.2.2.2.2 v3.1.2.toNat Df766161).1) (some (v3.1, true, v3.2)) (gd (decide ((0 : Int) ≤ v3.1.2 ∧ v3.1.2 < ((v3.2.1.2.2.length : Nat) : Int))) (gd (decide ((0 : Int) ≤ v3.1.2 ∧ v3.1.2 < ((v3.2.2.2.2.length : Nat) : Int))) (cnd (!(((List.getD v3.2.1.2.2 v3.1.2.toNat Df766161).2).1 == ((List.getD v3.2.2.2.2 v3.1.2.toNat Df766161).2).1)) (some (v3.1, true, v3.2)) (gd (decide ((0 : Int) ≤ v3.1.2 ∧ v3.1.2 < ((v3.2.1.2.2.length : Nat) : Int))) (gd (decide ((0 : Int) ≤ v3.1.2 ∧ v3.1.2 < ((v3.2.2.2.2.length : Nat) : Int))) (bd (α := Bool) (o91 (((List.getD v3.2.1.2.2 v3.1.2.toNat Df766161).2).2) (((List.getD v3.2.2.2.2 v3.1.2.toNat Df766161).2).2)) (fun v5 => (some (v3.1, (!v5), v3.2)))))))))))) (fun v6 => (cnd v6.2.1 (dnO (some false)) (some (Ctl.go ((v6.1.1, (IntKind.wrap .i64 (v6.1.2 + (1 : Int)))), v6.2.2)))))) (dnO (some true)))) ((((v1.2.1.2.2.length : Nat) : Int), (0 : Int)), v1.2)))))
def h41 : HC := (.s .d (.s (.s (.j false [o41_s0] .d) .d) (.s (.s .d (.b (.l [o41_s2] (.s .d (.s .d (.s (.b (.s .d (.s (.j false [o41_s1] .d) .d))) .d)))))) .d)))
theorem e41 (t : Ty83d737 × Ty83d737) : evF (stpT Tryz.prog T205 K205) Tryz.f41 p41 r41 h41 t = (o41 t.1 t.2) := by kernel_rfl
theorem fo41 : FOk Tryz.prog 41 ⟨p41, r41, fun t => (o41 t.1 t.2)⟩ := FOk.run_eq (evF_ok (h := h41) (by kernel_rfl) (by kernel_rfl) (by kernel_rfl)) e41
def T206 : Tbl := (41, ⟨p41, r41, fun t => (o41 t.1 t.2)⟩) :: T205
theorem K206 : TOk Tryz.prog T206 := .cons K205 fo41
def o22_s0 : Sch := ⟨[(2, .v (.c (.ptr 0 0))), (3, .v (.c (.ptr 1 0))), (39, .v (.c (.b)))], [Bsbad59e, Bsbad59e]⟩
def o22_s1 : Sch := ⟨[(2, .v (.c (.ptr 0 0))), (3, .v (.c (.ptr 1 0))), (42, .v (.c (.i .i64))), (43, .v (.c (.i .i64)))], [Bsbad59e, Bsbad59e]⟩
def o22_s2 : Sch := ⟨[(2, .v (.c (.ptr 0 0))), (3, .v (.c (.ptr 1 0))), (60, .v (.c (.i .i64))), (61, .v (.c (.i .i64)))], [Bsbad59e, Bsbad59e]⟩
def o22_s3 : Sch := ⟨[(2, .v (.c (.ptr 0 0))), (3, .v (.c (.ptr 1 0))), (79, .v (.c (.i .i64))), (80, .v (.c (.i .i64)))], [Bsbad59e, Bsbad59e]⟩
def p22 : Sch := ⟨[(0, Ss069f38), (1, Ss069f38)], []⟩
def r22 : List Sch := [⟨[(0, .v (.c (.b)))], []⟩]
def o22 (a0 : Ty3283d1) (a1 : Ty3283d1) : Option Bool :=
 (bd (α := (Bool × Ty3283d1 × Ty3283d1)) (cnd (!((strEq a0.1.1.1 a1.1.1.1) && ((a0.1.1.2 == a1.1.1.2) && ((a0.1.2.1 == a1.1.2.1) && ((a0.1.2.2 == a1.1.2.2) && ((a0.2.1.1 == a1.2.1.1) && (a0.2.1.2 == a1.2.1.2))))))) (some (true, a0, a1)) (cnd (((a0.2.2.1.length : Nat) : Int) != ((a1.2.2.1.length : Nat) : Int)) (some (true, a0, a1)) (cnd (((a0.2.2.2.1.length : Nat) : Int) != ((a1.2.2.2.1.length : Nat) : Int)) (some (true, a0, a1)) (some ((((a0.2.2.2.2.length : Nat) : Int) != ((a1.2.2.2.2.length : Nat) : Int)), a0, a1))))) (fun v1 => (cnd v1.1 (some false) (loopO (σ := (Int × Int) × Ty3283d1 × Ty3283d1) fuelN (fun (v3 : (Int × Int) × Ty3283d1 × Ty3283d1) => (cnd (decide (v3.1.2 < v3.1.1)) (gd (decide ((0 : Int) ≤ v3.1.2 ∧ v3.1.2 < ((v3.2.1.2.2.1.length : Nat) : Int))) (bd (α := Ty250e00) (some (List.getD v3.2.1.2.2.1 v3.1.2.toNat Df60bb56)) (fun v6 => (gd (decide ((0 : Int) ≤ v3.1.2 ∧ v3.1.2 < ((v3.2.2.2.2.1.length : Nat) : Int))) (bd (α := Ty250e00) (some (List.getD v3.2.2.2.2.1 v3.1.2.toNat Df60bb56)) (fun v7 => (cnd (!((strEq v6.1 v7.1) && ((strEq v6.2.1 v7.2.1) && ((v6.2.2.1 == v7.2.2.1) && (((v6.2.2.2.1.1 == v7.2.2.2.1.1) && (v6.2.2.2.1.2 == v7.2.2.2.1.2)) && ((v6.2.2.2.2.1 == v7.2.2.2.2.1) && (v6.2.2.2.2.2 == v7.2.2.2.2.2))))))) (dnO (some false)) (some (Ctl.go ((v3.1.1, (IntKind.wrap .i64 (v3.1.2 + (1 : Int)))), v3.2)))))))))) (dnO (loopO (σ := (Int × Int) × Ty3283d1 × Ty3283d1) fuelN (fun (v9 : (Int × Int) × Ty3283d1 × Ty3283d1) => (cnd (decide (v9.1.2 < v9.1.1)) (gd (decide ((0 : Int) ≤ v9.1.2 ∧ v9.1.2 < ((v9.2.1.2.2.2.1.length : Nat) : Int))) (bd (α := Tybbc8ca) (some (List.getD v9.2.1.2.2.2.1 v9.1.2.toNat Df620925)) (fun v13 => (gd (decide ((0 : Int) ≤ v9.1.2 ∧ v9.1.2 < ((v9.2.2.2.2.2.1.length : Nat) : Int))) (bd (α := Tybbc8ca) (some (List.getD v9.2.2.2.2.2.1 v9.1.2.toNat Df620925)) (fun v14 => (bd (α := Bool) (o40 v13 v14) (fun v15 => (cnd (!v15) (dnO (some false)) (some (Ctl.go ((v9.1.1, (IntKind.wrap .i64 (v9.1.2 + (1 : Int)))), v9.2)))))))))))) (dnO (loopO (σ := (Int × Int) × Ty3283d1 × Ty3283d1) fuelN (fun (v17 : (Int × Int) × Ty3283d1 × Ty3283d1) => (cnd (decide (v17.1.2 < v17.1.1)) (gd (decide ((0 : Int) ≤ v17.1.2 ∧ v17.1.2 < ((v17.2.1.2.2.2.2.length : Nat) : Int))) (bd (α := Tycd215c) (some (List.getD v17.2.1.2.2.2.2 v17.1.2.toNat Dffc8db7)) (fun v21 => (gd (decide ((0 : Int) ≤ v17.1.2 ∧ v17.1.2 < ((v17.2.2.2.2.2.2.length : Nat) : Int))) (bd (α := Tycd215c) (some (List.getD v17.2.2.2.2.2.2 v17.1.2.toNat Dffc8db7)) (fun v22 => (bd (α := Bool) (o41 ((v21.1, v21.2.1), v21.2.2) ((v22.1, v22.2.1), v22.2.2)) (fun v23 => (cnd (!v23) (dnO (some false)) (some (Ctl.go ((v17.1.1, (IntKind.wrap .i64 (v17.1.2 + (1 : Int)))), v17.2)))))))))))) (dnO (some true)))) ((((v9.2.1.2.2.2.2.length : Nat) : Int), (0 : Int)), v9.2))))) ((((v3.2.1.2.2.2.1.length : Nat) : Int), (0 : Int)), v3.2))))) ((((v1.2.1.2.2.1.length : Nat) : Int), (0 : Int)), v1.2)))))
def h22 : HC := (.s .d (.s (.s (.j false [o22_s0] .d) .d) (.s (.s .d (.b (.l [o22_s1] .d))) (.s (.s .d (.b (.l [o22_s2] .d))) (.s (.s .d (.b (.l [o22_s3] .d))) .d)))))
theorem e22 (t : Ty3283d1 × Ty3283d1) : evF (stpT Tryz.prog T206 K206) Tryz.f22 p22 r22 h22 t = (o22 t.1 t.2) := by kernel_rfl
theorem fo22 : FOk Tryz.prog 22 ⟨p22, r22, fun t => (o22 t.1 t.2)⟩ := FOk.run_eq (evF_ok (h := h22) (by kernel_rfl) (by kernel_rfl) (by kernel_rfl)) e22
def T207 : Tbl := (22, ⟨p22, r22, fun t => (o22 t.1 t.2)⟩) :: T206
theorem K207 : TOk Tryz.prog T207 := .cons K206 fo22
def Bsdf7687 : BSh := .cells 30 [.s, .i .i64, .i .i64, .i .i64, .i .i64, .i .i64, .ro (.p .s (.p .s (.p (.i .u8) (.p (.p (.i .i64) (.i .i64)) (.p (.i .i64) (.i .i64)))))) true, .ro (.p .s (.a (.p .s (.p (.p (.i .i64) (.i .i64)) (.i .u8))))) true, .ro (.p .s (.p .s (.p (.i .u8) (.a (.p (.i .u8) (.p .s (.a (.p (.i .u8) (.p .s (.p .s (.p (.i .u8) (.p .b (.p (.i .i64) (.p (.i .i64) (.p (.i .i64) (.p (.i .i64) (.p (.p (.i .i64) (.i .i64)) (.p (.i .i64) (.i .i64))))))))))))))))))) true]
def Bs36293a : BSh := .cells 102 [.s, .i .i64, .i .i64, .i .i64, .i .i64, .i .i64, .cst (.slice none 0 0), .cst (.slice none 0 0), .cst (.slice none 0 0), .b, .s, .i .i64, .i .i64, .i .i64, .i .i64, .i .i64, .own 2, .own 3, .own 4, .b]
def Ssd325cb : SSh := .v (.agg [.s, .i .i64, .i .i64, .i .i64, .i .i64, .i .i64, .ro (.p .s (.p .s (.p (.i .u8) (.p (.p (.i .i64) (.i .i64)) (.p (.i .i64) (.i .i64)))))) true, .ro (.p .s (.a (.p .s (.p (.p (.i .i64) (.i .i64)) (.i .u8))))) true, .ro (.p .s (.p .s (.p (.i .u8) (.a (.p (.i .u8) (.p .s (.a (.p (.i .u8) (.p .s (.p .s (.p (.i .u8) (.p .b (.p (.i .i64) (.p (.i .i64) (.p (.i .i64) (.p (.i .i64) (.p (.p (.i .i64) (.i .i64)) (.p (.i .i64) (.i .i64))))))))))))))))))) true])
abbrev Ty3af4b0 : Type := (Bool × Ty3283d1 × Ty3bae59) × List Ty250e00 × List Tybbc8ca × List Tycd215c
def o4_s0 : Sch := ⟨[(1, .v (.c (.i .i64))), (2, .v (.c (.i .u32))), (3, .v (.c (.ptr 0 0))), (7, .v (.c (.own 1))), (32, .v (.c (.b)))], [Bsdf7687, .row .y 5]⟩
def o4_s1 : Sch := ⟨[(3, .v (.c (.ptr 0 0))), (11, .v (.c (.ptr 1 0))), (82, .v (.c (.b)))], [Bsdf7687, Bs36293a, Bs5762ff, Bsf0f14b, Bs403ed2]⟩
def o4_s2 : Sch := ⟨[(6, .v (.c (.b)))], []⟩
def p4 : Sch := ⟨[(0, Ssd325cb), (1, .v (.c (.i .i64))), (2, .v (.c (.i .u32)))], []⟩
def r4 : List Sch := [⟨[(0, .v (.c (.b)))], []⟩]
def o4 (a0 : Ty3283d1) (a1 : Int) (a2 : Int) : Option Bool :=
 (bd (α := Bool) o6 (fun v1 => (cnd (!v1) (some false) (bd (α := ((Tyc0a991 × List Ty250e00) × List Tybbc8ca × List Tycd215c)) (o8 a0) (fun v2 => (bd (α := (Int × List UInt8)) (o7v1 (((v2.1.1.1.1, v2.1.1.1.2.1), v2.1.1.1.2.2, v2.1.1.2.1), v2.1.1.2.2, v2.1.2, v2.2)) (fun v3 => (bd (α := ((Int × Int) × Bool × Ty3283d1 × List UInt8)) (cnd (v3.1 != (0 : Int)) (some ((a1, a2), true, a0, v3.2)) (some ((a1, a2), (a2 == (0 : Int)), a0, v3.2))) (fun v4 => (cnd v4.2.1 (some true) (bd (α := (Int × List UInt8)) (o17 v4.2.2.2 v4.1.1 v4.1.2) (fun v5 => (cnd (v5.1 != (0 : Int)) (some (v5.1 == (2 : Int))) (bd (α := (List UInt8 × List UInt8)) o9 (fun v6 => (bd (α := Tye73613) (o10 v4.2.2.2 (((v6.1, (0 : Int), (0 : Int)), ((0 : Int), (0 : Int)), (0 : Int), false), (v6.2, (0 : Int), (0 : Int)), ((0 : Int), (0 : Int)), (0 : Int), false)) (fun v7 => (bd (α := (List UInt8)) (o18 (0 : Int) ((((v7.1.2.1.1.1, v7.1.2.1.1.2.1), v7.1.2.1.1.2.2, v7.1.2.1.2.1.1), (v7.1.2.1.2.1.2, v7.1.2.1.2.2.1), v7.1.2.1.2.2.2, v7.1.2.2.1.1), (v7.1.2.2.1.2, v7.1.2.2.2.1), (v7.1.2.2.2.2.1, v7.2.1), v7.2.2.1, v7.2.2.2, v7.1.2.2.2.2.2)) (fun v8 => (bd (α := Ty9cb662) (o19 v5.2) (fun v9 => (bd (α := (Int × List (Int × Int × Int × Int))) (o20 v5.2) (fun v10 => (bd (α := Ty3af4b0) (bd (α := Int) (o21 v5.2) (fun v11 => (cnd (v11 != (12 : Int)) (some ((true, v4.2.2.1, v7.1.2), v7.2)) (cnd (v9.2.2.2 != (12 : Int)) (some ((true, v4.2.2.1, v7.1.2), v7.2)) (cnd (v10.1 != (12 : Int)) (some ((true, v4.2.2.1, v7.1.2), v7.2)) (bd (α := Tye73613) (o10v1 v5.2 v7.1.2 v7.2.1 v7.2.2.1 v7.2.2.2) (fun v12 => (cnd (v12.1.1 != (12 : Int)) (some ((true, v4.2.2.1, v12.1.2), v12.2)) (bd (α := (List UInt8)) (o18 (0 : Int) ((((v12.1.2.1.1.1, v12.1.2.1.1.2.1), v12.1.2.1.1.2.2, v12.1.2.1.2.1.1), (v12.1.2.1.2.1.2, v12.1.2.1.2.2.1), v12.1.2.1.2.2.2, v12.1.2.2.1.1), (v12.1.2.2.1.2, v12.1.2.2.2.1), (v12.1.2.2.2.2.1, v12.2.1), v12.2.2.1, v12.2.2.2, v12.1.2.2.2.2.2)) (fun v13 => (some (((!(v13 == v8)), v4.2.2.1, v12.1.2), v12.2)))))))))))) (fun v14 => (cnd v14.1.1 (some false) (bd (α := ((Ty9cb662 × List Ty250e00) × List Tybbc8ca × List Tycd215c)) (o14 ((((v14.1.2.2.1.1.1, v14.1.2.2.1.1.2.1), v14.1.2.2.1.1.2.2, v14.1.2.2.1.2.1.1), (v14.1.2.2.1.2.1.2, v14.1.2.2.1.2.2.1), v14.1.2.2.1.2.2.2, v14.1.2.2.2.1.1), (v14.1.2.2.2.1.2, v14.1.2.2.2.2.1), (v14.1.2.2.2.2.2.1, v14.2.1), v14.2.2.1, v14.2.2.2, v14.1.2.2.2.2.2.2)) (fun v15 => (bd (α := Bool) (cnd (v15.1.1.2.2.2 == (0 : Int)) (bd (α := ((Tyc0a991 × List Ty250e00) × List Tybbc8ca × List Tycd215c)) (o8 v14.1.2.1) (fun v18 => (bd (α := Bool) (o22 (((v15.1.1.1.1, v15.1.1.1.2.1), v15.1.1.1.2.2, v15.1.1.2.1.1), (v15.1.1.2.1.2, v15.1.1.2.2.1), v15.1.2, v15.2) (((v18.1.1.1.1, v18.1.1.1.2.1), v18.1.1.1.2.2, v18.1.1.2.1), v18.1.1.2.2, v18.1.2, v18.2)) (fun v19 => (some v19))))) (some false)) (fun v20 => (some v20)))))))))))))))))))))))))))))))
def h4 : HC := (.s .d (.s .d (.s .d (.s (.s (.j false [o4_s0] .d) .d) (.s .d (.s .d (.s .d (.s .d (.s .d (.s .d (.s .d (.s (.s (.j false [o4_s1] .d) .d) (.s .d (.s (.j false [o4_s2] (.r 3)) .d))))))))))))))
theorem e4 (t : Ty3283d1 × Int × Int) : evF (stpT Tryz.prog T207 K207) Tryz.f4 p4 r4 h4 t = (o4 t.1 t.2.1 t.2.2) := by kernel_rfl
theorem fo4 : FOk Tryz.prog 4 ⟨p4, r4, fun t => (o4 t.1 t.2.1 t.2.2)⟩ := FOk.run_eq (evF_ok (h := h4) (by kernel_rfl) (by kernel_rfl) (by kernel_rfl)) e4
def T208 : Tbl := (4, ⟨p4, r4, fun t => (o4 t.1 t.2.1 t.2.2)⟩) :: T207
theorem K208 : TOk Tryz.prog T208 := .cons K207 fo4
def o34_s0 : Sch := ⟨[(4, .v (.c (.b)))], []⟩
def p34 : Sch := ⟨[(0, Ssf4e326), (1, .v (.c (.i .i64)))], []⟩
def r34 : List Sch := [⟨[(0, .v (.c (.b)))], []⟩]
def o34 (a0 : Ty395ce1) (a1 : Int) : Option Bool :=
 (bd (α := Bool) (cnd a0.2.2.2.2 (cnd (decide (a0.1.2.1 ≤ a1)) (some (decide (a1 < a0.1.2.2.1))) (some false)) (some false)) (fun v1 => (some v1)))
theorem e34 (t : Ty395ce1 × Int) : evF (stpT Tryz.prog T208 K208) Tryz.f34 p34 r34 (.s .d (.s (.j false [o34_s0] .d) .d)) t = (o34 t.1 t.2) := by kernel_rfl
theorem fo34 : FOk Tryz.prog 34 ⟨p34, r34, fun t => (o34 t.1 t.2)⟩ := FOk.run_eq (evF_ok (h := (.s .d (.s (.j false [o34_s0] .d) .d))) (by kernel_rfl) (by kernel_rfl) (by kernel_rfl)) e34
def T209 : Tbl := (34, ⟨p34, r34, fun t => (o34 t.1 t.2)⟩) :: T208
theorem K209 : TOk Tryz.prog T209 := .cons K208 fo34
def o11_s0 : Sch := ⟨[(4, .v (.c (.b)))], [Bsf45a62]⟩
def p11 : Sch := ⟨[(0, .v (.c (.ptr 0 0))), (1, .v (.c (.i .i64)))], [Bsf45a62]⟩
def r11 : List Sch := [⟨[(0, .v (.c (.b)))], [.no]⟩]
def o11 (a0 : Int) (a1 : Tybafed3) : Option Bool :=
 (bd (α := (Bool × Tybafed3)) (bd (α := Bool) (o34 (((a1.1.2.2.2, a1.2.1.1.1), a1.2.1.1.2, a1.2.1.2), a1.2.2) a0) (fun v1 => (cnd v1 (bd (α := Bool) (o34 ((a1.1.1.1, a1.1.1.2.1, a1.1.1.2.2, a1.1.2.1.1), (a1.1.2.1.2, ([] : List Ty250e00)), ([] : List Tybbc8ca), ([] : List Tycd215c), a1.1.2.2.1) a0) (fun v2 => (some ((!v2), a1)))) (some (false, a1))))) (fun v3 => (some v3.1)))
theorem e11 (t : Int × Tybafed3) : evF (stpT Tryz.prog T209 K209) Tryz.f11 p11 r11 (.s .d (.s (.j false [o11_s0] .d) .d)) t = (o11 t.1 t.2) := by kernel_rfl
theorem fo11 : FOk Tryz.prog 11 ⟨p11, r11, fun t => (o11 t.1 t.2)⟩ := FOk.run_eq (evF_ok (h := (.s .d (.s (.j false [o11_s0] .d) .d))) (by kernel_rfl) (by kernel_rfl) (by kernel_rfl)) e11
def T210 : Tbl := (11, ⟨p11, r11, fun t => (o11 t.1 t.2)⟩) :: T209
theorem K210 : TOk Tryz.prog T210 := .cons K209 fo11
def Bseb018e : BSh := .cells 102 [.s, .i .i64, .i .i64, .i .i64, .i .i64, .i .i64, .own 4, .own 5, .own 6, .b, .s, .i .i64, .i .i64, .i .i64, .i .i64, .i .i64, .own 7, .own 8, .own 9, .b]
abbrev Ty2350c1 : Type := ((Int × Ty3bae59) × List Ty250e00 × List Tybbc8ca) × (List Tycd215c × List Ty250e00) × List Tybbc8ca × List Tycd215c
def p12 : Sch := ⟨[(0, .v (.c (.ptr 0 0))), (1, .v (.c (.i .i64)))], [Bs634882, Bs5762ff, Bsf0f14b, Bs403ed2]⟩
def r12 : List Sch := [⟨[(0, .v (.c (.i .i64)))], [Bseb018e, .no, .no, .no, Bs5762ff, Bsf0f14b, Bs403ed2, Bs5762ff, Bsf0f14b, Bs403ed2]⟩]
def o12 (a0 : Int) (a1 : Ty3bae59) (a2 : List Ty250e00) (a3 : List Tybbc8ca) (a4 : List Tycd215c) : Option Ty2350c1 :=
 (cnd (!a1.2.2.2.2) (some ((((6 : Int), a1), ([] : List Ty250e00), ([] : List Tybbc8ca)), (([] : List Tycd215c), a2), a3, a4)) (bd (α := Bool) (o34 (((a1.2.1.1, a1.2.1.2.1), a1.2.1.2.2, a1.2.2.1), (a1.2.2.2.1, a2), a3, a4, a1.2.2.2.2) a0) (fun v1 => (cnd (!v1) (some ((((13 : Int), a1), ([] : List Ty250e00), ([] : List Tybbc8ca)), (([] : List Tycd215c), a2), a3, a4)) (some ((((0 : Int), a1.2, a1.1), a2, a3), (a4, ([] : List Ty250e00)), ([] : List Tybbc8ca), ([] : List Tycd215c)))))))
theorem e12 (t : Tye73613) : evF (stpT Tryz.prog T210 K210) Tryz.f12 p12 r12 .d t = (o12 t.1.1 t.1.2 t.2.1 t.2.2.1 t.2.2.2) := by kernel_rfl
theorem fo12 : FOk Tryz.prog 12 ⟨p12, r12, fun t => (o12 t.1.1 t.1.2 t.2.1 t.2.2.1 t.2.2.2)⟩ := FOk.run_eq (evF_ok (h := .d) (by kernel_rfl) (by kernel_rfl) (by kernel_rfl)) e12
def T211 : Tbl := (12, ⟨p12, r12, fun t => (o12 t.1.1 t.1.2 t.2.1 t.2.2.1 t.2.2.2)⟩) :: T210
theorem K211 : TOk Tryz.prog T211 := .cons K210 fo12
def Bs8fd5bc : BSh := .lent [.s, .i .i64, .i .i64, .i .i64, .i .i64, .i .i64, .ro (.p .s (.p .s (.p (.i .u8) (.p (.p (.i .i64) (.i .i64)) (.p (.i .i64) (.i .i64)))))) false, .ro (.p .s (.a (.p .s (.p (.p (.i .i64) (.i .i64)) (.i .u8))))) false, .ro (.p .s (.p .s (.p (.i .u8) (.a (.p (.i .u8) (.p .s (.a (.p (.i .u8) (.p .s (.p .s (.p (.i .u8) (.p .b (.p (.i .i64) (.p (.i .i64) (.p (.i .i64) (.p (.i .i64) (.p (.p (.i .i64) (.i .i64)) (.p (.i .i64) (.i .i64))))))))))))))))))) false, .b, .s, .i .i64, .i .i64, .i .i64, .i .i64, .i .i64, .ro (.p .s (.p .s (.p (.i .u8) (.p (.p (.i .i64) (.i .i64)) (.p (.i .i64) (.i .i64)))))) false, .ro (.p .s (.a (.p .s (.p (.p (.i .i64) (.i .i64)) (.i .u8))))) false, .ro (.p .s (.p .s (.p (.i .u8) (.a (.p (.i .u8) (.p .s (.a (.p (.i .u8) (.p .s (.p .s (.p (.i .u8) (.p .b (.p (.i .i64) (.p (.i .i64) (.p (.i .i64) (.p (.i .i64) (.p (.p (.i .i64) (.i .i64)) (.p (.i .i64) (.i .i64))))))))))))))))))) false, .b]
abbrev Ty1391d5 : Type := (((List UInt8 × Int) × Int × Int × Int) × (Int × List Ty250e00) × List Tybbc8ca × List Tycd215c × Bool) × ((List UInt8 × Int) × Int × Int × Int) × (Int × List Ty250e00) × List Tybbc8ca × List Tycd215c × Bool
def p13 : Sch := ⟨[(0, .v (.c (.ptr 0 0)))], [Bs8fd5bc]⟩
def r13 : List Sch := [⟨[(0, Ssa02dd3)], [.no, Bs5762ff, Bsf0f14b, Bs403ed2]⟩]
def o13 (a0 : Ty1391d5) : Option ((Ty9cb662 × List Ty250e00) × List Tybbc8ca × List Tycd215c) :=
 (bd (α := ((Ty9cb662 × List Ty250e00) × List Tybbc8ca × List Tycd215c)) (o35 a0.1) (fun v1 => (some v1)))
theorem e13 (t : Ty1391d5) : evF (stpT Tryz.prog T211 K211) Tryz.f13 p13 r13 .d t = (o13 t) := by kernel_rfl
theorem fo13 : FOk Tryz.prog 13 ⟨p13, r13, fun t => (o13 t)⟩ := FOk.run_eq (evF_ok (h := .d) (by kernel_rfl) (by kernel_rfl) (by kernel_rfl)) e13
def T212 : Tbl := (13, ⟨p13, r13, fun t => (o13 t)⟩) :: T211
theorem K212 : TOk Tryz.prog T212 := .cons K211 fo13
def p14v1 : Sch := ⟨[(0, .v (.c (.ptr 0 0)))], [Bs8fd5bc]⟩
def r14v1 : List Sch := [⟨[(0, Ssa02dd3)], [.no, Bs5762ff, Bsf0f14b, Bs403ed2]⟩]
def o14v1 (a0 : Ty1391d5) : Option ((Ty9cb662 × List Ty250e00) × List Tybbc8ca × List Tycd215c) :=
 (bd (α := ((Ty9cb662 × List Ty250e00) × List Tybbc8ca × List Tycd215c)) (o35 a0.2) (fun v1 => (some v1)))
theorem e14v1 (t : Ty1391d5) : evF (stpT Tryz.prog T212 K212) Tryz.f14 p14v1 r14v1 .d t = (o14v1 t) := by kernel_rfl
theorem fo14v1 : FOk Tryz.prog 14 ⟨p14v1, r14v1, fun t => (o14v1 t)⟩ := FOk.run_eq (evF_ok (h := .d) (by kernel_rfl) (by kernel_rfl) (by kernel_rfl)) e14v1
def T213 : Tbl := (14, ⟨p14v1, r14v1, fun t => (o14v1 t)⟩) :: T212
theorem K213 : TOk Tryz.prog T213 := .cons K212 fo14v1
def o15_s0 : Sch := ⟨[(0, .v (.c (.i .i64))), (11, .v (.c (.b)))], []⟩
def p15 : Sch := ⟨[(0, .v (.c (.i .i64)))], []⟩
def r15 : List Sch := [⟨[(0, Ss9d89e0)], []⟩]
def o15 (a0 : Int) : Option ((Int × Int) × Int × Int) :=
 (bd (α := (Int × Bool)) (cnd (decide (a0 < (26 : Int))) (some (a0, true)) (some (a0, (decide (a0 > (36524 : Int)))))) (fun v1 => (cnd v1.2 (some (((0 : Int), (0 : Int)), (0 : Int), (2 : Int))) (bd (α := Int) (o36 (IntKind.wrap .i64 (v1.1 - (Int.tmod (IntKind.wrap .i64 (v1.1 - (26 : Int))) (28 : Int))))) (fun v2 => (some ((v2, (IntKind.wrap .i64 (v1.1 - (Int.tmod (IntKind.wrap .i64 (v1.1 - (26 : Int))) (28 : Int))))), (IntKind.wrap .i64 ((IntKind.wrap .i64 (v1.1 - (Int.tmod (IntKind.wrap .i64 (v1.1 - (26 : Int))) (28 : Int)))) + (28 : Int))), (0 : Int))))))))
def h15 : HC := (.s .d (.s (.s (.j false [o15_s0] .d) .d) .d))
theorem e15 (t : Int) : evF (stpT Tryz.prog T213 K213) Tryz.f15 p15 r15 h15 t = (o15 t) := by kernel_rfl
theorem fo15 : FOk Tryz.prog 15 ⟨p15, r15, fun t => (o15 t)⟩ := FOk.run_eq (evF_ok (h := h15) (by kernel_rfl) (by kernel_rfl) (by kernel_rfl)) e15
def T214 : Tbl := (15, ⟨p15, r15, fun t => (o15 t)⟩) :: T213
theorem K214 : TOk Tryz.prog T214 := .cons K213 fo15
def p16 : Sch := ⟨[(0, .v (.c (.ptr 0 0))), (1, .v (.c (.i .i64)))], [Bs8fd5bc]⟩
def r16 : List Sch := [⟨[(0, .v (.c (.b)))], [.no]⟩]
def o16 (a0 : Int) (a1 : Ty1391d5) : Option Bool :=
 (bd (α := Bool) (o34 a1.1 a0) (fun v1 => (some v1)))
theorem e16 (t : Int × Ty1391d5) : evF (stpT Tryz.prog T214 K214) Tryz.f16 p16 r16 .d t = (o16 t.1 t.2) := by kernel_rfl
theorem fo16 : FOk Tryz.prog 16 ⟨p16, r16, fun t => (o16 t.1 t.2)⟩ := FOk.run_eq (evF_ok (h := .d) (by kernel_rfl) (by kernel_rfl) (by kernel_rfl)) e16
def T215 : Tbl := (16, ⟨p16, r16, fun t => (o16 t.1 t.2)⟩) :: T214
theorem K215 : TOk Tryz.prog T215 := .cons K214 fo16
def o11v1_s0 : Sch := ⟨[(4, .v (.c (.b)))], [Bs8fd5bc]⟩
def p11v1 : Sch := ⟨[(0, .v (.c (.ptr 0 0))), (1, .v (.c (.i .i64)))], [Bs8fd5bc]⟩
def r11v1 : List Sch := [⟨[(0, .v (.c (.b)))], [.no]⟩]
def o11v1 (a0 : Int) (a1 : Ty1391d5) : Option Bool :=
 (bd (α := (Bool × Ty1391d5)) (bd (α := Bool) (o34 a1.2 a0) (fun v1 => (cnd v1 (bd (α := Bool) (o34 a1.1 a0) (fun v2 => (some ((!v2), a1)))) (some (false, a1))))) (fun v3 => (some v3.1)))
theorem e11v1 (t : Int × Ty1391d5) : evF (stpT Tryz.prog T215 K215) Tryz.f11 p11v1 r11v1 (.s .d (.s (.j false [o11v1_s0] .d) .d)) t = (o11v1 t.1 t.2) := by kernel_rfl
theorem fo11v1 : FOk Tryz.prog 11 ⟨p11v1, r11v1, fun t => (o11v1 t.1 t.2)⟩ := FOk.run_eq (evF_ok (h := (.s .d (.s (.j false [o11v1_s0] .d) .d))) (by kernel_rfl) (by kernel_rfl) (by kernel_rfl)) e11v1
def T216 : Tbl := (11, ⟨p11v1, r11v1, fun t => (o11v1 t.1 t.2)⟩) :: T215
theorem K216 : TOk Tryz.prog T216 := .cons K215 fo11v1
def Bsb1a893 : BSh := .cells 102 [.s, .i .i64, .i .i64, .i .i64, .i .i64, .i .i64, .own 1, .own 2, .own 3, .b, .s, .i .i64, .i .i64, .i .i64, .i .i64, .i .i64, .own 4, .own 5, .own 6, .b]
def Bs1ea0be : BSh := .cells 30 [.s, .i .i64, .i .i64, .i .i64, .i .i64, .i .i64, .own 8, .own 9, .own 10]
def Bsc4586e : BSh := .cells 102 [.s, .i .i64, .i .i64, .i .i64, .i .i64, .i .i64, .own 1, .own 2, .own 3, .b, .s, .i .i64, .i .i64, .i .i64, .i .i64, .i .i64, .own 7, .own 8, .own 9, .b]
abbrev Ty0ba6c5 : Type := ((Bool × Ty3bae59 × List Ty250e00) × List Tybbc8ca × List Tycd215c × List Ty250e00) × (List Tybbc8ca × List Tycd215c × Tyc0a991) × List Ty250e00 × List Tybbc8ca × List Tycd215c
abbrev Ty9c786a : Type := ((List UInt8 × Ty3bae59) × List Ty250e00 × List Tybbc8ca) × (List Tycd215c × List Ty250e00) × List Tybbc8ca × List Tycd215c
def o10v2_s0 : Sch := ⟨[(0, .v (.c (.ptr 0 0))), (5, .v (.c (.ptr 7 0))), (34, .v (.c (.b)))], [Bsb1a893, Bs5762ff, Bsf0f14b, Bs403ed2, Bs5762ff, Bsf0f14b, Bs403ed2, Bs1ea0be, Bs5762ff, Bsf0f14b, Bs403ed2]⟩
def p10v2 : Sch := ⟨[(0, .v (.c (.ptr 0 0))), (1, .v (.c (.ro .y false)))], [Bsb1a893, Bs5762ff, Bsf0f14b, Bs403ed2, Bs5762ff, Bsf0f14b, Bs403ed2]⟩
def r10v2 : List Sch := [⟨[(0, .v (.c (.i .i64)))], [Bsc4586e, Bs5762ff, Bsf0f14b, Bs403ed2, .no, .no, .no, Bs5762ff, Bsf0f14b, Bs403ed2]⟩]
def o10v2 (a0 : List UInt8) (a1 : Ty3bae59) (a2 : List Ty250e00) (a3 : List Tybbc8ca) (a4 : List Tycd215c) (a5 : List Ty250e00) (a6 : List Tybbc8ca) (a7 : List Tycd215c) : Option Ty2350c1 :=
 (bd (α := ((Ty9cb662 × List Ty250e00) × List Tybbc8ca × List Tycd215c)) (o24 a0) (fun v1 => (cnd (v1.1.1.2.2.2 != (0 : Int)) (some (((v1.1.1.2.2.2, a1), a2, a3), (a4, a5), a6, a7)) (bd (α := Ty0ba6c5) (cnd a1.1.2.2.2 (some ((((a1.1.1.2.1 == v1.1.1.1.2.1), a1, a2), a3, a4, a5), (a6, a7, v1.1.1.1, v1.1.1.2.1.1, v1.1.1.2.1.2, v1.1.1.2.2.1), v1.1.2, v1.2)) (some (((false, a1, a2), a3, a4, a5), (a6, a7, v1.1.1.1, v1.1.1.2.1.1, v1.1.1.2.1.2, v1.1.1.2.2.1), v1.1.2, v1.2))) (fun v2 => (cnd v2.1.1.1 (some ((((7 : Int), v2.1.1.2.1), v2.1.1.2.2, v2.1.2.1), v2.1.2.2, v2.2.1.1, v2.2.1.2.1)) (some ((((0 : Int), v2.1.1.2.1.1, v2.2.1.2.2.1, (v2.2.1.2.2.2.1, v2.2.1.2.2.2.2.1), v2.2.1.2.2.2.2.2, true), v2.1.1.2.2, v2.1.2.1), (v2.1.2.2.1, v2.2.2.1), v2.2.2.2))))))))
def h10v2 : HC := (.s .d (.s .d (.s .d (.s .d (.s (.s (.j false [o10v2_s0] .d) .d) .d)))))
theorem e10v2 (t : Ty9c786a) : evF (stpT Tryz.prog T216 K216) Tryz.f10 p10v2 r10v2 h10v2 t = (o10v2 t.1.1.1 t.1.1.2 t.1.2.1 t.1.2.2 t.2.1.1 t.2.1.2 t.2.2.1 t.2.2.2) := by kernel_rfl
theorem fo10v2 : FOk Tryz.prog 10 ⟨p10v2, r10v2, fun t => (o10v2 t.1.1.1 t.1.1.2 t.1.2.1 t.1.2.2 t.2.1.1 t.2.1.2 t.2.2.1 t.2.2.2)⟩ := FOk.run_eq (evF_ok (h := h10v2) (by kernel_rfl) (by kernel_rfl) (by kernel_rfl)) e10v2
def T217 : Tbl := (10, ⟨p10v2, r10v2, fun t => (o10v2 t.1.1.1 t.1.1.2 t.1.2.1 t.1.2.2 t.2.1.1 t.2.1.2 t.2.2.1 t.2.2.2)⟩) :: T216
theorem K217 : TOk Tryz.prog T217 := .cons K216 fo10v2
def Bs60c1fa : BSh := .cells 102 [.s, .i .i64, .i .i64, .i .i64, .i .i64, .i .i64, .own 7, .own 8, .own 9, .b, .s, .i .i64, .i .i64, .i .i64, .i .i64, .i .i64, .own 10, .own 11, .own 12, .b]
def p12v1 : Sch := ⟨[(0, .v (.c (.ptr 0 0))), (1, .v (.c (.i .i64)))], [Bsb1a893, Bs5762ff, Bsf0f14b, Bs403ed2, Bs5762ff, Bsf0f14b, Bs403ed2]⟩
def r12v1 : List Sch := [⟨[(0, .v (.c (.i .i64)))], [Bs60c1fa, .no, .no, .no, .no, .no, .no, Bs5762ff, Bsf0f14b, Bs403ed2, Bs5762ff, Bsf0f14b, Bs403ed2]⟩]
def o12v1 (a0 : Int) (a1 : Ty3bae59) (a2 : List Ty250e00) (a3 : List Tybbc8ca) (a4 : List Tycd215c) (a5 : List Ty250e00) (a6 : List Tybbc8ca) (a7 : List Tycd215c) : Option Ty2350c1 :=
 (cnd (!a1.2.2.2.2) (some ((((6 : Int), a1), a2, a3), (a4, a5), a6, a7)) (bd (α := Bool) (o34 (((a1.2.1.1, a1.2.1.2.1), a1.2.1.2.2, a1.2.2.1), (a1.2.2.2.1, a5), a6, a7, a1.2.2.2.2) a0) (fun v1 => (cnd (!v1) (some ((((13 : Int), a1), a2, a3), (a4, a5), a6, a7)) (some ((((0 : Int), a1.2, a1.1), a5, a6), (a7, a2), a3, a4))))))
theorem e12v1 (t : Ty2350c1) : evF (stpT Tryz.prog T217 K217) Tryz.f12 p12v1 r12v1 .d t = (o12v1 t.1.1.1 t.1.1.2 t.1.2.1 t.1.2.2 t.2.1.1 t.2.1.2 t.2.2.1 t.2.2.2) := by kernel_rfl
theorem fo12v1 : FOk Tryz.prog 12 ⟨p12v1, r12v1, fun t => (o12v1 t.1.1.1 t.1.1.2 t.1.2.1 t.1.2.2 t.2.1.1 t.2.1.2 t.2.2.1 t.2.2.2)⟩ := FOk.run_eq (evF_ok (h := .d) (by kernel_rfl) (by kernel_rfl) (by kernel_rfl)) e12v1
def T218 : Tbl := (12, ⟨p12v1, r12v1, fun t => (o12v1 t.1.1.1 t.1.1.2 t.1.2.1 t.1.2.2 t.2.1.1 t.2.1.2 t.2.2.1 t.2.2.2)⟩) :: T217
theorem K218 : TOk Tryz.prog T218 := .cons K217 fo12v1
def Bsdce785 : BSh := .cells 102 [.s, .i .i64, .i .i64, .i .i64, .i .i64, .i .i64, .own 3, .own 4, .own 5, .b, .s, .i .i64, .i .i64, .i .i64, .i .i64, .i .i64, .own 6, .own 7, .own 8, .b]
def Bs8e1f36 : BSh := .cells 102 [.s, .i .i64, .i .i64, .i .i64, .i .i64, .i .i64, .own 5, .own 6, .own 7, .b, .s, .i .i64, .i .i64, .i .i64, .i .i64, .i .i64, .own 8, .own 9, .own 10, .b]
def Bs07d789 : BSh := .cells 30 [.s, .i .i64, .i .i64, .i .i64, .i .i64, .i .i64, .own 11, .own 12, .own 13]
def Bsb6d9cb : BSh := .cells 30 [.s, .i .i64, .i .i64, .i .i64, .i .i64, .i .i64, .own 14, .own 15, .own 16]
def Bs0a01cd : BSh := .cells 30 [.s, .i .i64, .i .i64, .i .i64, .i .i64, .i .i64, .own 10, .own 11, .own 12]
abbrev Tybf22c6 : Type := ((List Int × Int) × Ty3283d1 × List UInt8 × Ty3bae59) × (List Ty250e00 × List Tybbc8ca × List Tycd215c) × List Ty250e00 × List Tybbc8ca × List Tycd215c
abbrev Tyb480be : Type := ((List Int × Int × Bool) × Ty3283d1 × List UInt8 × Ty3bae59) × (List Ty250e00 × List Tybbc8ca × List Tycd215c) × List Ty250e00 × List Tybbc8ca × List Tycd215c
abbrev Ty20227a : Type := ((List Int × Int × Int) × Bool × Ty3283d1 × List UInt8) × (Ty3bae59 × List Ty250e00 × List Tybbc8ca) × (List Tycd215c × List Ty250e00) × List Tybbc8ca × List Tycd215c
abbrev Ty255a65 : Type := (((List Int × Int) × Int × Int × Int) × (Bool × Ty3283d1 × List UInt8) × Ty3bae59 × Tyc0a991 × Tyc0a991) × ((List Ty250e00 × List Tybbc8ca × List Tycd215c) × List Ty250e00 × List Tybbc8ca × List Tycd215c) × (List Ty250e00 × List Tybbc8ca × List Tycd215c) × List Ty250e00 × List Tybbc8ca × List Tycd215c
abbrev Tyee783a : Type := (((List Int × Int) × Int × Int) × (Bool × Bool) × Ty3283d1 × List UInt8 × Ty3bae59) × ((Tyc0a991 × List Ty250e00) × List Tybbc8ca × List Tycd215c × List Ty250e00) × (List Tybbc8ca × List Tycd215c) × List Ty250e00 × List Tybbc8ca × List Tycd215c
abbrev Tyd88c00 : Type := (((List Int × Int) × Int × Int) × (Bool × Ty3283d1) × List UInt8 × Ty3bae59 × Tyc0a991) × ((List Ty250e00 × List Tybbc8ca) × List Tycd215c × List Ty250e00) × (List Tybbc8ca × List Tycd215c) × List Ty250e00 × List Tybbc8ca × List Tycd215c
def o3_s0 : Sch := ⟨[(2, .v (.c (.ro (.i .i64) false))), (4, .v (.c (.ptr 0 0))), (7, .v (.c (.own 1))), (9, .v (.c (.own 2))), (44, .v (.c (.b)))], [Bsdf7687, .row .y 5, .row .y 5]⟩
def o3_s1 : Sch := ⟨[(2, .v (.c (.ro (.i .i64) false))), (4, .v (.c (.ptr 0 0))), (9, .v (.c (.own 1))), (11, .v (.c (.ptr 2 0))), (12, .v (.c (.i .i64))), (57, .v (.c (.b)))], [Bsdf7687, .row .y 5, Bsdce785, Bs5762ff, Bsf0f14b, Bs403ed2, Bs5762ff, Bsf0f14b, Bs403ed2]⟩
def o3_s2 : Sch := ⟨[(2, .v (.c (.ro (.i .i64) false))), (4, .v (.c (.ptr 0 0))), (9, .v (.c (.own 1))), (11, .v (.c (.ptr 2 0))), (12, .v (.c (.i .i64))), (13, .v (.c (.i .i64))), (72, .v (.c (.b)))], [Bsdf7687, .row .y 5, Bsdce785, Bs5762ff, Bsf0f14b, Bs403ed2, Bs5762ff, Bsf0f14b, Bs403ed2]⟩
def o3_s3 : Sch := ⟨[(2, .v (.c (.ro (.i .i64) false))), (4, .v (.c (.ptr 0 0))), (9, .v (.c (.own 1))), (11, .v (.c (.ptr 2 0))), (12, .v (.c (.i .i64))), (13, .v (.c (.i .i64))), (14, .v (.c (.ptr 3 0))), (15, .v (.c (.i .i64))), (16, .v (.c (.ptr 4 0))), (17, .v (.c (.i .i64))), (18, .v (.c (.b)))], [Bsdf7687, .row .y 5, Bs8e1f36, Bs07d789, Bsb6d9cb, Bs5762ff, Bsf0f14b, Bs403ed2, Bs5762ff, Bsf0f14b, Bs403ed2, Bs5762ff, Bsf0f14b, Bs403ed2, Bs5762ff, Bsf0f14b, Bs403ed2]⟩
def o3_s4 : Sch := ⟨[(2, .v (.c (.ro (.i .i64) false))), (4, .v (.c (.ptr 0 0))), (9, .v (.c (.own 1))), (11, .v (.c (.ptr 2 0))), (12, .v (.c (.i .i64))), (13, .v (.c (.i .i64))), (14, .v (.c (.ptr 3 0))), (15, .v (.c (.i .i64))), (18, .v (.c (.b))), (19, .v (.c (.b)))], [Bsdf7687, .row .y 5, Bseb018e, Bs0a01cd, Bs5762ff, Bsf0f14b, Bs403ed2, Bs5762ff, Bsf0f14b, Bs403ed2, Bs5762ff, Bsf0f14b, Bs403ed2]⟩
def o3_s5 : Sch := ⟨[(2, .v (.c (.ro (.i .i64) false))), (4, .v (.c (.ptr 0 0))), (9, .v (.c (.own 1))), (11, .v (.c (.ptr 2 0))), (12, .v (.c (.i .i64))), (13, .v (.c (.i .i64))), (14, .v (.c (.ptr 3 0))), (15, .v (.c (.i .i64))), (148, .v (.c (.b)))], [Bsdf7687, .row .y 5, Bseb018e, Bs0a01cd, Bs5762ff, Bsf0f14b, Bs403ed2, Bs5762ff, Bsf0f14b, Bs403ed2, Bs5762ff, Bsf0f14b, Bs403ed2]⟩
def o3_s6 : Sch := ⟨[(2, .v (.c (.ro (.i .i64) false))), (4, .v (.c (.ptr 0 0))), (9, .v (.c (.own 1))), (11, .v (.c (.ptr 2 0))), (12, .v (.c (.i .i64))), (13, .v (.c (.i .i64))), (168, .v (.c (.b)))], [Bsdf7687, .row .y 5, Bsdce785, Bs5762ff, Bsf0f14b, Bs403ed2, Bs5762ff, Bsf0f14b, Bs403ed2]⟩
def o3_s7 : Sch := ⟨[(2, .v (.c (.ro (.i .i64) false))), (4, .v (.c (.ptr 0 0))), (9, .v (.c (.own 1))), (11, .v (.c (.ptr 2 0))), (12, .v (.c (.i .i64))), (177, .v (.c (.b)))], [Bsdf7687, .row .y 5, Bsdce785, Bs5762ff, Bsf0f14b, Bs403ed2, Bs5762ff, Bsf0f14b, Bs403ed2]⟩
def o3_s8 : Sch := ⟨[(2, .v (.c (.ro (.i .i64) false))), (4, .v (.c (.ptr 0 0))), (9, .v (.c (.own 1))), (11, .v (.c (.ptr 2 0))), (12, .v (.c (.i .i64)))], [Bsdf7687, .row .y 5, Bsdce785, Bs5762ff, Bsf0f14b, Bs403ed2, Bs5762ff, Bsf0f14b, Bs403ed2]⟩
def p3 : Sch := ⟨[(0, Ssd325cb), (1, Ssd325cb), (2, .v (.c (.ro (.i .i64) false)))], []⟩
def r3 : List Sch := [⟨[(0, .v (.c (.b)))], []⟩]
def o3 (a0 : Ty3283d1) (a1 : Ty3283d1) (a2 : List Int) : Option Bool :=
 (bd (α := Bool) o6 (fun v1 => (cnd (!v1) (some false) (bd (α := ((Tyc0a991 × List Ty250e00) × List Tybbc8ca × List Tycd215c)) (o8 a0) (fun v2 => (bd (α := (Int × List UInt8)) (o7v1 (((v2.1.1.1.1, v2.1.1.1.2.1), v2.1.1.1.2.2, v2.1.1.2.1), v2.1.1.2.2, v2.1.2, v2.2)) (fun v3 => (bd (α := ((Tyc0a991 × List Ty250e00) × List Tybbc8ca × List Tycd215c)) (o8 a1) (fun v4 => (bd (α := (Int × List UInt8)) (o7v1 (((v4.1.1.1.1, v4.1.1.1.2.1), v4.1.1.1.2.2, v4.1.1.2.1), v4.1.1.2.2, v4.1.2, v4.2)) (fun v5 => (bd (α := ((List Int × Bool) × Ty3283d1 × List UInt8 × List UInt8)) (cnd (v3.1 != (0 : Int)) (some ((a2, true), a1, v3.2, v5.2)) (some ((a2, (v5.1 != (0 : Int))), a1, v3.2, v5.2))) (fun v6 => (cnd v6.1.2 (some true) (bd (α := (List UInt8 × List UInt8)) o9 (fun v7 => (bd (α := Tye73613) (o10 v6.2.2.1 (((v7.1, (0 : Int), (0 : Int)), ((0 : Int), (0 : Int)), (0 : Int), false), (v7.2, (0 : Int), (0 : Int)), ((0 : Int), (0 : Int)), (0 : Int), false)) (fun v8 => (cnd (v8.1.1 != (0 : Int)) (some false) (loopO (σ := Tybf22c6) fuelN (fun (v10 : Tybf22c6) => (bd (α := Tyb480be) (cnd (decide (v10.1.1.2 < ((v10.1.1.1.length : Nat) : Int))) (some (((v10.1.1.1, v10.1.1.2, (decide (v10.1.1.2 < (10 : Int)))), v10.1.2), v10.2)) (some (((v10.1.1.1, v10.1.1.2, false), v10.1.2), v10.2))) (fun v11 => (cnd v11.1.1.2.2 (gd (decide ((0 : Int) ≤ v11.1.1.2.1 ∧ v11.1.1.2.1 < ((v11.1.1.1.length : Nat) : Int))) (bd (α := Ty20227a) (bd (α := Bool) (o11v1 (List.getD v11.1.1.1 v11.1.1.2.1.toNat (0 : Int)) ((((v11.1.2.2.2.1.1.1, v11.1.2.2.2.1.1.2.1), v11.1.2.2.2.1.1.2.2, v11.1.2.2.2.1.2.1), (v11.1.2.2.2.1.2.2.1, v11.2.1.1), v11.2.1.2.1, v11.2.1.2.2, v11.1.2.2.2.1.2.2.2), ((v11.1.2.2.2.2.1.1, v11.1.2.2.2.2.1.2.1), v11.1.2.2.2.2.1.2.2, v11.1.2.2.2.2.2.1), (v11.1.2.2.2.2.2.2.1, v11.2.2.1), v11.2.2.2.1, v11.2.2.2.2, v11.1.2.2.2.2.2.2.2)) (fun v12 => (cnd v12 (bd (α := Ty2350c1) (o12v1 (List.getD v11.1.1.1 v11.1.1.2.1.toNat (0 : Int)) v11.1.2.2.2 v11.2.1.1 v11.2.1.2.1 v11.2.1.2.2 v11.2.2.1 v11.2.2.2.1 v11.2.2.2.2) (fun v13 => (some (((v11.1.1.1, v11.1.1.2.1, (List.getD v11.1.1.1 v11.1.1.2.1.toNat (0 : Int))), (v13.1.1.1 != (0 : Int)), v11.1.2.1, v11.1.2.2.1), (v13.1.1.2, v13.1.2), v13.2)))) (some (((v11.1.1.1, v11.1.1.2.1, (List.getD v11.1.1.1 v11.1.1.2.1.toNat (0 : Int))), false, v11.1.2.1, v11.1.2.2.1), (v11.1.2.2.2, v11.2.1.1, v11.2.1.2.1), (v11.2.1.2.2, v11.2.2.1), v11.2.2.2))))) (fun v14 => (cnd v14.1.2.1 (dnO (some false)) (bd (α := ((Ty9cb662 × List Ty250e00) × List Tybbc8ca × List Tycd215c)) (o13 ((((v14.2.1.1.1.1.1, v14.2.1.1.1.1.2.1), v14.2.1.1.1.1.2.2, v14.2.1.1.1.2.1), (v14.2.1.1.1.2.2.1, v14.2.1.2.1), v14.2.1.2.2, v14.2.2.1.1, v14.2.1.1.1.2.2.2), ((v14.2.1.1.2.1.1, v14.2.1.1.2.1.2.1), v14.2.1.1.2.1.2.2, v14.2.1.1.2.2.1), (v14.2.1.1.2.2.2.1, v14.2.2.1.2), v14.2.2.2.1, v14.2.2.2.2, v14.2.1.1.2.2.2.2)) (fun v15 => (bd (α := ((Ty9cb662 × List Ty250e00) × List Tybbc8ca × List Tycd215c)) (o14v1 ((((v14.2.1.1.1.1.1, v14.2.1.1.1.1.2.1), v14.2.1.1.1.1.2.2, v14.2.1.1.1.2.1), (v14.2.1.1.1.2.2.1, v14.2.1.2.1), v14.2.1.2.2, v14.2.2.1.1, v14.2.1.1.1.2.2.2), ((v14.2.1.1.2.1.1, v14.2.1.1.2.1.2.1), v14.2.1.1.2.1.2.2, v14.2.1.1.2.2.1), (v14.2.1.1.2.2.2.1, v14.2.2.1.2), v14.2.2.2.1, v14.2.2.2.2, v14.2.1.1.2.2.2.2)) (fun v16 => (bd (α := Ty255a65) (cnd (v15.1.1.2.2.2 == (0 : Int)) (cnd (decide (v15.1.1.1.2.2 ≤ v14.1.1.2.2)) (some ((((v14.1.1.1, v14.1.1.2.1), v14.1.1.2.2, v15.1.1.2.2.2, v16.1.1.2.2.2), ((decide (v14.1.1.2.2 < v15.1.1.2.1.1)), v14.1.2.2), v14.2.1.1, (v15.1.1.1, v15.1.1.2.1.1, v15.1.1.2.1.2, v15.1.1.2.2.1), v16.1.1.1, v16.1.1.2.1.1, v16.1.1.2.1.2, v16.1.1.2.2.1), ((v14.2.1.2.1, v14.2.1.2.2, v14.2.2.1.1), v14.2.2.1.2, v14.2.2.2), (v15.1.2, v15.2), v16.1.2, v16.2)) (some ((((v14.1.1.1, v14.1.1.2.1), v14.1.1.2.2, v15.1.1.2.2.2, v16.1.1.2.2.2), (false, v14.1.2.2), v14.2.1.1, (v15.1.1.1, v15.1.1.2.1.1, v15.1.1.2.1.2, v15.1.1.2.2.1), v16.1.1.1, v16.1.1.2.1.1, v16.1.1.2.1.2, v16.1.1.2.2.1), ((v14.2.1.2.1, v14.2.1.2.2, v14.2.2.1.1), v14.2.2.1.2, v14.2.2.2), (v15.1.2, v15.2), v16.1.2, v16.2))) (some ((((v14.1.1.1, v14.1.1.2.1), v14.1.1.2.2, v15.1.1.2.2.2, v16.1.1.2.2.2), (false, v14.1.2.2), v14.2.1.1, (v15.1.1.1, v15.1.1.2.1.1, v15.1.1.2.1.2, v15.1.1.2.2.1), v16.1.1.1, v16.1.1.2.1.1, v16.1.1.2.1.2, v16.1.1.2.2.1), ((v14.2.1.2.1, v14.2.1.2.2, v14.2.2.1.1), v14.2.2.1.2, v14.2.2.2), (v15.1.2, v15.2), v16.1.2, v16.2))) (fun v17 => (bd (α := Tyee783a) (cnd (v17.1.1.2.2.2 == (0 : Int)) (cnd (decide (v17.1.2.2.2.2.1.2.2 ≤ v17.1.1.2.1)) (some (((v17.1.1.1, v17.1.1.2.1, v17.1.1.2.2.1), (v17.1.2.1.1, (decide (v17.1.1.2.1 < v17.1.2.2.2.2.2.1))), v17.1.2.1.2.1, v17.1.2.1.2.2, v17.1.2.2.1), ((v17.1.2.2.2.1, v17.2.1.1.1), v17.2.1.1.2.1, v17.2.1.1.2.2, v17.2.1.2.1), v17.2.1.2.2, v17.2.2.1)) (some (((v17.1.1.1, v17.1.1.2.1, v17.1.1.2.2.1), (v17.1.2.1.1, false), v17.1.2.1.2.1, v17.1.2.1.2.2, v17.1.2.2.1), ((v17.1.2.2.2.1, v17.2.1.1.1), v17.2.1.1.2.1, v17.2.1.1.2.2, v17.2.1.2.1), v17.2.1.2.2, v17.2.2.1))) (some (((v17.1.1.1, v17.1.1.2.1, v17.1.1.2.2.1), (v17.1.2.1.1, false), v17.1.2.1.2.1, v17.1.2.1.2.2, v17.1.2.2.1), ((v17.1.2.2.2.1, v17.2.1.1.1), v17.2.1.1.2.1, v17.2.1.1.2.2, v17.2.1.2.1), v17.2.1.2.2, v17.2.2.1))) (fun v18 => (bd (α := ((Int × Int) × Int × Int)) (o15 v18.1.1.2.1) (fun v19 => (bd (α := Tyd88c00) (cnd v18.1.2.1.2 (some ((v18.1.1, (true, v18.1.2.2.1), v18.1.2.2.2.1, v18.1.2.2.2.2, v18.2.1.1.1), ((v18.2.1.1.2, v18.2.1.2.1), v18.2.1.2.2), v18.2.2)) (bd (α := Bool) (o16 v18.1.1.2.1 ((((v18.1.2.2.2.2.1.1.1, v18.1.2.2.2.2.1.1.2.1), v18.1.2.2.2.2.1.1.2.2, v18.1.2.2.2.2.1.2.1), (v18.1.2.2.2.2.1.2.2.1, v18.2.1.1.2), v18.2.1.2.1, v18.2.1.2.2.1, v18.1.2.2.2.2.1.2.2.2), ((v18.1.2.2.2.2.2.1.1, v18.1.2.2.2.2.2.1.2.1), v18.1.2.2.2.2.2.1.2.2, v18.1.2.2.2.2.2.2.1), (v18.1.2.2.2.2.2.2.2.1, v18.2.1.2.2.2), v18.2.2.1.1, v18.2.2.1.2, v18.1.2.2.2.2.2.2.2.2)) (fun v20 => (cnd (!(v18.1.2.1.1 == v20)) (some ((v18.1.1, (true, v18.1.2.2.1), v18.1.2.2.2.1, v18.1.2.2.2.2, v18.2.1.1.1), ((v18.2.1.1.2, v18.2.1.2.1), v18.2.1.2.2), v18.2.2)) (bd (α := Bool) (o11v1 v18.1.1.2.1 ((((v18.1.2.2.2.2.1.1.1, v18.1.2.2.2.2.1.1.2.1), v18.1.2.2.2.2.1.1.2.2, v18.1.2.2.2.2.1.2.1), (v18.1.2.2.2.2.1.2.2.1, v18.2.1.1.2), v18.2.1.2.1, v18.2.1.2.2.1, v18.1.2.2.2.2.1.2.2.2), ((v18.1.2.2.2.2.2.1.1, v18.1.2.2.2.2.2.1.2.1), v18.1.2.2.2.2.2.1.2.2, v18.1.2.2.2.2.2.2.1), (v18.1.2.2.2.2.2.2.2.1, v18.2.1.2.2.2), v18.2.2.1.1, v18.2.2.1.2, v18.1.2.2.2.2.2.2.2.2)) (fun v21 => (cnd v21 (some ((v18.1.1, (true, v18.1.2.2.1), v18.1.2.2.2.1, v18.1.2.2.2.2, v18.2.1.1.1), ((v18.2.1.1.2, v18.2.1.2.1), v18.2.1.2.2), v18.2.2)) (cnd v18.1.2.1.1 (cnd (v19.2.2 == (0 : Int)) (some ((v18.1.1, ((v19.1.1 != v18.2.1.1.1.1.2.1), v18.1.2.2.1), v18.1.2.2.2.1, v18.1.2.2.2.2, v18.2.1.1.1), ((v18.2.1.1.2, v18.2.1.2.1), v18.2.1.2.2), v18.2.2)) (some ((v18.1.1, (false, v18.1.2.2.1), v18.1.2.2.2.1, v18.1.2.2.2.2, v18.2.1.1.1), ((v18.2.1.1.2, v18.2.1.2.1), v18.2.1.2.2), v18.2.2))) (some ((v18.1.1, (false, v18.1.2.2.1), v18.1.2.2.2.1, v18.1.2.2.2.2, v18.2.1.1.1), ((v18.2.1.1.2, v18.2.1.2.1), v18.2.1.2.2), v18.2.2)))))))))) (fun v22 => (cnd v22.1.2.1.1 (dnO (some false)) (cnd (v22.1.1.2.2 == (0 : Int)) (bd (α := Ty2350c1) (o10v2 v22.1.2.2.1 v22.1.2.2.2.1 v22.2.1.1.1 v22.2.1.1.2 v22.2.1.2.1 v22.2.1.2.2 v22.2.2.1.1 v22.2.2.1.2) (fun v23 => (bd (α := Ty20227a) (cnd (v23.1.1.1 != (0 : Int)) (cnd (v23.1.1.1 != (7 : Int)) (some (((v22.1.1.1.1, v22.1.1.1.2, v22.1.1.2.1), true, v22.1.2.1.2, v22.1.2.2.1), (v23.1.1.2, v23.1.2), v23.2)) (some (((v22.1.1.1.1, v22.1.1.1.2, v22.1.1.2.1), (v22.1.2.2.2.2.1.2.1 != v22.1.2.1.2.1.1.2), v22.1.2.1.2, v22.1.2.2.1), (v23.1.1.2, v23.1.2), v23.2))) (some (((v22.1.1.1.1, v22.1.1.1.2, v22.1.1.2.1), false, v22.1.2.1.2, v22.1.2.2.1), (v23.1.1.2, v23.1.2), v23.2))) (fun v24 => (cnd v24.1.2.1 (dnO (some false)) (bd (α := Tyb480be) (bd (α := Bool) (o11v1 v24.1.1.2.2 ((((v24.2.1.1.1.1.1, v24.2.1.1.1.1.2.1), v24.2.1.1.1.1.2.2, v24.2.1.1.1.2.1), (v24.2.1.1.1.2.2.1, v24.2.1.2.1), v24.2.1.2.2, v24.2.2.1.1, v24.2.1.1.1.2.2.2), ((v24.2.1.1.2.1.1, v24.2.1.1.2.1.2.1), v24.2.1.1.2.1.2.2, v24.2.1.1.2.2.1), (v24.2.1.1.2.2.2.1, v24.2.2.1.2), v24.2.2.2.1, v24.2.2.2.2, v24.2.1.1.2.2.2.2)) (fun v25 => (cnd v25 (bd (α := Ty2350c1) (o12v1 v24.1.1.2.2 v24.2.1.1 v24.2.1.2.1 v24.2.1.2.2 v24.2.2.1.1 v24.2.2.1.2 v24.2.2.2.1 v24.2.2.2.2) (fun v26 => (some (((v24.1.1.1, v24.1.1.2.1, (v26.1.1.1 != (0 : Int))), v24.1.2.2.1, v24.1.2.2.2, v26.1.1.2), (v26.1.2.1, v26.1.2.2, v26.2.1.1), v26.2.1.2, v26.2.2)))) (some (((v24.1.1.1, v24.1.1.2.1, false), v24.1.2.2.1, v24.1.2.2.2, v24.2.1.1), (v24.2.1.2.1, v24.2.1.2.2, v24.2.2.1.1), v24.2.2.1.2, v24.2.2.2))))) (fun v27 => (cnd v27.1.1.2.2 (dnO (some false)) (some (Ctl.go (((v27.1.1.1, (IntKind.wrap .i64 (v27.1.1.2.1 + (1 : Int)))), v27.1.2), v27.2))))))))))) (some (Ctl.go (((v22.1.1.1.1, (IntKind.wrap .i64 (v22.1.1.1.2 + (1 : Int)))), v22.1.2.1.2, v22.1.2.2.1, v22.1.2.2.2.1), (v22.2.1.1.1, v22.2.1.1.2, v22.2.1.2.1), v22.2.1.2.2, v22.2.2.1))))))))))))))))))))) (dnO (some true)))))) (((v6.1.1, (0 : Int)), v6.2.1, v6.2.2.2, v8.1.2), (([] : List Ty250e00), ([] : List Tybbc8ca), ([] : List Tycd215c)), v8.2)))))))))))))))))))))
def h3 : HC := (.s .d (.s .d (.s .d (.s .d (.s (.s (.j false [o3_s0] .d) .d) (.s .d (.s .d (.s (.s .d (.b (.l [o3_s8] (.s (.s (.j false [o3_s1] .d) .d) (.s (.b (.s .d (.s (.s (.j false [o3_s2] .d) .d) (.s .d (.s .d (.s (.j false [o3_s3] .d) (.s (.j false [o3_s4] .d) (.s .d (.s (.s (.j false [o3_s5] .d) .d) (.s .d (.c (.s (.s .d (.s (.j false [o3_s6] .d) .d)) (.s (.j false [o3_s7] .d) .d)) .d))))))))))) .d))))) .d))))))))
theorem e3 (t : Ty3283d1 × Ty3283d1 × List Int) : evF (stpT Tryz.prog T218 K218) Tryz.f3 p3 r3 h3 t = (o3 t.1 t.2.1 t.2.2) := by kernel_rfl
theorem fo3 : FOk Tryz.prog 3 ⟨p3, r3, fun t => (o3 t.1 t.2.1 t.2.2)⟩ := FOk.run_eq (evF_ok (h := h3) (by kernel_rfl) (by kernel_rfl) (by kernel_rfl)) e3
end
end Go.Proofs.YtpglaekodahcoaaGreatDoor
