/-
What functions compute, printed by wip/h/py. Conditions: each theorem's own.
-/
import Derived.Test.YtpleflcfaecojaaGreatM20
namespace Go.Proofs.YtpleflcfaecojaaGreat
set_option linter.unusedVariables false
set_option linter.unusedSimpArgs false
set_option maxRecDepth 100000
open Go.RowKit
noncomputable section
def Bs93e7d0 : BSh := .cells 28 [.i .u64, .i .u16, .i .i64, .i .i64, .i .i64, .i .i64, .ro (.p (.a .y) (.p (.a .y) (.p (.p .b .b) (.p (.p .b .b) (.p (.p .b .b) (.p (.p (.i .i64) (.i .i64)) (.p (.p (.p .b (.p (.i .i64) (.i .u32))) (.p (.p .b (.p (.i .i64) (.i .u32))) (.p (.p .b (.p (.i .i64) (.i .u32))) (.p .b (.p (.i .i64) (.i .u32)))))) (.p (.p .b (.p (.i .i64) (.i .u32))) (.p (.p .b (.p (.i .i64) (.i .u32))) (.p (.p .b (.p (.i .i64) (.i .u32))) (.p .b (.p (.i .i64) (.i .u32))))))))))))) true]
def Bsc5caaf : BSh := .cells 105 [.ifc 60 (.ptr 4 0), .ifc 60 (.ptr 5 0), .ptr 6 0, .ptr 7 0, .ro .y true, .i .i64, .i .i64, .i .i64, .i .i64, .i .i64, .i .u8, .i .u8, .i .u8, .i .i64, .i .i64, .i .i64, .i .i64]
def Bs9c7e22 : BSh := .cells 47 [.i .u8, .i .u8, .i .u8, .i .i64, .i .i64, .i .i64, .i .i64]
def Bs4569b9 : BSh := .cells 105 [.ifc 60 (.ptr 5 0), .ifc 60 (.ptr 6 0), .cst (.pointer none), .cst (.pointer none), .ro .y true, .i .i64, .i .i64, .i .i64, .i .i64, .i .i64, .i .u8, .i .u8, .i .u8, .i .i64, .i .i64, .i .i64, .i .i64]
def Bs742582 : BSh := .cells 105 [.ifc 60 (.ptr 5 0), .ifc 60 (.ptr 6 0), .cst (.pointer none), .ptr 7 0, .ro .y true, .i .i64, .i .i64, .i .i64, .i .i64, .i .i64, .i .u8, .i .u8, .i .u8, .i .i64, .i .i64, .i .i64, .i .i64]
def Bscd2848 : BSh := .cells 105 [.ifc 60 (.ptr 5 0), .ifc 60 (.ptr 6 0), .ptr 7 0, .cst (.pointer none), .ro .y true, .i .i64, .i .i64, .i .i64, .i .i64, .i .i64, .i .u8, .i .u8, .i .u8, .i .i64, .i .i64, .i .i64, .i .i64]
def Bs877469 : BSh := .cells 105 [.ifc 60 (.ptr 5 0), .ifc 60 (.ptr 6 0), .ptr 7 0, .ptr 8 0, .ro .y true, .i .i64, .i .i64, .i .i64, .i .i64, .i .i64, .i .u8, .i .u8, .i .u8, .i .i64, .i .i64, .i .i64, .i .i64]
def Bs145c52 : BSh := .cells 105 [.ifc 60 (.ptr 4 0), .ifc 60 (.ptr 5 0), .cst (.pointer none), .cst (.pointer none), .ro .y true, .i .i64, .i .i64, .i .i64, .i .i64, .i .i64, .i .u8, .i .u8, .i .u8, .i .i64, .i .i64, .i .i64, .i .i64]
def Bs3792b7 : BSh := .cells 105 [.ifc 60 (.ptr 4 0), .ifc 60 (.ptr 5 0), .cst (.pointer none), .ptr 6 0, .ro .y true, .i .i64, .i .i64, .i .i64, .i .i64, .i .i64, .i .u8, .i .u8, .i .u8, .i .i64, .i .i64, .i .i64, .i .i64]
def Bsa8c1f1 : BSh := .cells 105 [.ifc 60 (.ptr 4 0), .ifc 60 (.ptr 5 0), .ptr 6 0, .cst (.pointer none), .ro .y true, .i .i64, .i .i64, .i .i64, .i .i64, .i .i64, .i .u8, .i .u8, .i .u8, .i .i64, .i .i64, .i .i64, .i .i64]
def Ss1505a7 : SSh := .v (.agg [.i .u64, .i .u16, .i .i64, .i .i64, .i .i64, .i .i64, .ro (.p (.a .y) (.p (.a .y) (.p (.p .b .b) (.p (.p .b .b) (.p (.p .b .b) (.p (.p (.i .i64) (.i .i64)) (.p (.p (.p .b (.p (.i .i64) (.i .u32))) (.p (.p .b (.p (.i .i64) (.i .u32))) (.p (.p .b (.p (.i .i64) (.i .u32))) (.p .b (.p (.i .i64) (.i .u32)))))) (.p (.p .b (.p (.i .i64) (.i .u32))) (.p (.p .b (.p (.i .i64) (.i .u32))) (.p (.p .b (.p (.i .i64) (.i .u32))) (.p .b (.p (.i .i64) (.i .u32))))))))))))) true])
abbrev Tyaa045d : Type := (((Ty57190c × Tyf90a5e) × ((Int × Int) × Int × Int) × Int × Int × Int) × ((Int × Int × Int) × (Int × Int × Int) × Bool × Int × Int) × ((Int × Int × Int) × Bool × Int × Int) × Tyee0fd7) × (((List (Int × Int × Int × List UInt8)) × Int × Int) × Tyee0fd7 × List (Int × Int × Int × List UInt8)) × ((Int × Int) × List (List UInt8)) × (List (Int × Int × Bool × List UInt8)) × List (List UInt8) × List (Int × Int × Bool × List UInt8)
abbrev Tyc40a53 : Type := (((Int × Ty57190c) × Tyf90a5e × (Int × Int) × Int × Int) × (Ty8dd30f × Int × Int × Int) × (Int × Int × Int) × ((Int × Int × Int) × Bool × Int × Int) × (Int × Int × Int) × Bool × Int × Int) × ((Tyee0fd7 × List (Int × Int × Int × List UInt8)) × (Int × Int) × Tyee0fd7 × List (Int × Int × Int × List UInt8)) × ((Int × Int) × List (List UInt8)) × (List (Int × Int × Bool × List UInt8)) × List (List UInt8) × List (Int × Int × Bool × List UInt8)
abbrev Tyb5b18c : Type := (Int × Ty57190c × Tyf90a5e) × (((Int × Int) × Int × Int) × Ty8dd30f) × (Int × Int × Int) × Int × Int × Int
abbrev Tybe04db : Type := ((Int × Ty57190c × Tyf90a5e) × ((Int × Int) × Int × Int) × Ty8dd30f × Int × Int × Int) × ((Int × Int × Int) × ((Int × Int × Int) × Bool × Int × Int) × Tyee0fd7) × ((List (Int × Int × Int × List UInt8)) × Int × Int) × List (List UInt8) × List (Int × Int × Bool × List UInt8)
abbrev Tyd82426 : Type := (((Int × Bool) × Ty57190c × Tyf90a5e × (Int × Int) × Int × Int) × (Ty8dd30f × Int × Int × Int) × (Int × Int × Int) × ((Int × Int × Int) × Bool × Int × Int) × (Int × Int × Int) × Bool × Int × Int) × ((Tyee0fd7 × List (Int × Int × Int × List UInt8)) × (Int × Int) × Tyee0fd7 × List (Int × Int × Int × List UInt8)) × ((Int × Int) × List (List UInt8)) × (List (Int × Int × Bool × List UInt8)) × List (List UInt8) × List (Int × Int × Bool × List UInt8)
abbrev Tyc2efd0 : Type := ((Int × Ty57190c) × Tyf90a5e × (Int × Int) × Int × Int) × (Ty8dd30f × Ty8dd30f) × (Int × Int × Int) × Int × Int × Int
abbrev Ty9b03df : Type := ((Int × Ty57190c × Tyf90a5e) × (((Int × Int) × Int × Int) × Ty8dd30f) × Ty8dd30f × Int × Int × Int) × ((Int × Int × Int) × ((Int × Int × Int) × Bool × Int × Int) × Tyee0fd7) × ((List (Int × Int × Int × List UInt8)) × Int × Int) × List (List UInt8) × List (Int × Int × Bool × List UInt8)
abbrev Ty7081cb : Type := (((Int × Ty57190c) × Tyf90a5e × ((Int × Int) × Int × Int) × Ty8dd30f) × (Ty8dd30f × Int × Int × Int) × (Int × Int × Int) × ((Int × Int × Int) × Bool × Int × Int) × (Int × Int × Int) × Bool × Int × Int) × ((Tyee0fd7 × List (Int × Int × Int × List UInt8)) × (Int × Int) × Tyee0fd7 × List (Int × Int × Int × List UInt8)) × ((Int × Int) × List (List UInt8)) × (List (Int × Int × Bool × List UInt8)) × List (List UInt8) × List (Int × Int × Bool × List UInt8)
abbrev Tya338df : Type := ((Int × Bool) × Ty57190c × Tyf90a5e) × (((Int × Int) × Int × Int) × Ty8dd30f) × Ty8dd30f × (Int × Int × Int) × Int × Int × Int
def Kfe92645 (v33 : Tyc2efd0) : Option (Ctl (Tyc40a53 ⊕ Tyb5b18c ⊕ Tybe04db ⊕ Tybe04db) (Bool)) :=
 (bd (α := Tya338df) (bd (α := Bool) (o17 v33.2.1.1.2.1.1 v33.2.1.2.2.1.1 v33.1.2.2.1.1) (fun v39 => (cnd (!v39) (some (((v33.1.1.1, true), v33.1.1.2, v33.1.2.1), (v33.1.2.2, v33.2.1.1), v33.2.1.2, v33.2.2)) (bd (α := Bool) (o17 v33.2.1.1.2.1.2 v33.2.1.2.2.1.2 v33.1.2.2.1.2) (fun v40 => (cnd (!v40) (some (((v33.1.1.1, true), v33.1.1.2, v33.1.2.1), (v33.1.2.2, v33.2.1.1), v33.2.1.2, v33.2.2)) (bd (α := Bool) (o17 v33.2.1.1.2.2.1 v33.2.1.2.2.2.1 v33.1.2.2.2.1) (fun v41 => (cnd (!v41) (some (((v33.1.1.1, true), v33.1.1.2, v33.1.2.1), (v33.1.2.2, v33.2.1.1), v33.2.1.2, v33.2.2)) (bd (α := Bool) (o17 v33.2.1.1.2.2.2 v33.2.1.2.2.2.2 v33.1.2.2.2.2) (fun v42 => (some (((v33.1.1.1, (!v42)), v33.1.1.2, v33.1.2.1), (v33.1.2.2, v33.2.1.1), v33.2.1.2, v33.2.2))))))))))))) (fun v43 => (cnd v43.1.1.2 (dnO (some false)) (some (Ctl.go (Sum.inr (Sum.inl (((IntKind.wrap .i64 (v43.1.1.1 + (1 : Int))), v43.1.2), (v43.2.1.1, v43.2.2.1), v43.2.2.2))))))))
abbrev Tyeab5a7 : Type := ((Int × Bool × Ty57190c) × (Tyf90a5e × (Int × Int) × Int × Int) × Ty8dd30f × Ty8dd30f) × (((Int × Int × Int) × Int × Int × Int) × ((Int × Int × Int) × Bool × Int × Int) × Tyee0fd7) × ((List (Int × Int × Int × List UInt8)) × Int × Int) × List (List UInt8) × List (Int × Int × Bool × List UInt8)
def Kff215e5 (v35 : Ty9b03df) (v44 : Bool) : Option Tyeab5a7 :=
 (cnd (!v44) (some (((v35.1.1.1, true, v35.1.1.2.1), (v35.1.1.2.2, v35.1.2.1.1), v35.1.2.1.2, v35.1.2.2.1), ((v35.1.2.2.2, v35.2.1.1), v35.2.1.2), v35.2.2)) (bd (α := Bool) (o17 v35.1.2.1.2.2.1.2 v35.1.2.2.1.2.1.2 v35.1.2.1.1.1.2) (fun v45 => (cnd (!v45) (some (((v35.1.1.1, true, v35.1.1.2.1), (v35.1.1.2.2, v35.1.2.1.1), v35.1.2.1.2, v35.1.2.2.1), ((v35.1.2.2.2, v35.2.1.1), v35.2.1.2), v35.2.2)) (bd (α := Bool) (o17 v35.1.2.1.2.2.2.1 v35.1.2.2.1.2.2.1 v35.1.2.1.1.2.1) (fun v46 => (cnd (!v46) (some (((v35.1.1.1, true, v35.1.1.2.1), (v35.1.1.2.2, v35.1.2.1.1), v35.1.2.1.2, v35.1.2.2.1), ((v35.1.2.2.2, v35.2.1.1), v35.2.1.2), v35.2.2)) (bd (α := Bool) (o17 v35.1.2.1.2.2.2.2 v35.1.2.2.1.2.2.2 v35.1.2.1.1.2.2) (fun v47 => (some (((v35.1.1.1, (!v47), v35.1.1.2.1), (v35.1.1.2.2, v35.1.2.1.1), v35.1.2.1.2, v35.1.2.2.1), ((v35.1.2.2.2, v35.2.1.1), v35.2.1.2), v35.2.2)))))))))))
def Kf6604d8 (v35 : Ty9b03df) : Option (Ctl (Tyc40a53 ⊕ Tyb5b18c ⊕ Tybe04db ⊕ Tybe04db) (Bool)) :=
 (bd (α := Tyeab5a7) (bd (α := Bool) (o17 v35.1.2.1.2.2.1.1 v35.1.2.2.1.2.1.1 v35.1.2.1.1.1.1) (Kff215e5 v35)) (fun v48 => (cnd v48.1.1.2.1 (dnO (some false)) (some (Ctl.go (Sum.inr (Sum.inr (Sum.inl ((((IntKind.wrap .i64 (v48.1.1.1 + (1 : Int))), v48.1.1.2.2, v48.1.2.1.1), v48.1.2.1.2, v48.1.2.2.2, v48.2.1.1.1), (v48.2.1.1.2, v48.2.1.2), v48.2.2)))))))))
def Kf917dfd (v37 : Ty9b03df) : Option (Ctl (Tyc40a53 ⊕ Tyb5b18c ⊕ Tybe04db ⊕ Tybe04db) (Bool)) :=
 (bd (α := Tyeab5a7) (bd (α := Bool) (o17 v37.1.2.1.2.2.1.1 v37.1.2.2.1.2.1.1 v37.1.2.1.1.1.1) (Kff215e5 v37)) (fun v53 => (cnd v53.1.1.2.1 (dnO (some false)) (some (Ctl.go (Sum.inr (Sum.inr (Sum.inr ((((IntKind.wrap .i64 (v53.1.1.1 + (1 : Int))), v53.1.1.2.2, v53.1.2.1.1), v53.1.2.1.2, v53.1.2.2.2, v53.2.1.1.1), (v53.2.1.1.2, v53.2.1.2), v53.2.2)))))))))
abbrev Ty6bca67 : Type := (((Int × Bool) × Ty57190c × Tyf90a5e × (Int × Int) × Int × Int) × (Ty8dd30f × Ty8dd30f) × (Int × Int × Int) × (Int × Int × Int) × (Int × Int × Int) × Bool × Int × Int) × ((((Int × Int × Int) × Bool × Int × Int) × Tyee0fd7) × (List (Int × Int × Int × List UInt8)) × (Int × Int) × Tyee0fd7) × ((List (Int × Int × Int × List UInt8)) × (Int × Int) × List (List UInt8)) × (List (Int × Int × Bool × List UInt8)) × List (List UInt8) × List (Int × Int × Bool × List UInt8)
def Kffcfb99 (v38 : Ty7081cb) : Option (Ctl (Tyc40a53 ⊕ Tyb5b18c ⊕ Tybe04db ⊕ Tybe04db) (Bool)) :=
 (bd (α := Ty6bca67) (bd (α := Bool) (o17 v38.1.1.2.2.2.2.1.1 v38.1.2.1.1.2.1.1 v38.1.1.2.2.1.1.1) (fun v54 => (cnd (!v54) (some ((((v38.1.1.1.1, true), v38.1.1.1.2, v38.1.1.2.1, v38.1.1.2.2.1), (v38.1.1.2.2.2, v38.1.2.1.1), v38.1.2.1.2, v38.1.2.2.1, v38.1.2.2.2.1), ((v38.1.2.2.2.2, v38.2.1.1.1), v38.2.1.1.2, v38.2.1.2.1, v38.2.1.2.2.1), (v38.2.1.2.2.2, v38.2.2.1), v38.2.2.2)) (bd (α := Bool) (o17 v38.1.1.2.2.2.2.1.2 v38.1.2.1.1.2.1.2 v38.1.1.2.2.1.1.2) (fun v55 => (cnd (!v55) (some ((((v38.1.1.1.1, true), v38.1.1.1.2, v38.1.1.2.1, v38.1.1.2.2.1), (v38.1.1.2.2.2, v38.1.2.1.1), v38.1.2.1.2, v38.1.2.2.1, v38.1.2.2.2.1), ((v38.1.2.2.2.2, v38.2.1.1.1), v38.2.1.1.2, v38.2.1.2.1, v38.2.1.2.2.1), (v38.2.1.2.2.2, v38.2.2.1), v38.2.2.2)) (bd (α := Bool) (o17 v38.1.1.2.2.2.2.2.1 v38.1.2.1.1.2.2.1 v38.1.1.2.2.1.2.1) (fun v56 => (cnd (!v56) (some ((((v38.1.1.1.1, true), v38.1.1.1.2, v38.1.1.2.1, v38.1.1.2.2.1), (v38.1.1.2.2.2, v38.1.2.1.1), v38.1.2.1.2, v38.1.2.2.1, v38.1.2.2.2.1), ((v38.1.2.2.2.2, v38.2.1.1.1), v38.2.1.1.2, v38.2.1.2.1, v38.2.1.2.2.1), (v38.2.1.2.2.2, v38.2.2.1), v38.2.2.2)) (bd (α := Bool) (o17 v38.1.1.2.2.2.2.2.2 v38.1.2.1.1.2.2.2 v38.1.1.2.2.1.2.2) (fun v57 => (some ((((v38.1.1.1.1, (!v57)), v38.1.1.1.2, v38.1.1.2.1, v38.1.1.2.2.1), (v38.1.1.2.2.2, v38.1.2.1.1), v38.1.2.1.2, v38.1.2.2.1, v38.1.2.2.2.1), ((v38.1.2.2.2.2, v38.2.1.1.1), v38.2.1.1.2, v38.2.1.2.1, v38.2.1.2.2.1), (v38.2.1.2.2.2, v38.2.2.1), v38.2.2.2))))))))))))) (fun v58 => (cnd v58.1.1.1.2 (dnO (some false)) (some (Ctl.go (Sum.inl (((((IntKind.wrap .i64 (v58.1.1.1.1 + (1 : Int))), v58.1.1.2.1), v58.1.1.2.2), (v58.1.2.1.2, v58.1.2.2.1), v58.1.2.2.2.1, v58.1.2.2.2.2, v58.2.1.1.1), ((v58.2.1.1.2, v58.2.1.2.1), v58.2.1.2.2.1, v58.2.1.2.2.2, v58.2.2.1.1), v58.2.2.1.2, v58.2.2.2)))))))
def Kf335143 (v32 : Tyc2efd0 ⊕ Ty9b03df ⊕ Ty9b03df ⊕ Ty7081cb) : Option (Ctl (Tyc40a53 ⊕ Tyb5b18c ⊕ Tybe04db ⊕ Tybe04db) (Bool)) :=
 (sm v32 Kfe92645 (fun v34 => (sm v34 Kf6604d8 (fun v36 => (sm v36 Kf917dfd Kffcfb99)))))
abbrev Ty5fd38e : Type := ((Int × Bool) × Ty57190c × Tyf90a5e) × (((Int × Int) × Int × Int) × Ty8dd30f) × (Int × Int × Int) × Int × Int × Int
abbrev Tyc34b63 : Type := ((Int × Bool × Ty57190c) × (Tyf90a5e × (Int × Int) × Int × Int) × Ty8dd30f × Int × Int × Int) × ((Int × Int × Int) × ((Int × Int × Int) × Bool × Int × Int) × Tyee0fd7) × ((List (Int × Int × Int × List UInt8)) × Int × Int) × List (List UInt8) × List (Int × Int × Bool × List UInt8)
def Kf99589d (v109 : Tyc34b63) (v121 : ((Ty87c277 × Tyf90a5e) × (Int × Int × Int) × Int × Int × Int) ⊕ Tye6a7c0 ⊕ Tye6a7c0 ⊕ Ty5f320a) : Option (Tyc2efd0 ⊕ Ty9b03df ⊕ Ty9b03df ⊕ Ty7081cb) :=
 (sm v121 (fun v122 => (some (Sum.inl (((v109.1.1.1, v109.1.1.2.2), v122.1.2, v109.1.2.1.2), (v109.1.2.2.1, (v122.1.1.2.2.1.1.2, v122.1.1.2.2.1.2), v122.1.1.2.2.2), v122.2)))) (fun v123 => (sm v123 (fun v124 => (some (Sum.inr (Sum.inl (((v109.1.1.1, v109.1.1.2.2, v124.1.1.2), (v109.1.2.1.2, v109.1.2.2.1), ((v124.1.1.1.2.2.1.1.2, v124.1.1.1.2.2.1.2), v124.1.1.1.2.2.2), v124.1.2.1), (v124.1.2.2.1, v124.1.2.2.2, v124.2.1.1), (v124.2.1.2, v124.2.2.1), v124.2.2.2))))) (fun v125 => (sm v125 (fun v126 => (some (Sum.inr (Sum.inr (Sum.inl (((v109.1.1.1, v109.1.1.2.2, v126.1.1.2), (v109.1.2.1.2, v109.1.2.2.1), ((v126.1.1.1.2.2.1.1.2, v126.1.1.1.2.2.1.2), v126.1.1.1.2.2.2), v126.1.2.1), (v126.1.2.2.1, v126.1.2.2.2, v126.2.1.1), (v126.2.1.2, v126.2.2.1), v126.2.2.2)))))) (fun v127 => (some (Sum.inr (Sum.inr (Sum.inr ((((v109.1.1.1, v109.1.1.2.2), v127.1.1.1.2, v109.1.2.1.2, v109.1.2.2.1), (((v127.1.1.1.1.2.2.1.1.2, v127.1.1.1.1.2.2.1.2), v127.1.1.1.1.2.2.2), v127.1.1.2.1), v127.1.1.2.2, v127.1.2.1), (v127.1.2.2, v127.2.1.1.1, v127.2.1.1.2, v127.2.1.2.1), (v127.2.1.2.2, v127.2.2.1.1), v127.2.2.1.2, v127.2.2.2)))))))))))
def Kf2f944d (v128 : Tyc2efd0 ⊕ Ty9b03df ⊕ Ty9b03df ⊕ Ty7081cb) : Option (Ctl (Tyc40a53 ⊕ Tyb5b18c ⊕ Tybe04db ⊕ Tybe04db) (Bool)) :=
 (sm v128 Kfe92645 (fun v130 => (sm v130 Kf917dfd (fun v132 => (sm v132 Kf6604d8 Kffcfb99)))))
def o6_s0 : Sch := ⟨[(1, .v (.c (.ptr 0 0))), (3, .v (.c (.cst (.pointer none)))), (4, .v (.c (.ptr 1 0)))], [Bs93e7d0, Bs39b007]⟩
def o6_s1 : Sch := ⟨[(1, .v (.c (.ptr 0 0))), (3, .v (.c (.ptr 1 0))), (4, .v (.c (.ptr 2 0)))], [Bs93e7d0, Bs431d72, Bs39b007, Bsa76b8c, Bsa76b8c, Bs745448, Bs997e77, Bs9a591a, Bsd348fb, Bs757da4, Bs9a591a, Bsd348fb, Bs171075, .row (.a .y) 33, Bs2be90b, .row (.a .y) 33, Bs2be90b]⟩
def o6_s2 : Sch := ⟨[(1, .v (.c (.ptr 0 0))), (3, .v (.c (.ptr 1 0))), (4, .v (.c (.ptr 2 0))), (5, .v (.c (.ptr 3 0))), (6, .v (.c (.i .i64))), (28, .v (.c (.b)))], [Bs93e7d0, Bsc5caaf, Bs39b007, Bs9c7e22, Bsa76b8c, Bsa76b8c, Bs71e0c0, Bsaa0460, Bs9a591a, Bsd348fb, Bsc446fd, Bs9a591a, Bsd348fb, Bsd8dd64, .row (.a .y) 33, Bs2be90b, .row (.a .y) 33, Bs2be90b]⟩
def o6_s3 : Sch := ⟨[(1, .v (.c (.ptr 0 0))), (3, .v (.c (.ptr 1 0))), (4, .v (.c (.ptr 2 0))), (5, .v (.c (.ptr 3 0))), (6, .v (.c (.i .i64))), (8, .v (.c (.ptr 4 0)))], [Bs93e7d0, Bs4569b9, Bs39b007, Bs9c7e22, Bs9c7e22, Bsa76b8c, Bsa76b8c]⟩
def o6_s4 : Sch := ⟨[(1, .v (.c (.ptr 0 0))), (3, .v (.c (.ptr 1 0))), (4, .v (.c (.ptr 2 0))), (5, .v (.c (.ptr 3 0))), (6, .v (.c (.i .i64))), (8, .v (.c (.ptr 4 0)))], [Bs93e7d0, Bs742582, Bs39b007, Bs9c7e22, Bs9c7e22, Bsa76b8c, Bsa76b8c, Bs71e0c0, Bs9a591a, Bsd348fb, Bs94153a, .row (.a .y) 33, Bs2be90b]⟩
def o6_s5 : Sch := ⟨[(1, .v (.c (.ptr 0 0))), (3, .v (.c (.ptr 1 0))), (4, .v (.c (.ptr 2 0))), (5, .v (.c (.ptr 3 0))), (6, .v (.c (.i .i64))), (8, .v (.c (.ptr 4 0)))], [Bs93e7d0, Bscd2848, Bs39b007, Bs9c7e22, Bs9c7e22, Bsa76b8c, Bsa76b8c, Bs71e0c0, Bs9a591a, Bsd348fb, Bs94153a, .row (.a .y) 33, Bs2be90b]⟩
def o6_s6 : Sch := ⟨[(1, .v (.c (.ptr 0 0))), (3, .v (.c (.ptr 1 0))), (4, .v (.c (.ptr 2 0))), (5, .v (.c (.ptr 3 0))), (6, .v (.c (.i .i64))), (8, .v (.c (.ptr 4 0)))], [Bs93e7d0, Bs877469, Bs39b007, Bs9c7e22, Bs9c7e22, Bsa76b8c, Bsa76b8c, Bsf8f109, Bs167771, Bs9a591a, Bsd348fb, Bs171075, Bs9a591a, Bsd348fb, Bs28e59f, .row (.a .y) 33, Bs2be90b, .row (.a .y) 33, Bs2be90b]⟩
def o6_s7 : Sch := ⟨[(1, .v (.c (.ptr 0 0))), (3, .v (.c (.ptr 1 0))), (4, .v (.c (.ptr 2 0))), (5, .v (.c (.ptr 3 0))), (6, .v (.c (.i .i64))), (8, .v (.c (.ptr 4 0))), (84, .v (.c (.b)))], [Bs93e7d0, Bs4569b9, Bs39b007, Bs9c7e22, Bs9c7e22, Bsa76b8c, Bsa76b8c]⟩
def o6_s8 : Sch := ⟨[(1, .v (.c (.ptr 0 0))), (3, .v (.c (.ptr 1 0))), (4, .v (.c (.ptr 2 0))), (5, .v (.c (.ptr 3 0))), (6, .v (.c (.i .i64))), (8, .v (.c (.ptr 4 0))), (84, .v (.c (.b)))], [Bs93e7d0, Bs742582, Bs39b007, Bs9c7e22, Bs9c7e22, Bsa76b8c, Bsa76b8c, Bs71e0c0, Bs9a591a, Bsd348fb, Bs94153a, .row (.a .y) 33, Bs2be90b]⟩
def o6_s9 : Sch := ⟨[(1, .v (.c (.ptr 0 0))), (3, .v (.c (.ptr 1 0))), (4, .v (.c (.ptr 2 0))), (5, .v (.c (.ptr 3 0))), (6, .v (.c (.i .i64))), (8, .v (.c (.ptr 4 0))), (84, .v (.c (.b)))], [Bs93e7d0, Bscd2848, Bs39b007, Bs9c7e22, Bs9c7e22, Bsa76b8c, Bsa76b8c, Bs71e0c0, Bs9a591a, Bsd348fb, Bs94153a, .row (.a .y) 33, Bs2be90b]⟩
def o6_s10 : Sch := ⟨[(1, .v (.c (.ptr 0 0))), (3, .v (.c (.ptr 1 0))), (4, .v (.c (.ptr 2 0))), (5, .v (.c (.ptr 3 0))), (6, .v (.c (.i .i64))), (8, .v (.c (.ptr 4 0))), (84, .v (.c (.b)))], [Bs93e7d0, Bs877469, Bs39b007, Bs9c7e22, Bs9c7e22, Bsa76b8c, Bsa76b8c, Bsf8f109, Bs167771, Bs9a591a, Bsd348fb, Bs171075, Bs9a591a, Bsd348fb, Bs28e59f, .row (.a .y) 33, Bs2be90b, .row (.a .y) 33, Bs2be90b]⟩
def o6_s11 : Sch := ⟨[(1, .v (.c (.ptr 0 0))), (3, .v (.c (.ptr 1 0))), (4, .v (.c (.ptr 2 0))), (5, .v (.c (.ptr 3 0))), (6, .v (.c (.i .i64))), (28, .v (.c (.b)))], [Bs93e7d0, Bs145c52, Bs39b007, Bs9c7e22, Bsa76b8c, Bsa76b8c]⟩
def o6_s12 : Sch := ⟨[(1, .v (.c (.ptr 0 0))), (3, .v (.c (.ptr 1 0))), (4, .v (.c (.ptr 2 0))), (5, .v (.c (.ptr 3 0))), (6, .v (.c (.i .i64))), (28, .v (.c (.b)))], [Bs93e7d0, Bs3792b7, Bs39b007, Bs9c7e22, Bsa76b8c, Bsa76b8c, Bs745448, Bs9a591a, Bsd348fb, Bsd1e5fa, .row (.a .y) 33, Bs2be90b]⟩
def o6_s13 : Sch := ⟨[(1, .v (.c (.ptr 0 0))), (3, .v (.c (.ptr 1 0))), (4, .v (.c (.ptr 2 0))), (5, .v (.c (.ptr 3 0))), (6, .v (.c (.i .i64))), (28, .v (.c (.b)))], [Bs93e7d0, Bsa8c1f1, Bs39b007, Bs9c7e22, Bsa76b8c, Bsa76b8c, Bs745448, Bs9a591a, Bsd348fb, Bsd1e5fa, .row (.a .y) 33, Bs2be90b]⟩
def o6_s14 : Sch := ⟨[(1, .v (.c (.ptr 0 0))), (3, .v (.c (.ptr 1 0))), (4, .v (.c (.ptr 2 0))), (5, .v (.c (.ptr 3 0))), (6, .v (.c (.i .i64)))], [Bs93e7d0, Bsc5caaf, Bs39b007, Bs9c7e22, Bsa76b8c, Bsa76b8c, Bs71e0c0, Bsaa0460, Bs9a591a, Bsd348fb, Bsc446fd, Bs9a591a, Bsd348fb, Bsd8dd64, .row (.a .y) 33, Bs2be90b, .row (.a .y) 33, Bs2be90b]⟩
def o6_s15 : Sch := ⟨[(1, .v (.c (.ptr 0 0))), (3, .v (.c (.ptr 1 0))), (4, .v (.c (.ptr 2 0))), (5, .v (.c (.ptr 3 0))), (6, .v (.c (.i .i64)))], [Bs93e7d0, Bs145c52, Bs39b007, Bs9c7e22, Bsa76b8c, Bsa76b8c]⟩
def o6_s16 : Sch := ⟨[(1, .v (.c (.ptr 0 0))), (3, .v (.c (.ptr 1 0))), (4, .v (.c (.ptr 2 0))), (5, .v (.c (.ptr 3 0))), (6, .v (.c (.i .i64)))], [Bs93e7d0, Bs3792b7, Bs39b007, Bs9c7e22, Bsa76b8c, Bsa76b8c, Bs745448, Bs9a591a, Bsd348fb, Bsd1e5fa, .row (.a .y) 33, Bs2be90b]⟩
def o6_s17 : Sch := ⟨[(1, .v (.c (.ptr 0 0))), (3, .v (.c (.ptr 1 0))), (4, .v (.c (.ptr 2 0))), (5, .v (.c (.ptr 3 0))), (6, .v (.c (.i .i64)))], [Bs93e7d0, Bsa8c1f1, Bs39b007, Bs9c7e22, Bsa76b8c, Bsa76b8c, Bs745448, Bs9a591a, Bsd348fb, Bsd1e5fa, .row (.a .y) 33, Bs2be90b]⟩
def p6 : Sch := ⟨[(0, Ss1505a7)], []⟩
def r6 : List Sch := [⟨[(0, .v (.c (.b)))], []⟩]
def o6_b0 (v10 : Tyc40a53 ⊕ Tyb5b18c ⊕ Tybe04db ⊕ Tybe04db) :=
 (sm v10 (fun v11 => (bd (α := Tyd82426) (cnd (decide (v11.1.1.1.1 < ((v11.1.1.1.2.2.2.2.length : Nat) : Int))) (some ((((v11.1.1.1.1, (decide (v11.1.1.1.1 < (20 : Int)))), v11.1.1.1.2, v11.1.1.2), v11.1.2), v11.2)) (some ((((v11.1.1.1.1, false), v11.1.1.1.2, v11.1.1.2), v11.1.2), v11.2))) (fun v13 => (cnd v13.1.1.1.2 (gd (decide ((0 : Int) ≤ v13.1.1.1.1 ∧ v13.1.1.1.1 < ((v13.1.1.2.1.2.2.2.length : Nat) : Int))) (bd (α := Tyc2efd0 ⊕ Ty9b03df ⊕ Ty9b03df ⊕ Ty7081cb) (bd (α := (List UInt8)) (o10 ((List.getD v13.1.1.2.1.2.2.2 v13.1.1.1.1.toNat dCy).1) (20 : Int)) (fun v23 => (bd (α := (List UInt8)) (o10 (((List.getD v13.1.1.2.1.2.2.2 v13.1.1.1.1.toNat dCy).2).1) (20 : Int)) (fun v24 => (bd (α := ((Ty87c277 × Tyf90a5e) × (Int × Int × Int) × Int × Int × Int) ⊕ Tye6a7c0 ⊕ Tye6a7c0 ⊕ Ty5f320a) (o9 v23 v24 (((((((((List.getD v13.1.1.2.1.2.2.2 v13.1.1.1.1.toNat dCy).2).2).1).1, ((((List.getD v13.1.1.2.1.2.2.2 v13.1.1.1.1.toNat dCy).2).2).1).2), (((((List.getD v13.1.1.2.1.2.2.2 v13.1.1.1.1.toNat dCy).2).2).2).1).1, (((((List.getD v13.1.1.2.1.2.2.2 v13.1.1.1.1.toNat dCy).2).2).2).1).2), (((((((List.getD v13.1.1.2.1.2.2.2 v13.1.1.1.1.toNat dCy).2).2).2).2).1).1, ((((((List.getD v13.1.1.2.1.2.2.2 v13.1.1.1.1.toNat dCy).2).2).2).2).1).2), (((((((List.getD v13.1.1.2.1.2.2.2 v13.1.1.1.1.toNat dCy).2).2).2).2).2).1).1, (((((((List.getD v13.1.1.2.1.2.2.2 v13.1.1.1.1.toNat dCy).2).2).2).2).2).1).2), (((((((((((List.getD v13.1.1.2.1.2.2.2 v13.1.1.1.1.toNat dCy).2).2).2).2).2).2).1).1).1, ((((((((((List.getD v13.1.1.2.1.2.2.2 v13.1.1.1.1.toNat dCy).2).2).2).2).2).2).1).1).2).1), ((((((((((List.getD v13.1.1.2.1.2.2.2 v13.1.1.1.1.toNat dCy).2).2).2).2).2).2).1).1).2).2, ((((((((((List.getD v13.1.1.2.1.2.2.2 v13.1.1.1.1.toNat dCy).2).2).2).2).2).2).1).2).1).1), ((((((((((((List.getD v13.1.1.2.1.2.2.2 v13.1.1.1.1.toNat dCy).2).2).2).2).2).2).1).2).1).2).1, (((((((((((List.getD v13.1.1.2.1.2.2.2 v13.1.1.1.1.toNat dCy).2).2).2).2).2).2).1).2).1).2).2), (((((((((((List.getD v13.1.1.2.1.2.2.2 v13.1.1.1.1.toNat dCy).2).2).2).2).2).2).1).2).2).1).1, ((((((((((((List.getD v13.1.1.2.1.2.2.2 v13.1.1.1.1.toNat dCy).2).2).2).2).2).2).1).2).2).1).2).1), (((((((((((((((List.getD v13.1.1.2.1.2.2.2 v13.1.1.1.1.toNat dCy).2).2).2).2).2).2).1).2).2).1).2).2, (((((((((((List.getD v13.1.1.2.1.2.2.2 v13.1.1.1.1.toNat dCy).2).2).2).2).2).2).1).2).2).2).1), ((((((((((((List.getD v13.1.1.2.1.2.2.2 v13.1.1.1.1.toNat dCy).2).2).2).2).2).2).1).2).2).2).2).1, ((((((((((((List.getD v13.1.1.2.1.2.2.2 v13.1.1.1.1.toNat dCy).2).2).2).2).2).2).1).2).2).2).2).2), ((((((((((List.getD v13.1.1.2.1.2.2.2 v13.1.1.1.1.toNat dCy).2).2).2).2).2).2).2).1).1, ((((((((((List.getD v13.1.1.2.1.2.2.2 v13.1.1.1.1.toNat dCy).2).2).2).2).2).2).2).1).2).1), ((((((((((List.getD v13.1.1.2.1.2.2.2 v13.1.1.1.1.toNat dCy).2).2).2).2).2).2).2).1).2).2, ((((((((((List.getD v13.1.1.2.1.2.2.2 v13.1.1.1.1.toNat dCy).2).2).2).2).2).2).2).2).1).1), (((((((((((((List.getD v13.1.1.2.1.2.2.2 v13.1.1.1.1.toNat dCy).2).2).2).2).2).2).2).2).1).2).1, (((((((((((List.getD v13.1.1.2.1.2.2.2 v13.1.1.1.1.toNat dCy).2).2).2).2).2).2).2).2).1).2).2), (((((((((((List.getD v13.1.1.2.1.2.2.2 v13.1.1.1.1.toNat dCy).2).2).2).2).2).2).2).2).2).1).1, ((((((((((((List.getD v13.1.1.2.1.2.2.2 v13.1.1.1.1.toNat dCy).2).2).2).2).2).2).2).2).2).1).2).1), (((((((((((((List.getD v13.1.1.2.1.2.2.2 v13.1.1.1.1.toNat dCy).2).2).2).2).2).2).2).2).2).1).2).2, (((((((((((List.getD v13.1.1.2.1.2.2.2 v13.1.1.1.1.toNat dCy).2).2).2).2).2).2).2).2).2).2).1), ((((((((((((List.getD v13.1.1.2.1.2.2.2 v13.1.1.1.1.toNat dCy).2).2).2).2).2).2).2).2).2).2).2).1, ((((((((((((List.getD v13.1.1.2.1.2.2.2 v13.1.1.1.1.toNat dCy).2).2).2).2).2).2).2).2).2).2).2).2) v13.1.1.2.2.1 v13.1.2.1.2 v13.1.2.2.1 v13.1.2.2.2.1 v13.2.1.1.1 v13.2.1.1.2 v13.2.1.2.1 v13.2.2.1.2 v13.2.2.2.1 v13.1.2.2.2.2 v13.2.1.2.2.1 v13.2.1.2.2.2 v13.2.2.1.1 v13.2.2.2.2.1 v13.2.2.2.2.2) (fun v25 => (sm v25 (fun v26 => (some (Sum.inl (((v13.1.1.1.1, v13.1.1.2.1), v26.1.2, v13.1.1.2.2.2), (v13.1.2.1.1, (v26.1.1.2.2.1.1.2, v26.1.1.2.2.1.2), v26.1.1.2.2.2), v26.2)))) (fun v27 => (sm v27 (fun v28 => (some (Sum.inr (Sum.inl (((v13.1.1.1.1, v13.1.1.2.1, v28.1.1.2), (v13.1.1.2.2.2, v13.1.2.1.1), ((v28.1.1.1.2.2.1.1.2, v28.1.1.1.2.2.1.2), v28.1.1.1.2.2.2), v28.1.2.1), (v28.1.2.2.1, v28.1.2.2.2, v28.2.1.1), (v28.2.1.2, v28.2.2.1), v28.2.2.2))))) (fun v29 => (sm v29 (fun v30 => (some (Sum.inr (Sum.inr (Sum.inl (((v13.1.1.1.1, v13.1.1.2.1, v30.1.1.2), (v13.1.1.2.2.2, v13.1.2.1.1), ((v30.1.1.1.2.2.1.1.2, v30.1.1.1.2.2.1.2), v30.1.1.1.2.2.2), v30.1.2.1), (v30.1.2.2.1, v30.1.2.2.2, v30.2.1.1), (v30.2.1.2, v30.2.2.1), v30.2.2.2)))))) (fun v31 => (some (Sum.inr (Sum.inr (Sum.inr ((((v13.1.1.1.1, v13.1.1.2.1), v31.1.1.1.2, v13.1.1.2.2.2, v13.1.2.1.1), (((v31.1.1.1.1.2.2.1.1.2, v31.1.1.1.1.2.2.1.2), v31.1.1.1.1.2.2.2), v31.1.1.2.1), v31.1.1.2.2, v31.1.2.1), (v31.1.2.2, v31.2.1.1.1, v31.2.1.1.2, v31.2.1.2.1), (v31.2.1.2.2, v31.2.2.1.1), v31.2.2.1.2, v31.2.2.2))))))))))))))))) Kf335143)) (dnO (some true)))))) (fun v12 => (sm v12 (fun v59 => (bd (α := Ty5fd38e) (cnd (decide (v59.1.1 < ((v59.1.2.1.2.2.2.length : Nat) : Int))) (some (((v59.1.1, (decide (v59.1.1 < (20 : Int)))), v59.1.2), v59.2)) (some (((v59.1.1, false), v59.1.2), v59.2))) (fun v61 => (cnd v61.1.1.2 (gd (decide ((0 : Int) ≤ v61.1.1.1 ∧ v61.1.1.1 < ((v61.1.2.1.2.2.2.length : Nat) : Int))) (bd (α := Tyc2efd0 ⊕ Ty9b03df ⊕ Ty9b03df ⊕ Ty7081cb) (bd (α := (List UInt8)) (o10 ((List.getD v61.1.2.1.2.2.2 v61.1.1.1.toNat dCy).1) (20 : Int)) (fun v71 => (bd (α := (List UInt8)) (o10 (((List.getD v61.1.2.1.2.2.2 v61.1.1.1.toNat dCy).2).1) (20 : Int)) (fun v72 => (bd (α := ((Ty87c277 × Tyf90a5e) × (Int × Int × Int) × Int × Int × Int) ⊕ Tye6a7c0 ⊕ Tye6a7c0 ⊕ Ty5f320a) (o9v1 v71 v72 (((((((((List.getD v61.1.2.1.2.2.2 v61.1.1.1.toNat dCy).2).2).1).1, ((((List.getD v61.1.2.1.2.2.2 v61.1.1.1.toNat dCy).2).2).1).2), (((((List.getD v61.1.2.1.2.2.2 v61.1.1.1.toNat dCy).2).2).2).1).1, (((((List.getD v61.1.2.1.2.2.2 v61.1.1.1.toNat dCy).2).2).2).1).2), (((((((List.getD v61.1.2.1.2.2.2 v61.1.1.1.toNat dCy).2).2).2).2).1).1, ((((((List.getD v61.1.2.1.2.2.2 v61.1.1.1.toNat dCy).2).2).2).2).1).2), (((((((List.getD v61.1.2.1.2.2.2 v61.1.1.1.toNat dCy).2).2).2).2).2).1).1, (((((((List.getD v61.1.2.1.2.2.2 v61.1.1.1.toNat dCy).2).2).2).2).2).1).2), (((((((((((List.getD v61.1.2.1.2.2.2 v61.1.1.1.toNat dCy).2).2).2).2).2).2).1).1).1, ((((((((((List.getD v61.1.2.1.2.2.2 v61.1.1.1.toNat dCy).2).2).2).2).2).2).1).1).2).1), ((((((((((List.getD v61.1.2.1.2.2.2 v61.1.1.1.toNat dCy).2).2).2).2).2).2).1).1).2).2, ((((((((((List.getD v61.1.2.1.2.2.2 v61.1.1.1.toNat dCy).2).2).2).2).2).2).1).2).1).1), ((((((((((((List.getD v61.1.2.1.2.2.2 v61.1.1.1.toNat dCy).2).2).2).2).2).2).1).2).1).2).1, (((((((((((List.getD v61.1.2.1.2.2.2 v61.1.1.1.toNat dCy).2).2).2).2).2).2).1).2).1).2).2), (((((((((((List.getD v61.1.2.1.2.2.2 v61.1.1.1.toNat dCy).2).2).2).2).2).2).1).2).2).1).1, ((((((((((((List.getD v61.1.2.1.2.2.2 v61.1.1.1.toNat dCy).2).2).2).2).2).2).1).2).2).1).2).1), (((((((((((((((List.getD v61.1.2.1.2.2.2 v61.1.1.1.toNat dCy).2).2).2).2).2).2).1).2).2).1).2).2, (((((((((((List.getD v61.1.2.1.2.2.2 v61.1.1.1.toNat dCy).2).2).2).2).2).2).1).2).2).2).1), ((((((((((((List.getD v61.1.2.1.2.2.2 v61.1.1.1.toNat dCy).2).2).2).2).2).2).1).2).2).2).2).1, ((((((((((((List.getD v61.1.2.1.2.2.2 v61.1.1.1.toNat dCy).2).2).2).2).2).2).1).2).2).2).2).2), ((((((((((List.getD v61.1.2.1.2.2.2 v61.1.1.1.toNat dCy).2).2).2).2).2).2).2).1).1, ((((((((((List.getD v61.1.2.1.2.2.2 v61.1.1.1.toNat dCy).2).2).2).2).2).2).2).1).2).1), ((((((((((List.getD v61.1.2.1.2.2.2 v61.1.1.1.toNat dCy).2).2).2).2).2).2).2).1).2).2, ((((((((((List.getD v61.1.2.1.2.2.2 v61.1.1.1.toNat dCy).2).2).2).2).2).2).2).2).1).1), (((((((((((((List.getD v61.1.2.1.2.2.2 v61.1.1.1.toNat dCy).2).2).2).2).2).2).2).2).1).2).1, (((((((((((List.getD v61.1.2.1.2.2.2 v61.1.1.1.toNat dCy).2).2).2).2).2).2).2).2).1).2).2), (((((((((((List.getD v61.1.2.1.2.2.2 v61.1.1.1.toNat dCy).2).2).2).2).2).2).2).2).2).1).1, ((((((((((((List.getD v61.1.2.1.2.2.2 v61.1.1.1.toNat dCy).2).2).2).2).2).2).2).2).2).1).2).1), (((((((((((((List.getD v61.1.2.1.2.2.2 v61.1.1.1.toNat dCy).2).2).2).2).2).2).2).2).2).1).2).2, (((((((((((List.getD v61.1.2.1.2.2.2 v61.1.1.1.toNat dCy).2).2).2).2).2).2).2).2).2).2).1), ((((((((((((List.getD v61.1.2.1.2.2.2 v61.1.1.1.toNat dCy).2).2).2).2).2).2).2).2).2).2).2).1, ((((((((((((List.getD v61.1.2.1.2.2.2 v61.1.1.1.toNat dCy).2).2).2).2).2).2).2).2).2).2).2).2) v61.1.2.2 v61.2.2.1 v61.2.2.2) (fun v73 => (sm v73 (fun v74 => (some (Sum.inl (((v61.1.1.1, v61.1.2.1), v74.1.2, v61.2.1.1), (v61.2.1.2, (v74.1.1.2.2.1.1.2, v74.1.1.2.2.1.2), v74.1.1.2.2.2), v74.2)))) (fun v75 => (sm v75 (fun v76 => (some (Sum.inr (Sum.inl (((v61.1.1.1, v61.1.2.1, v76.1.1.2), v61.2.1, ((v76.1.1.1.2.2.1.1.2, v76.1.1.1.2.2.1.2), v76.1.1.1.2.2.2), v76.1.2.1), (v76.1.2.2.1, v76.1.2.2.2, v76.2.1.1), (v76.2.1.2, v76.2.2.1), v76.2.2.2))))) (fun v77 => (sm v77 (fun v78 => (some (Sum.inr (Sum.inr (Sum.inl (((v61.1.1.1, v61.1.2.1, v78.1.1.2), v61.2.1, ((v78.1.1.1.2.2.1.1.2, v78.1.1.1.2.2.1.2), v78.1.1.1.2.2.2), v78.1.2.1), (v78.1.2.2.1, v78.1.2.2.2, v78.2.1.1), (v78.2.1.2, v78.2.2.1), v78.2.2.2)))))) (fun v79 => (some (Sum.inr (Sum.inr (Sum.inr ((((v61.1.1.1, v61.1.2.1), v79.1.1.1.2, v61.2.1), (((v79.1.1.1.1.2.2.1.1.2, v79.1.1.1.1.2.2.1.2), v79.1.1.1.1.2.2.2), v79.1.1.2.1), v79.1.1.2.2, v79.1.2.1), (v79.1.2.2, v79.2.1.1.1, v79.2.1.1.2, v79.2.1.2.1), (v79.2.1.2.2, v79.2.2.1.1), v79.2.2.1.2, v79.2.2.2))))))))))))))))) Kf335143)) (dnO (some true)))))) (fun v60 => (sm v60 (fun v107 => (bd (α := Tyc34b63) (cnd (decide (v107.1.1.1 < ((v107.1.1.2.1.2.2.2.length : Nat) : Int))) (some (((v107.1.1.1, (decide (v107.1.1.1 < (20 : Int))), v107.1.1.2.1), (v107.1.1.2.2, v107.1.2.1), v107.1.2.2), v107.2)) (some (((v107.1.1.1, false, v107.1.1.2.1), (v107.1.1.2.2, v107.1.2.1), v107.1.2.2), v107.2))) (fun v109 => (cnd v109.1.1.2.1 (gd (decide ((0 : Int) ≤ v109.1.1.1 ∧ v109.1.1.1 < ((v109.1.1.2.2.2.2.2.length : Nat) : Int))) (bd (α := Tyc2efd0 ⊕ Ty9b03df ⊕ Ty9b03df ⊕ Ty7081cb) (bd (α := (List UInt8)) (o10 ((List.getD v109.1.1.2.2.2.2.2 v109.1.1.1.toNat dCy).1) (20 : Int)) (fun v119 => (bd (α := (List UInt8)) (o10 (((List.getD v109.1.1.2.2.2.2.2 v109.1.1.1.toNat dCy).2).1) (20 : Int)) (fun v120 => (bd (α := ((Ty87c277 × Tyf90a5e) × (Int × Int × Int) × Int × Int × Int) ⊕ Tye6a7c0 ⊕ Tye6a7c0 ⊕ Ty5f320a) (o9v2 v119 v120 (((((((((List.getD v109.1.1.2.2.2.2.2 v109.1.1.1.toNat dCy).2).2).1).1, ((((List.getD v109.1.1.2.2.2.2.2 v109.1.1.1.toNat dCy).2).2).1).2), (((((List.getD v109.1.1.2.2.2.2.2 v109.1.1.1.toNat dCy).2).2).2).1).1, (((((List.getD v109.1.1.2.2.2.2.2 v109.1.1.1.toNat dCy).2).2).2).1).2), (((((((List.getD v109.1.1.2.2.2.2.2 v109.1.1.1.toNat dCy).2).2).2).2).1).1, ((((((List.getD v109.1.1.2.2.2.2.2 v109.1.1.1.toNat dCy).2).2).2).2).1).2), (((((((List.getD v109.1.1.2.2.2.2.2 v109.1.1.1.toNat dCy).2).2).2).2).2).1).1, (((((((List.getD v109.1.1.2.2.2.2.2 v109.1.1.1.toNat dCy).2).2).2).2).2).1).2), (((((((((((List.getD v109.1.1.2.2.2.2.2 v109.1.1.1.toNat dCy).2).2).2).2).2).2).1).1).1, ((((((((((List.getD v109.1.1.2.2.2.2.2 v109.1.1.1.toNat dCy).2).2).2).2).2).2).1).1).2).1), ((((((((((List.getD v109.1.1.2.2.2.2.2 v109.1.1.1.toNat dCy).2).2).2).2).2).2).1).1).2).2, ((((((((((List.getD v109.1.1.2.2.2.2.2 v109.1.1.1.toNat dCy).2).2).2).2).2).2).1).2).1).1), ((((((((((((List.getD v109.1.1.2.2.2.2.2 v109.1.1.1.toNat dCy).2).2).2).2).2).2).1).2).1).2).1, (((((((((((List.getD v109.1.1.2.2.2.2.2 v109.1.1.1.toNat dCy).2).2).2).2).2).2).1).2).1).2).2), (((((((((((List.getD v109.1.1.2.2.2.2.2 v109.1.1.1.toNat dCy).2).2).2).2).2).2).1).2).2).1).1, ((((((((((((List.getD v109.1.1.2.2.2.2.2 v109.1.1.1.toNat dCy).2).2).2).2).2).2).1).2).2).1).2).1), (((((((((((((((List.getD v109.1.1.2.2.2.2.2 v109.1.1.1.toNat dCy).2).2).2).2).2).2).1).2).2).1).2).2, (((((((((((List.getD v109.1.1.2.2.2.2.2 v109.1.1.1.toNat dCy).2).2).2).2).2).2).1).2).2).2).1), ((((((((((((List.getD v109.1.1.2.2.2.2.2 v109.1.1.1.toNat dCy).2).2).2).2).2).2).1).2).2).2).2).1, ((((((((((((List.getD v109.1.1.2.2.2.2.2 v109.1.1.1.toNat dCy).2).2).2).2).2).2).1).2).2).2).2).2), ((((((((((List.getD v109.1.1.2.2.2.2.2 v109.1.1.1.toNat dCy).2).2).2).2).2).2).2).1).1, ((((((((((List.getD v109.1.1.2.2.2.2.2 v109.1.1.1.toNat dCy).2).2).2).2).2).2).2).1).2).1), ((((((((((List.getD v109.1.1.2.2.2.2.2 v109.1.1.1.toNat dCy).2).2).2).2).2).2).2).1).2).2, ((((((((((List.getD v109.1.1.2.2.2.2.2 v109.1.1.1.toNat dCy).2).2).2).2).2).2).2).2).1).1), (((((((((((((List.getD v109.1.1.2.2.2.2.2 v109.1.1.1.toNat dCy).2).2).2).2).2).2).2).2).1).2).1, (((((((((((List.getD v109.1.1.2.2.2.2.2 v109.1.1.1.toNat dCy).2).2).2).2).2).2).2).2).1).2).2), (((((((((((List.getD v109.1.1.2.2.2.2.2 v109.1.1.1.toNat dCy).2).2).2).2).2).2).2).2).2).1).1, ((((((((((((List.getD v109.1.1.2.2.2.2.2 v109.1.1.1.toNat dCy).2).2).2).2).2).2).2).2).2).1).2).1), (((((((((((((List.getD v109.1.1.2.2.2.2.2 v109.1.1.1.toNat dCy).2).2).2).2).2).2).2).2).2).1).2).2, (((((((((((List.getD v109.1.1.2.2.2.2.2 v109.1.1.1.toNat dCy).2).2).2).2).2).2).2).2).2).2).1), ((((((((((((List.getD v109.1.1.2.2.2.2.2 v109.1.1.1.toNat dCy).2).2).2).2).2).2).2).2).2).2).2).1, ((((((((((((List.getD v109.1.1.2.2.2.2.2 v109.1.1.1.toNat dCy).2).2).2).2).2).2).2).2).2).2).2).2) v109.1.2.1.1 v109.1.2.2.2 v109.2.1.1 v109.2.1.2.1 v109.2.1.2.2 v109.2.2.1.1 v109.2.2.1.2 v109.2.2.2.1 v109.2.2.2.2) (Kf99589d v109)))))) Kf2f944d)) (dnO (some true)))))) (fun v108 => (bd (α := Tyc34b63) (cnd (decide (v108.1.1.1 < ((v108.1.1.2.1.2.2.2.length : Nat) : Int))) (some (((v108.1.1.1, (decide (v108.1.1.1 < (20 : Int))), v108.1.1.2.1), (v108.1.1.2.2, v108.1.2.1), v108.1.2.2), v108.2)) (some (((v108.1.1.1, false, v108.1.1.2.1), (v108.1.1.2.2, v108.1.2.1), v108.1.2.2), v108.2))) (fun v155 => (cnd v155.1.1.2.1 (gd (decide ((0 : Int) ≤ v155.1.1.1 ∧ v155.1.1.1 < ((v155.1.1.2.2.2.2.2.length : Nat) : Int))) (bd (α := Tyc2efd0 ⊕ Ty9b03df ⊕ Ty9b03df ⊕ Ty7081cb) (bd (α := (List UInt8)) (o10 ((List.getD v155.1.1.2.2.2.2.2 v155.1.1.1.toNat dCy).1) (20 : Int)) (fun v165 => (bd (α := (List UInt8)) (o10 (((List.getD v155.1.1.2.2.2.2.2 v155.1.1.1.toNat dCy).2).1) (20 : Int)) (fun v166 => (bd (α := ((Ty87c277 × Tyf90a5e) × (Int × Int × Int) × Int × Int × Int) ⊕ Tye6a7c0 ⊕ Tye6a7c0 ⊕ Ty5f320a) (o9v3 v165 v166 (((((((((List.getD v155.1.1.2.2.2.2.2 v155.1.1.1.toNat dCy).2).2).1).1, ((((List.getD v155.1.1.2.2.2.2.2 v155.1.1.1.toNat dCy).2).2).1).2), (((((List.getD v155.1.1.2.2.2.2.2 v155.1.1.1.toNat dCy).2).2).2).1).1, (((((List.getD v155.1.1.2.2.2.2.2 v155.1.1.1.toNat dCy).2).2).2).1).2), (((((((List.getD v155.1.1.2.2.2.2.2 v155.1.1.1.toNat dCy).2).2).2).2).1).1, ((((((List.getD v155.1.1.2.2.2.2.2 v155.1.1.1.toNat dCy).2).2).2).2).1).2), (((((((List.getD v155.1.1.2.2.2.2.2 v155.1.1.1.toNat dCy).2).2).2).2).2).1).1, (((((((List.getD v155.1.1.2.2.2.2.2 v155.1.1.1.toNat dCy).2).2).2).2).2).1).2), (((((((((((List.getD v155.1.1.2.2.2.2.2 v155.1.1.1.toNat dCy).2).2).2).2).2).2).1).1).1, ((((((((((List.getD v155.1.1.2.2.2.2.2 v155.1.1.1.toNat dCy).2).2).2).2).2).2).1).1).2).1), ((((((((((List.getD v155.1.1.2.2.2.2.2 v155.1.1.1.toNat dCy).2).2).2).2).2).2).1).1).2).2, ((((((((((List.getD v155.1.1.2.2.2.2.2 v155.1.1.1.toNat dCy).2).2).2).2).2).2).1).2).1).1), ((((((((((((List.getD v155.1.1.2.2.2.2.2 v155.1.1.1.toNat dCy).2).2).2).2).2).2).1).2).1).2).1, (((((((((((List.getD v155.1.1.2.2.2.2.2 v155.1.1.1.toNat dCy).2).2).2).2).2).2).1).2).1).2).2), (((((((((((List.getD v155.1.1.2.2.2.2.2 v155.1.1.1.toNat dCy).2).2).2).2).2).2).1).2).2).1).1, ((((((((((((List.getD v155.1.1.2.2.2.2.2 v155.1.1.1.toNat dCy).2).2).2).2).2).2).1).2).2).1).2).1), (((((((((((((((List.getD v155.1.1.2.2.2.2.2 v155.1.1.1.toNat dCy).2).2).2).2).2).2).1).2).2).1).2).2, (((((((((((List.getD v155.1.1.2.2.2.2.2 v155.1.1.1.toNat dCy).2).2).2).2).2).2).1).2).2).2).1), ((((((((((((List.getD v155.1.1.2.2.2.2.2 v155.1.1.1.toNat dCy).2).2).2).2).2).2).1).2).2).2).2).1, ((((((((((((List.getD v155.1.1.2.2.2.2.2 v155.1.1.1.toNat dCy).2).2).2).2).2).2).1).2).2).2).2).2), ((((((((((List.getD v155.1.1.2.2.2.2.2 v155.1.1.1.toNat dCy).2).2).2).2).2).2).2).1).1, ((((((((((List.getD v155.1.1.2.2.2.2.2 v155.1.1.1.toNat dCy).2).2).2).2).2).2).2).1).2).1), ((((((((((List.getD v155.1.1.2.2.2.2.2 v155.1.1.1.toNat dCy).2).2).2).2).2).2).2).1).2).2, ((((((((((List.getD v155.1.1.2.2.2.2.2 v155.1.1.1.toNat dCy).2).2).2).2).2).2).2).2).1).1), (((((((((((((List.getD v155.1.1.2.2.2.2.2 v155.1.1.1.toNat dCy).2).2).2).2).2).2).2).2).1).2).1, (((((((((((List.getD v155.1.1.2.2.2.2.2 v155.1.1.1.toNat dCy).2).2).2).2).2).2).2).2).1).2).2), (((((((((((List.getD v155.1.1.2.2.2.2.2 v155.1.1.1.toNat dCy).2).2).2).2).2).2).2).2).2).1).1, ((((((((((((List.getD v155.1.1.2.2.2.2.2 v155.1.1.1.toNat dCy).2).2).2).2).2).2).2).2).2).1).2).1), (((((((((((((List.getD v155.1.1.2.2.2.2.2 v155.1.1.1.toNat dCy).2).2).2).2).2).2).2).2).2).1).2).2, (((((((((((List.getD v155.1.1.2.2.2.2.2 v155.1.1.1.toNat dCy).2).2).2).2).2).2).2).2).2).2).1), ((((((((((((List.getD v155.1.1.2.2.2.2.2 v155.1.1.1.toNat dCy).2).2).2).2).2).2).2).2).2).2).2).1, ((((((((((((List.getD v155.1.1.2.2.2.2.2 v155.1.1.1.toNat dCy).2).2).2).2).2).2).2).2).2).2).2).2) v155.1.2.1.1 v155.1.2.2.2 v155.2.1.1 v155.2.1.2.1 v155.2.1.2.2 v155.2.2.1.1 v155.2.2.1.2 v155.2.2.2.1 v155.2.2.2.2) (Kf99589d v155)))))) Kf2f944d)) (dnO (some true)))))))))))
def o6 (a0 : Ty57190c) : Option Bool :=
 (bd (α := Bool) o7 (fun v1 => (cnd (!v1) (some false) (bd (α := (Ty57190c × (Int × Int) × Int × Int) ⊕ Tyaa045d) (bd (α := ((Int × Int) × Int × Int) ⊕ Ty5144a1) (o8 a0) (fun v2 => (sm v2 (fun v3 => (some (Sum.inl (a0, v3)))) (fun v4 => (some (Sum.inr ((((a0, v4.1.1.1.2), v4.1.1.1.1, v4.1.1.2.1), (v4.1.1.2.2, v4.1.2.1.1), v4.1.2.1.2, v4.1.2.2.1), ((v4.1.2.2.2, v4.2.1.1.1), v4.2.1.1.2, v4.2.1.2.1), (v4.2.1.2.2, v4.2.2.1.1), v4.2.2.1.2, v4.2.2.2))))))) (fun v5 => (sm v5 (fun v6 => (some false)) (fun v7 => (bd (α := Ty8dd30f) (o15 v7.1.1.1.2 v7.1.1.2.2 v7.1.2.1.1 v7.1.2.1.2 v7.1.2.2.2 v7.2.1.1.1 (v7.2.1.1.2, v7.2.2.1.2, v7.2.2.2.1) v7.1.2.2.1 v7.2.1.2.1 v7.2.1.2.2 (v7.2.2.1.1, v7.2.2.2.2)) (fun v8 => (loopO (σ := Tyc40a53 ⊕ Tyb5b18c ⊕ Tybe04db ⊕ Tybe04db) fuelN o6_b0 (Sum.inl (((((0 : Int), v7.1.1.1.1), v7.1.1.1.2, v7.1.1.2.1), (v8, v7.1.1.2.2), v7.1.2.1.1, v7.1.2.1.2, v7.1.2.2.1), ((v7.1.2.2.2, v7.2.1.1.1), v7.2.1.1.2, v7.2.1.2), v7.2.2))))))))))))
def h6 : HC := (.s .d (.s .d (.s (.j false [o6_s0, o6_s1] .d) (.on ⟨[(3, .v (.c (.cst (.pointer none))))], []⟩ .d (.s .d (.s .d (.s (.s .d (.b (.l [o6_s14, o6_s15, o6_s16, o6_s17] (.on ⟨[(3, .v (.c (.ptr 0 0)))], [Bsc0f9c3, Bsa76b8c, Bsa76b8c, Bse08b4f, Bs71e0c0, Bs9a591a, Bsd348fb, Bs94153a, Bs9a591a, Bsd348fb, Bs757da4, .row (.a .y) 33, Bs2be90b, .row (.a .y) 33, Bs2be90b]⟩ (.s (.s (.j false [o6_s2] .d) .d) (.s (.b (.s .d (.s (.j false [o6_s3, o6_s4, o6_s5, o6_s6] (.r 13)) (.on ⟨[(3, .v (.c (.ptr 0 0)))], [Bs217775, Bsa76b8c, Bsa76b8c]⟩ (.s (.s (.j false [o6_s7] .d) .d) .d) (.on ⟨[(3, .v (.c (.ptr 0 0)))], [Bs22cdc5, Bsa76b8c, Bsa76b8c, Bsc8128b, Bs9a591a, Bsd348fb, Bs22b41b, .row (.a .y) 33, Bs2be90b]⟩ (.s (.s (.j false [o6_s8] .d) .d) .d) (.on ⟨[(3, .v (.c (.ptr 0 0)))], [Bs7f9e58, Bsa76b8c, Bsa76b8c, Bsc8128b, Bs9a591a, Bsd348fb, Bs22b41b, .row (.a .y) 33, Bs2be90b]⟩ (.s (.s (.j false [o6_s9] .d) .d) .d) (.s (.s (.j false [o6_s10] .d) .d) .d))))))) .d)) (.on ⟨[(3, .v (.c (.ptr 0 0)))], [Bs217775, Bsa76b8c, Bsa76b8c]⟩ (.s (.s (.j false [o6_s11] .d) .d) (.s (.b (.s .d (.s (.j false [o6_s3, o6_s4, o6_s5, o6_s6] (.r 13)) (.on ⟨[(3, .v (.c (.ptr 0 0)))], [Bs217775, Bsa76b8c, Bsa76b8c]⟩ (.s (.s (.j false [o6_s7] .d) .d) .d) (.on ⟨[(3, .v (.c (.ptr 0 0)))], [Bs22cdc5, Bsa76b8c, Bsa76b8c, Bsc8128b, Bs9a591a, Bsd348fb, Bs22b41b, .row (.a .y) 33, Bs2be90b]⟩ (.s (.s (.j false [o6_s8] .d) .d) .d) (.on ⟨[(3, .v (.c (.ptr 0 0)))], [Bs7f9e58, Bsa76b8c, Bsa76b8c, Bsc8128b, Bs9a591a, Bsd348fb, Bs22b41b, .row (.a .y) 33, Bs2be90b]⟩ (.s (.s (.j false [o6_s9] .d) .d) .d) (.s (.s (.j false [o6_s10] .d) .d) .d))))))) .d)) (.on ⟨[(3, .v (.c (.ptr 0 0)))], [Bs22cdc5, Bsa76b8c, Bsa76b8c, Bsc8128b, Bs9a591a, Bsd348fb, Bs22b41b, .row (.a .y) 33, Bs2be90b]⟩ (.s (.s (.j false [o6_s12] .d) .d) (.s (.b (.s .d (.s (.j false [o6_s3, o6_s5, o6_s4, o6_s6] (.r 13)) (.on ⟨[(3, .v (.c (.ptr 0 0)))], [Bs217775, Bsa76b8c, Bsa76b8c]⟩ (.s (.s (.j false [o6_s7] .d) .d) .d) (.on ⟨[(3, .v (.c (.ptr 0 0)))], [Bs7f9e58, Bsa76b8c, Bsa76b8c, Bsc8128b, Bs9a591a, Bsd348fb, Bs22b41b, .row (.a .y) 33, Bs2be90b]⟩ (.s (.s (.j false [o6_s9] .d) .d) .d) (.on ⟨[(3, .v (.c (.ptr 0 0)))], [Bs22cdc5, Bsa76b8c, Bsa76b8c, Bsc8128b, Bs9a591a, Bsd348fb, Bs22b41b, .row (.a .y) 33, Bs2be90b]⟩ (.s (.s (.j false [o6_s8] .d) .d) .d) (.s (.s (.j false [o6_s10] .d) .d) .d))))))) .d)) (.s (.s (.j false [o6_s13] .d) .d) (.s (.b (.s .d (.s (.j false [o6_s3, o6_s5, o6_s4, o6_s6] (.r 13)) (.on ⟨[(3, .v (.c (.ptr 0 0)))], [Bs217775, Bsa76b8c, Bsa76b8c]⟩ (.s (.s (.j false [o6_s7] .d) .d) .d) (.on ⟨[(3, .v (.c (.ptr 0 0)))], [Bs7f9e58, Bsa76b8c, Bsa76b8c, Bsc8128b, Bs9a591a, Bsd348fb, Bs22b41b, .row (.a .y) 33, Bs2be90b]⟩ (.s (.s (.j false [o6_s9] .d) .d) .d) (.on ⟨[(3, .v (.c (.ptr 0 0)))], [Bs22cdc5, Bsa76b8c, Bsa76b8c, Bsc8128b, Bs9a591a, Bsd348fb, Bs22b41b, .row (.a .y) 33, Bs2be90b]⟩ (.s (.s (.j false [o6_s8] .d) .d) .d) (.s (.s (.j false [o6_s10] .d) .d) .d))))))) .d)))))))) .d)))))))
theorem e6 (t : Ty57190c) : evF (stpT Tryz.prog T173 K173) Tryz.f6 p6 r6 h6 t = (o6 t) := by kernel_rfl
def n6 : FSp := ⟨p6, r6, fun t => (o6 t)⟩
theorem fo6 : FOk Tryz.prog 6 n6 := fk e6
end
end Go.Proofs.YtpleflcfaecojaaGreat
namespace Go.Proofs.YtpleflcfaecojaaGreat
set_option linter.unusedVariables false
set_option linter.unusedSimpArgs false
set_option maxRecDepth 100000
open Go.RowKit
def okS (l t : Tg) (R : (Int × Int) × Int × Int) : Prop := o17 l.bank t.bank R.1.1 = some true ∧ o17 l.speed t.speed R.1.2 = some true ∧ o17 l.alt t.alt R.2.1 = some true ∧ o17 l.vs t.vs R.2.2 = some true
def encS (a b : Bool) (i : Int) (wo : WoT) (R : (Int × Int) × Int × Int) (l : Tg) (w : W) : Tyc40a53 ⊕ Tyb5b18c ⊕ Tybe04db ⊕ Tybe04db :=
  cond a (cond b (Sum.inl ((((i, wo), w.p.e, R), (l.e, w.m1.e), w.m2.e, w.c1.h, w.c2.h), ((w.c1.nd.e, w.c1.ps), w.c1.cz, w.c2.nd.e, w.c2.ps), (w.c2.cz, w.c1.co.ps), w.c1.co.ss, w.c2.co.ps, w.c2.co.ss)) (Sum.inr (Sum.inr (Sum.inr (((i, wo, w.p.e), R, l.e, w.m1.e), (w.m2.e, w.c1.h, w.c1.nd.e), (w.c1.ps, w.c1.cz), w.c1.co.ps, w.c1.co.ss))))) (cond b (Sum.inr (Sum.inr (Sum.inl (((i, wo, w.p.e), R, l.e, w.m1.e), (w.m2.e, w.c2.h, w.c2.nd.e), (w.c2.ps, w.c2.cz), w.c2.co.ps, w.c2.co.ss)))) (Sum.inr (Sum.inl ((i, wo, w.p.e), (R, l.e), w.m1.e, w.m2.e))))
theorem tS_335143_11 {wo : WoT} {k : Nat} (h20 : ((k : Nat) : Int) < 20) (R : (Int × Int) × Int × Int) (l : Tg) {q : W} (hs : okS l q.p.use R) : Kf335143 (Sum.inr (Sum.inr (Sum.inr ((((((k : Nat) : Int), wo), q.p.e, R, l.e), (((q.p.use.lat, q.p.use.ver, q.p.use.ph), (q.p.use.bank, q.p.use.speed), q.p.use.alt, q.p.use.vs), q.m1.e), q.m2.e, q.c1.h, q.c2.h), ((q.c1.nd.e, q.c1.ps), q.c1.cz, q.c2.nd.e, q.c2.ps), (q.c2.cz, q.c1.co.ps), q.c1.co.ss, q.c2.co.ps, q.c2.co.ss)))) = some (Ctl.go (encS true true ((k + 1 : Nat) : Int) wo R q.p.use q)) := by
  unfold Kf335143
  refine (smR _ _ _).trans ((smR _ _ _).trans ((smR _ _ _).trans (?_)))
  refine (bdS (t := ((((((k : Nat) : Int), false), wo, q.p.e, R), (l.e, ((q.p.use.lat, q.p.use.ver, q.p.use.ph), (q.p.use.bank, q.p.use.speed), q.p.use.alt, q.p.use.vs)), q.m1.e, q.m2.e, q.c1.h), ((q.c2.h, q.c1.nd.e), q.c1.ps, q.c1.cz, q.c2.nd.e), (q.c2.ps, q.c2.cz, q.c1.co.ps), q.c1.co.ss, q.c2.co.ps, q.c2.co.ss)) ?_).trans ?_
  · exact (bdS hs.1).trans ((cndF rfl).trans ((bdS hs.2.1).trans ((cndF rfl).trans ((bdS hs.2.2.1).trans ((cndF rfl).trans ((bdS hs.2.2.2).trans rfl))))))
  · refine (cndF rfl).trans ?_
    exact go_i (z := IntKind.i64.wrap (((k : Nat) : Int) + 1)) (z' := ((k + 1 : Nat) : Int)) (by rw [wr64 (by omega)]; rfl) (fun i : Int => (Sum.inl ((((i, wo), q.p.e, R), (q.p.use.e, q.m1.e), q.m2.e, q.c1.h, q.c2.h), ((q.c1.nd.e, q.c1.ps), q.c1.cz, q.c2.nd.e, q.c2.ps), (q.c2.cz, q.c1.co.ps), q.c1.co.ss, q.c2.co.ps, q.c2.co.ss)))
theorem tS_335143_10 {wo : WoT} {k : Nat} (h20 : ((k : Nat) : Int) < 20) (R : (Int × Int) × Int × Int) (l : Tg) {q : W} (hs : okS l q.p.use R) : Kf335143 (Sum.inr (Sum.inr (Sum.inl (((((k : Nat) : Int), wo, q.p.e), (R, l.e), ((q.p.use.lat, q.p.use.ver, q.p.use.ph), (q.p.use.bank, q.p.use.speed), q.p.use.alt, q.p.use.vs), q.m1.e), (q.m2.e, q.c1.h, q.c1.nd.e), (q.c1.ps, q.c1.cz), q.c1.co.ps, q.c1.co.ss)))) = some (Ctl.go (encS true false ((k + 1 : Nat) : Int) wo R q.p.use q)) := by
  unfold Kf335143
  refine (smR _ _ _).trans ((smR _ _ _).trans ((smL _ _ _).trans (?_)))
  refine (bdS (t := (((((k : Nat) : Int), false, wo), (q.p.e, R), l.e, ((q.p.use.lat, q.p.use.ver, q.p.use.ph), (q.p.use.bank, q.p.use.speed), q.p.use.alt, q.p.use.vs)), ((q.m1.e, q.m2.e), q.c1.h, q.c1.nd.e), (q.c1.ps, q.c1.cz), q.c1.co.ps, q.c1.co.ss)) ?_).trans ?_
  · exact (bdS hs.1).trans ((cndF rfl).trans ((bdS hs.2.1).trans ((cndF rfl).trans ((bdS hs.2.2.1).trans ((cndF rfl).trans ((bdS hs.2.2.2).trans rfl))))))
  · refine (cndF rfl).trans ?_
    exact go_i (z := IntKind.i64.wrap (((k : Nat) : Int) + 1)) (z' := ((k + 1 : Nat) : Int)) (by rw [wr64 (by omega)]; rfl) (fun i : Int => (Sum.inr (Sum.inr (Sum.inr (((i, wo, q.p.e), R, q.p.use.e, q.m1.e), (q.m2.e, q.c1.h, q.c1.nd.e), (q.c1.ps, q.c1.cz), q.c1.co.ps, q.c1.co.ss)))))
theorem tS_335143_01 {wo : WoT} {k : Nat} (h20 : ((k : Nat) : Int) < 20) (R : (Int × Int) × Int × Int) (l : Tg) {q : W} (hs : okS l q.p.use R) : Kf335143 (Sum.inr (Sum.inl (((((k : Nat) : Int), wo, q.p.e), (R, l.e), ((q.p.use.lat, q.p.use.ver, q.p.use.ph), (q.p.use.bank, q.p.use.speed), q.p.use.alt, q.p.use.vs), q.m1.e), (q.m2.e, q.c2.h, q.c2.nd.e), (q.c2.ps, q.c2.cz), q.c2.co.ps, q.c2.co.ss))) = some (Ctl.go (encS false true ((k + 1 : Nat) : Int) wo R q.p.use q)) := by
  unfold Kf335143
  refine (smR _ _ _).trans ((smL _ _ _).trans (?_))
  refine (bdS (t := (((((k : Nat) : Int), false, wo), (q.p.e, R), l.e, ((q.p.use.lat, q.p.use.ver, q.p.use.ph), (q.p.use.bank, q.p.use.speed), q.p.use.alt, q.p.use.vs)), ((q.m1.e, q.m2.e), q.c2.h, q.c2.nd.e), (q.c2.ps, q.c2.cz), q.c2.co.ps, q.c2.co.ss)) ?_).trans ?_
  · exact (bdS hs.1).trans ((cndF rfl).trans ((bdS hs.2.1).trans ((cndF rfl).trans ((bdS hs.2.2.1).trans ((cndF rfl).trans ((bdS hs.2.2.2).trans rfl))))))
  · refine (cndF rfl).trans ?_
    exact go_i (z := IntKind.i64.wrap (((k : Nat) : Int) + 1)) (z' := ((k + 1 : Nat) : Int)) (by rw [wr64 (by omega)]; rfl) (fun i : Int => (Sum.inr (Sum.inr (Sum.inl (((i, wo, q.p.e), R, q.p.use.e, q.m1.e), (q.m2.e, q.c2.h, q.c2.nd.e), (q.c2.ps, q.c2.cz), q.c2.co.ps, q.c2.co.ss)))))
theorem tS_335143_00 {wo : WoT} {k : Nat} (h20 : ((k : Nat) : Int) < 20) (R : (Int × Int) × Int × Int) (l : Tg) {q : W} (hs : okS l q.p.use R) : Kf335143 (Sum.inl (((((k : Nat) : Int), wo), q.p.e, R), (l.e, ((q.p.use.lat, q.p.use.ver, q.p.use.ph), (q.p.use.bank, q.p.use.speed), q.p.use.alt, q.p.use.vs)), q.m1.e, q.m2.e)) = some (Ctl.go (encS false false ((k + 1 : Nat) : Int) wo R q.p.use q)) := by
  unfold Kf335143
  refine (smL _ _ _).trans (?_)
  refine (bdS (t := (((((k : Nat) : Int), false), wo, q.p.e), (R, l.e), ((q.p.use.lat, q.p.use.ver, q.p.use.ph), (q.p.use.bank, q.p.use.speed), q.p.use.alt, q.p.use.vs), q.m1.e, q.m2.e)) ?_).trans ?_
  · exact (bdS hs.1).trans ((cndF rfl).trans ((bdS hs.2.1).trans ((cndF rfl).trans ((bdS hs.2.2.1).trans ((cndF rfl).trans ((bdS hs.2.2.2).trans rfl))))))
  · refine (cndF rfl).trans ?_
    exact go_i (z := IntKind.i64.wrap (((k : Nat) : Int) + 1)) (z' := ((k + 1 : Nat) : Int)) (by rw [wr64 (by omega)]; rfl) (fun i : Int => (Sum.inr (Sum.inl ((i, wo, q.p.e), (R, q.p.use.e), q.m1.e, q.m2.e))))
theorem tS_2f944d_11 {wo : WoT} {k : Nat} (h20 : ((k : Nat) : Int) < 20) (R : (Int × Int) × Int × Int) (l : Tg) {q : W} (hs : okS l q.p.use R) : Kf2f944d (Sum.inr (Sum.inr (Sum.inr ((((((k : Nat) : Int), wo), q.p.e, R, l.e), (((q.p.use.lat, q.p.use.ver, q.p.use.ph), (q.p.use.bank, q.p.use.speed), q.p.use.alt, q.p.use.vs), q.m1.e), q.m2.e, q.c1.h, q.c2.h), ((q.c1.nd.e, q.c1.ps), q.c1.cz, q.c2.nd.e, q.c2.ps), (q.c2.cz, q.c1.co.ps), q.c1.co.ss, q.c2.co.ps, q.c2.co.ss)))) = some (Ctl.go (encS true true ((k + 1 : Nat) : Int) wo R q.p.use q)) := by
  unfold Kf2f944d
  refine (smR _ _ _).trans ((smR _ _ _).trans ((smR _ _ _).trans (?_)))
  refine (bdS (t := ((((((k : Nat) : Int), false), wo, q.p.e, R), (l.e, ((q.p.use.lat, q.p.use.ver, q.p.use.ph), (q.p.use.bank, q.p.use.speed), q.p.use.alt, q.p.use.vs)), q.m1.e, q.m2.e, q.c1.h), ((q.c2.h, q.c1.nd.e), q.c1.ps, q.c1.cz, q.c2.nd.e), (q.c2.ps, q.c2.cz, q.c1.co.ps), q.c1.co.ss, q.c2.co.ps, q.c2.co.ss)) ?_).trans ?_
  · exact (bdS hs.1).trans ((cndF rfl).trans ((bdS hs.2.1).trans ((cndF rfl).trans ((bdS hs.2.2.1).trans ((cndF rfl).trans ((bdS hs.2.2.2).trans rfl))))))
  · refine (cndF rfl).trans ?_
    exact go_i (z := IntKind.i64.wrap (((k : Nat) : Int) + 1)) (z' := ((k + 1 : Nat) : Int)) (by rw [wr64 (by omega)]; rfl) (fun i : Int => (Sum.inl ((((i, wo), q.p.e, R), (q.p.use.e, q.m1.e), q.m2.e, q.c1.h, q.c2.h), ((q.c1.nd.e, q.c1.ps), q.c1.cz, q.c2.nd.e, q.c2.ps), (q.c2.cz, q.c1.co.ps), q.c1.co.ss, q.c2.co.ps, q.c2.co.ss)))
theorem tS_2f944d_10 {wo : WoT} {k : Nat} (h20 : ((k : Nat) : Int) < 20) (R : (Int × Int) × Int × Int) (l : Tg) {q : W} (hs : okS l q.p.use R) : Kf2f944d (Sum.inr (Sum.inl (((((k : Nat) : Int), wo, q.p.e), (R, l.e), ((q.p.use.lat, q.p.use.ver, q.p.use.ph), (q.p.use.bank, q.p.use.speed), q.p.use.alt, q.p.use.vs), q.m1.e), (q.m2.e, q.c1.h, q.c1.nd.e), (q.c1.ps, q.c1.cz), q.c1.co.ps, q.c1.co.ss))) = some (Ctl.go (encS true false ((k + 1 : Nat) : Int) wo R q.p.use q)) := by
  unfold Kf2f944d
  refine (smR _ _ _).trans ((smL _ _ _).trans (?_))
  refine (bdS (t := (((((k : Nat) : Int), false, wo), (q.p.e, R), l.e, ((q.p.use.lat, q.p.use.ver, q.p.use.ph), (q.p.use.bank, q.p.use.speed), q.p.use.alt, q.p.use.vs)), ((q.m1.e, q.m2.e), q.c1.h, q.c1.nd.e), (q.c1.ps, q.c1.cz), q.c1.co.ps, q.c1.co.ss)) ?_).trans ?_
  · exact (bdS hs.1).trans ((cndF rfl).trans ((bdS hs.2.1).trans ((cndF rfl).trans ((bdS hs.2.2.1).trans ((cndF rfl).trans ((bdS hs.2.2.2).trans rfl))))))
  · refine (cndF rfl).trans ?_
    exact go_i (z := IntKind.i64.wrap (((k : Nat) : Int) + 1)) (z' := ((k + 1 : Nat) : Int)) (by rw [wr64 (by omega)]; rfl) (fun i : Int => (Sum.inr (Sum.inr (Sum.inr (((i, wo, q.p.e), R, q.p.use.e, q.m1.e), (q.m2.e, q.c1.h, q.c1.nd.e), (q.c1.ps, q.c1.cz), q.c1.co.ps, q.c1.co.ss)))))
theorem tS_2f944d_01 {wo : WoT} {k : Nat} (h20 : ((k : Nat) : Int) < 20) (R : (Int × Int) × Int × Int) (l : Tg) {q : W} (hs : okS l q.p.use R) : Kf2f944d (Sum.inr (Sum.inr (Sum.inl (((((k : Nat) : Int), wo, q.p.e), (R, l.e), ((q.p.use.lat, q.p.use.ver, q.p.use.ph), (q.p.use.bank, q.p.use.speed), q.p.use.alt, q.p.use.vs), q.m1.e), (q.m2.e, q.c2.h, q.c2.nd.e), (q.c2.ps, q.c2.cz), q.c2.co.ps, q.c2.co.ss)))) = some (Ctl.go (encS false true ((k + 1 : Nat) : Int) wo R q.p.use q)) := by
  unfold Kf2f944d
  refine (smR _ _ _).trans ((smR _ _ _).trans ((smL _ _ _).trans (?_)))
  refine (bdS (t := (((((k : Nat) : Int), false, wo), (q.p.e, R), l.e, ((q.p.use.lat, q.p.use.ver, q.p.use.ph), (q.p.use.bank, q.p.use.speed), q.p.use.alt, q.p.use.vs)), ((q.m1.e, q.m2.e), q.c2.h, q.c2.nd.e), (q.c2.ps, q.c2.cz), q.c2.co.ps, q.c2.co.ss)) ?_).trans ?_
  · exact (bdS hs.1).trans ((cndF rfl).trans ((bdS hs.2.1).trans ((cndF rfl).trans ((bdS hs.2.2.1).trans ((cndF rfl).trans ((bdS hs.2.2.2).trans rfl))))))
  · refine (cndF rfl).trans ?_
    exact go_i (z := IntKind.i64.wrap (((k : Nat) : Int) + 1)) (z' := ((k + 1 : Nat) : Int)) (by rw [wr64 (by omega)]; rfl) (fun i : Int => (Sum.inr (Sum.inr (Sum.inl (((i, wo, q.p.e), R, q.p.use.e, q.m1.e), (q.m2.e, q.c2.h, q.c2.nd.e), (q.c2.ps, q.c2.cz), q.c2.co.ps, q.c2.co.ss)))))
theorem tS_2f944d_00 {wo : WoT} {k : Nat} (h20 : ((k : Nat) : Int) < 20) (R : (Int × Int) × Int × Int) (l : Tg) {q : W} (hs : okS l q.p.use R) : Kf2f944d (Sum.inl (((((k : Nat) : Int), wo), q.p.e, R), (l.e, ((q.p.use.lat, q.p.use.ver, q.p.use.ph), (q.p.use.bank, q.p.use.speed), q.p.use.alt, q.p.use.vs)), q.m1.e, q.m2.e)) = some (Ctl.go (encS false false ((k + 1 : Nat) : Int) wo R q.p.use q)) := by
  unfold Kf2f944d
  refine (smL _ _ _).trans (?_)
  refine (bdS (t := (((((k : Nat) : Int), false), wo, q.p.e), (R, l.e), ((q.p.use.lat, q.p.use.ver, q.p.use.ph), (q.p.use.bank, q.p.use.speed), q.p.use.alt, q.p.use.vs), q.m1.e, q.m2.e)) ?_).trans ?_
  · exact (bdS hs.1).trans ((cndF rfl).trans ((bdS hs.2.1).trans ((cndF rfl).trans ((bdS hs.2.2.1).trans ((cndF rfl).trans ((bdS hs.2.2.2).trans rfl))))))
  · refine (cndF rfl).trans ?_
    exact go_i (z := IntKind.i64.wrap (((k : Nat) : Int) + 1)) (z' := ((k + 1 : Nat) : Int)) (by rw [wr64 (by omega)]; rfl) (fun i : Int => (Sum.inr (Sum.inl ((i, wo, q.p.e), (R, q.p.use.e), q.m1.e, q.m2.e))))
theorem bS_11 {wo : WoT} {k : Nat} (hk : ((k : Nat) : Int) < ((wo.2.2.2.length : Nat) : Int)) (h20 : ((k : Nat) : Int) < 20) (R : (Int × Int) × Int × Int) (l : Tg) {w q : W} (h : w.ok true true) (hq : cycW true true w.p w.m1 w.m2 w.c1 w.c2 (evOf (wo.2.2.2.getD k noCy)) ((wo.2.2.2.getD k noCy).1.take 20) ((wo.2.2.2.getD k noCy).2.1.take 20) = q) (hs : okS l q.p.use R) :
    o6_b0 (Sum.inl ((((((k : Nat) : Int), wo), w.p.e, R), (l.e, w.m1.e), w.m2.e, w.c1.h, w.c2.h), ((w.c1.nd.e, w.c1.ps), w.c1.cz, w.c2.nd.e, w.c2.ps), (w.c2.cz, w.c1.co.ps), w.c1.co.ss, w.c2.co.ps, w.c2.co.ss)) = some (Ctl.go (encS (evA true (evOf (wo.2.2.2.getD k noCy)).s1 (evOf (wo.2.2.2.getD k noCy)).r1) (evA true (evOf (wo.2.2.2.getD k noCy)).s2 (evOf (wo.2.2.2.getD k noCy)).r2) ((k + 1 : Nat) : Int) wo R q.p.use q)) := by
  unfold o6_b0
  refine (smL _ _ _).trans (?_)
  refine (bdS (t := ((((((k : Nat) : Int), decide (((k : Nat) : Int) < 20)), wo, w.p.e, R), (l.e, w.m1.e), w.m2.e, w.c1.h, w.c2.h), ((w.c1.nd.e, w.c1.ps), w.c1.cz, w.c2.nd.e, w.c2.ps), (w.c2.cz, w.c1.co.ps), w.c1.co.ss, w.c2.co.ps, w.c2.co.ss)) ?_).trans ?_
  · exact (cndT (dt hk)).trans rfl
  refine (cndT (dt h20)).trans ((gdT (dt ⟨Int.natCast_nonneg k, hk⟩)).trans ?_)
  refine (bdS (t := cond (evA true (evOf (wo.2.2.2.getD k noCy)).s1 (evOf (wo.2.2.2.getD k noCy)).r1) (cond (evA true (evOf (wo.2.2.2.getD k noCy)).s2 (evOf (wo.2.2.2.getD k noCy)).r2) (Sum.inr (Sum.inr (Sum.inr ((((((k : Nat) : Int), wo), q.p.e, R, l.e), (((q.p.use.lat, q.p.use.ver, q.p.use.ph), (q.p.use.bank, q.p.use.speed), q.p.use.alt, q.p.use.vs), q.m1.e), q.m2.e, q.c1.h, q.c2.h), ((q.c1.nd.e, q.c1.ps), q.c1.cz, q.c2.nd.e, q.c2.ps), (q.c2.cz, q.c1.co.ps), q.c1.co.ss, q.c2.co.ps, q.c2.co.ss)))) (Sum.inr (Sum.inr (Sum.inl (((((k : Nat) : Int), wo, q.p.e), (R, l.e), ((q.p.use.lat, q.p.use.ver, q.p.use.ph), (q.p.use.bank, q.p.use.speed), q.p.use.alt, q.p.use.vs), q.m1.e), (q.m2.e, q.c1.h, q.c1.nd.e), (q.c1.ps, q.c1.cz), q.c1.co.ps, q.c1.co.ss))))) (cond (evA true (evOf (wo.2.2.2.getD k noCy)).s2 (evOf (wo.2.2.2.getD k noCy)).r2) (Sum.inr (Sum.inl (((((k : Nat) : Int), wo, q.p.e), (R, l.e), ((q.p.use.lat, q.p.use.ver, q.p.use.ph), (q.p.use.bank, q.p.use.speed), q.p.use.alt, q.p.use.vs), q.m1.e), (q.m2.e, q.c2.h, q.c2.nd.e), (q.c2.ps, q.c2.cz), q.c2.co.ps, q.c2.co.ss))) (Sum.inl (((((k : Nat) : Int), wo), q.p.e, R), (l.e, ((q.p.use.lat, q.p.use.ver, q.p.use.ph), (q.p.use.bank, q.p.use.speed), q.p.use.alt, q.p.use.vs)), q.m1.e, q.m2.e)))) ?_).trans ?_
  · refine (bdS (o10_eq _ 20)).trans ((bdS (o10_eq _ 20)).trans ((bdS (o9_eq h.init h.p1 h.p2 (h.c1 rfl) (h.c2 rfl) (evOf (wo.2.2.2.getD k noCy)) ((wo.2.2.2.getD k noCy).1.take 20) ((wo.2.2.2.getD k noCy).2.1.take 20))).trans ?_))
    rw [hq]
    cases (evA true (evOf (wo.2.2.2.getD k noCy)).s1 (evOf (wo.2.2.2.getD k noCy)).r1) <;> cases (evA true (evOf (wo.2.2.2.getD k noCy)).s2 (evOf (wo.2.2.2.getD k noCy)).r2) <;> rfl
  cases (evA true (evOf (wo.2.2.2.getD k noCy)).s1 (evOf (wo.2.2.2.getD k noCy)).r1) with
  | true =>
    cases (evA true (evOf (wo.2.2.2.getD k noCy)).s2 (evOf (wo.2.2.2.getD k noCy)).r2) with
    | true => exact tS_335143_11 h20 R l hs
    | false => exact tS_335143_10 h20 R l hs
  | false =>
    cases (evA true (evOf (wo.2.2.2.getD k noCy)).s2 (evOf (wo.2.2.2.getD k noCy)).r2) with
    | true => exact tS_335143_01 h20 R l hs
    | false => exact tS_335143_00 h20 R l hs
theorem eS_11 {wo : WoT} {k : Nat} (hk : ¬ (((k : Nat) : Int) < ((wo.2.2.2.length : Nat) : Int) ∧ ((k : Nat) : Int) < 20)) (R : (Int × Int) × Int × Int) (l : Tg) {w : W} : o6_b0 (Sum.inl ((((((k : Nat) : Int), wo), w.p.e, R), (l.e, w.m1.e), w.m2.e, w.c1.h, w.c2.h), ((w.c1.nd.e, w.c1.ps), w.c1.cz, w.c2.nd.e, w.c2.ps), (w.c2.cz, w.c1.co.ps), w.c1.co.ss, w.c2.co.ps, w.c2.co.ss)) = some (Ctl.done true) := by
  unfold o6_b0
  refine (smL _ _ _).trans (?_)
  refine (bdS (t := ((((((k : Nat) : Int), false), wo, w.p.e, R), (l.e, w.m1.e), w.m2.e, w.c1.h, w.c2.h), ((w.c1.nd.e, w.c1.ps), w.c1.cz, w.c2.nd.e, w.c2.ps), (w.c2.cz, w.c1.co.ps), w.c1.co.ss, w.c2.co.ps, w.c2.co.ss)) ?_).trans ((cndF rfl).trans (dnS _))
  by_cases h1 : ((k : Nat) : Int) < ((wo.2.2.2.length : Nat) : Int)
  · refine (cndT (dt h1)).trans ?_
    exact congrArg (fun z : Bool => some ((((((k : Nat) : Int), z), wo, w.p.e, R), (l.e, w.m1.e), w.m2.e, w.c1.h, w.c2.h), ((w.c1.nd.e, w.c1.ps), w.c1.cz, w.c2.nd.e, w.c2.ps), (w.c2.cz, w.c1.co.ps), w.c1.co.ss, w.c2.co.ps, w.c2.co.ss)) (df (fun h2 => hk ⟨h1, h2⟩))
  · exact (cndF (df h1)).trans rfl
theorem bS_00 {wo : WoT} {k : Nat} (hk : ((k : Nat) : Int) < ((wo.2.2.2.length : Nat) : Int)) (h20 : ((k : Nat) : Int) < 20) (R : (Int × Int) × Int × Int) (l : Tg) {w q : W} (h : w.ok false false) (hq : cycW false false w.p w.m1 w.m2 w.c1 w.c2 (evOf (wo.2.2.2.getD k noCy)) ((wo.2.2.2.getD k noCy).1.take 20) ((wo.2.2.2.getD k noCy).2.1.take 20) = q) (hs : okS l q.p.use R) :
    o6_b0 (Sum.inr (Sum.inl ((((k : Nat) : Int), wo, w.p.e), (R, l.e), w.m1.e, w.m2.e))) = some (Ctl.go (encS (evA false (evOf (wo.2.2.2.getD k noCy)).s1 (evOf (wo.2.2.2.getD k noCy)).r1) (evA false (evOf (wo.2.2.2.getD k noCy)).s2 (evOf (wo.2.2.2.getD k noCy)).r2) ((k + 1 : Nat) : Int) wo R q.p.use q)) := by
  unfold o6_b0
  refine (smR _ _ _).trans ((smL _ _ _).trans (?_))
  refine (bdS (t := (((((k : Nat) : Int), decide (((k : Nat) : Int) < 20)), wo, w.p.e), (R, l.e), w.m1.e, w.m2.e)) ?_).trans ?_
  · exact (cndT (dt hk)).trans rfl
  refine (cndT (dt h20)).trans ((gdT (dt ⟨Int.natCast_nonneg k, hk⟩)).trans ?_)
  refine (bdS (t := cond (evA false (evOf (wo.2.2.2.getD k noCy)).s1 (evOf (wo.2.2.2.getD k noCy)).r1) (cond (evA false (evOf (wo.2.2.2.getD k noCy)).s2 (evOf (wo.2.2.2.getD k noCy)).r2) (Sum.inr (Sum.inr (Sum.inr ((((((k : Nat) : Int), wo), q.p.e, R, l.e), (((q.p.use.lat, q.p.use.ver, q.p.use.ph), (q.p.use.bank, q.p.use.speed), q.p.use.alt, q.p.use.vs), q.m1.e), q.m2.e, q.c1.h, q.c2.h), ((q.c1.nd.e, q.c1.ps), q.c1.cz, q.c2.nd.e, q.c2.ps), (q.c2.cz, q.c1.co.ps), q.c1.co.ss, q.c2.co.ps, q.c2.co.ss)))) (Sum.inr (Sum.inr (Sum.inl (((((k : Nat) : Int), wo, q.p.e), (R, l.e), ((q.p.use.lat, q.p.use.ver, q.p.use.ph), (q.p.use.bank, q.p.use.speed), q.p.use.alt, q.p.use.vs), q.m1.e), (q.m2.e, q.c1.h, q.c1.nd.e), (q.c1.ps, q.c1.cz), q.c1.co.ps, q.c1.co.ss))))) (cond (evA false (evOf (wo.2.2.2.getD k noCy)).s2 (evOf (wo.2.2.2.getD k noCy)).r2) (Sum.inr (Sum.inl (((((k : Nat) : Int), wo, q.p.e), (R, l.e), ((q.p.use.lat, q.p.use.ver, q.p.use.ph), (q.p.use.bank, q.p.use.speed), q.p.use.alt, q.p.use.vs), q.m1.e), (q.m2.e, q.c2.h, q.c2.nd.e), (q.c2.ps, q.c2.cz), q.c2.co.ps, q.c2.co.ss))) (Sum.inl (((((k : Nat) : Int), wo), q.p.e, R), (l.e, ((q.p.use.lat, q.p.use.ver, q.p.use.ph), (q.p.use.bank, q.p.use.speed), q.p.use.alt, q.p.use.vs)), q.m1.e, q.m2.e)))) ?_).trans ?_
  · refine (bdS (o10_eq _ 20)).trans ((bdS (o10_eq _ 20)).trans ((bdS (o9v1_eq (c1 := w.c1) (c2 := w.c2) h.init h.p1 h.p2 (evOf (wo.2.2.2.getD k noCy)) ((wo.2.2.2.getD k noCy).1.take 20) ((wo.2.2.2.getD k noCy).2.1.take 20))).trans ?_))
    rw [hq]
    cases (evA false (evOf (wo.2.2.2.getD k noCy)).s1 (evOf (wo.2.2.2.getD k noCy)).r1) <;> cases (evA false (evOf (wo.2.2.2.getD k noCy)).s2 (evOf (wo.2.2.2.getD k noCy)).r2) <;> rfl
  cases (evA false (evOf (wo.2.2.2.getD k noCy)).s1 (evOf (wo.2.2.2.getD k noCy)).r1) with
  | true =>
    cases (evA false (evOf (wo.2.2.2.getD k noCy)).s2 (evOf (wo.2.2.2.getD k noCy)).r2) with
    | true => exact tS_335143_11 h20 R l hs
    | false => exact tS_335143_10 h20 R l hs
  | false =>
    cases (evA false (evOf (wo.2.2.2.getD k noCy)).s2 (evOf (wo.2.2.2.getD k noCy)).r2) with
    | true => exact tS_335143_01 h20 R l hs
    | false => exact tS_335143_00 h20 R l hs
theorem eS_00 {wo : WoT} {k : Nat} (hk : ¬ (((k : Nat) : Int) < ((wo.2.2.2.length : Nat) : Int) ∧ ((k : Nat) : Int) < 20)) (R : (Int × Int) × Int × Int) (l : Tg) {w : W} : o6_b0 (Sum.inr (Sum.inl ((((k : Nat) : Int), wo, w.p.e), (R, l.e), w.m1.e, w.m2.e))) = some (Ctl.done true) := by
  unfold o6_b0
  refine (smR _ _ _).trans ((smL _ _ _).trans (?_))
  refine (bdS (t := (((((k : Nat) : Int), false), wo, w.p.e), (R, l.e), w.m1.e, w.m2.e)) ?_).trans ((cndF rfl).trans (dnS _))
  by_cases h1 : ((k : Nat) : Int) < ((wo.2.2.2.length : Nat) : Int)
  · refine (cndT (dt h1)).trans ?_
    exact congrArg (fun z : Bool => some (((((k : Nat) : Int), z), wo, w.p.e), (R, l.e), w.m1.e, w.m2.e)) (df (fun h2 => hk ⟨h1, h2⟩))
  · exact (cndF (df h1)).trans rfl
theorem bS_01 {wo : WoT} {k : Nat} (hk : ((k : Nat) : Int) < ((wo.2.2.2.length : Nat) : Int)) (h20 : ((k : Nat) : Int) < 20) (R : (Int × Int) × Int × Int) (l : Tg) {w q : W} (h : w.ok false true) (hq : cycW false true w.p w.m1 w.m2 w.c1 w.c2 (evOf (wo.2.2.2.getD k noCy)) ((wo.2.2.2.getD k noCy).1.take 20) ((wo.2.2.2.getD k noCy).2.1.take 20) = q) (hs : okS l q.p.use R) :
    o6_b0 (Sum.inr (Sum.inr (Sum.inl (((((k : Nat) : Int), wo, w.p.e), R, l.e, w.m1.e), (w.m2.e, w.c2.h, w.c2.nd.e), (w.c2.ps, w.c2.cz), w.c2.co.ps, w.c2.co.ss)))) = some (Ctl.go (encS (evA false (evOf (wo.2.2.2.getD k noCy)).s1 (evOf (wo.2.2.2.getD k noCy)).r1) (evA true (evOf (wo.2.2.2.getD k noCy)).s2 (evOf (wo.2.2.2.getD k noCy)).r2) ((k + 1 : Nat) : Int) wo R q.p.use q)) := by
  unfold o6_b0
  refine (smR _ _ _).trans ((smR _ _ _).trans ((smL _ _ _).trans (?_)))
  refine (bdS (t := (((((k : Nat) : Int), decide (((k : Nat) : Int) < 20), wo), (w.p.e, R), l.e, w.m1.e), (w.m2.e, w.c2.h, w.c2.nd.e), (w.c2.ps, w.c2.cz), w.c2.co.ps, w.c2.co.ss)) ?_).trans ?_
  · exact (cndT (dt hk)).trans rfl
  refine (cndT (dt h20)).trans ((gdT (dt ⟨Int.natCast_nonneg k, hk⟩)).trans ?_)
  refine (bdS (t := cond (evA false (evOf (wo.2.2.2.getD k noCy)).s1 (evOf (wo.2.2.2.getD k noCy)).r1) (cond (evA true (evOf (wo.2.2.2.getD k noCy)).s2 (evOf (wo.2.2.2.getD k noCy)).r2) (Sum.inr (Sum.inr (Sum.inr ((((((k : Nat) : Int), wo), q.p.e, R, l.e), (((q.p.use.lat, q.p.use.ver, q.p.use.ph), (q.p.use.bank, q.p.use.speed), q.p.use.alt, q.p.use.vs), q.m1.e), q.m2.e, q.c1.h, q.c2.h), ((q.c1.nd.e, q.c1.ps), q.c1.cz, q.c2.nd.e, q.c2.ps), (q.c2.cz, q.c1.co.ps), q.c1.co.ss, q.c2.co.ps, q.c2.co.ss)))) (Sum.inr (Sum.inl (((((k : Nat) : Int), wo, q.p.e), (R, l.e), ((q.p.use.lat, q.p.use.ver, q.p.use.ph), (q.p.use.bank, q.p.use.speed), q.p.use.alt, q.p.use.vs), q.m1.e), (q.m2.e, q.c1.h, q.c1.nd.e), (q.c1.ps, q.c1.cz), q.c1.co.ps, q.c1.co.ss)))) (cond (evA true (evOf (wo.2.2.2.getD k noCy)).s2 (evOf (wo.2.2.2.getD k noCy)).r2) (Sum.inr (Sum.inr (Sum.inl (((((k : Nat) : Int), wo, q.p.e), (R, l.e), ((q.p.use.lat, q.p.use.ver, q.p.use.ph), (q.p.use.bank, q.p.use.speed), q.p.use.alt, q.p.use.vs), q.m1.e), (q.m2.e, q.c2.h, q.c2.nd.e), (q.c2.ps, q.c2.cz), q.c2.co.ps, q.c2.co.ss)))) (Sum.inl (((((k : Nat) : Int), wo), q.p.e, R), (l.e, ((q.p.use.lat, q.p.use.ver, q.p.use.ph), (q.p.use.bank, q.p.use.speed), q.p.use.alt, q.p.use.vs)), q.m1.e, q.m2.e)))) ?_).trans ?_
  · refine (bdS (o10_eq _ 20)).trans ((bdS (o10_eq _ 20)).trans ((bdS (o9v2_eq (c1 := w.c1) h.init h.p1 h.p2 (h.c2 rfl) (evOf (wo.2.2.2.getD k noCy)) ((wo.2.2.2.getD k noCy).1.take 20) ((wo.2.2.2.getD k noCy).2.1.take 20))).trans ?_))
    rw [hq]
    cases (evA false (evOf (wo.2.2.2.getD k noCy)).s1 (evOf (wo.2.2.2.getD k noCy)).r1) <;> cases (evA true (evOf (wo.2.2.2.getD k noCy)).s2 (evOf (wo.2.2.2.getD k noCy)).r2) <;> rfl
  cases (evA false (evOf (wo.2.2.2.getD k noCy)).s1 (evOf (wo.2.2.2.getD k noCy)).r1) with
  | true =>
    cases (evA true (evOf (wo.2.2.2.getD k noCy)).s2 (evOf (wo.2.2.2.getD k noCy)).r2) with
    | true => exact tS_2f944d_11 h20 R l hs
    | false => exact tS_2f944d_10 h20 R l hs
  | false =>
    cases (evA true (evOf (wo.2.2.2.getD k noCy)).s2 (evOf (wo.2.2.2.getD k noCy)).r2) with
    | true => exact tS_2f944d_01 h20 R l hs
    | false => exact tS_2f944d_00 h20 R l hs
theorem eS_01 {wo : WoT} {k : Nat} (hk : ¬ (((k : Nat) : Int) < ((wo.2.2.2.length : Nat) : Int) ∧ ((k : Nat) : Int) < 20)) (R : (Int × Int) × Int × Int) (l : Tg) {w : W} : o6_b0 (Sum.inr (Sum.inr (Sum.inl (((((k : Nat) : Int), wo, w.p.e), R, l.e, w.m1.e), (w.m2.e, w.c2.h, w.c2.nd.e), (w.c2.ps, w.c2.cz), w.c2.co.ps, w.c2.co.ss)))) = some (Ctl.done true) := by
  unfold o6_b0
  refine (smR _ _ _).trans ((smR _ _ _).trans ((smL _ _ _).trans (?_)))
  refine (bdS (t := (((((k : Nat) : Int), false, wo), (w.p.e, R), l.e, w.m1.e), (w.m2.e, w.c2.h, w.c2.nd.e), (w.c2.ps, w.c2.cz), w.c2.co.ps, w.c2.co.ss)) ?_).trans ((cndF rfl).trans (dnS _))
  by_cases h1 : ((k : Nat) : Int) < ((wo.2.2.2.length : Nat) : Int)
  · refine (cndT (dt h1)).trans ?_
    exact congrArg (fun z : Bool => some (((((k : Nat) : Int), z, wo), (w.p.e, R), l.e, w.m1.e), (w.m2.e, w.c2.h, w.c2.nd.e), (w.c2.ps, w.c2.cz), w.c2.co.ps, w.c2.co.ss)) (df (fun h2 => hk ⟨h1, h2⟩))
  · exact (cndF (df h1)).trans rfl
theorem bS_10 {wo : WoT} {k : Nat} (hk : ((k : Nat) : Int) < ((wo.2.2.2.length : Nat) : Int)) (h20 : ((k : Nat) : Int) < 20) (R : (Int × Int) × Int × Int) (l : Tg) {w q : W} (h : w.ok true false) (hq : cycW true false w.p w.m1 w.m2 w.c1 w.c2 (evOf (wo.2.2.2.getD k noCy)) ((wo.2.2.2.getD k noCy).1.take 20) ((wo.2.2.2.getD k noCy).2.1.take 20) = q) (hs : okS l q.p.use R) :
    o6_b0 (Sum.inr (Sum.inr (Sum.inr (((((k : Nat) : Int), wo, w.p.e), R, l.e, w.m1.e), (w.m2.e, w.c1.h, w.c1.nd.e), (w.c1.ps, w.c1.cz), w.c1.co.ps, w.c1.co.ss)))) = some (Ctl.go (encS (evA true (evOf (wo.2.2.2.getD k noCy)).s1 (evOf (wo.2.2.2.getD k noCy)).r1) (evA false (evOf (wo.2.2.2.getD k noCy)).s2 (evOf (wo.2.2.2.getD k noCy)).r2) ((k + 1 : Nat) : Int) wo R q.p.use q)) := by
  unfold o6_b0
  refine (smR _ _ _).trans ((smR _ _ _).trans ((smR _ _ _).trans (?_)))
  refine (bdS (t := (((((k : Nat) : Int), decide (((k : Nat) : Int) < 20), wo), (w.p.e, R), l.e, w.m1.e), (w.m2.e, w.c1.h, w.c1.nd.e), (w.c1.ps, w.c1.cz), w.c1.co.ps, w.c1.co.ss)) ?_).trans ?_
  · exact (cndT (dt hk)).trans rfl
  refine (cndT (dt h20)).trans ((gdT (dt ⟨Int.natCast_nonneg k, hk⟩)).trans ?_)
  refine (bdS (t := cond (evA true (evOf (wo.2.2.2.getD k noCy)).s1 (evOf (wo.2.2.2.getD k noCy)).r1) (cond (evA false (evOf (wo.2.2.2.getD k noCy)).s2 (evOf (wo.2.2.2.getD k noCy)).r2) (Sum.inr (Sum.inr (Sum.inr ((((((k : Nat) : Int), wo), q.p.e, R, l.e), (((q.p.use.lat, q.p.use.ver, q.p.use.ph), (q.p.use.bank, q.p.use.speed), q.p.use.alt, q.p.use.vs), q.m1.e), q.m2.e, q.c1.h, q.c2.h), ((q.c1.nd.e, q.c1.ps), q.c1.cz, q.c2.nd.e, q.c2.ps), (q.c2.cz, q.c1.co.ps), q.c1.co.ss, q.c2.co.ps, q.c2.co.ss)))) (Sum.inr (Sum.inl (((((k : Nat) : Int), wo, q.p.e), (R, l.e), ((q.p.use.lat, q.p.use.ver, q.p.use.ph), (q.p.use.bank, q.p.use.speed), q.p.use.alt, q.p.use.vs), q.m1.e), (q.m2.e, q.c1.h, q.c1.nd.e), (q.c1.ps, q.c1.cz), q.c1.co.ps, q.c1.co.ss)))) (cond (evA false (evOf (wo.2.2.2.getD k noCy)).s2 (evOf (wo.2.2.2.getD k noCy)).r2) (Sum.inr (Sum.inr (Sum.inl (((((k : Nat) : Int), wo, q.p.e), (R, l.e), ((q.p.use.lat, q.p.use.ver, q.p.use.ph), (q.p.use.bank, q.p.use.speed), q.p.use.alt, q.p.use.vs), q.m1.e), (q.m2.e, q.c2.h, q.c2.nd.e), (q.c2.ps, q.c2.cz), q.c2.co.ps, q.c2.co.ss)))) (Sum.inl (((((k : Nat) : Int), wo), q.p.e, R), (l.e, ((q.p.use.lat, q.p.use.ver, q.p.use.ph), (q.p.use.bank, q.p.use.speed), q.p.use.alt, q.p.use.vs)), q.m1.e, q.m2.e)))) ?_).trans ?_
  · refine (bdS (o10_eq _ 20)).trans ((bdS (o10_eq _ 20)).trans ((bdS (o9v3_eq (c2 := w.c2) h.init h.p1 h.p2 (h.c1 rfl) (evOf (wo.2.2.2.getD k noCy)) ((wo.2.2.2.getD k noCy).1.take 20) ((wo.2.2.2.getD k noCy).2.1.take 20))).trans ?_))
    rw [hq]
    cases (evA true (evOf (wo.2.2.2.getD k noCy)).s1 (evOf (wo.2.2.2.getD k noCy)).r1) <;> cases (evA false (evOf (wo.2.2.2.getD k noCy)).s2 (evOf (wo.2.2.2.getD k noCy)).r2) <;> rfl
  cases (evA true (evOf (wo.2.2.2.getD k noCy)).s1 (evOf (wo.2.2.2.getD k noCy)).r1) with
  | true =>
    cases (evA false (evOf (wo.2.2.2.getD k noCy)).s2 (evOf (wo.2.2.2.getD k noCy)).r2) with
    | true => exact tS_2f944d_11 h20 R l hs
    | false => exact tS_2f944d_10 h20 R l hs
  | false =>
    cases (evA false (evOf (wo.2.2.2.getD k noCy)).s2 (evOf (wo.2.2.2.getD k noCy)).r2) with
    | true => exact tS_2f944d_01 h20 R l hs
    | false => exact tS_2f944d_00 h20 R l hs
theorem eS_10 {wo : WoT} {k : Nat} (hk : ¬ (((k : Nat) : Int) < ((wo.2.2.2.length : Nat) : Int) ∧ ((k : Nat) : Int) < 20)) (R : (Int × Int) × Int × Int) (l : Tg) {w : W} : o6_b0 (Sum.inr (Sum.inr (Sum.inr (((((k : Nat) : Int), wo, w.p.e), R, l.e, w.m1.e), (w.m2.e, w.c1.h, w.c1.nd.e), (w.c1.ps, w.c1.cz), w.c1.co.ps, w.c1.co.ss)))) = some (Ctl.done true) := by
  unfold o6_b0
  refine (smR _ _ _).trans ((smR _ _ _).trans ((smR _ _ _).trans (?_)))
  refine (bdS (t := (((((k : Nat) : Int), false, wo), (w.p.e, R), l.e, w.m1.e), (w.m2.e, w.c1.h, w.c1.nd.e), (w.c1.ps, w.c1.cz), w.c1.co.ps, w.c1.co.ss)) ?_).trans ((cndF rfl).trans (dnS _))
  by_cases h1 : ((k : Nat) : Int) < ((wo.2.2.2.length : Nat) : Int)
  · refine (cndT (dt h1)).trans ?_
    exact congrArg (fun z : Bool => some (((((k : Nat) : Int), z, wo), (w.p.e, R), l.e, w.m1.e), (w.m2.e, w.c1.h, w.c1.nd.e), (w.c1.ps, w.c1.cz), w.c1.co.ps, w.c1.co.ss)) (df (fun h2 => hk ⟨h1, h2⟩))
  · exact (cndF (df h1)).trans rfl
end Go.Proofs.YtpleflcfaecojaaGreat
namespace Go.Proofs.YtpleflcfaecojaaGreat
set_option linter.unusedVariables false
set_option linter.unusedSimpArgs false
set_option maxRecDepth 100000
open Go.RowKit
def in64 (x : Int) : Prop := -9223372036854775808 ≤ x ∧ x ≤ 9223372036854775807
structure Tg.inR (t : Tg) : Prop where
  bank : in64 t.bank
  speed : in64 t.speed
  alt : in64 t.alt
  vs : in64 t.vs
theorem in64_0 : in64 0 := ⟨by decide, by decide⟩
theorem noTg_in : noTg.inR := ⟨in64_0, in64_0, in64_0, in64_0⟩
theorem within_eq (a b r : Int) : o17 a b r = some (decide (IntKind.u64.wrap (IntKind.u64.wrap (cond (decide (a < b)) b a) - IntKind.u64.wrap (cond (decide (a < b)) a b)) ≤ IntKind.u64.wrap r)) := by
  unfold o17
  cases decide (a < b) <;> rfl
theorem u64_sub {a b : Int} (ha : in64 a) (hb : in64 b) (h : b ≤ a) : IntKind.u64.wrap (IntKind.u64.wrap a - IntKind.u64.wrap b) = a - b := by
  obtain ⟨a1, a2⟩ := ha
  obtain ⟨b1, b2⟩ := hb
  rw [IntKind.wrap_u64, IntKind.wrap_u64, IntKind.wrap_u64]
  omega
theorem within_yes {a b r : Int} (ha : in64 a) (hb : in64 b) (h0 : 0 ≤ r) (h1 : r ≤ 9223372036854775807) (h : a - b ≤ r ∧ b - a ≤ r) : o17 a b r = some true := by
  rw [within_eq]
  have hr : IntKind.u64.wrap r = r := by rw [IntKind.wrap_u64]; omega
  rw [hr]
  by_cases hab : a < b
  · rw [dt hab, cond_true, cond_true, u64_sub hb ha (by omega), dt h.2]
  · rw [df hab, cond_false, cond_false, u64_sub ha hb (by omega), dt h.1]
theorem toward_in {last want r : Int} (h : in64 want) : in64 (toward last want r) := by
  have hw : ∀ x, in64 (IntKind.i64.wrap x) := fun x => by have := i64_in_ x; exact ⟨this.1, this.2⟩
  unfold toward
  exact cond_p (P := in64) (cond_p (P := in64) h (hw _)) (cond_p (P := in64) h (hw _))
theorem toward_near {last want r : Int} (hl : in64 last) (hw : in64 want) (h0 : 0 ≤ r) (h1 : r ≤ 9223372036854775807) : last - toward last want r ≤ r ∧ toward last want r - last ≤ r := by
  have hm : maxI r 0 = r := by unfold maxI; split <;> omega
  have hr : IntKind.u64.wrap r = r := by rw [IntKind.wrap_u64]; omega
  obtain ⟨l1, l2⟩ := hl
  obtain ⟨w1, w2⟩ := hw
  unfold toward
  rw [hm, hr]
  by_cases h : want ≥ last
  · rw [dt h, cond_true, u64_sub ⟨w1, w2⟩ ⟨l1, l2⟩ h]
    by_cases h2 : want - last ≤ r
    · rw [dt h2, cond_true]; omega
    · rw [df h2, cond_false, wr64 (by omega)]; omega
  · rw [df h, cond_false, u64_sub ⟨l1, l2⟩ ⟨w1, w2⟩ (by omega)]
    by_cases h2 : last - want ≤ r
    · rw [dt h2, cond_true]; omega
    · rw [df h2, cond_false, wr64 (by omega)]; omega
theorem limit_in {last want : Tg} {r1 r2 r3 r4 : Int} (h : want.inR) : (limit last want r1 r2 r3 r4).inR := ⟨toward_in h.bank, toward_in h.speed, toward_in h.alt, toward_in h.vs⟩
structure RateOk (p : Pr) : Prop where
  h1 : 0 ≤ p.r1 ∧ p.r1 ≤ 9223372036854775807
  h2 : 0 ≤ p.r2 ∧ p.r2 ≤ 9223372036854775807
  h3 : 0 ≤ p.r3 ∧ p.r3 ≤ 9223372036854775807
  h4 : 0 ≤ p.r4 ∧ p.r4 ≤ 9223372036854775807
theorem limit_ok {last want : Tg} {p : Pr} (hl : last.inR) (hw : want.inR) (h : RateOk p) : okS last (limit last want p.r1 p.r2 p.r3 p.r4) (rOf p) :=
  ⟨within_yes hl.bank (toward_in hw.bank) h.h1.1 h.h1.2 (toward_near hl.bank hw.bank h.h1.1 h.h1.2), within_yes hl.speed (toward_in hw.speed) h.h2.1 h.h2.2 (toward_near hl.speed hw.speed h.h2.1 h.h2.2),
    within_yes hl.alt (toward_in hw.alt) h.h3.1 h.h3.2 (toward_near hl.alt hw.alt h.h3.1 h.h3.2), within_yes hl.vs (toward_in hw.vs) h.h4.1 h.h4.2 (toward_near hl.vs hw.vs h.h4.1 h.h4.2)⟩
theorem same_ok {t : Tg} {p : Pr} (ht : t.inR) (h : RateOk p) : okS t t (rOf p) :=
  ⟨within_yes ht.bank ht.bank h.h1.1 h.h1.2 (by rw [Int.sub_self]; exact ⟨h.h1.1, h.h1.1⟩), within_yes ht.speed ht.speed h.h2.1 h.h2.2 (by rw [Int.sub_self]; exact ⟨h.h2.1, h.h2.1⟩), within_yes ht.alt ht.alt h.h3.1 h.h3.2 (by rw [Int.sub_self]; exact ⟨h.h3.1, h.h3.1⟩), within_yes ht.vs ht.vs h.h4.1 h.h4.2 (by rw [Int.sub_self]; exact ⟨h.h4.1, h.h4.1⟩)⟩
theorem wrong_in (m : Mc) (k : Int) : (m.tg.wrong k).inR := by
  have hw : ∀ x, in64 (IntKind.i64.wrap x) := fun x => by have := i64_in_ x; exact ⟨this.1, this.2⟩
  exact ⟨by show in64 (lxorK .i64 _ k); unfold lxorK; exact hw _, hw _, hw _, hw _⟩
theorem stepA1_t {u : W} (a : Bool) (v : Ev) (h1 : u.r.t1.inR) (h2 : u.r.t2.inR) : (u.stepA1 a v).r.t1.inR ∧ (u.stepA1 a v).r.t2.inR := by
  unfold W.stepA1
  refine cond_p (P := fun z : W => z.r.t1.inR ∧ z.r.t2.inR) ⟨?_, h2⟩ ⟨h1, h2⟩
  exact cond_p (P := Tg.inR) (wrong_in _ _) h1
theorem stepA2_t {u : W} (a : Bool) (v : Ev) (h1 : u.r.t1.inR) (h2 : u.r.t2.inR) : (u.stepA2 a v).r.t1.inR ∧ (u.stepA2 a v).r.t2.inR := by
  unfold W.stepA2
  refine cond_p (P := fun z : W => z.r.t1.inR ∧ z.r.t2.inR) ⟨h1, ?_⟩ ⟨h1, h2⟩
  exact cond_p (P := Tg.inR) (wrong_in _ _) h2
theorem used_of {u : W} {l : Tg} (hu : u.p.use = l) (hl : l.inR) (h1 : u.r.t1.inR) (h2 : u.r.t2.inR) (hr : RateOk u.p) : u.used.inR ∧ okS l u.used (rOf u.p) := by
  subst hu
  have ht : (cond (u.src == 1) u.r.t1 u.r.t2).inR := cond_p (P := Tg.inR) h1 h2
  unfold W.used
  exact cond_p (P := fun z : Tg => z.inR ∧ okS u.p.use z (rOf u.p)) ⟨limit_in ht, limit_ok hl ht hr⟩ ⟨hl, same_ok hl hr⟩
def W.late (u : W) (a b : Bool) (v : Ev) : W := ((((u.ex2 a b v).judge a b).ex3 a b v).take a b).node a b
theorem late_t1 (u : W) (a b : Bool) (v : Ev) : (u.late a b v).r.t1 = u.r.t1 := rfl
theorem late_t2 (u : W) (a b : Bool) (v : Ev) : (u.late a b v).r.t2 = u.r.t2 := rfl
theorem late_p (u : W) (a b : Bool) (v : Ev) : (u.late a b v).p = u.p := rfl
def W.early (u : W) (a b : Bool) (v : Ev) (one two : List UInt8) : W := ((u.ex0 a b v one two).hear a b).ex1 a b v
theorem early_r (u : W) (a b : Bool) (v : Ev) (one two : List UInt8) : (u.early a b v one two).r = u.r := rfl
theorem early_p (u : W) (a b : Bool) (v : Ev) (one two : List UInt8) : (u.early a b v one two).p = u.p := rfl
theorem all_late (u : W) (a b : Bool) (v : Ev) (one two : List UInt8) : u.all a b v one two = (((u.early a b v one two).step a b v).late a b v).fin := rfl
theorem fin_use (u : W) : u.fin.p.use = u.used := rfl
theorem all_smooth {w : W} {a b : Bool} {v : Ev} {one two : List UInt8} (hl : w.p.use.inR) (h1 : w.r.t1.inR) (h2 : w.r.t2.inR) (hr : RateOk w.p) :
    (w.all a b v one two).p.use.inR ∧ okS w.p.use (w.all a b v one two).p.use (rOf w.p) := by
  rw [all_late, fin_use]
  have er := early_r w a b v one two
  have ep := early_p w a b v one two
  generalize w.early a b v one two = u at er ep
  obtain ⟨g1, g2⟩ := stepA1_t (u := u) a v (by rw [er]; exact h1) (by rw [er]; exact h2)
  obtain ⟨k1, k2⟩ := stepA2_t (u := u.stepA1 a v) b v g1 g2
  have hp : (u.step a b v).p = w.p := (step_p _ _ _ _).trans ep
  have e1 := late_t1 (u.step a b v) a b v
  have e2 := late_t2 (u.step a b v) a b v
  have e3 := late_p (u.step a b v) a b v
  generalize (u.step a b v).late a b v = z at e1 e2 e3
  have := used_of (u := z) (l := w.p.use) (by rw [e3, hp]) hl (by rw [e1]; exact k1) (by rw [e2]; exact k2) (by rw [e3, hp]; exact hr)
  rw [show rOf z.p = rOf w.p by rw [e3, hp]] at this
  exact this
structure GoodS (R : (Int × Int) × Int × Int) (a b : Bool) (w : W) : Prop where
  ok : w.ok a b
  use : w.p.use.inR
  rate : RateOk w.p
  same : rOf w.p = R
theorem next_good {R : (Int × Int) × Int × Int} {a b : Bool} {w q : W} (h : GoodS R a b w) {v : Ev} {one two : List UInt8} (hq : cycW a b w.p w.m1 w.m2 w.c1 w.c2 v one two = q) : GoodS R (evA a v.s1 v.r1) (evA b v.s2 v.r2) q ∧ okS w.p.use q.p.use R := by
  subst hq
  have h1 := cycW_ok h.ok v one two
  have h2 := all_smooth (w := start w.p w.m1 w.m2 (evK a v.s1 v.k1 w.c1 1) (evK b v.s2 v.k2 w.c2 2)) (a := evA a v.s1 v.r1) (b := evA b v.s2 v.r2) (v := v) (one := one) (two := two) h.use noTg_in noTg_in ⟨h.rate.h1, h.rate.h2, h.rate.h3, h.rate.h4⟩
  have h3 := all_p (start w.p w.m1 w.m2 (evK a v.s1 v.k1 w.c1 1) (evK b v.s2 v.k2 w.c2 2)) (evA a v.s1 v.r1) (evA b v.s2 v.r2) v one two
  have hs := h.same
  refine ⟨⟨h1, h2.1, ?_, ?_⟩, ?_⟩
  · unfold cycW; rw [h3]; exact ⟨h.rate.h1, h.rate.h2, h.rate.h3, h.rate.h4⟩
  · unfold cycW; rw [h3]; exact hs
  · rw [← hs]; exact h2.2
theorem body_S {wo : WoT} {k : Nat} (hk : ((k : Nat) : Int) < ((wo.2.2.2.length : Nat) : Int)) (h20 : ((k : Nat) : Int) < 20) {R : (Int × Int) × Int × Int} {w : W} {a b : Bool} (h : GoodS R a b w) :
    ∃ a' b' q, o6_b0 (encS a b ((k : Nat) : Int) wo R w.p.use w) = some (Ctl.go (encS a' b' ((k + 1 : Nat) : Int) wo R q.p.use q)) ∧ GoodS R a' b' q := by
  obtain ⟨q, hq⟩ : ∃ q, cycW a b w.p w.m1 w.m2 w.c1 w.c2 (evOf (wo.2.2.2.getD k noCy)) ((wo.2.2.2.getD k noCy).1.take 20) ((wo.2.2.2.getD k noCy).2.1.take 20) = q := ⟨_, rfl⟩
  obtain ⟨g1, g2⟩ := next_good h hq
  refine ⟨_, _, q, ?_, g1⟩
  cases a <;> cases b
  · exact bS_00 hk h20 R w.p.use h.ok hq g2
  · exact bS_01 hk h20 R w.p.use h.ok hq g2
  · exact bS_10 hk h20 R w.p.use h.ok hq g2
  · exact bS_11 hk h20 R w.p.use h.ok hq g2
theorem end_S {wo : WoT} {k : Nat} (hk : ¬ (((k : Nat) : Int) < ((wo.2.2.2.length : Nat) : Int) ∧ ((k : Nat) : Int) < 20)) (R : (Int × Int) × Int × Int) (l : Tg) (w : W) (a b : Bool) : o6_b0 (encS a b ((k : Nat) : Int) wo R l w) = some (Ctl.done true) := by
  cases a <;> cases b
  · exact eS_00 hk R l
  · exact eS_01 hk R l
  · exact eS_10 hk R l
  · exact eS_11 hk R l
theorem smooth_plain {x : WoT} (h : 0 ≤ x.1.2.1 ∧ x.1.2.1 ≤ 65535) : o6 x = some true := by
  unfold o6
  refine (bdS awake_yes).trans ((cndF rfl).trans ?_)
  refine (bdS (t := Sum.inr ((((x, (wOf x).p.e), rOf (wOf x).p, (wOf x).m1.e), ((wOf x).m2.e, (wOf x).c1.h), (wOf x).c2.h, (wOf x).c1.nd.e), (((wOf x).c1.ps, (wOf x).c1.cz), (wOf x).c2.nd.e, (wOf x).c2.ps), ((wOf x).c2.cz, (wOf x).c1.co.ps), (wOf x).c1.co.ss, (wOf x).c2.co.ps, (wOf x).c2.co.ss)) ((bdS (o8_eq h)).trans rfl)).trans ?_
  have hloop : ∃ r, loopO fuelN o6_b0 (encS true true ((0 : Nat) : Int) x (rOf (wOf x).p) (wOf x).p.use (wOf x)) = some r ∧ r = true := by
    refine loop_inv (n := min x.2.2.2.length 20) (Q := fun r => r = true) (fun k s => ∃ a b w, s = encS a b ((k : Nat) : Int) x (rOf (wOf x).p) w.p.use w ∧ GoodS (rOf (wOf x).p) a b w) ?_ ?_ (by omega) ?_
    · rintro k s hk ⟨a, b, w, rfl, hw⟩
      obtain ⟨a', b', q, e, g⟩ := body_S (wo := x) (k := k) (by omega) (by omega) hw
      exact ⟨_, e, a', b', q, rfl, g⟩
    · rintro s ⟨a, b, w, rfl, hw⟩
      exact ⟨true, end_S (by omega) _ _ _ _ _, rfl⟩
    · refine ⟨true, true, wOf x, rfl, wOf_ok h _ _, noTg_in, ?_, rfl⟩
      have g : ∀ a c : Int, (0 ≤ c ∧ c ≤ 9223372036854775807) → 0 ≤ landK .i64 a c ∧ landK .i64 a c ≤ 9223372036854775807 := fun a c hc => ⟨(land64 a c hc).1, by have := (land64 a c hc).2; omega⟩
      exact ⟨g _ _ (by decide), g _ _ (by decide), g _ _ (by decide), g _ _ (by decide)⟩
  obtain ⟨r, hr, rfl⟩ := hloop
  exact hr
end Go.Proofs.YtpleflcfaecojaaGreat
namespace Go.Proofs.YtpleflcfaecojaaGreat
set_option linter.unusedVariables false
set_option maxRecDepth 100000
open Go.RowKit
abbrev CdW : Cd := (.p (.i .u64) (.p (.i .u16) (.p (.p (.i .i64) (.p (.i .i64) (.p (.i .i64) (.i .i64)))) (.a (.p (.a .y) (.p (.a .y) (.p (.p .b .b) (.p (.p .b .b) (.p (.p .b .b) (.p (.p (.i .i64) (.i .i64)) (.p (.p (.p .b (.p (.i .i64) (.i .u32))) (.p (.p .b (.p (.i .i64) (.i .u32))) (.p (.p .b (.p (.i .i64) (.i .u32))) (.p .b (.p (.i .i64) (.i .u32)))))) (.p (.p .b (.p (.i .i64) (.i .u32))) (.p (.p .b (.p (.i .i64) (.i .u32))) (.p (.p .b (.p (.i .i64) (.i .u32))) (.p .b (.p (.i .i64) (.i .u32)))))))))))))))))
abbrev WdT : Type := Int × Int × (Int × Int × Int × Int) × List CyT
theorem world_in {p : Psi} {cs : List Value} {x : WdT} (h : CdW.ty.rep p cs x) : (0 ≤ x.1 ∧ x.1 ≤ 18446744073709551615) ∧ (0 ≤ x.2.1 ∧ x.2.1 ≤ 65535) := by
  obtain ⟨c1, c2, e, h1, c3, c4, e2, h2, h3⟩ := h
  exact ⟨⟨h1.2.1, h1.2.2⟩, ⟨h2.2.1, h2.2.2⟩⟩
def woOf (x : WdT) : WoT := ((x.1, x.2.1, x.2.2.1.1), (x.2.2.1.2.1, x.2.2.1.2.2.1), x.2.2.1.2.2.2, x.2.2.2)
end Go.Proofs.YtpleflcfaecojaaGreat
namespace Go.Proofs.YtpleflcfaecojaaGreat
set_option linter.unusedVariables false
set_option maxRecDepth 100000
open Go.RowKit
theorem smooth_law {p : Psi} {cs : List Value} {x : WdT} (h : CdW.ty.rep p cs x) : o6 (woOf x) = some true := smooth_plain (x := woOf x) (world_in h).2
end Go.Proofs.YtpleflcfaecojaaGreat
