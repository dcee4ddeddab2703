/-
What functions compute, printed by wip/h/py. Conditions: each theorem's own.
-/
import Derived.Test.YtpleflcfaecojaaGreatM7
import Derived.Test.YtpleflcfaecojaaGreatProg
namespace Go.Proofs.YtpleflcfaecojaaGreat
set_option linter.unusedVariables false
set_option linter.unusedSimpArgs false
set_option maxRecDepth 100000
open Go.RowKit
abbrev T0:Tbl:=[]
theorem K0:TOk Tryz.prog T0:= .nil
def dCy:Bt×Bt×(B2)×(B2)×(B2)×(I2)×((Bool×I2)×(Bool×I2)×(Bool×I2)×Bool×I2)×(Bool×I2)×(Bool×I2)×(Bool×I2)×Bool×I2:=(([]:Bt),(([]:Bt),((false,false),((false,false),((false,false),(((0:Int),(0:Int)),(((false,((0:Int),(0:Int))),((false,((0:Int),(0:Int))),((false,((0:Int),(0:Int))),(false,((0:Int),(0:Int)))))),((false,((0:Int),(0:Int))),((false,((0:Int),(0:Int))),((false,((0:Int),(0:Int))),(false,((0:Int),(0:Int)))))))))))))
def zTg:(I3)×(I2)×I2:=(((0:Int),(0:Int),(0:Int)),((0:Int),(0:Int)),(0:Int),(0:Int))
theorem fk {P:Program} {S:Stp P} {f:FuncId} {fn:Func} {ps:Sch} {rs:List Sch} {h:HC} {r:HT ps.tr→Option (ALT rs)} (e:∀ t,evF S fn ps rs h t=r t) (hf:P.funcs[f]? = some fn:=by kernel_rfl) (hb:fn.body.isSome=true:=by kernel_rfl) (hn:Nat.ble ps.sl.length fn.ntmps=true:=by kernel_rfl):FOk P f ⟨ps,rs,r⟩:=FOk.run_eq (evF_ok hf hb hn) e
noncomputable section
def p33:Sch:=⟨[(0,.v (.c (.ro .y false)))],[]⟩
def r33:List Sch:=[⟨[(0,.v (.c (.own 0)))],[.row .y 5]⟩]
def o33 (a0:Bt):Option (Bt) :=
 (nlO (List.isEmpty a0) (some ([]:Bt)) (gd (decide ((([]:Bt).length+a0.length)*1≤140737488355328)) (some (([]:Bt)++a0))))
theorem e33 (t:Bt):evF (stpT Tryz.prog T0 K0) Tryz.f33 p33 r33 .d t=(o33 t):=by kernel_rfl
def n33:FSp:=⟨p33,r33,fun t=>(o33 t)⟩
theorem fo33:FOk Tryz.prog 33 n33:=fk e33
def T1:Tbl:=(33,n33)::T0
theorem K1:TOk Tryz.prog T1:= .cons K0 fo33
def DU:BSh:= .row (.p (.i .i64) (.p (.i .i64) (.p (.i .i64) (.a .y)))) 97
abbrev DW:Type:=(Int×Bt×Int)×Int×Int×List (Int×Int×Int×Bt)
def o18_s0:Sch:=⟨[(0,.v (.c (.i .i64))),(1,.v (.c (.ro .y false))),(15,.v (.c (.b)))],[]⟩
def o18_s1:Sch:=⟨[(0,.v (.c (.i .i64))),(1,.v (.c (.ro .y false))),(6,.v (.c (.i .i64))),(7,.v (.c (.own 0))),(25,.v (.c (.i .i64))),(26,.v (.c (.i .i64)))],[DU]⟩
def p18:Sch:=⟨[(0,.v (.c (.i .i64))),(1,.v (.c (.ro .y false)))],[]⟩
def r18:List Sch:=[⟨[(0,.tup [.c (.own 0),.c (.i .i64)])],[DU]⟩]
def o18_b0 (v3:DW) :=
 (cnd (decide (v3.2.2.1 < v3.2.1)) (gd (decide ((0:Int)≤(IntKind.wrap .i64 (v3.2.2.1*(600:Int)))∧(IntKind.wrap .i64 (v3.2.2.1*(600:Int)))≤(minI (IntKind.wrap .i64 ((IntKind.wrap .i64 (v3.2.2.1+(1:Int)))*(600:Int))) ((v3.1.2.1.length:Nat):Int))∧(minI (IntKind.wrap .i64 ((IntKind.wrap .i64 (v3.2.2.1+(1:Int)))*(600:Int))) ((v3.1.2.1.length:Nat):Int))≤((v3.1.2.1.length:Nat):Int))) (bd (α:=(Bt)) (o33 (List.take ((minI (IntKind.wrap .i64 ((IntKind.wrap .i64 (v3.2.2.1+(1:Int)))*(600:Int))) ((v3.1.2.1.length:Nat):Int)).toNat - (IntKind.wrap .i64 (v3.2.2.1*(600:Int))).toNat) (List.drop (IntKind.wrap .i64 (v3.2.2.1*(600:Int))).toNat v3.1.2.1))) (fun v4=>(gd (decide ((v3.2.2.2.length+([(v3.1.1,(v3.2.2.1,(v3.1.2.2,v4)))]:List (Int×Int×Int×Bt)).length)*48≤140737488355328)) (some (Ctl.go (v3.1,v3.2.1,(IntKind.wrap .i64 (v3.2.2.1+(1:Int))),(v3.2.2.2++([(v3.1.1,(v3.2.2.1,(v3.1.2.2,v4)))]:List (Int×Int×Int×Bt)))))))))) (dnO (some ((0:Int),v3.2.2.2))))
def o18 (a0:Int) (a1:Bt):Option (Int×List (Int×Int×Int×Bt)) :=
 (bd (α:=(Int×Bt×Bool)) (cnd (decide (a0 < (1:Int))) (some (a0,a1,true)) (some (a0,a1,(decide (a0 > (2305843009213693952:Int)))))) (fun v1=>(cnd v1.2.2 (some ((1:Int),([]:List (Int×Int×Int×Bt)))) (cnd (decide (((v1.2.1.length:Nat):Int) > (524288:Int))) (some ((3:Int),([]:List (Int×Int×Int×Bt)))) (loopO (σ:=DW) fuelN o18_b0 ((v1.1,v1.2.1,(maxI (IntKind.wrap .i64 (Int.tdiv (IntKind.wrap .i64 ((IntKind.wrap .i64 (((v1.2.1.length:Nat):Int)+(600:Int))) - (1:Int))) (600:Int))) (1:Int))),(maxI (IntKind.wrap .i64 (Int.tdiv (IntKind.wrap .i64 ((IntKind.wrap .i64 (((v1.2.1.length:Nat):Int)+(600:Int))) - (1:Int))) (600:Int))) (1:Int)),(0:Int),([]:List (Int×Int×Int×Bt))))))))
def h18:HC:=(.s .d (.s (.s (.j false [o18_s0] .d) .d) (.s .d (.s .d (.s .d (.s (.s .d (.b (.l [o18_s1] .d))) .d))))))
theorem e18 (t:Int×Bt):evF (stpT Tryz.prog T1 K1) Tryz.f18 p18 r18 h18 t=(o18 t.1 t.2):=by kernel_rfl
def n18:FSp:=⟨p18,r18,fun t=>(o18 t.1 t.2)⟩
theorem fo18:FOk Tryz.prog 18 n18:=fk e18
def T2:Tbl:=(18,n18)::T1
theorem K2:TOk Tryz.prog T2:= .cons K1 fo18
def p63:Sch:=⟨[(0,.v (.c (.i .i64))),(1,.v (.c (.i .i64))),(2,.v (.c (.i .i64)))],[]⟩
def r63:List Sch:=[⟨[(0,.v (.c (.i .i64)))],[]⟩]
def o63 (a0:Int) (a1:Int) (a2:Int):Option Int :=
 (cnd (decide (a1≥a0)) (cnd (decide ((IntKind.wrap .u64 ((IntKind.wrap .u64 a1) - (IntKind.wrap .u64 a0)))≤(IntKind.wrap .u64 (maxI a2 (0:Int))))) (some a1) (some (IntKind.wrap .i64 (a0+(maxI a2 (0:Int)))))) (cnd (decide ((IntKind.wrap .u64 ((IntKind.wrap .u64 a0) - (IntKind.wrap .u64 a1)))≤(IntKind.wrap .u64 (maxI a2 (0:Int))))) (some a1) (some (IntKind.wrap .i64 (a0 - (maxI a2 (0:Int)))))))
theorem e63 (t:I3):evF (stpT Tryz.prog T2 K2) Tryz.f63 p63 r63 .d t=(o63 t.1 t.2.1 t.2.2):=by kernel_rfl
def n63:FSp:=⟨p63,r63,fun t=>(o63 t.1 t.2.1 t.2.2)⟩
theorem fo63:FOk Tryz.prog 63 n63:=fk e63
def T3:Tbl:=(63,n63)::T2
theorem K3:TOk Tryz.prog T3:= .cons K2 fo63
def BL:SSh:= .v (.agg [.i .u8,.i .u8,.i .u8,.i .i64,.i .i64,.i .i64,.i .i64])
def DX:SSh:= .v (.agg [.i .i64,.i .i64,.i .i64,.i .i64])
abbrev AE:Type:=(I3)×(I2)×I2
def p19:Sch:=⟨[(0,BL),(1,BL),(2,DX)],[]⟩
def r19:List Sch:=[⟨[(0,BL)],[]⟩]
def o19 (a0:AE) (a1:AE) (a2:(I2)×I2):Option AE :=
 (bd (α:=Int) (o63 a0.2.1.1 a1.2.1.1 a2.1.1) (fun v1=>(bd (α:=Int) (o63 a0.2.1.2 a1.2.1.2 a2.1.2) (fun v2=>(bd (α:=Int) (o63 a0.2.2.1 a1.2.2.1 a2.2.1) (fun v3=>(bd (α:=Int) (o63 a0.2.2.2 a1.2.2.2 a2.2.2) (fun v4=>(some (a1.1,(v1,v2),v3,v4))))))))))
theorem e19 (t:AE×AE×(I2)×I2):evF (stpT Tryz.prog T3 K3) Tryz.f19 p19 r19 .d t=(o19 t.1 t.2.1 t.2.2):=by kernel_rfl
def n19:FSp:=⟨p19,r19,fun t=>(o19 t.1 t.2.1 t.2.2)⟩
theorem fo19:FOk Tryz.prog 19 n19:=fk e19
def T4:Tbl:=(19,n19)::T3
theorem K4:TOk Tryz.prog T4:= .cons K3 fo19
def o20_s0:Sch:=⟨[(5,.v (.c (.i .i64))),(9,.v (.c (.own 0))),(10,.v (.c (.i .i64))),(11,.v (.c (.i .i64))),(21,.v (.c (.b)))],[.row .y 5]⟩
def o20_s1:Sch:=⟨[(9,.v (.c (.own 0))),(10,.v (.c (.i .i64))),(11,.v (.c (.i .i64)))],[.row .y 5]⟩
def p20:Sch:=⟨[(0,.v (.c (.i .u8))),(1,.v (.c (.i .u8)))],[]⟩
def r20:List Sch:=[⟨[(0,.v (.c (.i .i64)))],[]⟩]
def o20_b0 (v2:Int×Int×Bt) :=
 (cnd (decide (v2.2.1 < v2.1)) (gd (decide ((0:Int)≤v2.2.1∧v2.2.1 < ((v2.2.2.length:Nat):Int))) (bd (α:=((I2)×I4)) (cnd (((UInt8.toNat (List.getD v2.2.2 v2.2.1.toNat (0:UInt8)):Nat):Int)==(4:Int)) (some ((v2.2.1,v2.1),v2.2.1,true,v2.2.2)) (some ((v2.2.1,v2.1),v2.2.1,(((UInt8.toNat (List.getD v2.2.2 v2.2.1.toNat (0:UInt8)):Nat):Int)==(3:Int)),v2.2.2))) (fun v3=>(cnd v3.2.2.1 (dnO (some (IntKind.wrap .i64 (v3.1.1+(1:Int))))) (some (Ctl.go (v3.1.2,(IntKind.wrap .i64 (v3.2.1+(1:Int))),v3.2.2.2))))))) (dnO (some (0:Int))))
def o20 (a0:Int) (a1:Int):Option Int :=
 (loopO (σ:=Int×Int×Bt) fuelN o20_b0 (((([(u8 a0),(u8 a1)]:Bt).length:Nat):Int),(0:Int),([(u8 a0),(u8 a1)]:Bt)))
def h20:HC:=(.s .d (.s (.s .d (.b (.l [o20_s1] (.s .d (.s .d (.s (.b (.s .d (.s (.j false [o20_s0] .d) .d))) .d)))))) .d))
theorem e20 (t:I2):evF (stpT Tryz.prog T4 K4) Tryz.f20 p20 r20 h20 t=(o20 t.1 t.2):=by kernel_rfl
def n20:FSp:=⟨p20,r20,fun t=>(o20 t.1 t.2)⟩
theorem fo20:FOk Tryz.prog 20 n20:=fk e20
def T5:Tbl:=(20,n20)::T4
theorem K5:TOk Tryz.prog T5:= .cons K4 fo20
def o7_s0:Sch:=⟨[(0,.v (.c (.b)))],[]⟩
def p7:Sch:=⟨[],[]⟩
def r7:List Sch:=[⟨[(0,.v (.c (.b)))],[]⟩]
def o7:Option Bool :=
 (bd (α:=(Int×List (Int×Int×Int×Bt))) (o18 (3:Int) (List.replicate (601:Int).toNat (u8 (0:Int)))) (fun v1=>(bd (α:=AE) (o19 zTg (((0:Int),(0:Int),(0:Int)),((-700:Int),(0:Int)),(0:Int),(0:Int)) (((300:Int),(0:Int)),(0:Int),(0:Int))) (fun v2=>(bd (α:=Bool) (cnd (((v1.2.length:Nat):Int)==(2:Int)) (gd (decide ((0:Int)≤(1:Int)∧(1:Int) < ((v1.2.length:Nat):Int))) (cnd (((List.getD v1.2 ((1:Int).toNat) ((0:Int),((0:Int),((0:Int),([]:Bt))))).2).1==(1:Int)) (gd (decide ((0:Int)≤(1:Int)∧(1:Int) < ((v1.2.length:Nat):Int))) (cnd ((((List.getD v1.2 ((1:Int).toNat) ((0:Int),((0:Int),((0:Int),([]:Bt))))).2).2).1==(2:Int)) (gd (decide ((0:Int)≤(1:Int)∧(1:Int) < ((v1.2.length:Nat):Int))) (cnd (((((((List.getD v1.2 ((1:Int).toNat) ((0:Int),((0:Int),((0:Int),([]:Bt))))).2).2).2).length:Nat):Int)==(1:Int)) (cnd (v1.1==(0:Int)) (cnd (v2.2.1.1==(-300:Int)) (bd (α:=Int) (o20 (2:Int) (3:Int)) (fun v3=>(cnd (v3==(2:Int)) (bd (α:=Int) (o20 (1:Int) (2:Int)) (fun v4=>(some (v4==(0:Int))))) (some false)))) (some false)) (some false)) (some false))) (some false))) (some false))) (some false)) (fun v5=>(some v5)))))))
def h7:HC:=(.s .d (.s .d (.s .d (.s (.j false [o7_s0] .d) .d))))
theorem e7 (t:Unit):evF (stpT Tryz.prog T5 K5) Tryz.f7 p7 r7 h7 t=o7:=by kernel_rfl
def n7:FSp:=⟨p7,r7,fun t=>o7⟩
theorem fo7:FOk Tryz.prog 7 n7:=fk e7
def T6:Tbl:=(7,n7)::T5
theorem K6:TOk Tryz.prog T6:= .cons K5 fo7
def o85_s0:Sch:=⟨[(0,.v (.c (.i .i64))),(1,.v (.c (.i .i64))),(5,.v (.c (.own 0))),(6,.v (.c (.i .i64)))],[.row .y 5]⟩
def p85:Sch:=⟨[(0,.v (.c (.i .i64))),(1,.v (.c (.i .i64)))],[]⟩
def r85:List Sch:=[⟨[(0,.v (.c (.own 0)))],[.row .y 5]⟩]
def o85_b0 (v2:(I2)×Int×Bt) :=
 (cnd (decide (v2.2.1 < v2.1.2)) (gd (decide ((0:Int)≤(IntKind.wrap .i64 ((8:Int)*v2.2.1)))) (gd (decide ((v2.2.2.length+([(u8 (IntKind.wrap .u8 (shrK .u64 (IntKind.wrap .u64 v2.1.1) (IntKind.wrap .i64 ((8:Int)*v2.2.1)))))]:Bt).length)*1≤140737488355328)) (some (Ctl.go (v2.1,(IntKind.wrap .i64 (v2.2.1+(1:Int))),(v2.2.2++([(u8 (IntKind.wrap .u8 (shrK .u64 (IntKind.wrap .u64 v2.1.1) (IntKind.wrap .i64 ((8:Int)*v2.2.1)))))]:Bt))))))) (dnO (some v2.2.2)))
def o85 (a0:Int) (a1:Int):Option (Bt) :=
 (loopO (σ:=(I2)×Int×Bt) fuelN o85_b0 ((a0,a1),(0:Int),([]:Bt)))
def h85:HC:=(.s .d (.s .d (.s (.s .d (.b (.l [o85_s0] .d))) .d)))
theorem e85 (t:I2):evF (stpT Tryz.prog T6 K6) Tryz.f85 p85 r85 h85 t=(o85 t.1 t.2):=by kernel_rfl
def n85:FSp:=⟨p85,r85,fun t=>(o85 t.1 t.2)⟩
theorem fo85:FOk Tryz.prog 85 n85:=fk e85
def T7:Tbl:=(85,n85)::T6
theorem K7:TOk Tryz.prog T7:= .cons K6 fo85
def DY:BSh:= .cells 56 [.i .u64,.i .i64,.i .i64]
def Do:SSh:= .v (.agg [.i .u64,.i .i64,.i .i64])
def o48_s0:Sch:=⟨[(1,.v (.c (.ptr 0 0))),(3,.v (.c (.own 1))),(4,.v (.c (.i .i64)))],[DY,.row .y 5]⟩
def p48:Sch:=⟨[(0,Do)],[]⟩
def r48:List Sch:=[⟨[(0,.v (.c (.own 0)))],[.row .y 5]⟩]
def o48_b0 (v4:Int×(I3)×Bt) :=
 (cnd (decide (v4.1 < v4.2.1.2.2)) (gd (decide ((0:Int)≤(IntKind.wrap .i64 ((Int.tmod v4.1 (8:Int))*(8:Int))))) (gd (decide ((v4.2.2.length+([(u8 (IntKind.wrap .u8 ((IntKind.wrap .u8 (shrK .u64 v4.2.1.1 (IntKind.wrap .i64 ((Int.tmod v4.1 (8:Int))*(8:Int)))))+(IntKind.wrap .u8 v4.1))))]:Bt).length)*1≤140737488355328)) (some (Ctl.go ((IntKind.wrap .i64 (v4.1+(1:Int))),v4.2.1,(v4.2.2++([(u8 (IntKind.wrap .u8 ((IntKind.wrap .u8 (shrK .u64 v4.2.1.1 (IntKind.wrap .i64 ((Int.tmod v4.1 (8:Int))*(8:Int)))))+(IntKind.wrap .u8 v4.1))))]:Bt))))))) (dnO (some v4.2.2)))
def o48 (a0:I3):Option (Bt) :=
 (bd (α:=(Bt)) (o85 (IntKind.wrap .i64 a0.1) (8:Int)) (fun v1=>(bd (α:=(Bt)) (o85 a0.2.1 (8:Int)) (fun v2=>(gd (decide ((v1.length+v2.length)*1≤140737488355328)) (loopO (σ:=Int×(I3)×Bt) fuelN o48_b0 ((0:Int),a0,(v1++v2))))))))
def h48:HC:=(.s .d (.s .d (.s .d (.s (.s .d (.b (.l [o48_s0] .d))) .d))))
theorem e48 (t:I3):evF (stpT Tryz.prog T7 K7) Tryz.f48 p48 r48 h48 t=(o48 t):=by kernel_rfl
def n48:FSp:=⟨p48,r48,fun t=>(o48 t)⟩
theorem fo48:FOk Tryz.prog 48 n48:=fk e48
def T8:Tbl:=(48,n48)::T7
theorem K8:TOk Tryz.prog T8:= .cons K7 fo48
def p180:Sch:=⟨[(0,.v (.c (.ptr 0 0)))],[.lent [.i .u64,.i .i64,.i .i64]]⟩
def r180:List Sch:=[⟨[(0,.v (.c (.own 1)))],[.no,.row .y 5]⟩]
def o180 (a0:I3):Option (Bt) :=
 (bd (α:=(Bt)) (o48 a0) (fun v1=>(some v1)))
theorem e180 (t:I3):evF (stpT Tryz.prog T8 K8) Tryz.f180 p180 r180 .d t=(o180 t):=by kernel_rfl
def n180:FSp:=⟨p180,r180,fun t=>(o180 t)⟩
theorem fo180:FOk Tryz.prog 180 n180:=fk e180
def T9:Tbl:=(180,n180)::T8
theorem K9:TOk Tryz.prog T9:= .cons K8 fo180
def o47_s0:Sch:=⟨[(0,.v (.c (.ro .y false))),(1,.v (.c (.ro .y false))),(12,.v (.c (.i .i64))),(13,.v (.c (.i .i64)))],[]⟩
def p47:Sch:=⟨[(0,.v (.c (.ro .y false))),(1,.v (.c (.ro .y false)))],[]⟩
def r47:List Sch:=[⟨[(0,.v (.c (.b)))],[]⟩]
def o47_b0 (v2:(Bt×Bt)×I2) :=
 (cnd (decide (v2.2.2 < v2.2.1)) (gd (decide ((0:Int)≤v2.2.2∧v2.2.2 < ((v2.1.1.length:Nat):Int))) (gd (decide ((0:Int)≤v2.2.2∧v2.2.2 < ((v2.1.2.length:Nat):Int))) (cnd (((UInt8.toNat (List.getD v2.1.1 v2.2.2.toNat (0:UInt8)):Nat):Int) != ((UInt8.toNat (List.getD v2.1.2 v2.2.2.toNat (0:UInt8)):Nat):Int)) (dnO (some false)) (some (Ctl.go (v2.1,v2.2.1,(IntKind.wrap .i64 (v2.2.2+(1:Int))))))))) (dnO (some true)))
def o47 (a0:Bt) (a1:Bt):Option Bool :=
 (cnd (((a0.length:Nat):Int) != ((a1.length:Nat):Int)) (some false) (loopO (σ:=(Bt×Bt)×I2) fuelN o47_b0 ((a0,a1),((a0.length:Nat):Int),(0:Int))))
def h47:HC:=(.s .d (.s .d (.s (.s .d (.b (.l [o47_s0] .d))) .d)))
theorem e47 (t:Bt×Bt):evF (stpT Tryz.prog T9 K9) Tryz.f47 p47 r47 h47 t=(o47 t.1 t.2):=by kernel_rfl
def n47:FSp:=⟨p47,r47,fun t=>(o47 t.1 t.2)⟩
theorem fo47:FOk Tryz.prog 47 n47:=fk e47
def T10:Tbl:=(47,n47)::T9
theorem K10:TOk Tryz.prog T10:= .cons K9 fo47
def Cz:SSh:= .tup [.c (.ptr 0 0),.c (.ic .i64 (0))]
def Ab:BSh:= .cells 197 [.i .i64,.i .u8,.i .i64,.i .i64,.i .u8,.i .i64,.ro .y true,.i .u8,.i .i64,.i .i64,.i .i64,.ro .y true,.b,.b,.i .i64,.i .i64,.b,.ro .y true,.b,.i .i64,.i .u8,.i .u8,.i .u8,.i .i64,.i .i64,.i .i64,.i .i64]
abbrev Ae:Type:=(((I3)×I3)×(Bt×I2)×(I2)×Bt×Bool)×((Bool×I2)×(Bool×Bt)×Bool×Int)×(I3)×(I2)×I2
def p64:Sch:=⟨[(0,.v (.c (.ic .i64 (1))))],[]⟩
def r64:List Sch:=[⟨[(0,Cz)],[Ab]⟩]
def o64:Option Ae :=
 (some (((((1:Int),(1:Int),(0:Int)),(0:Int),(0:Int),(0:Int)),(([]:Bt),(0:Int),(0:Int)),((0:Int),(0:Int)),([]:Bt),false),((false,(0:Int),(0:Int)),(false,([]:Bt)),false,(0:Int)),((0:Int),(0:Int),(0:Int)),((0:Int),(0:Int)),(0:Int),(0:Int)))
theorem e64 (t:Unit):evF (stpT Tryz.prog T10 K10) Tryz.f64 p64 r64 .d t=o64:=by kernel_rfl
def n64:FSp:=⟨p64,r64,fun t=>o64⟩
theorem fo64:FOk Tryz.prog 64 n64:=fk e64
def T11:Tbl:=(64,n64)::T10
theorem K11:TOk Tryz.prog T11:= .cons K10 fo64
def Ad:BSh:= .cells 230 [.ro (.p (.i .i64) (.p (.i .i64) (.p (.i .i64) (.a .y)))) true]
def p65:Sch:=⟨[],[]⟩
def r65:List Sch:=[⟨[(0,.v (.c (.ptr 0 0)))],[Ad]⟩]
def o65:Option (List (Int×Int×Int×Bt)) :=
 (some ([]:List (Int×Int×Int×Bt)))
theorem e65 (t:Unit):evF (stpT Tryz.prog T11 K11) Tryz.f65 p65 r65 .d t=o65:=by kernel_rfl
def n65:FSp:=⟨p65,r65,fun t=>o65⟩
theorem fo65:FOk Tryz.prog 65 n65:=fk e65
def T12:Tbl:=(65,n65)::T11
theorem K12:TOk Tryz.prog T12:= .cons K11 fo65
def BT:BSh:= .cells 232 [.i .i64,.i .i64,.own 1,.own 2]
def Ac:BSh:= .row (.p (.i .i64) (.p (.i .i64) (.p .b (.a .y)))) 123
abbrev AA:Type:=(I2)×List Bt×List (Int×I4)
def p66:Sch:=⟨[],[]⟩
def r66:List Sch:=[⟨[(0,.v (.c (.ptr 0 0)))],[BT,.row (.a .y) 33,Ac]⟩]
def o66:Option AA :=
 (some (((0:Int),(0:Int)),([]:List Bt),([]:List (Int×I4))))
theorem e66 (t:Unit):evF (stpT Tryz.prog T12 K12) Tryz.f66 p66 r66 .d t=o66:=by kernel_rfl
def n66:FSp:=⟨p66,r66,fun t=>o66⟩
theorem fo66:FOk Tryz.prog 66 n66:=fk e66
def T13:Tbl:=(66,n66)::T12
theorem K13:TOk Tryz.prog T13:= .cons K12 fo66
def AB:BSh:= .cells 137 [.i .i64,.ptr 1 0,.ptr 2 0,.ptr 3 0,.i .i64,.i .i64,.b,.i .i64,.i .i64]
def AM:BSh:= .cells 232 [.i .i64,.i .i64,.own 4,.own 5]
abbrev AV:Type:=(((I3)×Bool×I2)×Ae×List (Int×Int×Int×Bt))×(I2)×List Bt×List (Int×I4)
def p21:Sch:=⟨[(0,.v (.c (.ic .i64 (1))))],[]⟩
def r21:List Sch:=[⟨[(0,Cz)],[AB,Ab,Ad,AM,.row (.a .y) 33,Ac]⟩]
def o21:Option AV :=
 (bd (α:=Ae) o64 (fun v1=>(bd (α:=(List (Int×Int×Int×Bt))) o65 (fun v2=>(bd (α:=AA) o66 (fun v3=>(some (((((1:Int),(0:Int),(0:Int)),false,(0:Int),(0:Int)),v1,v2),v3))))))))
theorem e21 (t:Unit):evF (stpT Tryz.prog T13 K13) Tryz.f21 p21 r21 .d t=o21:=by kernel_rfl
def n21:FSp:=⟨p21,r21,fun t=>o21⟩
theorem fo21:FOk Tryz.prog 21 n21:=fk e21
def T14:Tbl:=(21,n21)::T13
theorem K14:TOk Tryz.prog T14:= .cons K13 fo21
def p64v1:Sch:=⟨[(0,.v (.c (.ic .i64 (2))))],[]⟩
def r64v1:List Sch:=[⟨[(0,Cz)],[Ab]⟩]
def o64v1:Option Ae :=
 (some (((((2:Int),(1:Int),(0:Int)),(0:Int),(0:Int),(0:Int)),(([]:Bt),(0:Int),(0:Int)),((0:Int),(0:Int)),([]:Bt),false),((false,(0:Int),(0:Int)),(false,([]:Bt)),false,(0:Int)),((0:Int),(0:Int),(0:Int)),((0:Int),(0:Int)),(0:Int),(0:Int)))
theorem e64v1 (t:Unit):evF (stpT Tryz.prog T14 K14) Tryz.f64 p64v1 r64v1 .d t=o64v1:=by kernel_rfl
def n64v1:FSp:=⟨p64v1,r64v1,fun t=>o64v1⟩
theorem fo64v1:FOk Tryz.prog 64 n64v1:=fk e64v1
def T15:Tbl:=(64,n64v1)::T14
theorem K15:TOk Tryz.prog T15:= .cons K14 fo64v1
def p21v1:Sch:=⟨[(0,.v (.c (.ic .i64 (2))))],[]⟩
def r21v1:List Sch:=[⟨[(0,Cz)],[AB,Ab,Ad,AM,.row (.a .y) 33,Ac]⟩]
def o21v1:Option AV :=
 (bd (α:=Ae) o64v1 (fun v1=>(bd (α:=(List (Int×Int×Int×Bt))) o65 (fun v2=>(bd (α:=AA) o66 (fun v3=>(some (((((2:Int),(0:Int),(0:Int)),false,(0:Int),(0:Int)),v1,v2),v3))))))))
theorem e21v1 (t:Unit):evF (stpT Tryz.prog T15 K15) Tryz.f21 p21v1 r21v1 .d t=o21v1:=by kernel_rfl
def n21v1:FSp:=⟨p21v1,r21v1,fun t=>o21v1⟩
theorem fo21v1:FOk Tryz.prog 21 n21v1:=fk e21v1
def T16:Tbl:=(21,n21v1)::T15
theorem K16:TOk Tryz.prog T16:= .cons K15 fo21v1
def Aa:BSh:= .cells 62 [.i .u64,.i .i64,.i .i64]
def Dp:BSh:= .cells 25 [.i .i64,.i .i64,.i .i64,.i .i64]
def FV:SSh:= .tup [.c (.cst (.pointer none)),.c (.ic .i64 (1))]
def FW:SSh:= .tup [.c (.cst (.pointer none)),.c (.ic .i64 (3))]
def FX:SSh:= .tup [.c (.ptr 2 0),.c (.ic .i64 (0))]
def FY:BSh:= .cells 105 [.ifc 60 (.ptr 0 0),.ifc 60 (.ptr 1 0),.ptr 3 0,.ptr 4 0,.ro .y true,.i .i64,.i .i64,.i .i64,.i .i64,.i .i64,.i .u8,.i .u8,.i .u8,.i .i64,.i .i64,.i .i64,.i .i64]
def Ak:BSh:= .cells 137 [.i .i64,.ptr 5 0,.ptr 6 0,.ptr 7 0,.i .i64,.i .i64,.b,.i .i64,.i .i64]
def AJ:BSh:= .cells 137 [.i .i64,.ptr 8 0,.ptr 9 0,.ptr 10 0,.i .i64,.i .i64,.b,.i .i64,.i .i64]
def AL:BSh:= .cells 232 [.i .i64,.i .i64,.own 11,.own 12]
def Ap:BSh:= .cells 232 [.i .i64,.i .i64,.own 13,.own 14]
abbrev Af:Type:=((Bt×I2)×I3)×(I3)×(I2)×I2
abbrev Ea:Type:=(((I3)×(I3)×Af)×(((I3)×Bool×I2)×(I3)×Bool×I2)×Ae×List (Int×Int×Int×Bt))×(((I2)×Ae)×(List (Int×Int×Int×Bt))×I2)×(List Bt×List (Int×I4))×List Bt×List (Int×I4)
abbrev FZ:Type:=(Bool×I3)×(I3)×(I2)×I2
abbrev Ga:Type:=((I2)×I2)×(I3)×I3
def o12_s0:Sch:=⟨[(0,.v (.c (.ifc 60 (.ptr 0 0)))),(1,.v (.c (.ifc 60 (.ptr 1 0)))),(5,.v (.c (.ptr 2 0))),(37,.v (.c (.b)))],[Aa,Aa,Dp]⟩
def p12:Sch:=⟨[(0,.v (.c (.ifc 60 (.ptr 0 0)))),(1,.v (.c (.ifc 60 (.ptr 1 0)))),(2,DX)],[Aa,Aa]⟩
def r12:List Sch:=[⟨[(0,FV)],[Aa,Aa]⟩,⟨[(0,FW)],[Aa,Aa]⟩,⟨[(0,FX)],[Aa,Aa,FY,Ak,AJ,Ab,Ad,AL,Ab,Ad,Ap,.row (.a .y) 33,Ac,.row (.a .y) 33,Ac]⟩]
def o12 (a0:(I2)×I2) (a1:I3) (a2:I3):Option (((I3)×I3) ⊕ ((I3)×I3) ⊕ Ea) :=
 (bd (α:=FZ) (cnd (decide (a0.1.1 < (0:Int))) (some ((true,a1),a2,a0)) (cnd (decide (a0.1.2 < (0:Int))) (some ((true,a1),a2,a0)) (cnd (decide (a0.2.1 < (0:Int))) (some ((true,a1),a2,a0)) (some (((decide (a0.2.2 < (0:Int))),a1),a2,a0))))) (fun v1=>(cnd v1.1.1 (some (Sum.inl (v1.1.2,v1.2.1))) (bd (α:=(Bt)) (o180 v1.1.2) (fun v2=>(bd (α:=(Bt)) (o180 v1.2.1) (fun v3=>(bd (α:=Bool) (o47 v2 v3) (fun v4=>(cnd (!v4) (some (Sum.inl (v1.1.2,v1.2.1))) (cnd (decide (((v2.length:Nat):Int) > (524288:Int))) (some (Sum.inr (Sum.inl (v1.1.2,v1.2.1)))) (bd (α:=(Bt)) (o33 v2) (fun v6=>(bd (α:=AV) o21 (fun v8=>(bd (α:=AV) o21v1 (fun v10=>(some (Sum.inr (Sum.inr (((v1.1.2,v1.2.1,((v6,v1.2.2.1),v1.2.2.2.1,v1.2.2.2.2,(0:Int)),((0:Int),(0:Int),(0:Int)),((0:Int),(0:Int)),(0:Int),(0:Int)),(v8.1.1,v10.1.1),v8.1.2),((v8.2.1,v10.1.2.1),v10.1.2.2,v10.2.1),v8.2.2,v10.2.2)))))))))))))))))))))
def h12:HC:=(.s .d (.s (.s (.j false [o12_s0] .d) .d) (.s .d (.s .d (.s .d (.s (.r 2) (.s (.s .d (.b (.u 3 (.v (.s .d (.s .d (.s (.b (.s .d (.r 6))) .d))) (.v (.s .d (.s .d (.s (.b (.s .d (.r 6))) .d))) (.v .d .d)))))) .d)))))))
theorem e12 (t:Ga):evF (stpT Tryz.prog T16 K16) Tryz.f12 p12 r12 h12 t=(o12 t.1 t.2.1 t.2.2):=by kernel_rfl
def n12:FSp:=⟨p12,r12,fun t=>(o12 t.1 t.2.1 t.2.2)⟩
theorem fo12:FOk Tryz.prog 12 n12:=fk e12
def T17:Tbl:=(12,n12)::T16
theorem K17:TOk Tryz.prog T17:= .cons K16 fo12
def Eb:BSh:= .cells 25 [.ic .i64 (0),.ic .i64 (0),.ic .i64 (0),.ic .i64 (0)]
def Gb:BSh:= .cells 105 [.ifc 60 (.ptr 3 0),.ifc 60 (.ptr 4 0),.ptr 5 0,.ptr 6 0,.ro .y true,.i .i64,.i .i64,.i .i64,.i .i64,.i .i64,.i .u8,.i .u8,.i .u8,.i .i64,.i .i64,.i .i64,.i .i64]
def Dq:BSh:= .cells 137 [.i .i64,.ptr 7 0,.ptr 8 0,.ptr 9 0,.i .i64,.i .i64,.b,.i .i64,.i .i64]
def Au:BSh:= .cells 137 [.i .i64,.ptr 10 0,.ptr 11 0,.ptr 12 0,.i .i64,.i .i64,.b,.i .i64,.i .i64]
def Bi:BSh:= .cells 232 [.i .i64,.i .i64,.own 15,.own 16]
def Gc:SSh:= .v (.agg [.i .u64,.i .u16,.i .i64,.i .i64,.i .i64,.i .i64,.ro (.p (.a .y) (.p (.a .y) (.p (.p .b .b) (.p (.p .b .b) (.p (.p .b .b) (.p (.p (.i .i64) (.i .i64)) (.p (.p (.p .b (.p (.i .i64) (.i .u32))) (.p (.p .b (.p (.i .i64) (.i .u32))) (.p (.p .b (.p (.i .i64) (.i .u32))) (.p .b (.p (.i .i64) (.i .u32)))))) (.p (.p .b (.p (.i .i64) (.i .u32))) (.p (.p .b (.p (.i .i64) (.i .u32))) (.p (.p .b (.p (.i .i64) (.i .u32))) (.p .b (.p (.i .i64) (.i .u32))))))))))))) false])
def Gd:SSh:= .tup [.c (.cst (.pointer none)),.agg [.i .i64,.i .i64,.i .i64,.i .i64]]
def Ge:SSh:= .tup [.c (.ptr 0 0),.agg [.i .i64,.i .i64,.i .i64,.i .i64]]
def Bd:BSh:= .cells 105 [.ifc 60 (.ptr 1 0),.ifc 60 (.ptr 2 0),.ptr 3 0,.ptr 4 0,.ro .y true,.i .i64,.i .i64,.i .i64,.i .i64,.i .i64,.i .u8,.i .u8,.i .u8,.i .i64,.i .i64,.i .i64,.i .i64]
abbrev AK:Type:=(I3)×(I2)×Int×List (Bt×Bt×(B2)×(B2)×(B2)×(I2)×((Bool×I2)×(Bool×I2)×(Bool×I2)×Bool×I2)×(Bool×I2)×(Bool×I2)×(Bool×I2)×Bool×I2)
abbrev CA:Type:=(((((I2)×I2)×Af)×(I3)×I3)×(((I3)×Bool×I2)×(I3)×Bool×I2)×Ae×List (Int×Int×Int×Bt))×(((I2)×Ae)×(List (Int×Int×Int×Bt))×I2)×(List Bt×List (Int×I4))×List Bt×List (Int×I4)
def o8_s0:Sch:=⟨[(3,.v (.c (.ptr 0 0))),(5,.v (.c (.ptr 1 0))),(6,.v (.c (.cst (.pointer none))))],[Eb,Dp]⟩
def o8_s1:Sch:=⟨[(3,.v (.c (.ptr 0 0))),(5,.v (.c (.ptr 1 0))),(6,.v (.c (.ptr 2 0)))],[Eb,Dp,Gb,Aa,Aa,Dq,Au,Ab,Ad,Ap,Ab,Ad,Bi,.row (.a .y) 33,Ac,.row (.a .y) 33,Ac]⟩
def p8:Sch:=⟨[(0,Gc)],[]⟩
def r8:List Sch:=[⟨[(0,Gd)],[]⟩,⟨[(0,Ge)],[Bd,Aa,Aa,Ak,AJ,Ab,Ad,AL,Ab,Ad,Ap,.row (.a .y) 33,Ac,.row (.a .y) 33,Ac]⟩]
def o8 (a0:AK):Option (((I2)×I2) ⊕ CA) :=
 (bd (α:=((I2)×I2) ⊕ CA) (bd (α:=((I3)×I3) ⊕ ((I3)×I3) ⊕ Ea) (o12 (((landK .i64 a0.1.2.2 (65535:Int)),(landK .i64 a0.2.1.1 (65535:Int))),(landK .i64 a0.2.1.2 (16777215:Int)),(landK .i64 a0.2.2.1 (65535:Int))) (a0.1.1,(0:Int),(Int.tmod (IntKind.wrap .i64 a0.1.2.1) (1900:Int))) (a0.1.1,(0:Int),(Int.tmod (IntKind.wrap .i64 a0.1.2.1) (1900:Int)))) (fun v1=>(sm v1 (fun v2=>(some (Sum.inl (((landK .i64 a0.1.2.2 (65535:Int)),(landK .i64 a0.2.1.1 (65535:Int))),(landK .i64 a0.2.1.2 (16777215:Int)),(landK .i64 a0.2.2.1 (65535:Int)))))) (fun v3=>(sm v3 (fun v4=>(some (Sum.inl (((landK .i64 a0.1.2.2 (65535:Int)),(landK .i64 a0.2.1.1 (65535:Int))),(landK .i64 a0.2.1.2 (16777215:Int)),(landK .i64 a0.2.2.1 (65535:Int)))))) (fun v5=>(some (Sum.inr (((((((landK .i64 a0.1.2.2 (65535:Int)),(landK .i64 a0.2.1.1 (65535:Int))),(landK .i64 a0.2.1.2 (16777215:Int)),(landK .i64 a0.2.2.1 (65535:Int))),v5.1.1.2.2),v5.1.1.1,v5.1.1.2.1),v5.1.2),v5.2))))))))) (fun v6=>(sm v6 (fun v7=>(some (Sum.inl v7))) (fun v8=>(some (Sum.inr v8))))))
def h8:HC:=(.s .d (.s .d (.s .d (.s .d (.s (.j false [o8_s0,o8_s1] .d) .d)))))
theorem e8 (t:AK):evF (stpT Tryz.prog T17 K17) Tryz.f8 p8 r8 h8 t=(o8 t):=by kernel_rfl
def n8:FSp:=⟨p8,r8,fun t=>(o8 t)⟩
theorem fo8:FOk Tryz.prog 8 n8:=fk e8
def T18:Tbl:=(8,n8)::T17
theorem K18:TOk Tryz.prog T18:= .cons K17 fo8
def Gf:BSh:= .lent [.ifc 60 (.ptr 1 0),.ifc 60 (.ptr 2 0),.ptr 3 0,.ptr 7 0,.ro .y false,.i .i64,.i .i64,.i .i64,.i .i64,.i .i64,.i .u8,.i .u8,.i .u8,.i .i64,.i .i64,.i .i64,.i .i64]
def Gg:BSh:= .lent [.i .i64,.ptr 4 0,.ptr 5 0,.ptr 6 0,.i .i64,.i .i64,.b,.i .i64,.i .i64]
def AN:BSh:= .lent [.i .i64,.i .u8,.i .i64,.i .i64,.i .u8,.i .i64,.ro .y false,.i .u8,.i .i64,.i .i64,.i .i64,.ro .y false,.b,.b,.i .i64,.i .i64,.b,.ro .y false,.b,.i .i64,.i .u8,.i .u8,.i .u8,.i .i64,.i .i64,.i .i64,.i .i64]
def Bz:BSh:= .lent [.ro (.p (.i .i64) (.p (.i .i64) (.p (.i .i64) (.a .y)))) false]
def Be:BSh:= .lent [.i .i64,.i .i64,.ro (.a .y) false,.ro (.p (.i .i64) (.p (.i .i64) (.p .b (.a .y)))) false]
def Gi:BSh:= .lent [.i .i64,.ptr 8 0,.ptr 9 0,.ptr 10 0,.i .i64,.i .i64,.b,.i .i64,.i .i64]
abbrev Gj:Type:=((Af×I3)×(I3)×((I3)×Bool×I2)×Ae)×((List (Int×Int×Int×Bt))×AA×(I3)×Bool×I2)×Ae×(List (Int×Int×Int×Bt))×AA
def p15:Sch:=⟨[(0,.v (.c (.ptr 0 0)))],[Gf,.lent [.i .u64,.i .i64,.i .i64],.lent [.i .u64,.i .i64,.i .i64],Gg,AN,Bz,Be,Gi,AN,Bz,Be]⟩
def r15:List Sch:=[⟨[(0,BL)],[.no,.no,.no,.no,.no,.no,.no,.no,.no,.no,.no]⟩]
def o15 (a0:Af) (a1:I3) (a2:I3) (a3:(I3)×Bool×I2) (a4:Ae) (a5:List (Int×Int×Int×Bt)) (a6:AA) (a7:(I3)×Bool×I2) (a8:Ae) (a9:List (Int×Int×Int×Bt)) (a10:AA):Option AE :=
 (some a0.2)
theorem e15 (t:Gj):evF (stpT Tryz.prog T18 K18) Tryz.f15 p15 r15 .d t=(o15 t.1.1.1 t.1.1.2 t.1.2.1 t.1.2.2.1 t.1.2.2.2 t.2.1.1 t.2.1.2.1 t.2.1.2.2 t.2.2.1 t.2.2.2.1 t.2.2.2.2):=by kernel_rfl
def n15:FSp:=⟨p15,r15,fun t=>(o15 t.1.1.1 t.1.1.2 t.1.2.1 t.1.2.2.1 t.1.2.2.2 t.2.1.1 t.2.1.2.1 t.2.1.2.2 t.2.2.1 t.2.2.2.1 t.2.2.2.2)⟩
theorem fo15:FOk Tryz.prog 15 n15:=fk e15
def T19:Tbl:=(15,n15)::T18
theorem K19:TOk Tryz.prog T19:= .cons K18 fo15
def p10:Sch:=⟨[(0,.v (.c (.ro .y true))),(1,.v (.c (.i .i64)))],[]⟩
def r10:List Sch:=[⟨[(0,.v (.c (.ro .y true)))],[]⟩]
def o10 (a0:Bt) (a1:Int):Option (Bt) :=
 (gd (decide ((0:Int)≤(minI ((a0.length:Nat):Int) a1)∧(minI ((a0.length:Nat):Int) a1)≤((a0.length:Nat):Int))) (some (List.take (minI ((a0.length:Nat):Int) a1).toNat a0)))
theorem e10 (t:Bt×Int):evF (stpT Tryz.prog T19 K19) Tryz.f10 p10 r10 .d t=(o10 t.1 t.2):=by kernel_rfl
def n10:FSp:=⟨p10,r10,fun t=>(o10 t.1 t.2)⟩
theorem fo10:FOk Tryz.prog 10 n10:=fk e10
def T20:Tbl:=(10,n10)::T19
theorem K20:TOk Tryz.prog T20:= .cons K19 fo10
def p105:Sch:=⟨[(0,.v (.c (.ptr 0 0)))],[Ab]⟩
def r105:List Sch:=[⟨[(0,.tup [])],[Ab]⟩]
def o105 (a0:Ae):Option Ae :=
 (some ((((a0.1.1.1.1,(1:Int),(0:Int)),a0.1.1.2),a0.1.2),a0.2))
theorem e105 (t:Ae):evF (stpT Tryz.prog T20 K20) Tryz.f105 p105 r105 .d t=(o105 t):=by kernel_rfl
def n105:FSp:=⟨p105,r105,fun t=>(o105 t)⟩
theorem fo105:FOk Tryz.prog 105 n105:=fk e105
def T21:Tbl:=(105,n105)::T20
theorem K21:TOk Tryz.prog T21:= .cons K20 fo105
def p67:Sch:=⟨[(0,.v (.c (.ptr 0 0)))],[Ab]⟩
def r67:List Sch:=[⟨[(0,.tup [])],[Ab]⟩]
def o67 (a0:Ae):Option Ae :=
 (bd (α:=Ae) (o105 a0) (fun v1=>(some (((v1.1.1.1,v1.1.1.2.1,(0:Int),v1.1.1.2.2.2),v1.1.2),v1.2))))
theorem e67 (t:Ae):evF (stpT Tryz.prog T21 K21) Tryz.f67 p67 r67 .d t=(o67 t):=by kernel_rfl
def n67:FSp:=⟨p67,r67,fun t=>(o67 t)⟩
theorem fo67:FOk Tryz.prog 67 n67:=fk e67
def T22:Tbl:=(67,n67)::T21
theorem K22:TOk Tryz.prog T22:= .cons K21 fo67
def p106:Sch:=⟨[(0,.v (.c (.ptr 0 0)))],[Ad]⟩
def r106:List Sch:=[⟨[(0,.tup [])],[Ad]⟩]
def o106 (a0:List (Int×Int×Int×Bt)):Option (List (Int×Int×Int×Bt)) :=
 (some ([]:List (Int×Int×Int×Bt)))
theorem e106 (t:List (Int×Int×Int×Bt)):evF (stpT Tryz.prog T22 K22) Tryz.f106 p106 r106 .d t=(o106 t):=by kernel_rfl
def n106:FSp:=⟨p106,r106,fun t=>(o106 t)⟩
theorem fo106:FOk Tryz.prog 106 n106:=fk e106
def T23:Tbl:=(106,n106)::T22
theorem K23:TOk Tryz.prog T23:= .cons K22 fo106
def Dr:BSh:= .cells 232 [.i .i64,.i .i64,.own 3,.own 4]
abbrev Ds:Type:=((I2)×List Bt)×(List (Int×I4))×List Bt×List (Int×I4)
def p107:Sch:=⟨[(0,.v (.c (.ptr 0 0)))],[BT,.row (.a .y) 33,Ac]⟩
def r107:List Sch:=[⟨[(0,.tup [])],[Dr,.row (.a .y) 33,Ac,.row (.a .y) 33,Ac]⟩]
def o107 (a0:I2) (a1:List Bt) (a2:List (Int×I4)):Option Ds :=
 (some ((((0:Int),(0:Int)),a1),a2,([]:List Bt),([]:List (Int×I4))))
theorem e107 (t:AA):evF (stpT Tryz.prog T23 K23) Tryz.f107 p107 r107 .d t=(o107 t.1 t.2.1 t.2.2):=by kernel_rfl
def n107:FSp:=⟨p107,r107,fun t=>(o107 t.1 t.2.1 t.2.2)⟩
theorem fo107:FOk Tryz.prog 107 n107:=fk e107
def T24:Tbl:=(107,n107)::T23
theorem K24:TOk Tryz.prog T24:= .cons K23 fo107
def CB:BSh:= .cells 232 [.i .i64,.i .i64,.own 6,.own 7]
abbrev AO:Type:=((((I3)×Bool×I2)×Ae)×(List (Int×Int×Int×Bt))×I2)×(List Bt×List (Int×I4))×List Bt×List (Int×I4)
def p68:Sch:=⟨[(0,.v (.c (.ptr 0 0)))],[AB,Ab,Ad,AM,.row (.a .y) 33,Ac]⟩
def r68:List Sch:=[⟨[(0,.tup [])],[AB,Ab,Ad,CB,.row (.a .y) 33,Ac,.row (.a .y) 33,Ac]⟩]
def o68 (a0:(I3)×Bool×I2) (a1:Ae) (a2:List (Int×Int×Int×Bt)) (a3:I2) (a4:List Bt) (a5:List (Int×I4)):Option AO :=
 (bd (α:=(List (Int×Int×Int×Bt))) (o106 a2) (fun v1=>(bd (α:=Ds) (o107 a3 a4 a5) (fun v2=>(some (((a0,a1),v1,v2.1.1),(v2.1.2,v2.2.1),v2.2.2))))))
theorem e68 (t:AV):evF (stpT Tryz.prog T24 K24) Tryz.f68 p68 r68 .d t=(o68 t.1.1 t.1.2.1 t.1.2.2 t.2.1 t.2.2.1 t.2.2.2):=by kernel_rfl
def n68:FSp:=⟨p68,r68,fun t=>(o68 t.1.1 t.1.2.1 t.1.2.2 t.2.1 t.2.2.1 t.2.2.2)⟩
theorem fo68:FOk Tryz.prog 68 n68:=fk e68
def T25:Tbl:=(68,n68)::T24
theorem K25:TOk Tryz.prog T25:= .cons K24 fo68
def p22:Sch:=⟨[(0,.v (.c (.ptr 0 0)))],[AB,Ab,Ad,AM,.row (.a .y) 33,Ac]⟩
def r22:List Sch:=[⟨[(0,.tup [])],[AB,Ab,Ad,CB,.row (.a .y) 33,Ac,.row (.a .y) 33,Ac]⟩]
def o22 (a0:(I3)×Bool×I2) (a1:Ae) (a2:List (Int×Int×Int×Bt)) (a3:I2) (a4:List Bt) (a5:List (Int×I4)):Option AO :=
 (bd (α:=Ae) (o67 a1) (fun v1=>(bd (α:=AO) (o68 ((a0.1.1,(0:Int),a0.1.2.2),a0.2) v1 a2 a3 a4 a5) (fun v2=>(some v2)))))
theorem e22 (t:AV):evF (stpT Tryz.prog T25 K25) Tryz.f22 p22 r22 .d t=(o22 t.1.1 t.1.2.1 t.1.2.2 t.2.1 t.2.2.1 t.2.2.2):=by kernel_rfl
def n22:FSp:=⟨p22,r22,fun t=>(o22 t.1.1 t.1.2.1 t.1.2.2 t.2.1 t.2.2.1 t.2.2.2)⟩
theorem fo22:FOk Tryz.prog 22 n22:=fk e22
def T26:Tbl:=(22,n22)::T25
theorem K26:TOk Tryz.prog T26:= .cons K25 fo22
def p22v1:Sch:=⟨[(0,.v (.c (.cst (.pointer none))))],[]⟩
def r22v1:List Sch:=[⟨[(0,.tup [])],[]⟩]
def o22v1:Option Unit :=
 (some ())
theorem e22v1 (t:Unit):evF (stpT Tryz.prog T26 K26) Tryz.f22 p22v1 r22v1 .d t=o22v1:=by kernel_rfl
def n22v1:FSp:=⟨p22v1,r22v1,fun t=>o22v1⟩
theorem fo22v1:FOk Tryz.prog 22 n22v1:=fk e22v1
def T27:Tbl:=(22,n22v1)::T26
theorem K27:TOk Tryz.prog T27:= .cons K26 fo22v1
def Dt:BSh:= .lent [.i .i64,.ptr 1 0,.ptr 2 0,.ptr 3 0,.i .i64,.i .i64,.b,.i .i64,.i .i64]
abbrev Gk:Type:=(Int×(I3)×Bool×I2)×Ae×(List (Int×Int×Int×Bt))×AA
def p71:Sch:=⟨[(0,.v (.c (.ptr 0 0))),(1,.v (.c (.i .i64)))],[Dt,AN,Bz,Be]⟩
def r71:List Sch:=[⟨[(0,.v (.c (.i .i64)))],[.no,.no,.no,.no]⟩]
def o71 (a0:Int) (a1:(I3)×Bool×I2) (a2:Ae) (a3:List (Int×Int×Int×Bt)) (a4:AA):Option Int :=
 (cnd (a1.1.2.1 != a0) (some (8:Int)) (some (0:Int)))
theorem e71 (t:Gk):evF (stpT Tryz.prog T27 K27) Tryz.f71 p71 r71 .d t=(o71 t.1.1 t.1.2 t.2.1 t.2.2.1 t.2.2.2):=by kernel_rfl
def n71:FSp:=⟨p71,r71,fun t=>(o71 t.1.1 t.1.2 t.2.1 t.2.2.1 t.2.2.2)⟩
theorem fo71:FOk Tryz.prog 71 n71:=fk e71
def T28:Tbl:=(71,n71)::T27
theorem K28:TOk Tryz.prog T28:= .cons K27 fo71
def p44:Sch:=⟨[(0,.v (.c (.ptr 0 0)))],[AN]⟩
def r44:List Sch:=[⟨[(0,.v (.c (.i .u8)))],[.no]⟩]
def o44 (a0:Ae):Option Int :=
 (some a0.1.1.1.2.1)
theorem e44 (t:Ae):evF (stpT Tryz.prog T28 K28) Tryz.f44 p44 r44 .d t=(o44 t):=by kernel_rfl
def n44:FSp:=⟨p44,r44,fun t=>(o44 t)⟩
theorem fo44:FOk Tryz.prog 44 n44:=fk e44
def T29:Tbl:=(44,n44)::T28
theorem K29:TOk Tryz.prog T29:= .cons K28 fo44
abbrev Ec:Type:=(((I3)×Bool×I2)×Ae)×(List (Int×Int×Int×Bt))×AA
def p46:Sch:=⟨[(0,.v (.c (.ptr 0 0)))],[Dt,AN,Bz,Be]⟩
def r46:List Sch:=[⟨[(0,.v (.c (.b)))],[.no,.no,.no,.no]⟩]
def o46 (a0:(I3)×Bool×I2) (a1:Ae) (a2:List (Int×Int×Int×Bt)) (a3:AA):Option Bool :=
 (bd (α:=Int) (o44 a1) (fun v1=>(some (v1==(1:Int)))))
theorem e46 (t:Ec):evF (stpT Tryz.prog T29 K29) Tryz.f46 p46 r46 .d t=(o46 t.1.1 t.1.2 t.2.1 t.2.2):=by kernel_rfl
def n46:FSp:=⟨p46,r46,fun t=>(o46 t.1.1 t.1.2 t.2.1 t.2.2)⟩
theorem fo46:FOk Tryz.prog 46 n46:=fk e46
def T30:Tbl:=(46,n46)::T29
theorem K30:TOk Tryz.prog T30:= .cons K29 fo46
def p72:Sch:=⟨[(0,.v (.c (.ptr 0 0)))],[Be]⟩
def r72:List Sch:=[⟨[(0,.v (.agg [.i .i64,.i .i64]))],[.no]⟩]
def o72 (a0:AA):Option (I2) :=
 (some (a0.1.1,((a0.2.1.length:Nat):Int)))
theorem e72 (t:AA):evF (stpT Tryz.prog T30 K30) Tryz.f72 p72 r72 .d t=(o72 t):=by kernel_rfl
def n72:FSp:=⟨p72,r72,fun t=>(o72 t)⟩
theorem fo72:FOk Tryz.prog 72 n72:=fk e72
def T31:Tbl:=(72,n72)::T30
theorem K31:TOk Tryz.prog T31:= .cons K30 fo72
def p111:Sch:=⟨[(0,.v (.c (.ptr 0 0))),(1,.v (.c (.i .u8)))],[AN]⟩
def r111:List Sch:=[⟨[(0,.v (.c (.i .i64)))],[.no]⟩]
def o111 (a0:Int) (a1:Ae):Option Int :=
 (cnd (a1.1.1.2.2.1 != a0) (some (8:Int)) (some (0:Int)))
theorem e111 (t:Int×Ae):evF (stpT Tryz.prog T31 K31) Tryz.f111 p111 r111 .d t=(o111 t.1 t.2):=by kernel_rfl
def n111:FSp:=⟨p111,r111,fun t=>(o111 t.1 t.2)⟩
theorem fo111:FOk Tryz.prog 111 n111:=fk e111
def T32:Tbl:=(111,n111)::T31
theorem K32:TOk Tryz.prog T32:= .cons K31 fo111
def o148_s0:Sch:=⟨[(0,.v (.c (.own 1))),(1,.v (.c (.i .i64))),(8,.v (.c (.i .i64))),(9,.v (.c (.i .i64)))],[.no,.row .y 5]⟩
def p148:Sch:=⟨[(0,.v (.c (.own 0))),(1,.v (.c (.i .i64))),(2,.v (.c (.i .i64)))],[.row .y 5]⟩
def r148:List Sch:=[⟨[(0,.v (.c (.own 1)))],[.no,.row .y 5]⟩]
def o148_b0 (v2:(I2)×Int×Bt) :=
 (cnd (decide (v2.2.1 < v2.1.2)) (gd (decide ((0:Int)≤(IntKind.wrap .i64 ((8:Int)*v2.2.1)))) (gd (decide ((v2.2.2.length+([(u8 (IntKind.wrap .u8 (shrK .i64 v2.1.1 (IntKind.wrap .i64 ((8:Int)*v2.2.1)))))]:Bt).length)*1≤140737488355328)) (some (Ctl.go (v2.1,(IntKind.wrap .i64 (v2.2.1+(1:Int))),(v2.2.2++([(u8 (IntKind.wrap .u8 (shrK .i64 v2.1.1 (IntKind.wrap .i64 ((8:Int)*v2.2.1)))))]:Bt))))))) (dnO (some v2.2.2)))
def o148 (a0:Int) (a1:Int) (a2:Bt):Option (Bt) :=
 (loopO (σ:=(I2)×Int×Bt) fuelN o148_b0 ((a0,a1),(0:Int),a2))
def h148:HC:=(.s .d (.s (.s .d (.b (.l [o148_s0] .d))) .d))
theorem e148 (t:Int×Int×Bt):evF (stpT Tryz.prog T32 K32) Tryz.f148 p148 r148 h148 t=(o148 t.1 t.2.1 t.2.2):=by kernel_rfl
def n148:FSp:=⟨p148,r148,fun t=>(o148 t.1 t.2.1 t.2.2)⟩
theorem fo148:FOk Tryz.prog 148 n148:=fk e148
def T33:Tbl:=(148,n148)::T32
theorem K33:TOk Tryz.prog T33:= .cons K32 fo148
def Gl:BSh:= .cells 179 [.i .u8,.i .i64,.i .i64,.i .i64,.ro .y false]
def Gm:SSh:= .v (.agg [.i .u8,.i .i64,.i .i64,.i .i64,.ro .y false])
def o112_s0:Sch:=⟨[(1,.v (.c (.ptr 0 0))),(35,.v (.c (.b)))],[Gl]⟩
def p112:Sch:=⟨[(0,Gm)],[]⟩
def r112:List Sch:=[⟨[(0,.tup [.c (.own 0),.c (.i .i64)])],[.row .y 5]⟩]
def o112 (a0:(I2)×Int×Int×Bt):Option (Int×Bt) :=
 (bd (α:=(Bool×(I2)×Int×Int×Bt)) (cnd (decide (a0.1.1 < (1:Int))) (some (true,a0)) (cnd (decide (a0.1.1 > (3:Int))) (some (true,a0)) (cnd (decide (a0.1.2 < (0:Int))) (some (true,a0)) (cnd (decide (a0.2.1 < (0:Int))) (some (true,a0)) (cnd (decide (a0.2.2.1 < (0:Int))) (some (true,a0)) (some ((decide (a0.2.2.1 > (65535:Int))),a0))))))) (fun v1=>(cnd v1.1 (some ((1:Int),([]:Bt))) (cnd (decide (((v1.2.2.2.2.length:Nat):Int) > (400:Int))) (some ((3:Int),([]:Bt))) (bd (α:=(Bt)) (o148 v1.2.1.2 (8:Int) ([(u8 v1.2.1.1)]:Bt)) (fun v2=>(bd (α:=(Bt)) (o148 v1.2.2.1 (8:Int) v2) (fun v5=>(bd (α:=(Bt)) (o148 v1.2.2.2.1 (2:Int) v5) (fun v6=>(gd (decide ((v6.length+v1.2.2.2.2.length)*1≤140737488355328)) (some ((0:Int),(v6++v1.2.2.2.2))))))))))))))
def h112:HC:=(.s .d (.s (.s (.j false [o112_s0] .d) .d) (.s .d (.s .d (.s (.r 2) .d)))))
theorem e112 (t:(I2)×Int×Int×Bt):evF (stpT Tryz.prog T33 K33) Tryz.f112 p112 r112 h112 t=(o112 t):=by kernel_rfl
def n112:FSp:=⟨p112,r112,fun t=>(o112 t)⟩
theorem fo112:FOk Tryz.prog 112 n112:=fk e112
def T34:Tbl:=(112,n112)::T33
theorem K34:TOk Tryz.prog T34:= .cons K33 fo112
def Gn:BSh:= .lent [.i .i64,.i .u8,.i .i64,.i .i64,.i .u8,.i .i64,.ro .y false,.i .u8,.i .i64,.i .i64,.i .i64,.cst (.slice none 0 0),.b,.b,.i .i64,.i .i64,.b,.cst (.slice none 0 0),.b,.i .i64,.i .u8,.i .u8,.i .u8,.i .i64,.i .i64,.i .i64,.i .i64]
def Ed:SSh:= .v (.agg [.i .u8,.i .u8,.i .i64,.own 1])
abbrev Ef:Type:=(((I3)×I3)×(Bt×I2)×Int×Int×Bool)×((Bool×I2)×Bool×Bool×Int)×(I3)×(I2)×I2
def p113:Sch:=⟨[(0,.v (.c (.ptr 0 0))),(1,.v (.c (.i .u8))),(2,.v (.c (.own 1)))],[Gn,.row .y 5]⟩
def r113:List Sch:=[⟨[(0,Ed)],[.no,.row .y 5]⟩]
def o113 (a0:Int) (a1:Ef) (a2:Bt):Option ((I3)×Bt) :=
 (some ((a0,(IntKind.wrap .u8 a1.1.1.1.1),a1.1.1.2.2.2),a2))
theorem e113 (t:Int×Ef×Bt):evF (stpT Tryz.prog T34 K34) Tryz.f113 p113 r113 .d t=(o113 t.1 t.2.1 t.2.2):=by kernel_rfl
def n113:FSp:=⟨p113,r113,fun t=>(o113 t.1 t.2.1 t.2.2)⟩
theorem fo113:FOk Tryz.prog 113 n113:=fk e113
def T35:Tbl:=(113,n113)::T34
theorem K35:TOk Tryz.prog T35:= .cons K34 fo113
def Gp:SSh:= .tup [.agg [.i .u8,.i .u8,.i .i64,.own 1],.c (.i .i64)]
def p73:Sch:=⟨[(0,.v (.c (.ptr 0 0))),(1,.v (.c (.i .i64))),(2,.v (.c (.ro .y false))),(3,.v (.agg [.i .i64,.i .i64]))],[Ab]⟩
def r73:List Sch:=[⟨[(0,Gp)],[Ab,.row .y 5]⟩]
def o73 (a0:Int) (a1:Bt) (a2:I2) (a3:Ae):Option (((I2)×I2)×Ae×Bt) :=
 (bd (α:=Int) (o111 (0:Int) a3) (fun v1=>(cnd (v1 != (0:Int)) (some ((((0:Int),(0:Int)),(0:Int),v1),a3,([]:Bt))) (cnd (decide (a0 < (0:Int))) (some ((((0:Int),(0:Int)),(0:Int),(1:Int)),a3,([]:Bt))) (bd (α:=(Int×Bt)) (o112 (a3.1.1.1.2,a2.1,a2.2,a1)) (fun v3=>(cnd (v3.1 != (0:Int)) (some ((((0:Int),(0:Int)),(0:Int),v3.1),a3,([]:Bt))) (bd (α:=(Bt)) (o33 a1) (fun v4=>(bd (α:=((I3)×Bt)) (o113 (1:Int) (((a3.1.1.1,a3.1.1.2.1,(1:Int),a0),(v4,(0:Int),(0:Int)),(0:Int),(0:Int),false),((a3.2.1.1.1,(0:Int),(0:Int)),false,false,(0:Int)),((0:Int),(0:Int),(0:Int)),((0:Int),(0:Int)),(0:Int),(0:Int)) v3.2) (fun v5=>(some (((v5.1.1,v5.1.2.1),v5.1.2.2,(0:Int)),(((a3.1.1.1,a3.1.1.2.1,(1:Int),a0),(v4,(0:Int),(0:Int)),((0:Int),(0:Int)),([]:Bt),false),((a3.2.1.1.1,(0:Int),(0:Int)),(false,([]:Bt)),false,(0:Int)),((0:Int),(0:Int),(0:Int)),((0:Int),(0:Int)),(0:Int),(0:Int)),v5.2)))))))))))))
theorem e73 (t:(Int×Bt)×(I2)×Ae):evF (stpT Tryz.prog T35 K35) Tryz.f73 p73 r73 (.s .d (.s .d (.s .d (.s (.r 1) .d)))) t=(o73 t.1.1 t.1.2 t.2.1 t.2.2):=by kernel_rfl
def n73:FSp:=⟨p73,r73,fun t=>(o73 t.1.1 t.1.2 t.2.1 t.2.2)⟩
theorem fo73:FOk Tryz.prog 73 n73:=fk e73
def T36:Tbl:=(73,n73)::T35
theorem K36:TOk Tryz.prog T36:= .cons K35 fo73
def AW:BSh:= .cells 110 [.i .u8,.i .u8,.i .i64,.ro .y true]
def Eg:SSh:= .tup [.agg [.i .u8,.i .u8,.i .i64,.ro .y true],.c (.i .i64)]
abbrev CC:Type:=(((I2)×Int×Bt×Int)×((I3)×Bool×I2)×Ae)×((List (Int×Int×Int×Bt))×I2)×List Bt×List (Int×I4)
abbrev Gq:Type:=((Int×Bt)×((I3)×Bool×I2)×Ae×List (Int×Int×Int×Bt))×((I2)×List Bt)×(List (Int×I4))×((I2)×Int×Bt)×I2
abbrev Gr:Type:=((Int×(I3)×Bool×I2)×Ae×List (Int×Int×Int×Bt))×((I2)×List Bt)×(List (Int×I4))×((I2)×Int×Bt)×(I2)×Int×Bt
abbrev Gs:Type:=((Int×Bt)×((I3)×Bool×I2)×Ae)×((List (Int×Int×Int×Bt))×I2)×List Bt×List (Int×I4)
def o25_s0:Sch:=⟨[(6,.v (.c (.ptr 6 0))),(10,.v (.c (.ptr 7 0))),(11,.v (.c (.i .i64)))],[AB,Ab,Ad,AM,.row (.a .y) 33,Ac,AW,AW]⟩
def o25_s1:Sch:=⟨[(0,.v (.c (.ptr 0 0))),(1,.v (.c (.i .i64))),(2,.v (.c (.ro .y false))),(6,.v (.c (.ptr 6 0))),(9,.v (.c (.ptr 7 0)))],[AB,Ab,Ad,AM,.row (.a .y) 33,Ac,AW,.cells 135 [.i .i64,.i .i64]]⟩
def p25:Sch:=⟨[(0,.v (.c (.ptr 0 0))),(1,.v (.c (.i .i64))),(2,.v (.c (.ro .y false)))],[AB,Ab,Ad,AM,.row (.a .y) 33,Ac]⟩
def r25:List Sch:=[⟨[(0,Eg)],[AB,Ab,Ad,AM,.row (.a .y) 33,Ac]⟩]
def o25 (a0:Int) (a1:Bt) (a2:(I3)×Bool×I2) (a3:Ae) (a4:List (Int×Int×Int×Bt)) (a5:I2) (a6:List Bt) (a7:List (Int×I4)):Option CC :=
 (bd (α:=Int) (o71 (0:Int) a2 a3 a4 (a5,a6,a7)) (fun v1=>(cnd (v1 != (0:Int)) (some (((((0:Int),(0:Int)),(0:Int),([]:Bt),v1),a2,a3),(a4,a5),a6,a7)) (bd (α:=Gq) (bd (α:=Bool) (o46 a2 a3 a4 (a5,a6,a7)) (fun v2=>(cnd v2 (bd (α:=(I2)) (o72 (a5,a6,a7)) (fun v3=>(some (((a0,a1),a2,a3,a4),(a5,a6),a7,(((0:Int),(0:Int)),(0:Int),([]:Bt)),v3)))) (some (((a0,a1),a2,a3,a4),(a5,a6),a7,(((0:Int),(0:Int)),(0:Int),([]:Bt)),(0:Int),(0:Int)))))) (fun v4=>(bd (α:=(((I2)×I2)×Ae×Bt)) (o73 v4.1.1.1 v4.1.1.2 v4.2.2.2.2 v4.1.2.2.1) (fun v6=>(bd (α:=Gr) (cnd (v6.1.2.2==(0:Int)) (some (((v6.1.2.2,(v4.1.2.1.1.1,(1:Int),v4.1.1.1),false,v4.1.2.1.2.2),v6.2.1,v4.1.2.2.2),v4.2.1,v4.2.2.1,v4.2.2.2.1,v6.1.1,v6.1.2.1,v6.2.2)) (some (((v6.1.2.2,v4.1.2.1),v6.2.1,v4.1.2.2.2),v4.2.1,v4.2.2.1,v4.2.2.2.1,v6.1.1,v6.1.2.1,v6.2.2))) (fun v7=>(some (((v7.2.2.2.2.1,v7.2.2.2.2.2.1,v7.2.2.2.2.2.2,v7.1.1.1),v7.1.1.2,v7.1.2.1),(v7.1.2.2,v7.2.1.1),v7.2.1.2,v7.2.2.1)))))))))))
def h25:HC:=(.s .d (.s .d (.s .d (.j false [o25_s1] (.s .d (.s (.r 2) (.j false [o25_s0] .d)))))))
theorem e25 (t:Gs):evF (stpT Tryz.prog T36 K36) Tryz.f25 p25 r25 h25 t=(o25 t.1.1.1 t.1.1.2 t.1.2.1 t.1.2.2 t.2.1.1 t.2.1.2 t.2.2.1 t.2.2.2):=by kernel_rfl
def n25:FSp:=⟨p25,r25,fun t=>(o25 t.1.1.1 t.1.1.2 t.1.2.1 t.1.2.2 t.2.1.1 t.2.1.2 t.2.2.1 t.2.2.2)⟩
theorem fo25:FOk Tryz.prog 25 n25:=fk e25
def T37:Tbl:=(25,n25)::T36
theorem K37:TOk Tryz.prog T37:= .cons K36 fo25
def Du:BSh:= .cells 105 [.ifc 60 (.ptr 3 0),.ifc 60 (.ptr 4 0),.ptr 5 0,.cst (.pointer none),.ro .y true,.i .i64,.i .i64,.i .i64,.i .i64,.i .i64,.i .u8,.i .u8,.i .u8,.i .i64,.i .i64,.i .i64,.i .i64]
def AZ:BSh:= .cells 137 [.i .i64,.ptr 6 0,.ptr 7 0,.ptr 8 0,.i .i64,.i .i64,.b,.i .i64,.i .i64]
def AX:BSh:= .cells 232 [.i .i64,.i .i64,.own 9,.own 10]
def Cj:SSh:= .tup [.agg [.i .u8,.i .u8,.i .i64,.ro .y true],.c (.b)]
abbrev Ck:Type:=((((I2)×Int×Bt×Bool)×Af)×(I3)×(I3)×(I3)×Bool×I2)×(Ae×List (Int×Int×Int×Bt))×(I2)×List Bt×List (Int×I4)
abbrev Dw:Type:=((Bt×(Bt×Bt)×Af)×(I3)×(I3)×(I3)×Bool×I2)×(Ae×(List (Int×Int×Int×Bt))×I2)×List Bt×(List (Int×I4))×(I2)×Int×Bt
def Eh (v1:Dw):Option Ck :=
 (bd (α:=CC) (o25 v1.1.1.2.2.1.2.2.2 v1.1.1.1 v1.1.2.2.2 v1.2.1.1 v1.2.1.2.1 v1.2.1.2.2 v1.2.2.1 v1.2.2.2.1) (fun v3=>(some ((((v3.1.1.1,v3.1.1.2.1,v3.1.1.2.2.1,(v3.1.1.2.2.2==(0:Int))),v1.1.1.2.2),v1.1.2.1,v1.1.2.2.1,v3.1.2.1),(v3.1.2.2,v3.2.1.1),v3.2.1.2,v3.2.2))))
abbrev Ei:Type:=(((Bt×Bt)×Af)×(I3)×(I3)×(I3)×Bool×I2)×(Ae×List (Int×Int×Int×Bt))×(I2)×List Bt×List (Int×I4)
def o24_s0:Sch:=⟨[(0,.v (.c (.ic .i64 (0)))),(2,.v (.c (.ptr 1 0))),(4,.v (.c (.ptr 11 0))),(6,.v (.c (.ro .y false)))],[.lent [.ro .y false,.ro .y false],.cells 30 [.ptr 2 0],Du,Aa,Aa,AZ,Ab,Ad,AX,.row (.a .y) 33,Ac,AW]⟩
def p24:Sch:=⟨[(0,.v (.c (.ic .i64 (0)))),(1,.v (.c (.ptr 0 0))),(2,.v (.c (.ptr 1 0)))],[.lent [.ro .y false,.ro .y false],.cells 30 [.ptr 2 0],Du,Aa,Aa,AZ,Ab,Ad,AX,.row (.a .y) 33,Ac]⟩
def r24:List Sch:=[⟨[(0,Cj)],[.no,.cells 30 [.ptr 2 0],Du,Aa,Aa,AZ,Ab,Ad,AX,.row (.a .y) 33,Ac]⟩]
def o24 (a0:Bt×Bt) (a1:Af) (a2:I3) (a3:I3) (a4:(I3)×Bool×I2) (a5:Ae) (a6:List (Int×Int×Int×Bt)) (a7:I2) (a8:List Bt) (a9:List (Int×I4)):Option Ck :=
 (bd (α:=Dw) (cnd (decide (((a0.1.length:Nat):Int) > (400:Int))) (some (((([]:Bt),a0,a1),a2,a3,a4),(a5,a6,a7),a8,a9,((0:Int),(0:Int)),(0:Int),([]:Bt))) (some (((a0.1,a0,a1),a2,a3,a4),(a5,a6,a7),a8,a9,((0:Int),(0:Int)),(0:Int),([]:Bt)))) Eh)
def h24:HC:=(.s .d (.s .d (.j false [o24_s0] (.s .d (.s (.r 1) .d)))))
theorem e24 (t:Ei):evF (stpT Tryz.prog T37 K37) Tryz.f24 p24 r24 h24 t=(o24 t.1.1.1 t.1.1.2 t.1.2.1 t.1.2.2.1 t.1.2.2.2 t.2.1.1 t.2.1.2 t.2.2.1 t.2.2.2.1 t.2.2.2.2):=by kernel_rfl
def n24:FSp:=⟨p24,r24,fun t=>(o24 t.1.1.1 t.1.1.2 t.1.2.1 t.1.2.2.1 t.1.2.2.2 t.2.1.1 t.2.1.2 t.2.2.1 t.2.2.2.1 t.2.2.2.2)⟩
theorem fo24:FOk Tryz.prog 24 n24:=fk e24
def T38:Tbl:=(24,n24)::T37
theorem K38:TOk Tryz.prog T38:= .cons K37 fo24
def o161_s0:Sch:=⟨[(0,.v (.c (.i .u32))),(9,.v (.c (.i .i64)))],[]⟩
def p161:Sch:=⟨[(0,.v (.c (.i .u32))),(1,.v (.c (.i .u8)))],[]⟩
def r161:List Sch:=[⟨[(0,.v (.c (.i .u32)))],[]⟩]
def o161_b0 (v2:I2) :=
 (cnd (decide (v2.2 < (8:Int))) (cnd ((landK .u32 v2.1 (1:Int))==(1:Int)) (some (Ctl.go ((lxorK .u32 (shrK .u32 v2.1 (1:Int)) (3988292384:Int)),(IntKind.wrap .i64 (v2.2+(1:Int)))))) (some (Ctl.go ((shrK .u32 v2.1 (1:Int)),(IntKind.wrap .i64 (v2.2+(1:Int))))))) (dnO (some v2.1)))
def o161 (a0:Int) (a1:Int):Option Int :=
 (loopO (σ:=I2) fuelN o161_b0 ((lxorK .u32 a0 (IntKind.wrap .u32 a1)),(0:Int)))
def h161:HC:=(.s .d (.s .d (.s (.s .d (.b (.l [o161_s0] .d))) .d)))
theorem e161 (t:I2):evF (stpT Tryz.prog T38 K38) Tryz.f161 p161 r161 h161 t=(o161 t.1 t.2):=by kernel_rfl
def n161:FSp:=⟨p161,r161,fun t=>(o161 t.1 t.2)⟩
theorem fo161:FOk Tryz.prog 161 n161:=fk e161
def T39:Tbl:=(161,n161)::T38
theorem K39:TOk Tryz.prog T39:= .cons K38 fo161
def o158_s0:Sch:=⟨[(5,.v (.c (.i .u32))),(10,.v (.c (.ro .y false))),(11,.v (.c (.i .i64))),(12,.v (.c (.i .i64)))],[]⟩
def p158:Sch:=⟨[(0,.v (.c (.i .u32))),(1,.v (.c (.ro .y false)))],[]⟩
def r158:List Sch:=[⟨[(0,.v (.c (.i .u32)))],[]⟩]
def o158_b0 (v2:(Int×Bt)×I2) :=
 (cnd (decide (v2.2.2 < v2.2.1)) (gd (decide ((0:Int)≤v2.2.2∧v2.2.2 < ((v2.1.2.length:Nat):Int))) (bd (α:=Int) (o161 v2.1.1 ((UInt8.toNat (List.getD v2.1.2 v2.2.2.toNat (0:UInt8)):Nat):Int)) (fun v3=>(some (Ctl.go ((v3,v2.1.2),v2.2.1,(IntKind.wrap .i64 (v2.2.2+(1:Int))))))))) (dnO (some (lxorK .u32 (4294967295:Int) v2.1.1))))
def o158 (a0:Int) (a1:Bt):Option Int :=
 (loopO (σ:=(Int×Bt)×I2) fuelN o158_b0 (((lxorK .u32 (4294967295:Int) a0),a1),((a1.length:Nat):Int),(0:Int)))
def h158:HC:=(.s .d (.s .d (.s (.s .d (.b (.l [o158_s0] .d))) .d)))
theorem e158 (t:Int×Bt):evF (stpT Tryz.prog T39 K39) Tryz.f158 p158 r158 h158 t=(o158 t.1 t.2):=by kernel_rfl
def n158:FSp:=⟨p158,r158,fun t=>(o158 t.1 t.2)⟩
theorem fo158:FOk Tryz.prog 158 n158:=fk e158
def T40:Tbl:=(158,n158)::T39
theorem K40:TOk Tryz.prog T40:= .cons K39 fo158
def p146:Sch:=⟨[(0,.v (.c (.ro .y false)))],[]⟩
def r146:List Sch:=[⟨[(0,.v (.c (.i .u32)))],[]⟩]
def o146 (a0:Bt):Option Int :=
 (bd (α:=Int) (o158 (0:Int) a0) (fun v1=>(some v1)))
theorem e146 (t:Bt):evF (stpT Tryz.prog T40 K40) Tryz.f146 p146 r146 .d t=(o146 t):=by kernel_rfl
def n146:FSp:=⟨p146,r146,fun t=>(o146 t)⟩
theorem fo146:FOk Tryz.prog 146 n146:=fk e146
def T41:Tbl:=(146,n146)::T40
theorem K41:TOk Tryz.prog T41:= .cons K40 fo146
def p108:Sch:=⟨[(0,.v (.c (.ro .y false)))],[]⟩
def r108:List Sch:=[⟨[(0,.v (.c (.own 0)))],[.row .y 5]⟩]
def o108 (a0:Bt):Option (Bt) :=
 (bd (α:=Int) (o146 a0) (fun v1=>(bd (α:=(Bt)) (o33 a0) (fun v2=>(gd (decide ((v2.length+([(u8 (IntKind.wrap .u8 v1)),(u8 (IntKind.wrap .u8 (shrK .u32 v1 (8:Int)))),(u8 (IntKind.wrap .u8 (shrK .u32 v1 (16:Int)))),(u8 (IntKind.wrap .u8 (shrK .u32 v1 (24:Int))))]:Bt).length)*1≤140737488355328)) (some (v2++([(u8 (IntKind.wrap .u8 v1)),(u8 (IntKind.wrap .u8 (shrK .u32 v1 (8:Int)))),(u8 (IntKind.wrap .u8 (shrK .u32 v1 (16:Int)))),(u8 (IntKind.wrap .u8 (shrK .u32 v1 (24:Int))))]:Bt))))))))
theorem e108 (t:Bt):evF (stpT Tryz.prog T41 K41) Tryz.f108 p108 r108 .d t=(o108 t):=by kernel_rfl
def n108:FSp:=⟨p108,r108,fun t=>(o108 t)⟩
theorem fo108:FOk Tryz.prog 108 n108:=fk e108
def T42:Tbl:=(108,n108)::T41
theorem K42:TOk Tryz.prog T42:= .cons K41 fo108
def Dx:BSh:= .cells 110 [.i .u8,.i .u8,.i .i64,.ro .y false]
def Bl:SSh:= .v (.agg [.i .u8,.i .u8,.i .i64,.ro .y false])
def o69_s0:Sch:=⟨[(1,.v (.c (.ptr 0 0))),(4,.v (.c (.own 1))),(16,.v (.c (.i .i64)))],[Dx,.row .y 5]⟩
def p69:Sch:=⟨[(0,Bl)],[]⟩
def r69:List Sch:=[⟨[(0,.tup [.c (.own 0),.c (.i .i64)])],[.row .y 5]⟩]
def o69_b0 (v2:Int×((I2)×Int×Bt)×Bt) :=
 (cnd (decide (v2.1 < (8:Int))) (gd (decide ((0:Int)≤(IntKind.wrap .i64 ((8:Int)*v2.1)))) (gd (decide ((v2.2.2.length+([(u8 (IntKind.wrap .u8 (shrK .i64 v2.2.1.2.1 (IntKind.wrap .i64 ((8:Int)*v2.1)))))]:Bt).length)*1≤140737488355328)) (some (Ctl.go ((IntKind.wrap .i64 (v2.1+(1:Int))),v2.2.1,(v2.2.2++([(u8 (IntKind.wrap .u8 (shrK .i64 v2.2.1.2.1 (IntKind.wrap .i64 ((8:Int)*v2.1)))))]:Bt))))))) (dnO (gd (decide ((v2.2.2.length+([(u8 (IntKind.wrap .u8 ((v2.2.1.2.2.length:Nat):Int))),(u8 (IntKind.wrap .u8 (shrK .i64 ((v2.2.1.2.2.length:Nat):Int) (8:Int))))]:Bt).length)*1≤140737488355328)) (gd (decide (((v2.2.2++([(u8 (IntKind.wrap .u8 ((v2.2.1.2.2.length:Nat):Int))),(u8 (IntKind.wrap .u8 (shrK .i64 ((v2.2.1.2.2.length:Nat):Int) (8:Int))))]:Bt)).length+v2.2.1.2.2.length)*1≤140737488355328)) (bd (α:=(Bt)) (o108 ((v2.2.2++([(u8 (IntKind.wrap .u8 ((v2.2.1.2.2.length:Nat):Int))),(u8 (IntKind.wrap .u8 (shrK .i64 ((v2.2.1.2.2.length:Nat):Int) (8:Int))))]:Bt))++v2.2.1.2.2)) (fun v3=>(some ((0:Int),v3))))))))
def o69 (a0:(I2)×Int×Bt):Option (Int×Bt) :=
 (cnd (decide (((a0.2.2.length:Nat):Int) > (1000:Int))) (some ((3:Int),([]:Bt))) (loopO (σ:=Int×((I2)×Int×Bt)×Bt) fuelN o69_b0 ((0:Int),a0,([(u8 a0.1.1),(u8 a0.1.2)]:Bt))))
def h69:HC:=(.s .d (.s .d (.s .d (.s (.s .d (.b (.l [o69_s0] .d))) .d))))
theorem e69 (t:(I2)×Int×Bt):evF (stpT Tryz.prog T42 K42) Tryz.f69 p69 r69 h69 t=(o69 t):=by kernel_rfl
def n69:FSp:=⟨p69,r69,fun t=>(o69 t)⟩
theorem fo69:FOk Tryz.prog 69 n69:=fk e69
def T43:Tbl:=(69,n69)::T42
theorem K43:TOk Tryz.prog T43:= .cons K42 fo69
abbrev Gt:Type:=(Bt×I2)×Bool×(Bool×I2)×Bt
def o109_s0:Sch:=⟨[(0,.v (.c (.ro .y false))),(3,.v (.c (.ptr 0 0))),(6,.v (.c (.own 1))),(23,.v (.c (.b)))],[.cells 38 [.b,.i .i64,.i .u32],.row .y 5]⟩
def o109_s1:Sch:=⟨[(0,.v (.c (.ro .y false))),(3,.v (.c (.ptr 0 0))),(6,.v (.c (.own 1))),(8,.v (.c (.i .i64))),(25,.v (.c (.i .i64))),(48,.v (.c (.b)))],[.cells 38 [.b,.i .i64,.i .u32],.row .y 5]⟩
def o109_s2:Sch:=⟨[(0,.v (.c (.ro .y false))),(3,.v (.c (.ptr 0 0))),(6,.v (.c (.own 1))),(25,.v (.c (.i .i64)))],[.cells 38 [.b,.i .i64,.i .u32],.row .y 5]⟩
def p109:Sch:=⟨[(0,.v (.c (.ro .y false))),(1,.v (.agg [.b,.i .i64,.i .u32]))],[]⟩
def r109:List Sch:=[⟨[(0,.tup [.c (.own 0),.c (.b)])],[.row .y 5]⟩]
def o109_b0 (v4:(Bt×Int)×(Bool×I2)×Bt) :=
 (cnd (decide (v4.1.2 < (32:Int))) (bd (α:=Gt) (gd (decide ((0:Int)≤v4.1.2)) (cnd ((landK .u32 (shrK .u32 v4.2.1.2.2 v4.1.2) (1:Int))==(1:Int)) (cnd (decide ((IntKind.wrap .i64 (v4.2.1.2.1+v4.1.2))≥(0:Int))) (some ((v4.1.1,(IntKind.wrap .i64 (v4.2.1.2.1+v4.1.2)),v4.1.2),(decide ((IntKind.wrap .i64 (v4.2.1.2.1+v4.1.2)) < (IntKind.wrap .i64 ((8:Int)*((v4.1.1.length:Nat):Int))))),v4.2)) (some ((v4.1.1,(IntKind.wrap .i64 (v4.2.1.2.1+v4.1.2)),v4.1.2),false,v4.2))) (some ((v4.1.1,(IntKind.wrap .i64 (v4.2.1.2.1+v4.1.2)),v4.1.2),false,v4.2)))) (fun v5=>(cnd v5.2.1 (gd (decide ((0:Int)≤(IntKind.wrap .i64 (Int.tdiv v5.1.2.1 (8:Int)))∧(IntKind.wrap .i64 (Int.tdiv v5.1.2.1 (8:Int))) < ((v5.2.2.2.length:Nat):Int))) (gd (decide ((0:Int)≤(Int.tmod v5.1.2.1 (8:Int)))) (gd (decide ((0:Int)≤(IntKind.wrap .i64 (Int.tdiv v5.1.2.1 (8:Int)))∧(IntKind.wrap .i64 (Int.tdiv v5.1.2.1 (8:Int))) < ((v5.2.2.2.length:Nat):Int))) (some (Ctl.go ((v5.1.1,(IntKind.wrap .i64 (v5.1.2.2+(1:Int)))),v5.2.2.1,(List.set v5.2.2.2 ((IntKind.wrap .i64 (Int.tdiv v5.1.2.1 (8:Int))).toNat) (u8 (lxorK .u8 ((UInt8.toNat (List.getD v5.2.2.2 ((IntKind.wrap .i64 (Int.tdiv v5.1.2.1 (8:Int))).toNat) (0:UInt8)):Nat):Int) (shlK .u8 (1:Int) (Int.tmod v5.1.2.1 (8:Int)))))))))))) (some (Ctl.go ((v5.1.1,(IntKind.wrap .i64 (v5.1.2.2+(1:Int)))),v5.2.2)))))) (dnO (some (true,v4.2.2))))
def o109 (a0:Bt) (a1:Bool×I2):Option (Bool×Bt) :=
 (cnd a1.1 (some (false,([]:Bt))) (bd (α:=(Bt)) (o33 a0) (fun v1=>(bd (α:=((Bt×Bool)×(Bool×I2)×Bt)) (cnd (decide (a1.2.1 < (-31:Int))) (some ((a0,true),a1,v1)) (some ((a0,(decide (a1.2.1≥(IntKind.wrap .i64 ((8:Int)*((a0.length:Nat):Int)))))),a1,v1))) (fun v2=>(cnd v2.1.2 (some (true,v2.2.2)) (loopO (σ:=(Bt×Int)×(Bool×I2)×Bt) fuelN o109_b0 ((v2.1.1,(0:Int)),v2.2))))))))
def h109:HC:=(.s .d (.s .d (.s .d (.s (.s (.j false [o109_s0] .d) .d) (.s (.s .d (.b (.l [o109_s2] (.s .d (.s .d (.s (.b (.s .d (.s .d (.s (.j false [o109_s1] .d) .d)))) .d)))))) .d)))))
theorem e109 (t:Bt×Bool×I2):evF (stpT Tryz.prog T43 K43) Tryz.f109 p109 r109 h109 t=(o109 t.1 t.2):=by kernel_rfl
def n109:FSp:=⟨p109,r109,fun t=>(o109 t.1 t.2)⟩
theorem fo109:FOk Tryz.prog 109 n109:=fk e109
def T44:Tbl:=(109,n109)::T43
theorem K44:TOk Tryz.prog T44:= .cons K43 fo109
def o147_s0:Sch:=⟨[(0,.v (.c (.ro .y false))),(4,.v (.c (.i .i64))),(54,.v (.c (.b)))],[]⟩
def p147:Sch:=⟨[(0,.v (.c (.ro .y false)))],[]⟩
def r147:List Sch:=[⟨[(0,.tup [.c (.own 0),.c (.i .i64)])],[.row .y 5]⟩]
def o147 (a0:Bt):Option (Int×Bt) :=
 (cnd (decide ((IntKind.wrap .i64 (((a0.length:Nat):Int) - (4:Int))) < (0:Int))) (some ((4:Int),([]:Bt))) (gd (decide ((0:Int)≤(IntKind.wrap .i64 (((a0.length:Nat):Int) - (4:Int)))∧(IntKind.wrap .i64 (((a0.length:Nat):Int) - (4:Int)))≤((a0.length:Nat):Int))) (bd (α:=Int) (o146 (List.take (IntKind.wrap .i64 (((a0.length:Nat):Int) - (4:Int))).toNat a0)) (fun v1=>(bd (α:=(Bt×Int×Bool)) (gd (decide ((0:Int)≤(IntKind.wrap .i64 (((a0.length:Nat):Int) - (4:Int)))∧(IntKind.wrap .i64 (((a0.length:Nat):Int) - (4:Int))) < ((a0.length:Nat):Int))) (cnd (((UInt8.toNat (List.getD a0 (IntKind.wrap .i64 (((a0.length:Nat):Int) - (4:Int))).toNat (0:UInt8)):Nat):Int) != (IntKind.wrap .u8 v1)) (some (a0,(IntKind.wrap .i64 (((a0.length:Nat):Int) - (4:Int))),true)) (gd (decide ((0:Int)≤(IntKind.wrap .i64 ((IntKind.wrap .i64 (((a0.length:Nat):Int) - (4:Int)))+(1:Int)))∧(IntKind.wrap .i64 ((IntKind.wrap .i64 (((a0.length:Nat):Int) - (4:Int)))+(1:Int))) < ((a0.length:Nat):Int))) (cnd (((UInt8.toNat (List.getD a0 (IntKind.wrap .i64 ((IntKind.wrap .i64 (((a0.length:Nat):Int) - (4:Int)))+(1:Int))).toNat (0:UInt8)):Nat):Int) != (IntKind.wrap .u8 (shrK .u32 v1 (8:Int)))) (some (a0,(IntKind.wrap .i64 (((a0.length:Nat):Int) - (4:Int))),true)) (gd (decide ((0:Int)≤(IntKind.wrap .i64 ((IntKind.wrap .i64 (((a0.length:Nat):Int) - (4:Int)))+(2:Int)))∧(IntKind.wrap .i64 ((IntKind.wrap .i64 (((a0.length:Nat):Int) - (4:Int)))+(2:Int))) < ((a0.length:Nat):Int))) (cnd (((UInt8.toNat (List.getD a0 (IntKind.wrap .i64 ((IntKind.wrap .i64 (((a0.length:Nat):Int) - (4:Int)))+(2:Int))).toNat (0:UInt8)):Nat):Int) != (IntKind.wrap .u8 (shrK .u32 v1 (16:Int)))) (some (a0,(IntKind.wrap .i64 (((a0.length:Nat):Int) - (4:Int))),true)) (gd (decide ((0:Int)≤(IntKind.wrap .i64 ((IntKind.wrap .i64 (((a0.length:Nat):Int) - (4:Int)))+(3:Int)))∧(IntKind.wrap .i64 ((IntKind.wrap .i64 (((a0.length:Nat):Int) - (4:Int)))+(3:Int))) < ((a0.length:Nat):Int))) (some (a0,(IntKind.wrap .i64 (((a0.length:Nat):Int) - (4:Int))),(((UInt8.toNat (List.getD a0 (IntKind.wrap .i64 ((IntKind.wrap .i64 (((a0.length:Nat):Int) - (4:Int)))+(3:Int))).toNat (0:UInt8)):Nat):Int) != (IntKind.wrap .u8 (shrK .u32 v1 (24:Int))))))))))))) (fun v2=>(cnd v2.2.2 (some ((12:Int),([]:Bt))) (gd (decide ((0:Int)≤v2.2.1∧v2.2.1≤((v2.1.length:Nat):Int))) (bd (α:=(Bt)) (o33 (List.take v2.2.1.toNat v2.1)) (fun v3=>(some ((0:Int),v3))))))))))))
def h147:HC:=(.s .d (.s .d (.s .d (.s .d (.s (.s (.j false [o147_s0] .d) .d) .d)))))
theorem e147 (t:Bt):evF (stpT Tryz.prog T44 K44) Tryz.f147 p147 r147 h147 t=(o147 t):=by kernel_rfl
def n147:FSp:=⟨p147,r147,fun t=>(o147 t)⟩
theorem fo147:FOk Tryz.prog 147 n147:=fk e147
def T45:Tbl:=(147,n147)::T44
theorem K45:TOk Tryz.prog T45:= .cons K44 fo147
end
end Go.Proofs.YtpleflcfaecojaaGreat
