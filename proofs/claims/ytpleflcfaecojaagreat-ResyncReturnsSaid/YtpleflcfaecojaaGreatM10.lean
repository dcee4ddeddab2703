/-
What functions compute, printed by wip/h/py. Conditions: each theorem's own.
-/
import Derived.Test.YtpleflcfaecojaaGreatM9
namespace Go.Proofs.YtpleflcfaecojaaGreat
set_option linter.unusedVariables false
set_option linter.unusedSimpArgs false
set_option maxRecDepth 100000
open Go.RowKit
noncomputable section
def GO:SSh:= .tup [.agg [.i .u64,.i .i64,.i .i64],.c (.i .i64)]
def p103:Sch:=⟨[(0,Do),(1,.v (.c (.ro .y false)))],[]⟩
def r103:List Sch:=[⟨[(0,GO)],[]⟩]
def o103 (a0:I3) (a1:Bt):Option ((I2)×I2) :=
 (cnd (((a1.length:Nat):Int) != (IntKind.wrap .i64 ((16:Int)+a0.2.2))) (some ((a0.1,a0.2.1),a0.2.2,(4:Int))) (gd (decide ((0:Int)≤(8:Int)∧(8:Int)≤((a1.length:Nat):Int))) (bd (α:=Int) (o137 (List.take (8:Int).toNat a1)) (fun v3=>(gd (decide ((0:Int)≤(8:Int)∧(8:Int)≤(16:Int)∧(16:Int)≤((a1.length:Nat):Int))) (bd (α:=Int) (o137 (List.take ((16:Int).toNat - (8:Int).toNat) (List.drop (8:Int).toNat a1))) (fun v4=>(bd (α:=(Bt)) (o48 ((IntKind.wrap .u64 v3),v4,a0.2.2)) (fun v6=>(cnd (!(v6==a1)) (some ((a0.1,a0.2.1),a0.2.2,(4:Int))) (some (((IntKind.wrap .u64 v3),v4),a0.2.2,(0:Int)))))))))))))
def h103:HC:=(.s .d (.s .d (.s (.r 1) (.s (.s (.r 1) .d) .d))))
theorem e103 (t:(I3)×Bt):evF (stpT Tryz.prog T72 K72) Tryz.f103 p103 r103 h103 t=(o103 t.1 t.2):=by kernel_rfl
def n103:FSp:=⟨p103,r103,fun t=>(o103 t.1 t.2)⟩
theorem fo103:FOk Tryz.prog 103 n103:=fk e103
def T73:Tbl:=(103,n103)::T72
theorem K73:TOk Tryz.prog T73:= .cons K72 fo103
def p179:Sch:=⟨[(0,.v (.c (.ptr 0 0))),(1,.v (.c (.ro .y false)))],[Aa]⟩
def r179:List Sch:=[⟨[(0,.v (.c (.i .i64)))],[Aa]⟩]
def o179 (a0:Bt) (a1:I3):Option (Int×I3) :=
 (bd (α:=((I2)×I2)) (o103 a1 a0) (fun v1=>(some (v1.2.2,v1.1.1,v1.1.2,v1.2.1))))
theorem e179 (t:Bt×I3):evF (stpT Tryz.prog T73 K73) Tryz.f179 p179 r179 .d t=(o179 t.1 t.2):=by kernel_rfl
def n179:FSp:=⟨p179,r179,fun t=>(o179 t.1 t.2)⟩
theorem fo179:FOk Tryz.prog 179 n179:=fk e179
def T74:Tbl:=(179,n179)::T73
theorem K74:TOk Tryz.prog T74:= .cons K73 fo179
def GP:BSh:= .cells 56 [.ic .u64 (0),.ic .i64 (0),.ic .i64 (0)]
def GQ:BSh:= .cells 47 [.ic .u8 (0),.ic .u8 (0),.ic .u8 (0),.ic .i64 (0),.ic .i64 (0),.ic .i64 (0),.ic .i64 (0)]
def GR:SSh:= .tup [.agg [.i .u64,.i .i64,.i .i64],.agg [.i .u8,.i .u8,.i .u8,.i .i64,.i .i64,.i .i64,.i .i64]]
abbrev Es:Type:=((I2)×I3)×(I2)×I3
def o56_s0:Sch:=⟨[(3,.v (.c (.ptr 0 0))),(6,.v (.c (.ptr 1 0))),(7,.v (.c (.ptr 2 0))),(18,.v (.c (.ro .y false))),(19,.v (.c (.i .i64))),(20,.v (.c (.i .i64)))],[DY,GP,GQ]⟩
def p56:Sch:=⟨[(0,Do),(1,.v (.c (.i .i64))),(2,.v (.c (.ro .y false)))],[]⟩
def r56:List Sch:=[⟨[(0,GR)],[]⟩]
def o56_b0 (v2:(Bt×Int)×Int×I3) :=
 (cnd (decide (v2.2.1 < v2.1.2)) (gd (decide ((0:Int)≤v2.2.1∧v2.2.1 < ((v2.1.1.length:Nat):Int))) (some (Ctl.go (v2.1,(IntKind.wrap .i64 (v2.2.1+(1:Int))),(IntKind.wrap .u64 ((IntKind.wrap .u64 (v2.2.2.1*(31:Int)))+(IntKind.wrap .u64 ((UInt8.toNat (List.getD v2.1.1 v2.2.1.toNat (0:UInt8)):Nat):Int)))),v2.2.2.2)))) (dnO (some (((v2.2.2.1,(IntKind.wrap .i64 (v2.2.2.2.1+(1:Int)))),v2.2.2.2.2,(IntKind.wrap .u8 (Int.tmod v2.2.2.1 (7:Int))),(IntKind.wrap .u8 (Int.tmod v2.2.2.1 (9:Int)))),((IntKind.wrap .u8 (Int.tmod (IntKind.wrap .i64 (v2.2.2.2.1+(1:Int))) (9:Int))),(IntKind.wrap .i64 ((IntKind.wrap .i64 (Int.tmod v2.2.2.1 (6001:Int))) - (3000:Int)))),(IntKind.wrap .i64 (Int.tmod (shrK .u64 v2.2.2.1 (13:Int)) (1000:Int))),(IntKind.wrap .i64 ((IntKind.wrap .i64 (Int.tmod (shrK .u64 v2.2.2.1 (23:Int)) (6000000:Int))) - (1000:Int))),(IntKind.wrap .i64 ((IntKind.wrap .i64 (Int.tmod (shrK .u64 v2.2.2.1 (33:Int)) (12000:Int))) - (6000:Int)))))))
def o56 (a0:I3) (a1:Int) (a2:Bt):Option Es :=
 (loopO (σ:=(Bt×Int)×Int×I3) fuelN o56_b0 ((a2,((a2.length:Nat):Int)),(0:Int),(IntKind.wrap .u64 ((IntKind.wrap .u64 (a0.1*(31:Int)))+(IntKind.wrap .u64 a1))),a0.2))
def h56:HC:=(.s .d (.s .d (.s (.s .d (.b (.l [o56_s0] .d))) .d)))
theorem e56 (t:(I3)×Int×Bt):evF (stpT Tryz.prog T74 K74) Tryz.f56 p56 r56 h56 t=(o56 t.1 t.2.1 t.2.2):=by kernel_rfl
def n56:FSp:=⟨p56,r56,fun t=>(o56 t.1 t.2.1 t.2.2)⟩
theorem fo56:FOk Tryz.prog 56 n56:=fk e56
def T75:Tbl:=(56,n56)::T74
theorem K75:TOk Tryz.prog T75:= .cons K74 fo56
def p181:Sch:=⟨[(0,.v (.c (.ptr 0 0))),(1,.v (.c (.i .i64))),(2,.v (.c (.ro .y false)))],[Aa]⟩
def r181:List Sch:=[⟨[(0,BL)],[Aa]⟩]
def o181 (a0:Int) (a1:Bt) (a2:I3):Option (AE×I3) :=
 (bd (α:=Es) (o56 a2 a0 a1) (fun v1=>(some (((v1.1.2.2.1,v1.1.2.2.2,v1.2.1.1),(v1.2.1.2,v1.2.2.1),v1.2.2.2),v1.1.1.1,v1.1.1.2,v1.1.2.1))))
theorem e181 (t:Int×Bt×I3):evF (stpT Tryz.prog T75 K75) Tryz.f181 p181 r181 .d t=(o181 t.1 t.2.1 t.2.2):=by kernel_rfl
def n181:FSp:=⟨p181,r181,fun t=>(o181 t.1 t.2.1 t.2.2)⟩
theorem fo181:FOk Tryz.prog 181 n181:=fk e181
def T76:Tbl:=(181,n181)::T75
theorem K76:TOk Tryz.prog T76:= .cons K75 fo181
def BF:BSh:= .cells 232 [.i .i64,.i .i64,.own 16,.own 17]
def Ag:BSh:= .cells 50 [.i .i64,.i .u8,.i .u8,.i .u8,.i .u8,.i .i64,.i .i64,.i .u8,.i .u8,.i .u8,.i .i64,.i .i64,.i .i64,.i .i64,.i .u8,.i .u8,.i .u8,.i .i64,.i .i64,.i .i64,.i .i64,.i .i64,.i .u8,.i .u8,.i .u8,.i .i64,.i .i64,.i .i64,.i .i64]
def Et:BSh:= .cells 123 [.i .i64,.i .i64,.b,.own 18]
abbrev Ah:Type:=(((I3)×(I2)×I2)×(I3)×(I2)×I2)×((I3)×(I2)×I2)×((I2)×I2)×(I2)×I2
abbrev BA:Type:=((Af×(I3)×I3)×(((I3)×Bool×I2)×Ae)×(List (Int×Int×Int×Bt))×I2)×(As×(B2)×B2)×(Ah×Ao)×List Bt×List (Int×I4)
abbrev Eu:Type:=(((Af×I3)×(I3)×(I3)×Bool×I2)×(Ae×List (Int×Int×Int×Bt))×(I2)×As)×(((B2)×B2)×Ah×Ao)×((Int×Int×Bool)×List Bt)×(List (Int×I4))×Bt
abbrev CI:Type:=((Af×(I3)×I3)×(((I3)×Bool×I2)×Ae)×(List (Int×Int×Int×Bt))×I2)×(List Bt×(List (Int×I4))×As)×((B2)×B2)×Ah×Ao
def o31_s0:Sch:=⟨[(0,.v (.c (.ic .i64 (0)))),(1,.v (.c (.ptr 0 0))),(4,.v (.c (.ptr 12 0))),(5,.v (.c (.ptr 13 0))),(6,.v (.c (.ptr 14 0))),(8,.v (.c (.ptr 15 0)))],[.cells 30 [.ptr 1 0],AQ,Aa,Aa,Ak,Ab,Ad,BF,.no,.no,Am,.cells 34 [.b,.b],.cells 34 [.b,.b],Ag,Aj,Et,.row (.a .y) 33,Ac,.row .y 5]⟩
def p31:Sch:=⟨[(0,.v (.c (.ic .i64 (0)))),(1,.v (.c (.ptr 0 0))),(2,.v (.c (.ptr 10 0))),(3,.v (.c (.ptr 11 0))),(4,.v (.c (.ptr 12 0))),(5,.v (.c (.ptr 13 0))),(6,.v (.c (.ptr 14 0)))],[.cells 30 [.ptr 1 0],AQ,Aa,Aa,Ak,Ab,Ad,Aq,.row (.a .y) 33,Ac,Am,.cells 34 [.b,.b],.cells 34 [.b,.b],Ag,Aj]⟩
def r31:List Sch:=[⟨[(0,.tup [])],[.cells 30 [.ptr 1 0],AQ,Aa,Aa,Ak,Ab,Ad,Bi,.no,.no,Am,.cells 34 [.b,.b],.cells 34 [.b,.b],Ag,Aj,.row (.a .y) 33,Ac]⟩]
def o31 (a0:Af) (a1:I3) (a2:I3) (a3:(I3)×Bool×I2) (a4:Ae) (a5:List (Int×Int×Int×Bt)) (a6:I2) (a7:List Bt) (a8:List (Int×I4)) (a9:As) (a10:B2) (a11:B2) (a12:Ah) (a13:Ao):Option BA :=
 (bd (α:=Cm) (o32 a9.1 a10.1 a3 a4 a5 a6 a7 a8) (fun v2=>(cnd (!v2.1.1.1.2.2.1) (some (((a0,a1,a2),(v2.1.1.2,v2.1.2.1),v2.1.2.2,v2.2.1.1),(a9,a10,a11),(a12,a13),v2.2.2)) (bd (α:=Eu) (cnd v2.1.1.1.2.1 (bd (α:=(Bt)) (o33 a0.1.1.1) (fun v5=>(bd (α:=(Int×I3)) (o179 v5 a1) (fun v6=>(some ((((a0,v6.2),a2,v2.1.1.2),v2.1.2,v2.2.1.1,a9),((a10,a11),a12,a13),((v2.1.1.1.1.1,v2.1.1.1.1.2,v2.1.1.1.2.1),v2.2.2.1),v2.2.2.2,v2.2.1.2)))))) (some ((((a0,a1),a2,v2.1.1.2),v2.1.2,v2.2.1.1,a9),((a10,a11),a12,a13),((v2.1.1.1.1.1,v2.1.1.1.1.2,v2.1.1.1.2.1),v2.2.2.1),v2.2.2.2,v2.2.1.2))) (fun v7=>(bd (α:=(AE×I3)) (o181 v7.2.2.1.1.2.1 v7.2.2.2.2 v7.1.1.1.2) (fun v9=>(some (((v7.1.1.1.1,v9.2,v7.1.1.2.1),(v7.1.1.2.2,v7.1.2.1.1),v7.1.2.1.2,v7.1.2.2.1),(v7.1.2.2.2,v7.2.1.1.1,true,v7.2.1.1.2.2),(((v7.2.1.2.1.1.1,v9.1.1,((lxorK .i64 v9.1.2.1.1 v7.2.1.2.2.1.1.2.2.1),v9.1.2.1.2),v9.1.2.2),v7.2.1.2.1.2),v7.2.1.2.2),v7.2.2.1.2,v7.2.2.2.1)))))))))
def h31:HC:=(.s (.r 4) (.s .d (.j false [o31_s0] (.s (.s .d (.c (.r 1) .d)) .d))))
theorem e31 (t:CI):evF (stpT Tryz.prog T76 K76) Tryz.f31 p31 r31 h31 t=(o31 t.1.1.1 t.1.1.2.1 t.1.1.2.2 t.1.2.1.1 t.1.2.1.2 t.1.2.2.1 t.1.2.2.2 t.2.1.1 t.2.1.2.1 t.2.1.2.2 t.2.2.1.1 t.2.2.1.2 t.2.2.2.1 t.2.2.2.2):=by kernel_rfl
def n31:FSp:=⟨p31,r31,fun t=>(o31 t.1.1.1 t.1.1.2.1 t.1.1.2.2 t.1.2.1.1 t.1.2.1.2 t.1.2.2.1 t.1.2.2.2 t.2.1.1 t.2.1.2.1 t.2.1.2.2 t.2.2.1.1 t.2.2.1.2 t.2.2.2.1 t.2.2.2.2)⟩
theorem fo31:FOk Tryz.prog 31 n31:=fk e31
def T77:Tbl:=(31,n31)::T76
theorem K77:TOk Tryz.prog T77:= .cons K76 fo31
def Ew:SSh:= .v (.c (.cap (.cap (.cap (.cap (.cap (.cap (.fn 31) (.ptr 9 0)) (.ptr 10 0)) (.ptr 11 0)) (.ptr 12 0)) (.ptr 13 0)) (.ptr 14 0)))
def p26v1:Sch:=⟨[(0,.v (.c (.ptr 0 0))),(1,Ew)],[AF,Aa,Aa,Ai,Ab,Ad,Al,.row (.a .y) 33,Ac,.cells 30 [.ptr 0 0],Am,.cells 34 [.b,.b],.cells 34 [.b,.b],Ag,Aj]⟩
def r26v1:List Sch:=[⟨[(0,.tup [])],[AF,Aa,Aa,Ai,Ab,Ad,Bi,.no,.no,.cells 30 [.ptr 0 0],Am,.cells 34 [.b,.b],.cells 34 [.b,.b],Ag,Aj,.row (.a .y) 33,Ac]⟩]
def o26v1 (a0:Af) (a1:I3) (a2:I3) (a3:(I3)×Bool×I2) (a4:Ae) (a5:List (Int×Int×Int×Bt)) (a6:I2) (a7:List Bt) (a8:List (Int×I4)) (a9:As) (a10:B2) (a11:B2) (a12:Ah) (a13:Ao):Option BA :=
 (bd (α:=BA) (o31 a0 a1 a2 a3 a4 a5 a6 a7 a8 a9 a10 a11 a12 a13) (fun v1=>(some v1)))
def h26v1:HC:=(.s .d (.b (.u 3 (.v .d (.v .d (.v .d .d))))))
theorem e26v1 (t:CI):evF (stpT Tryz.prog T77 K77) Tryz.f26 p26v1 r26v1 h26v1 t=(o26v1 t.1.1.1 t.1.1.2.1 t.1.1.2.2 t.1.2.1.1 t.1.2.1.2 t.1.2.2.1 t.1.2.2.2 t.2.1.1 t.2.1.2.1 t.2.1.2.2 t.2.2.1.1 t.2.2.1.2 t.2.2.2.1 t.2.2.2.2):=by kernel_rfl
def n26v1:FSp:=⟨p26v1,r26v1,fun t=>(o26v1 t.1.1.1 t.1.1.2.1 t.1.1.2.2 t.1.2.1.1 t.1.2.1.2 t.1.2.2.1 t.1.2.2.2 t.2.1.1 t.2.1.2.1 t.2.1.2.2 t.2.2.1.1 t.2.2.1.2 t.2.2.2.1 t.2.2.2.2)⟩
theorem fo26v1:FOk Tryz.prog 26 n26v1:=fk e26v1
def T78:Tbl:=(26,n26v1)::T77
theorem K78:TOk Tryz.prog T78:= .cons K77 fo26v1
def GS:SSh:= .v (.agg [.i .i64,.i .u8,.i .u8,.i .u8,.i .i64,.i .i64,.i .i64,.i .i64])
abbrev DC:Type:=((I2)×I2)×(I2)×I2
def o121_s0:Sch:=⟨[(4,.v (.c (.own 0))),(28,.v (.c (.own 1))),(29,.v (.c (.i .i64))),(30,.v (.c (.i .i64)))],[.row .y 5,.row (.i .i64) 2]⟩
def p121:Sch:=⟨[(0,GS)],[]⟩
def r121:List Sch:=[⟨[(0,.v (.c (.own 0)))],[.row .y 5]⟩]
def o121_b0 (v4:(I2)×Bt×List Int) :=
 (cnd (decide (v4.1.2 < v4.1.1)) (gd (decide ((0:Int)≤v4.1.2∧v4.1.2 < ((v4.2.2.length:Nat):Int))) (bd (α:=(Bt)) (o148 (List.getD v4.2.2 v4.1.2.toNat (0:Int)) (8:Int) v4.2.1) (fun v5=>(some (Ctl.go ((v4.1.1,(IntKind.wrap .i64 (v4.1.2+(1:Int)))),v5,v4.2.2)))))) (dnO (some v4.2.1)))
def o121 (a0:DC):Option (Bt) :=
 (bd (α:=(Bt)) (o148v1 a0.1.1.1 (8:Int)) (fun v2=>(gd (decide ((v2.length+([(u8 a0.1.1.2),(u8 a0.1.2.1),(u8 a0.1.2.2)]:Bt).length)*1≤140737488355328)) (loopO (σ:=(I2)×Bt×List Int) fuelN o121_b0 ((((([a0.2.1.1,a0.2.1.2,a0.2.2.1,a0.2.2.2]:List Int).length:Nat):Int),(0:Int)),(v2++([(u8 a0.1.1.2),(u8 a0.1.2.1),(u8 a0.1.2.2)]:Bt)),([a0.2.1.1,a0.2.1.2,a0.2.2.1,a0.2.2.2]:List Int))))))
def h121:HC:=(.s .d (.s .d (.s (.r 3) (.s (.s .d (.b (.l [o121_s0] .d))) .d))))
theorem e121 (t:DC):evF (stpT Tryz.prog T78 K78) Tryz.f121 p121 r121 h121 t=(o121 t):=by kernel_rfl
def n121:FSp:=⟨p121,r121,fun t=>(o121 t)⟩
theorem fo121:FOk Tryz.prog 121 n121:=fk e121
def T79:Tbl:=(121,n121)::T78
theorem K79:TOk Tryz.prog T79:= .cons K78 fo121
def p79:Sch:=⟨[(0,.v (.c (.ptr 0 0))),(1,BL)],[Ab]⟩
def r79:List Sch:=[⟨[(0,Eq)],[Ab,.row .y 5]⟩]
def o79 (a0:AE) (a1:Ae):Option (((I2)×Int×Bool×Int)×Ae×Bt) :=
 (bd (α:=Int) (o111 (4:Int) a1) (fun v1=>(cnd (v1 != (0:Int)) (some ((((0:Int),(0:Int)),(0:Int),false,v1),a1,([]:Bt))) (cnd (!a1.2.1.2.2.1) (some ((((0:Int),(0:Int)),(0:Int),false,(0:Int)),(((a1.1.1.1,a1.1.1.2.1,(5:Int),a1.1.1.2.2.2),a1.1.2),a1.2),([]:Bt))) (bd (α:=(Bt)) (o121 (((a1.1.1.1.2.2,a0.1.1),a0.1.2),a0.2)) (fun v2=>(bd (α:=((I3)×Bt)) (o113v1 (3:Int) (((a1.1.1.1,a1.1.1.2.1,(5:Int),a1.1.1.2.2.2),a1.1.2),(a1.2.1.1,a1.2.1.2.1,a1.2.1.2.2.1,a1.1.1.1.2.2),a0) v2) (fun v3=>(some (((v3.1.1,v3.1.2.1),v3.1.2.2,true,(0:Int)),(((a1.1.1.1,a1.1.1.2.1,(5:Int),a1.1.1.2.2.2),a1.1.2),(a1.2.1.1,a1.2.1.2.1,a1.2.1.2.2.1,a1.1.1.1.2.2),a0),v3.2))))))))))
theorem e79 (t:AE×Ae):evF (stpT Tryz.prog T79 K79) Tryz.f79 p79 r79 .d t=(o79 t.1 t.2):=by kernel_rfl
def n79:FSp:=⟨p79,r79,fun t=>(o79 t.1 t.2)⟩
theorem fo79:FOk Tryz.prog 79 n79:=fk e79
def T80:Tbl:=(79,n79)::T79
theorem K80:TOk Tryz.prog T80:= .cons K79 fo79
abbrev GT:Type:=(AE×((I3)×Bool×I2)×Ae)×((List (Int×Int×Int×Bt))×I2)×List Bt×List (Int×I4)
def p35:Sch:=⟨[(0,.v (.c (.ptr 0 0))),(1,BL)],[AB,Ab,Ad,AM,.row (.a .y) 33,Ac]⟩
def r35:List Sch:=[⟨[(0,DB)],[AB,Ab,Ad,AM,.row (.a .y) 33,Ac,.row .y 5]⟩]
def o35 (a0:AE) (a1:(I3)×Bool×I2) (a2:Ae) (a3:List (Int×Int×Int×Bt)) (a4:I2) (a5:List Bt) (a6:List (Int×I4)):Option Bf :=
 (bd (α:=Int) (o71 (4:Int) a1 a2 a3 (a4,a5,a6)) (fun v1=>(cnd (v1 != (0:Int)) (some ((((((0:Int),(0:Int)),(0:Int),false,v1),a1),a2,a3),(a4,a5),a6,([]:Bt))) (bd (α:=(((I2)×Int×Bool×Int)×Ae×Bt)) (o79 a0 a2) (fun v3=>(some (((v3.1,(a1.1.1,(5:Int),a1.1.2.2),a1.2),v3.2.1,a3),(a4,a5),a6,v3.2.2)))))))
theorem e35 (t:GT):evF (stpT Tryz.prog T80 K80) Tryz.f35 p35 r35 (.s .d (.s .d (.s .d (.s (.r 1) .d)))) t=(o35 t.1.1 t.1.2.1 t.1.2.2 t.2.1.1 t.2.1.2 t.2.2.1 t.2.2.2):=by kernel_rfl
def n35:FSp:=⟨p35,r35,fun t=>(o35 t.1.1 t.1.2.1 t.1.2.2 t.2.1.1 t.2.1.2 t.2.2.1 t.2.2.2)⟩
theorem fo35:FOk Tryz.prog 35 n35:=fk e35
def T81:Tbl:=(35,n35)::T80
theorem K81:TOk Tryz.prog T81:= .cons K80 fo35
def CJ:BSh:= .lent [.i .i64,.i .u8,.i .u8,.i .u8,.i .u8,.i .i64,.i .i64,.i .u8,.i .u8,.i .u8,.i .i64,.i .i64,.i .i64,.i .i64,.i .u8,.i .u8,.i .u8,.i .i64,.i .i64,.i .i64,.i .i64,.i .i64,.i .u8,.i .u8,.i .u8,.i .i64,.i .i64,.i .i64,.i .i64]
def Ex:SSh:= .tup [.agg [.i .u8,.i .u8,.i .i64,.own 11],.c (.b)]
abbrev Bv:Type:=((Af×I3)×(I3)×((I3)×Bool×I2)×Ae)×((List (Int×Int×Int×Bt))×I2)×List Bt×(List (Int×I4))×Ah
def p34:Sch:=⟨[(0,.v (.c (.ic .i64 (0)))),(1,.v (.c (.ptr 0 0))),(2,.v (.c (.ptr 10 0)))],[.cells 30 [.ptr 1 0],AQ,Aa,Aa,Ak,Ab,Ad,Aq,.row (.a .y) 33,Ac,CJ]⟩
def r34:List Sch:=[⟨[(0,Ex)],[.cells 30 [.ptr 1 0],AQ,Aa,Aa,Ak,Ab,Ad,Aq,.row (.a .y) 33,Ac,.no,.row .y 5]⟩]
def o34 (a0:Af) (a1:I3) (a2:I3) (a3:(I3)×Bool×I2) (a4:Ae) (a5:List (Int×Int×Int×Bt)) (a6:I2) (a7:List Bt) (a8:List (Int×I4)) (a9:Ah):Option Bs :=
 (bd (α:=Bf) (o35 a9.1.2 a3 a4 a5 a6 a7 a8) (fun v2=>(some ((((v2.1.1.1.1,v2.1.1.1.2.1,v2.1.1.1.2.2.1),a0),a1,a2,v2.1.1.2),(v2.1.2.1,v2.1.2.2,v2.2.1.1),v2.2.1.2,v2.2.2))))
theorem e34 (t:Bv):evF (stpT Tryz.prog T81 K81) Tryz.f34 p34 r34 (.s .d (.s (.r 2) .d)) t=(o34 t.1.1.1 t.1.1.2 t.1.2.1 t.1.2.2.1 t.1.2.2.2 t.2.1.1 t.2.1.2 t.2.2.1 t.2.2.2.1 t.2.2.2.2):=by kernel_rfl
def n34:FSp:=⟨p34,r34,fun t=>(o34 t.1.1.1 t.1.1.2 t.1.2.1 t.1.2.2.1 t.1.2.2.2 t.2.1.1 t.2.1.2 t.2.2.1 t.2.2.2.1 t.2.2.2.2)⟩
theorem fo34:FOk Tryz.prog 34 n34:=fk e34
def T82:Tbl:=(34,n34)::T81
theorem K82:TOk Tryz.prog T82:= .cons K81 fo34
def CK:SSh:= .v (.c (.cap (.cap (.fn 34) (.ptr 9 0)) (.ptr 10 0)))
abbrev BN:Type:=((BU×Af)×(I3)×(I3)×(I3)×Bool×I2)×(Ae×(List (Int×Int×Int×Bt))×I2)×List Bt×(List (Int×I4))×Ah
abbrev DD:Type:=((Af×(I3)×I3)×((I3)×Bool×I2)×Ae×List (Int×Int×Int×Bt))×((I2)×List Bt×List (Int×I4))×(Ah×Ao)×As×B2
def Ey (v5:DD):Option BN :=
 (some (((((v5.2.2.2.1.1.1,v5.2.2.2.1.1.2.1,v5.2.2.2.1.1.2.2,v5.2.2.2.1.2.1.1),(v5.2.2.2.1.2.1.2,v5.2.2.2.1.2.2.1),v5.2.2.2.1.2.2.2,v5.2.2.2.2),v5.1.1.1),v5.1.1.2.1,v5.1.1.2.2,v5.1.2.1),(v5.1.2.2.1,v5.1.2.2.2,v5.2.1.1),v5.2.1.2.1,v5.2.1.2.2,v5.2.2.1.1))
abbrev Ez:Type:=((Ao×Af)×(I3)×(I3)×(I3)×Bool×I2)×(Ae×(List (Int×Int×Int×Bt))×I2)×List Bt×(List (Int×I4))×Ah
def o23v2_s0:Sch:=⟨[(0,.v (.c (.ptr 0 0))),(1,.v (.c (.ic .i64 (2)))),(3,CK),(6,.v (.c (.ptr 11 0))),(8,.v (.c (.ptr 12 0))),(9,.v (.c (.ptr 13 0))),(15,.v (.c (.ic .i64 (0))))],[AF,Aa,Aa,Ai,Ab,Ad,Al,.row (.a .y) 33,Ac,.cells 30 [.ptr 0 0],Ag,Aj,Am,.cells 34 [.b,.b]]⟩
def p23v2:Sch:=⟨[(0,.v (.c (.ptr 0 0))),(1,.v (.c (.ic .i64 (2)))),(2,AP),(3,CK)],[AF,Aa,Aa,Ai,Ab,Ad,Al,.row (.a .y) 33,Ac,.cells 30 [.ptr 0 0],Ag]⟩
def r23v2:List Sch:=[⟨[(0,Bq)],[AF,Aa,Aa,Ai,Ab,Ad,Al,.row (.a .y) 33,Ac,.cells 30 [.ptr 0 0],Ag]⟩]
def o23v2 (a0:Ao) (a1:Af) (a2:I3) (a3:I3) (a4:(I3)×Bool×I2) (a5:Ae) (a6:List (Int×Int×Int×Bt)) (a7:I2) (a8:List Bt) (a9:List (Int×I4)) (a10:Ah):Option BN :=
 (bd (α:=DD) (bd (α:=Bs) (o34 a1 a2 a3 a4 a5 a6 a7 a8 a9 a10) (fun v1=>(cnd (!v1.1.1.1.2.2) (some (((v1.1.1.2,v1.1.2.1,v1.1.2.2.1),v1.1.2.2.2,v1.2.1.1,v1.2.1.2.1),(v1.2.1.2.2,v1.2.2.1,v1.2.2.2.1),(a10,a0),((((0:Int),(0:Int)),(0:Int),([]:Bt)),((0:Int),(0:Int)),(0:Int),([]:Bt)),false,false)) (bd (α:=(Int×Bt)) (o69 (v1.1.1.1.1,v1.1.1.1.2.1,v1.2.2.2.2)) (fun v2=>(cnd (v2.1 != (0:Int)) (some (((v1.1.1.2,v1.1.2.1,v1.1.2.2.1),v1.1.2.2.2,v1.2.1.1,v1.2.1.2.1),(v1.2.1.2.2,v1.2.2.1,v1.2.2.2.1),(a10,a0),((((0:Int),(0:Int)),(0:Int),([]:Bt)),((0:Int),(0:Int)),(0:Int),([]:Bt)),false,false)) (bd (α:=((I2)×Int×Bt×Bool)) (o70 v2.2 (a0.1.2.2.2.1,a0.1.2.2.2.2,a0.2.1.1.1.1) (3:Int) (1:Int) v1.1.1.2.1.2.2.2) (fun v4=>(some (((v1.1.1.2,v1.1.2.1,v1.1.2.2.1),v1.1.2.2.2,v1.2.1.1,v1.2.1.2.1),(v1.2.1.2.2,v1.2.2.1,v1.2.2.2.1),(a10,a0),((((0:Int),(0:Int)),(0:Int),([]:Bt)),v4.1,v4.2.1,v4.2.2.1),false,v4.2.2.2)))))))))) Ey)
def h23v2:HC:=(.s .d (.s (.s .d (.b (.u 3 (.v (.s .d (.s .d (.j false [o23v2_s0] .d))) (.v .d (.v .d .d)))))) .d))
theorem e23v2 (t:Ez):evF (stpT Tryz.prog T82 K82) Tryz.f23 p23v2 r23v2 h23v2 t=(o23v2 t.1.1.1 t.1.1.2 t.1.2.1 t.1.2.2.1 t.1.2.2.2 t.2.1.1 t.2.1.2.1 t.2.1.2.2 t.2.2.1 t.2.2.2.1 t.2.2.2.2):=by kernel_rfl
def n23v2:FSp:=⟨p23v2,r23v2,fun t=>(o23v2 t.1.1.1 t.1.1.2 t.1.2.1 t.1.2.2.1 t.1.2.2.2 t.2.1.1 t.2.1.2.1 t.2.1.2.2 t.2.2.1 t.2.2.2.1 t.2.2.2.2)⟩
theorem fo23v2:FOk Tryz.prog 23 n23v2:=fk e23v2
def T83:Tbl:=(23,n23v2)::T82
theorem K83:TOk Tryz.prog T83:= .cons K82 fo23v2
def GU:SSh:= .tup [.agg [.i .i64,.i .u8,.i .u8,.i .u8,.i .i64,.i .i64,.i .i64,.i .i64],.c (.i .i64)]
abbrev EA:Type:=((I2)×I2)×(I2)×I3
def p122:Sch:=⟨[(0,.v (.c (.ro .y false)))],[]⟩
def r122:List Sch:=[⟨[(0,GU)],[]⟩]
def o122 (a0:Bt):Option EA :=
 (cnd (((a0.length:Nat):Int) != (43:Int)) (some ((((0:Int),(0:Int)),(0:Int),(0:Int)),((0:Int),(0:Int)),(0:Int),(0:Int),(4:Int))) (bd (α:=Int) (o120 a0 (8:Int)) (fun v6=>(gd (decide ((0:Int)≤(8:Int)∧(8:Int) < ((a0.length:Nat):Int))) (gd (decide ((0:Int)≤(9:Int)∧(9:Int) < ((a0.length:Nat):Int))) (gd (decide ((0:Int)≤(10:Int)∧(10:Int) < ((a0.length:Nat):Int))) (gd (decide ((0:Int)≤(11:Int)∧(11:Int)≤((a0.length:Nat):Int))) (bd (α:=Int) (o120 (List.drop (11:Int).toNat a0) (8:Int)) (fun v7=>(gd (decide ((0:Int)≤(19:Int)∧(19:Int)≤((a0.length:Nat):Int))) (bd (α:=Int) (o120 (List.drop (19:Int).toNat a0) (8:Int)) (fun v8=>(gd (decide ((0:Int)≤(27:Int)∧(27:Int)≤((a0.length:Nat):Int))) (bd (α:=Int) (o120 (List.drop (27:Int).toNat a0) (8:Int)) (fun v9=>(gd (decide ((0:Int)≤(35:Int)∧(35:Int)≤((a0.length:Nat):Int))) (bd (α:=Int) (o120 (List.drop (35:Int).toNat a0) (8:Int)) (fun v10=>(some (((v6,((UInt8.toNat (List.getD a0 (8:Int).toNat (0:UInt8)):Nat):Int)),((UInt8.toNat (List.getD a0 (9:Int).toNat (0:UInt8)):Nat):Int),((UInt8.toNat (List.getD a0 (10:Int).toNat (0:UInt8)):Nat):Int)),(v7,v8),v9,v10,(0:Int)))))))))))))))))))))
theorem e122 (t:Bt):evF (stpT Tryz.prog T83 K83) Tryz.f122 p122 r122 .d t=(o122 t):=by kernel_rfl
def n122:FSp:=⟨p122,r122,fun t=>(o122 t)⟩
theorem fo122:FOk Tryz.prog 122 n122:=fk e122
def T84:Tbl:=(122,n122)::T83
theorem K84:TOk Tryz.prog T84:= .cons K83 fo122
def GV:BSh:= .cells 195 [.i .i64,.i .u8,.i .u8,.i .u8,.i .i64,.i .i64,.i .i64,.i .i64]
def o80_s0:Sch:=⟨[(0,.v (.c (.ptr 0 0))),(9,.v (.c (.ptr 1 0))),(11,.v (.c (.b)))],[Ab,GV]⟩
def o80_s1:Sch:=⟨[(42,.v (.c (.b)))],[Ab]⟩
def p80:Sch:=⟨[(0,.v (.c (.ptr 0 0))),(1,Bl),(2,.v (.c (.b)))],[Ab]⟩
def r80:List Sch:=[⟨[(0,.tup [.c (.i .u8),.c (.i .i64)])],[Ab]⟩]
def o80 (a0:(I2)×Int×Bt) (a1:Bool) (a2:Ae):Option ((I2)×Ae) :=
 (bd (α:=Int) (o111 (5:Int) a2) (fun v1=>(cnd (v1 != (0:Int)) (some (((0:Int),v1),a2)) (cnd (!a2.2.1.2.2.1) (some (((2:Int),(0:Int)),((a2.1.1.1,a2.1.1.2.1,(0:Int),a2.1.1.2.2.2),a2.1.2),a2.2)) (bd (α:=EA) (o122 a0.2.2) (fun v2=>(bd (α:=(Bool×Ae×DC)) (bd (α:=Bool) (o114 a0 a1 (3:Int) (((a2.1.1.1,a2.1.1.2.1,(0:Int),a2.1.1.2.2.2),a2.1.2),a2.2)) (fun v3=>(cnd v3 (some ((v2.2.2.2.2==(0:Int)),(((a2.1.1.1,a2.1.1.2.1,(0:Int),a2.1.1.2.2.2),a2.1.2),a2.2),v2.1,v2.2.1,v2.2.2.1,v2.2.2.2.1)) (some (false,(((a2.1.1.1,a2.1.1.2.1,(0:Int),a2.1.1.2.2.2),a2.1.2),a2.2),v2.1,v2.2.1,v2.2.2.1,v2.2.2.2.1))))) (fun v4=>(cnd (!v4.1) (some (((3:Int),(0:Int)),v4.2.1)) (bd (α:=(Bool×Ae)) (cnd (v4.2.1.1.1.1.2.1==(3:Int)) (some (((v4.2.2.1.1.1==v4.2.1.2.1.2.2.2)&&((v4.2.2.1.1.2==v4.2.1.2.2.1.1)&&((v4.2.2.1.2.1==v4.2.1.2.2.1.2.1)&&((v4.2.2.1.2.2==v4.2.1.2.2.1.2.2)&&((v4.2.2.2.1.1==v4.2.1.2.2.2.1.1)&&((v4.2.2.2.1.2==v4.2.1.2.2.2.1.2)&&((v4.2.2.2.2.1==v4.2.1.2.2.2.2.1)&&(v4.2.2.2.2.2==v4.2.1.2.2.2.2.2)))))))),v4.2.1)) (bd (α:=Bool) (o117 v4.2.1) (fun v6=>(cnd v6 (some (((v4.2.2.1.1.1==v4.2.1.2.1.2.2.2)&&((v4.2.2.1.1.2==v4.2.1.2.2.1.1)&&((v4.2.2.1.2.1==v4.2.1.2.2.1.2.1)&&((v4.2.2.1.2.2==v4.2.1.2.2.1.2.2)&&((v4.2.2.2.1.1==v4.2.1.2.2.2.1.1)&&((v4.2.2.2.1.2==v4.2.1.2.2.2.1.2)&&((v4.2.2.2.2.1==v4.2.1.2.2.2.2.1)&&(v4.2.2.2.2.2==v4.2.1.2.2.2.2.2)))))))),v4.2.1)) (some (false,v4.2.1)))))) (fun v7=>(cnd v7.1 (some (((4:Int),(0:Int)),v7.2)) (some (((2:Int),(0:Int)),v7.2))))))))))))))
def h80:HC:=(.s .d (.s .d (.s .d (.s .d (.s .d (.s (.j false [o80_s0] .d) (.s (.b (.s .d (.c .d (.s (.j false [o80_s1] .d) .d)))) .d)))))))
theorem e80 (t:((I2)×Int×Bt)×Bool×Ae):evF (stpT Tryz.prog T84 K84) Tryz.f80 p80 r80 h80 t=(o80 t.1 t.2.1 t.2.2):=by kernel_rfl
def n80:FSp:=⟨p80,r80,fun t=>(o80 t.1 t.2.1 t.2.2)⟩
theorem fo80:FOk Tryz.prog 80 n80:=fk e80
def T85:Tbl:=(80,n80)::T84
theorem K85:TOk Tryz.prog T85:= .cons K84 fo80
abbrev Cn:Type:=((I2)×((I3)×Bool×I2)×Ae)×((List (Int×Int×Int×Bt))×I2)×List Bt×List (Int×I4)
def p37:Sch:=⟨[(0,.v (.c (.ptr 0 0))),(1,Bl),(2,.v (.c (.b)))],[AB,Ab,Ad,AM,.row (.a .y) 33,Ac]⟩
def r37:List Sch:=[⟨[(0,.tup [.c (.i .u8),.c (.i .i64)])],[AB,Ab,Ad,AM,.row (.a .y) 33,Ac]⟩]
def o37 (a0:(I2)×Int×Bt) (a1:Bool) (a2:(I3)×Bool×I2) (a3:Ae) (a4:List (Int×Int×Int×Bt)) (a5:I2) (a6:List Bt) (a7:List (Int×I4)):Option Cn :=
 (bd (α:=Int) (o71 (5:Int) a2 a3 a4 (a5,a6,a7)) (fun v1=>(cnd (v1 != (0:Int)) (some ((((0:Int),v1),a2,a3),(a4,a5),a6,a7)) (bd (α:=((I2)×Ae)) (o80 a0 a1 a3) (fun v3=>(some ((v3.1,((a2.1.1,(6:Int),a2.1.2.2),a2.2),v3.2),(a4,a5),a6,a7)))))))
theorem e37 (t:CE):evF (stpT Tryz.prog T85 K85) Tryz.f37 p37 r37 .d t=(o37 t.1.1.1 t.1.1.2 t.1.2.1 t.1.2.2 t.2.1.1 t.2.1.2 t.2.2.1 t.2.2.2):=by kernel_rfl
def n37:FSp:=⟨p37,r37,fun t=>(o37 t.1.1.1 t.1.1.2 t.1.2.1 t.1.2.2 t.2.1.1 t.2.1.2 t.2.2.1 t.2.2.2)⟩
theorem fo37:FOk Tryz.prog 37 n37:=fk e37
def T86:Tbl:=(37,n37)::T85
theorem K86:TOk Tryz.prog T86:= .cons K85 fo37
abbrev Bj:Type:=((Af×(I3)×I3)×((I3)×Bool×I2)×Ae×List (Int×Int×Int×Bt))×((I2)×List Bt×List (Int×I4))×As×(B2)×Ah
def p36:Sch:=⟨[(0,.v (.c (.ic .i64 (0)))),(1,.v (.c (.ptr 0 0))),(2,.v (.c (.ptr 10 0))),(3,.v (.c (.ptr 11 0))),(4,.v (.c (.ptr 12 0)))],[.cells 30 [.ptr 1 0],AQ,Aa,Aa,Ak,Ab,Ad,Aq,.row (.a .y) 33,Ac,Am,.cells 34 [.b,.b],Ag]⟩
def r36:List Sch:=[⟨[(0,.tup [])],[.cells 30 [.ptr 1 0],AQ,Aa,Aa,Ak,Ab,Ad,Aq,.row (.a .y) 33,Ac,Am,.cells 34 [.b,.b],Ag]⟩]
def o36 (a0:Af) (a1:I3) (a2:I3) (a3:(I3)×Bool×I2) (a4:Ae) (a5:List (Int×Int×Int×Bt)) (a6:I2) (a7:List Bt) (a8:List (Int×I4)) (a9:As) (a10:B2) (a11:Ah):Option Bj :=
 (bd (α:=Cn) (o37 a9.1 a10.1 a3 a4 a5 a6 a7 a8) (fun v2=>(some (((a0,a1,a2),v2.1.2.1,v2.1.2.2,v2.2.1.1),(v2.2.1.2,v2.2.2),a9,a10,((a11.1.1.1,(v2.1.1.1,a11.1.1.2.1.2),a11.1.1.2.2),a11.1.2),a11.2))))
theorem e36 (t:Bj):evF (stpT Tryz.prog T86 K86) Tryz.f36 p36 r36 .d t=(o36 t.1.1.1 t.1.1.2.1 t.1.1.2.2 t.1.2.1 t.1.2.2.1 t.1.2.2.2 t.2.1.1 t.2.1.2.1 t.2.1.2.2 t.2.2.1 t.2.2.2.1 t.2.2.2.2):=by kernel_rfl
def n36:FSp:=⟨p36,r36,fun t=>(o36 t.1.1.1 t.1.1.2.1 t.1.1.2.2 t.1.2.1 t.1.2.2.1 t.1.2.2.2 t.2.1.1 t.2.1.2.1 t.2.1.2.2 t.2.2.1 t.2.2.2.1 t.2.2.2.2)⟩
theorem fo36:FOk Tryz.prog 36 n36:=fk e36
def T87:Tbl:=(36,n36)::T86
theorem K87:TOk Tryz.prog T87:= .cons K86 fo36
def EB:SSh:= .v (.c (.cap (.cap (.cap (.cap (.fn 36) (.ptr 9 0)) (.ptr 10 0)) (.ptr 11 0)) (.ptr 12 0)))
def p26v2:Sch:=⟨[(0,.v (.c (.ptr 0 0))),(1,EB)],[AF,Aa,Aa,Ai,Ab,Ad,Al,.row (.a .y) 33,Ac,.cells 30 [.ptr 0 0],Am,.cells 34 [.b,.b],Ag]⟩
def r26v2:List Sch:=[⟨[(0,.tup [])],[AF,Aa,Aa,Ai,Ab,Ad,Al,.row (.a .y) 33,Ac,.cells 30 [.ptr 0 0],Am,.cells 34 [.b,.b],Ag]⟩]
def o26v2 (a0:Af) (a1:I3) (a2:I3) (a3:(I3)×Bool×I2) (a4:Ae) (a5:List (Int×Int×Int×Bt)) (a6:I2) (a7:List Bt) (a8:List (Int×I4)) (a9:As) (a10:B2) (a11:Ah):Option Bj :=
 (bd (α:=Bj) (o36 a0 a1 a2 a3 a4 a5 a6 a7 a8 a9 a10 a11) (fun v1=>(some v1)))
def h26v2:HC:=(.s .d (.b (.u 3 (.v .d (.v .d (.v .d .d))))))
theorem e26v2 (t:Bj):evF (stpT Tryz.prog T87 K87) Tryz.f26 p26v2 r26v2 h26v2 t=(o26v2 t.1.1.1 t.1.1.2.1 t.1.1.2.2 t.1.2.1 t.1.2.2.1 t.1.2.2.2 t.2.1.1 t.2.1.2.1 t.2.1.2.2 t.2.2.1 t.2.2.2.1 t.2.2.2.2):=by kernel_rfl
def n26v2:FSp:=⟨p26v2,r26v2,fun t=>(o26v2 t.1.1.1 t.1.1.2.1 t.1.1.2.2 t.1.2.1 t.1.2.2.1 t.1.2.2.2 t.2.1.1 t.2.1.2.1 t.2.1.2.2 t.2.2.1 t.2.2.2.1 t.2.2.2.2)⟩
theorem fo26v2:FOk Tryz.prog 26 n26v2:=fk e26v2
def T88:Tbl:=(26,n26v2)::T87
theorem K88:TOk Tryz.prog T88:= .cons K87 fo26v2
def p45:Sch:=⟨[(0,.v (.c (.ptr 0 0)))],[AN]⟩
def r45:List Sch:=[⟨[(0,.v (.c (.i .i64)))],[.no]⟩]
def o45 (a0:Ae):Option Int :=
 (some a0.1.1.1.2.2)
theorem e45 (t:Ae):evF (stpT Tryz.prog T88 K88) Tryz.f45 p45 r45 .d t=(o45 t):=by kernel_rfl
def n45:FSp:=⟨p45,r45,fun t=>(o45 t)⟩
theorem fo45:FOk Tryz.prog 45 n45:=fk e45
def T89:Tbl:=(45,n45)::T88
theorem K89:TOk Tryz.prog T89:= .cons K88 fo45
def CL:SSh:= .v (.agg [.i .i64,.i .i64,.i .i64,.ro .y false])
def GX:SSh:= .v (.agg [.i .i64,.i .i64,.i .i64,.own 0])
def p123:Sch:=⟨[(0,CL)],[]⟩
def r123:List Sch:=[⟨[(0,GX)],[.row .y 5]⟩]
def o123 (a0:(I2)×Int×Bt):Option ((I3)×Bt) :=
 (bd (α:=(Bt)) (o33 a0.2.2) (fun v1=>(some ((a0.1.1,a0.1.2,a0.2.1),v1))))
theorem e123 (t:(I2)×Int×Bt):evF (stpT Tryz.prog T89 K89) Tryz.f123 p123 r123 .d t=(o123 t):=by kernel_rfl
def n123:FSp:=⟨p123,r123,fun t=>(o123 t)⟩
theorem fo123:FOk Tryz.prog 123 n123:=fk e123
def T90:Tbl:=(123,n123)::T89
theorem K90:TOk Tryz.prog T90:= .cons K89 fo123
def EC:BSh:= .cells 97 [.ic .i64 (0),.ic .i64 (0),.ic .i64 (0),.cst (.slice none 0 0)]
def GY:SSh:= .tup [.agg [.i .i64,.i .i64,.i .i64,.own 1],.c (.i .i64)]
abbrev ED:Type:=((I2)×I2)×(List (Int×Int×Int×Bt))×Bt
abbrev GZ:Type:=(Int×Bt)×Bool×(List (Int×Int×Int×Bt))×I2
abbrev Ha:Type:=((I2)×Int)×Bt×List (Int×Int×Int×Bt)
def o81_s0:Sch:=⟨[(0,.v (.c (.ptr 0 0))),(2,.v (.c (.i .i64))),(3,.v (.c (.ro .y false))),(5,.v (.c (.ptr 1 0))),(8,.v (.c (.ptr 2 0))),(47,.v (.c (.b)))],[Ad,.cells 135 [.i .i64,.i .i64],EC]⟩
def p81:Sch:=⟨[(0,.v (.c (.ptr 0 0))),(1,.v (.agg [.i .i64,.i .i64])),(2,.v (.c (.i .i64))),(3,.v (.c (.ro .y false)))],[Ad]⟩
def r81:List Sch:=[⟨[(0,GY)],[Ad,.row .y 5]⟩]
def o81 (a0:I2) (a1:Int) (a2:Bt) (a3:List (Int×Int×Int×Bt)):Option ED :=
 (bd (α:=GZ) (cnd (decide (((a3.length:Nat):Int) > (0:Int))) (gd (decide ((0:Int)≤(0:Int)∧(0:Int) < ((a3.length:Nat):Int))) (cnd (a0.1==(List.getD a3 (0:Int).toNat ((0:Int),((0:Int),((0:Int),([]:Bt))))).1) (cnd (decide (a0.2≥(0:Int))) (some ((a1,a2),(decide (a0.2 < ((a3.length:Nat):Int))),a3,a0)) (some ((a1,a2),false,a3,a0))) (some ((a1,a2),false,a3,a0)))) (some ((a1,a2),false,a3,a0))) (fun v1=>(cnd v1.2.1 (gd (decide ((0:Int)≤v1.2.2.2.2∧v1.2.2.2.2 < ((v1.2.2.1.length:Nat):Int))) (bd (α:=((I3)×Bt)) (o123 (((List.getD v1.2.2.1 v1.2.2.2.2.toNat ((0:Int),((0:Int),((0:Int),([]:Bt))))).1,((List.getD v1.2.2.1 v1.2.2.2.2.toNat ((0:Int),((0:Int),((0:Int),([]:Bt))))).2).1),(((List.getD v1.2.2.1 v1.2.2.2.2.toNat ((0:Int),((0:Int),((0:Int),([]:Bt))))).2).2).1,(((List.getD v1.2.2.1 v1.2.2.2.2.toNat ((0:Int),((0:Int),((0:Int),([]:Bt))))).2).2).2)) (fun v3=>(some (((v3.1.1,v3.1.2.1),v3.1.2.2,(0:Int)),v1.2.2.1,v3.2))))) (bd (α:=(Int×List (Int×Int×Int×Bt))) (o18 v1.1.1 v1.1.2) (fun v4=>(cnd (v4.1 != (0:Int)) (some ((((0:Int),(0:Int)),(0:Int),v4.1),v1.2.2.1,([]:Bt))) (gd (decide ((0:Int)≤(0:Int)∧(0:Int) < ((v4.2.length:Nat):Int))) (bd (α:=((I3)×Bt)) (o123 (((List.getD v4.2 ((0:Int).toNat) ((0:Int),((0:Int),((0:Int),([]:Bt))))).1,((List.getD v4.2 ((0:Int).toNat) ((0:Int),((0:Int),((0:Int),([]:Bt))))).2).1),(((List.getD v4.2 ((0:Int).toNat) ((0:Int),((0:Int),((0:Int),([]:Bt))))).2).2).1,(((List.getD v4.2 ((0:Int).toNat) ((0:Int),((0:Int),((0:Int),([]:Bt))))).2).2).2)) (fun v5=>(some (((v5.1.1,v5.1.2.1),v5.1.2.2,(0:Int)),v4.2,v5.2)))))))))))
def h81:HC:=(.s .d (.s .d (.s (.s (.j false [o81_s0] .d) (.c (.s (.r 1) .d) .d)) .d)))
theorem e81 (t:Ha):evF (stpT Tryz.prog T90 K90) Tryz.f81 p81 r81 h81 t=(o81 t.1.1 t.1.2 t.2.1 t.2.2):=by kernel_rfl
def n81:FSp:=⟨p81,r81,fun t=>(o81 t.1.1 t.1.2 t.2.1 t.2.2)⟩
theorem fo81:FOk Tryz.prog 81 n81:=fk e81
def T91:Tbl:=(81,n81)::T90
theorem K91:TOk Tryz.prog T91:= .cons K90 fo81
def o124_s0:Sch:=⟨[(2,.v (.c (.b)))],[]⟩
def p124:Sch:=⟨[(0,CL)],[]⟩
def r124:List Sch:=[⟨[(0,.v (.c (.b)))],[]⟩]
def o124 (a0:(I2)×Int×Bt):Option Bool :=
 (bd (α:=Bool) (cnd (decide (a0.1.1≥(1:Int))) (cnd (decide (a0.1.1≤(2305843009213693952:Int))) (cnd (decide (a0.2.1≥(1:Int))) (cnd (decide (a0.2.1≤(874:Int))) (cnd (decide (a0.1.2≥(0:Int))) (cnd (decide (a0.1.2 < a0.2.1)) (some (decide (((a0.2.2.length:Nat):Int)≤(600:Int)))) (some false)) (some false)) (some false)) (some false)) (some false)) (some false)) (fun v1=>(some v1)))
theorem e124 (t:(I2)×Int×Bt):evF (stpT Tryz.prog T91 K91) Tryz.f124 p124 r124 (.s .d (.s (.j false [o124_s0] .d) .d)) t=(o124 t):=by kernel_rfl
def n124:FSp:=⟨p124,r124,fun t=>(o124 t)⟩
theorem fo124:FOk Tryz.prog 124 n124:=fk e124
def T92:Tbl:=(124,n124)::T91
theorem K92:TOk Tryz.prog T92:= .cons K91 fo124
def EE:BSh:= .cells 97 [.i .i64,.i .i64,.i .i64,.ro .y false]
def o82_s0:Sch:=⟨[(1,.v (.c (.ptr 0 0))),(4,.v (.c (.own 1))),(9,.v (.c (.i .i64)))],[EE,.row .y 5]⟩
def p82:Sch:=⟨[(0,CL)],[]⟩
def r82:List Sch:=[⟨[(0,.tup [.c (.own 0),.c (.i .i64)])],[.row .y 5]⟩]
def o82_b0 (v3:Int×((I2)×Int×Bt)×Bt) :=
 (cnd (decide (v3.1 < (8:Int))) (gd (decide ((0:Int)≤(IntKind.wrap .i64 ((8:Int)*v3.1)))) (gd (decide ((v3.2.2.length+([(u8 (IntKind.wrap .u8 (shrK .i64 v3.2.1.1.1 (IntKind.wrap .i64 ((8:Int)*v3.1)))))]:Bt).length)*1≤140737488355328)) (some (Ctl.go ((IntKind.wrap .i64 (v3.1+(1:Int))),v3.2.1,(v3.2.2++([(u8 (IntKind.wrap .u8 (shrK .i64 v3.2.1.1.1 (IntKind.wrap .i64 ((8:Int)*v3.1)))))]:Bt))))))) (dnO (gd (decide ((v3.2.2.length+([(u8 (IntKind.wrap .u8 v3.2.1.1.2)),(u8 (IntKind.wrap .u8 (shrK .i64 v3.2.1.1.2 (8:Int)))),(u8 (IntKind.wrap .u8 v3.2.1.2.1)),(u8 (IntKind.wrap .u8 (shrK .i64 v3.2.1.2.1 (8:Int))))]:Bt).length)*1≤140737488355328)) (gd (decide (((v3.2.2++([(u8 (IntKind.wrap .u8 v3.2.1.1.2)),(u8 (IntKind.wrap .u8 (shrK .i64 v3.2.1.1.2 (8:Int)))),(u8 (IntKind.wrap .u8 v3.2.1.2.1)),(u8 (IntKind.wrap .u8 (shrK .i64 v3.2.1.2.1 (8:Int))))]:Bt)).length+v3.2.1.2.2.length)*1≤140737488355328)) (some ((0:Int),((v3.2.2++([(u8 (IntKind.wrap .u8 v3.2.1.1.2)),(u8 (IntKind.wrap .u8 (shrK .i64 v3.2.1.1.2 (8:Int)))),(u8 (IntKind.wrap .u8 v3.2.1.2.1)),(u8 (IntKind.wrap .u8 (shrK .i64 v3.2.1.2.1 (8:Int))))]:Bt))++v3.2.1.2.2)))))))
def o82 (a0:(I2)×Int×Bt):Option (Int×Bt) :=
 (bd (α:=Bool) (o124 a0) (fun v1=>(cnd (!v1) (some ((1:Int),([]:Bt))) (loopO (σ:=Int×((I2)×Int×Bt)×Bt) fuelN o82_b0 ((0:Int),a0,([]:Bt))))))
def h82:HC:=(.s .d (.s .d (.s .d (.s (.s .d (.b (.l [o82_s0] .d))) .d))))
theorem e82 (t:(I2)×Int×Bt):evF (stpT Tryz.prog T92 K92) Tryz.f82 p82 r82 h82 t=(o82 t):=by kernel_rfl
def n82:FSp:=⟨p82,r82,fun t=>(o82 t)⟩
theorem fo82:FOk Tryz.prog 82 n82:=fk e82
def T93:Tbl:=(82,n82)::T92
theorem K93:TOk Tryz.prog T93:= .cons K92 fo82
abbrev Hb:Type:=(Bt×((I3)×Bool×I2)×Ae)×((List (Int×Int×Int×Bt))×I2)×List Bt×List (Int×I4)
def p39:Sch:=⟨[(0,.v (.c (.ptr 0 0))),(1,.v (.c (.ro .y false)))],[AB,Ab,Ad,AM,.row (.a .y) 33,Ac]⟩
def r39:List Sch:=[⟨[(0,DB)],[AB,Ab,Ad,AM,.row (.a .y) 33,Ac,.row .y 5]⟩]
def o39 (a0:Bt) (a1:(I3)×Bool×I2) (a2:Ae) (a3:List (Int×Int×Int×Bt)) (a4:I2) (a5:List Bt) (a6:List (Int×I4)):Option Bf :=
 (bd (α:=Int) (o71 (6:Int) a1 a2 a3 (a4,a5,a6)) (fun v1=>(cnd (v1 != (0:Int)) (some ((((((0:Int),(0:Int)),(0:Int),false,v1),a1),a2,a3),(a4,a5),a6,([]:Bt))) (cnd (!a1.2.1) (some ((((((0:Int),(0:Int)),(0:Int),false,(0:Int)),(a1.1.1,(7:Int),a1.1.2.2),a1.2),a2,a3),(a4,a5),a6,([]:Bt))) (bd (α:=Int) (o45 a2) (fun v4=>(bd (α:=ED) (o81 a1.2.2 v4 a0 a3) (fun v5=>(cnd (v5.1.2.2 != (0:Int)) (some ((((((0:Int),(0:Int)),(0:Int),false,v5.1.2.2),(a1.1.1,(7:Int),a1.1.2.2),a1.2),a2,v5.2.1),(a4,a5),a6,([]:Bt))) (bd (α:=(Int×Bt)) (o82 (v5.1.1,v5.1.2.1,v5.2.2)) (fun v6=>(some ((((((4:Int),(IntKind.wrap .u8 a1.1.1)),a1.1.2.2,true,(0:Int)),(a1.1.1,(7:Int),a1.1.2.2),a1.2),a2,v5.2.1),(a4,a5),a6,v6.2)))))))))))))
def h39:HC:=(.s .d (.s .d (.s .d (.s .d (.s (.r 2) .d)))))
theorem e39 (t:Hb):evF (stpT Tryz.prog T93 K93) Tryz.f39 p39 r39 h39 t=(o39 t.1.1 t.1.2.1 t.1.2.2 t.2.1.1 t.2.1.2 t.2.2.1 t.2.2.2):=by kernel_rfl
def n39:FSp:=⟨p39,r39,fun t=>(o39 t.1.1 t.1.2.1 t.1.2.2 t.2.1.1 t.2.1.2 t.2.2.1 t.2.2.2)⟩
theorem fo39:FOk Tryz.prog 39 n39:=fk e39
def T94:Tbl:=(39,n39)::T93
theorem K94:TOk Tryz.prog T94:= .cons K93 fo39
abbrev EF:Type:=((Af×I3)×(I3)×((I3)×Bool×I2)×Ae)×((List (Int×Int×Int×Bt))×(I2)×List Bt)×(List (Int×I4))×((I2)×Int×Bt)×Bt
def o38_s0:Sch:=⟨[(0,.v (.c (.ic .i64 (0)))),(1,.v (.c (.ptr 0 0))),(3,.v (.c (.ptr 10 0))),(5,.v (.c (.own 11)))],[.cells 30 [.ptr 1 0],AQ,Aa,Aa,Ak,Ab,Ad,Aq,.row (.a .y) 33,Ac,AW,.row .y 5]⟩
def p38:Sch:=⟨[(0,.v (.c (.ic .i64 (0)))),(1,.v (.c (.ptr 0 0)))],[.cells 30 [.ptr 1 0],AQ,Aa,Aa,Ak,Ab,Ad,Aq,.row (.a .y) 33,Ac]⟩
def r38:List Sch:=[⟨[(0,CF)],[.cells 30 [.ptr 1 0],AQ,Aa,Aa,Ak,Ab,Ad,Aq,.row (.a .y) 33,Ac,.row .y 5]⟩]
def o38 (a0:Af) (a1:I3) (a2:I3) (a3:(I3)×Bool×I2) (a4:Ae) (a5:List (Int×Int×Int×Bt)) (a6:I2) (a7:List Bt) (a8:List (Int×I4)):Option Bs :=
 (bd (α:=EF) (cnd a3.2.1 (bd (α:=(Bt)) (o180 a1) (fun v1=>(some (((a0,a1),a2,a3,a4),(a5,a6,a7),a8,(((0:Int),(0:Int)),(0:Int),([]:Bt)),v1)))) (some (((a0,a1),a2,a3,a4),(a5,a6,a7),a8,(((0:Int),(0:Int)),(0:Int),([]:Bt)),([]:Bt)))) (fun v2=>(bd (α:=Bf) (o39 v2.2.2.2.2 v2.1.2.2.1 v2.1.2.2.2 v2.2.1.1 v2.2.1.2.1 v2.2.1.2.2 v2.2.2.1) (fun v3=>(some ((((v3.1.1.1.1,v3.1.1.1.2.1,v3.1.1.1.2.2.1),v2.1.1.1),v2.1.1.2,v2.1.2.1,v3.1.1.2),(v3.1.2.1,v3.1.2.2,v3.2.1.1),v3.2.1.2,v3.2.2))))))
theorem e38 (t:BI):evF (stpT Tryz.prog T94 K94) Tryz.f38 p38 r38 (.s .d (.s .d (.j false [o38_s0] .d))) t=(o38 t.1.1.1 t.1.1.2 t.1.2.1 t.1.2.2 t.2.1.1 t.2.1.2 t.2.2.1 t.2.2.2.1 t.2.2.2.2):=by kernel_rfl
def n38:FSp:=⟨p38,r38,fun t=>(o38 t.1.1.1 t.1.1.2 t.1.2.1 t.1.2.2 t.2.1.1 t.2.1.2 t.2.2.1 t.2.2.2.1 t.2.2.2.2)⟩
theorem fo38:FOk Tryz.prog 38 n38:=fk e38
def T95:Tbl:=(38,n38)::T94
theorem K95:TOk Tryz.prog T95:= .cons K94 fo38
def o23v3_s0:Sch:=⟨[(0,.v (.c (.ptr 0 0))),(1,.v (.c (.ic .i64 (3)))),(3,.v (.c (.cap (.fn 38) (.ptr 9 0)))),(6,.v (.c (.ptr 10 0))),(8,.v (.c (.ptr 11 0))),(9,.v (.c (.ptr 12 0))),(15,.v (.c (.ic .i64 (0))))],[AF,Aa,Aa,Ai,Ab,Ad,Al,.row (.a .y) 33,Ac,.cells 30 [.ptr 0 0],Aj,Am,.cells 34 [.b,.b]]⟩
def p23v3:Sch:=⟨[(0,.v (.c (.ptr 0 0))),(1,.v (.c (.ic .i64 (3)))),(2,AP),(3,.v (.c (.cap (.fn 38) (.ptr 9 0))))],[AF,Aa,Aa,Ai,Ab,Ad,Al,.row (.a .y) 33,Ac,.cells 30 [.ptr 0 0]]⟩
def r23v3:List Sch:=[⟨[(0,Bq)],[AF,Aa,Aa,Ai,Ab,Ad,Al,.row (.a .y) 33,Ac,.cells 30 [.ptr 0 0]]⟩]
def o23v3 (a0:Ao) (a1:Af) (a2:I3) (a3:I3) (a4:(I3)×Bool×I2) (a5:Ae) (a6:List (Int×Int×Int×Bt)) (a7:I2) (a8:List Bt) (a9:List (Int×I4)):Option Bu :=
 (bd (α:=CG) (bd (α:=Bs) (o38 a1 a2 a3 a4 a5 a6 a7 a8 a9) (fun v1=>(cnd (!v1.1.1.1.2.2) (some (((v1.1.1.2,v1.1.2.1,v1.1.2.2.1),v1.1.2.2.2,v1.2.1.1,v1.2.1.2.1),(v1.2.1.2.2,v1.2.2.1,v1.2.2.2.1),a0,((((0:Int),(0:Int)),(0:Int),([]:Bt)),((0:Int),(0:Int)),(0:Int),([]:Bt)),false,false)) (bd (α:=(Int×Bt)) (o69 (v1.1.1.1.1,v1.1.1.1.2.1,v1.2.2.2.2)) (fun v2=>(cnd (v2.1 != (0:Int)) (some (((v1.1.1.2,v1.1.2.1,v1.1.2.2.1),v1.1.2.2.2,v1.2.1.1,v1.2.1.2.1),(v1.2.1.2.2,v1.2.2.1,v1.2.2.2.1),a0,((((0:Int),(0:Int)),(0:Int),([]:Bt)),((0:Int),(0:Int)),(0:Int),([]:Bt)),false,false)) (bd (α:=((I2)×Int×Bt×Bool)) (o70 v2.2 (a0.2.1.1.1.2,a0.2.1.1.2) (4:Int) (1:Int) v1.1.1.2.1.2.2.2) (fun v4=>(some (((v1.1.1.2,v1.1.2.1,v1.1.2.2.1),v1.1.2.2.2,v1.2.1.1,v1.2.1.2.1),(v1.2.1.2.2,v1.2.2.1,v1.2.2.2.1),a0,((((0:Int),(0:Int)),(0:Int),([]:Bt)),v4.1,v4.2.1,v4.2.2.1),false,v4.2.2.2)))))))))) (fun v5=>(some (((((v5.2.2.2.1.1.1,v5.2.2.2.1.1.2.1,v5.2.2.2.1.1.2.2,v5.2.2.2.1.2.1.1),(v5.2.2.2.1.2.1.2,v5.2.2.2.1.2.2.1),v5.2.2.2.1.2.2.2,v5.2.2.2.2),v5.1.1.1),v5.1.1.2.1,v5.1.1.2.2,v5.1.2.1),v5.1.2.2,v5.2.1))))
def h23v3:HC:=(.s .d (.s (.s .d (.b (.u 3 (.v (.s .d (.s .d (.j false [o23v3_s0] .d))) (.v .d (.v .d .d)))))) .d))
theorem e23v3 (t:CH):evF (stpT Tryz.prog T95 K95) Tryz.f23 p23v3 r23v3 h23v3 t=(o23v3 t.1.1.1 t.1.1.2 t.1.2.1 t.1.2.2.1 t.1.2.2.2 t.2.1.1 t.2.1.2 t.2.2.1 t.2.2.2.1 t.2.2.2.2):=by kernel_rfl
def n23v3:FSp:=⟨p23v3,r23v3,fun t=>(o23v3 t.1.1.1 t.1.1.2 t.1.2.1 t.1.2.2.1 t.1.2.2.2 t.2.1.1 t.2.1.2 t.2.2.1 t.2.2.2.1 t.2.2.2.2)⟩
theorem fo23v3:FOk Tryz.prog 23 n23v3:=fk e23v3
def T96:Tbl:=(23,n23v3)::T95
theorem K96:TOk Tryz.prog T96:= .cons K95 fo23v3
def Hc:BSh:= .cells 97 [.i .i64,.i .i64,.i .i64,.own 2]
def He:SSh:= .tup [.agg [.i .i64,.i .i64,.i .i64,.own 0],.c (.i .i64)]
def o125_s0:Sch:=⟨[(0,.v (.c (.ro .y false))),(2,.v (.c (.ptr 0 0))),(4,.v (.c (.ptr 1 0))),(34,.v (.c (.i .i64)))],[EC,Hc,.row .y 5]⟩
def p125:Sch:=⟨[(0,.v (.c (.ro .y false)))],[]⟩
def r125:List Sch:=[⟨[(0,He)],[.row .y 5]⟩]
def o125_b0 (v4:(Bt×Int)×(I3)×Bt) :=
 (cnd (decide (v4.1.2 < (8:Int))) (gd (decide ((0:Int)≤v4.1.2∧v4.1.2 < ((v4.1.1.length:Nat):Int))) (gd (decide ((0:Int)≤(IntKind.wrap .i64 ((8:Int)*v4.1.2)))) (some (Ctl.go ((v4.1.1,(IntKind.wrap .i64 (v4.1.2+(1:Int)))),((lorK .i64 v4.2.1.1 (IntKind.wrap .i64 (shlK .u64 (IntKind.wrap .u64 ((UInt8.toNat (List.getD v4.1.1 v4.1.2.toNat (0:UInt8)):Nat):Int)) (IntKind.wrap .i64 ((8:Int)*v4.1.2))))),v4.2.1.2),v4.2.2))))) (dnO (bd (α:=Bool) (o124 ((v4.2.1.1,v4.2.1.2.1),v4.2.1.2.2,v4.2.2)) (fun v5=>(cnd (!v5) (some ((((0:Int),(0:Int)),(0:Int),(4:Int)),([]:Bt))) (some (((v4.2.1.1,v4.2.1.2.1),v4.2.1.2.2,(0:Int)),v4.2.2)))))))
def o125 (a0:Bt):Option (((I2)×I2)×Bt) :=
 (cnd (decide (((a0.length:Nat):Int) < (12:Int))) (some ((((0:Int),(0:Int)),(0:Int),(4:Int)),([]:Bt))) (gd (decide ((0:Int)≤(8:Int)∧(8:Int) < ((a0.length:Nat):Int))) (gd (decide ((0:Int)≤(9:Int)∧(9:Int) < ((a0.length:Nat):Int))) (gd (decide ((0:Int)≤(10:Int)∧(10:Int) < ((a0.length:Nat):Int))) (gd (decide ((0:Int)≤(11:Int)∧(11:Int) < ((a0.length:Nat):Int))) (gd (decide ((0:Int)≤(12:Int)∧(12:Int)≤((a0.length:Nat):Int))) (bd (α:=(Bt)) (o33 (List.drop (12:Int).toNat a0)) (fun v2=>(loopO (σ:=(Bt×Int)×(I3)×Bt) fuelN o125_b0 ((a0,(0:Int)),((0:Int),(IntKind.wrap .i64 ((IntKind.wrap .i64 ((UInt8.toNat (List.getD a0 (8:Int).toNat (0:UInt8)):Nat):Int))+(shlK .i64 (IntKind.wrap .i64 ((UInt8.toNat (List.getD a0 (9:Int).toNat (0:UInt8)):Nat):Int)) (8:Int)))),(IntKind.wrap .i64 ((IntKind.wrap .i64 ((UInt8.toNat (List.getD a0 (10:Int).toNat (0:UInt8)):Nat):Int))+(shlK .i64 (IntKind.wrap .i64 ((UInt8.toNat (List.getD a0 (11:Int).toNat (0:UInt8)):Nat):Int)) (8:Int))))),v2))))))))))
def h125:HC:=(.s .d (.s .d (.s (.r 2) (.s (.s .d (.b (.l [o125_s0] .d))) .d))))
theorem e125 (t:Bt):evF (stpT Tryz.prog T96 K96) Tryz.f125 p125 r125 h125 t=(o125 t):=by kernel_rfl
def n125:FSp:=⟨p125,r125,fun t=>(o125 t)⟩
theorem fo125:FOk Tryz.prog 125 n125:=fk e125
def T97:Tbl:=(125,n125)::T96
theorem K97:TOk Tryz.prog T97:= .cons K96 fo125
abbrev Hf:Type:=(Bool×I2)×List Bt×(List (Int×I4))×(I2)×Int×Bt
abbrev Hg:Type:=(((I2)×Int×Bt)×I2)×List Bt×List (Int×I4)
def o126_s0:Sch:=⟨[(0,.v (.c (.ptr 0 0))),(3,.v (.c (.ptr 3 0))),(44,.v (.c (.b)))],[BT,.row (.a .y) 33,Ac,EE]⟩
def p126:Sch:=⟨[(0,.v (.c (.ptr 0 0))),(1,CL)],[BT,.row (.a .y) 33,Ac]⟩
def r126:List Sch:=[⟨[(0,.tup [])],[Dr,.no,.no,.row (.a .y) 33,Ac]⟩]
def o126 (a0:(I2)×Int×Bt) (a1:I2) (a2:List Bt) (a3:List (Int×I4)):Option AA :=
 (bd (α:=Bool) (o124 a0) (fun v1=>(cnd (!v1) (some (a1,a2,a3)) (bd (α:=Hf) (cnd (decide (((a2.length:Nat):Int) > (0:Int))) (cnd (a0.1.1==a1.1) (cnd (a0.2.1==a1.2) (some (((a0.1.2==((a2.length:Nat):Int)),a1),a2,a3,a0)) (some ((false,a1),a2,a3,a0))) (some ((false,a1),a2,a3,a0))) (some ((false,a1),a2,a3,a0))) (fun v2=>(cnd v2.1.1 (bd (α:=(Bt)) (o33 v2.2.2.2.2.2) (fun v4=>(gd (decide ((v2.2.1.length+([v4]:List Bt).length)*24≤140737488355328)) (some (v2.1.2,(v2.2.1++([v4]:List Bt)),v2.2.2.1))))) (cnd (v2.2.2.2.1.2==(0:Int)) (bd (α:=(Bt)) (o33 v2.2.2.2.2.2) (fun v6=>(some ((v2.2.2.2.1.1,v2.2.2.2.2.1),([v6]:List Bt),([]:List (Int×I4)))))) (some (v2.1.2,v2.2.1,v2.2.2.1)))))))))
def h126:HC:=(.s .d (.s .d (.s (.s (.j false [o126_s0] .d) (.c (.s (.r 3) .d) .d)) (.s .d (.c (.r 2) .d)))))
theorem e126 (t:Hg):evF (stpT Tryz.prog T97 K97) Tryz.f126 p126 r126 h126 t=(o126 t.1.1 t.1.2 t.2.1 t.2.2):=by kernel_rfl
def n126:FSp:=⟨p126,r126,fun t=>(o126 t.1.1 t.1.2 t.2.1 t.2.2)⟩
theorem fo126:FOk Tryz.prog 126 n126:=fk e126
def T98:Tbl:=(126,n126)::T97
theorem K98:TOk Tryz.prog T98:= .cons K97 fo126
def Hh:SSh:= .v (.c (.ro (.p (.i .i64) (.p (.i .i64) (.p .b (.a .y)))) false))
def p151:Sch:=⟨[(0,Hh)],[]⟩
def r151:List Sch:=[⟨[(0,.v (.c (.own 0)))],[Ac]⟩]
def o151 (a0:List (Int×I4)):Option (List (Int×I4)) :=
 (nlO (List.isEmpty a0) (some ([]:List (Int×I4))) (gd (decide ((([]:List (Int×I4)).length+a0.length)*48≤140737488355328)) (some (([]:List (Int×I4))++a0))))
theorem e151 (t:List (Int×I4)):evF (stpT Tryz.prog T98 K98) Tryz.f151 p151 r151 .d t=(o151 t):=by kernel_rfl
def n151:FSp:=⟨p151,r151,fun t=>(o151 t)⟩
theorem fo151:FOk Tryz.prog 151 n151:=fk e151
def T99:Tbl:=(151,n151)::T98
theorem K99:TOk Tryz.prog T99:= .cons K98 fo151
def p159:Sch:=⟨[(0,.v (.c (.cst (.slice none 0 0)))),(1,.v (.c (.i .i64)))],[]⟩
def r159:List Sch:=[⟨[(0,.v (.c (.own 0)))],[.row .y 5]⟩]
def o159 (a0:Int):Option (Bt) :=
 (cnd (decide (a0 < (0:Int))) none (cnd (decide ((IntKind.wrap .i64 (a0 - (IntKind.wrap .i64 ((0:Int) - (0:Int))))) > (0:Int))) (gd (decide ((0:Int)≤(0:Int)∧(0:Int)≤((0:Nat):Int))) (gd (decide ((0:Int) < (IntKind.wrap .i64 (a0 - (IntKind.wrap .i64 ((0:Int) - (0:Int)))))∧(IntKind.wrap .i64 (a0 - (IntKind.wrap .i64 ((0:Int) - (0:Int)))))*(1:Int)≤(140737488355328:Int))) (gd (decide ((0:Int)≤(0:Int)∧(0:Int)≤(((List.replicate (IntKind.wrap .i64 (a0 - (IntKind.wrap .i64 ((0:Int) - (0:Int))))).toNat (u8 (0:Int))).length:Nat):Int))) (some (List.take ((0:Int).toNat) (List.replicate (IntKind.wrap .i64 (a0 - (IntKind.wrap .i64 ((0:Int) - (0:Int))))).toNat (u8 (0:Int)))))))) (some ([]:Bt))))
theorem e159 (t:Int):evF (stpT Tryz.prog T99 K99) Tryz.f159 p159 r159 .d t=(o159 t):=by kernel_rfl
def n159:FSp:=⟨p159,r159,fun t=>(o159 t)⟩
theorem fo159:FOk Tryz.prog 159 n159:=fk e159
def T100:Tbl:=(159,n159)::T99
theorem K100:TOk Tryz.prog T100:= .cons K99 fo159
def o152_s0:Sch:=⟨[(0,.v (.c (.ro (.a .y) false))),(3,.v (.c (.i .i64))),(9,.v (.c (.ro (.a .y) false))),(10,.v (.c (.i .i64))),(11,.v (.c (.i .i64)))],[]⟩
def o152_s1:Sch:=⟨[(6,.v (.c (.own 0))),(25,.v (.c (.ro (.a .y) false))),(26,.v (.c (.i .i64))),(27,.v (.c (.i .i64)))],[.row .y 5]⟩
def p152:Sch:=⟨[(0,.v (.c (.ro (.a .y) false)))],[]⟩
def r152:List Sch:=[⟨[(0,.v (.c (.own 0)))],[.row .y 5]⟩]
def o152_b0 (v5:(List Bt×Int)×Int×Bt) :=
 (cnd (decide (v5.2.1 < v5.1.2)) (gd (decide ((0:Int)≤v5.2.1∧v5.2.1 < ((v5.1.1.length:Nat):Int))) (gd (decide ((v5.2.2.length+(List.getD v5.1.1 v5.2.1.toNat ([]:Bt)).length)*1≤140737488355328)) (some (Ctl.go (v5.1,(IntKind.wrap .i64 (v5.2.1+(1:Int))),(v5.2.2++(List.getD v5.1.1 v5.2.1.toNat ([]:Bt)))))))) (dnO (some v5.2.2)))
def o152_b1 (v2:(List Bt×Int)×List Bt×I2) :=
 (cnd (decide (v2.2.2.2 < v2.2.2.1)) (gd (decide ((0:Int)≤v2.2.2.2∧v2.2.2.2 < ((v2.2.1.length:Nat):Int))) (cnd (decide ((IntKind.wrap .i64 (v2.1.2+(((List.getD v2.2.1 v2.2.2.2.toNat ([]:Bt)).length:Nat):Int))) < (0:Int))) none (some (Ctl.go ((v2.1.1,(IntKind.wrap .i64 (v2.1.2+(((List.getD v2.2.1 v2.2.2.2.toNat ([]:Bt)).length:Nat):Int)))),v2.2.1,v2.2.2.1,(IntKind.wrap .i64 (v2.2.2.2+(1:Int)))))))) (dnO (bd (α:=(Bt)) (o159 v2.1.2) (fun v3=>(loopO (σ:=(List Bt×Int)×Int×Bt) fuelN o152_b0 ((v2.1.1,((v2.1.1.length:Nat):Int)),(0:Int),v3))))))
def o152 (a0:List Bt):Option (Bt) :=
 (loopO (σ:=(List Bt×Int)×List Bt×I2) fuelN o152_b1 ((a0,(0:Int)),a0,((a0.length:Nat):Int),(0:Int)))
def h152:HC:=(.s .d (.s .d (.s (.s .d (.b (.l [o152_s0] .d))) (.s .d (.s (.s .d (.b (.l [o152_s1] .d))) .d)))))
theorem e152 (t:List Bt):evF (stpT Tryz.prog T100 K100) Tryz.f152 p152 r152 h152 t=(o152 t):=by kernel_rfl
def n152:FSp:=⟨p152,r152,fun t=>(o152 t)⟩
theorem fo152:FOk Tryz.prog 152 n152:=fk e152
def T101:Tbl:=(152,n152)::T100
theorem K101:TOk Tryz.prog T101:= .cons K100 fo152
def Cq:BSh:= .cells 190 [.ic .i64 (0),.cst (.slice none 0 0),.cst (.slice none 0 0)]
def Hi:SSh:= .tup [.agg [.i .i64,.own 1,.own 2],.c (.b)]
abbrev EG:Type:=(Int×Bool)×Bt×List (Int×I4)
abbrev EH:Type:=(I2)×AA×List (Int×I4)
def o127_s0:Sch:=⟨[(0,.v (.c (.ptr 0 0))),(2,.v (.c (.ptr 1 0))),(27,.v (.c (.b)))],[Be,Cq]⟩
def o127_s1:Sch:=⟨[(0,.v (.c (.ptr 0 0))),(2,.v (.c (.ptr 1 0))),(4,.v (.c (.own 2))),(35,.v (.c (.i .i64))),(36,.v (.c (.i .i64)))],[Be,Cq,Ac]⟩
def p127:Sch:=⟨[(0,.v (.c (.ptr 0 0)))],[Be]⟩
def r127:List Sch:=[⟨[(0,Hi)],[.no,.row .y 5,Ac]⟩]
def o127_b0 (v4:EH) :=
 (cnd (decide (v4.1.2 < v4.1.1)) (gd (decide ((0:Int)≤v4.1.2∧v4.1.2 < ((v4.2.2.length:Nat):Int))) (bd (α:=(Bt)) (o33 ((((List.getD v4.2.2 v4.1.2.toNat ((0:Int),((0:Int),(false,([]:Bt))))).2).2).2)) (fun v5=>(gd (decide ((0:Int)≤v4.1.2∧v4.1.2 < ((v4.2.2.length:Nat):Int))) (some (Ctl.go ((v4.1.1,(IntKind.wrap .i64 (v4.1.2+(1:Int)))),v4.2.1,(List.set v4.2.2 v4.1.2.toNat ((List.getD v4.2.2 v4.1.2.toNat ((0:Int),((0:Int),(false,([]:Bt))))).1,(((List.getD v4.2.2 v4.1.2.toNat ((0:Int),((0:Int),(false,([]:Bt))))).2).1,((((List.getD v4.2.2 v4.1.2.toNat ((0:Int),((0:Int),(false,([]:Bt))))).2).2).1,v5))))))))))) (dnO (bd (α:=(Bt)) (o152 v4.2.1.2.1) (fun v7=>(some ((v4.2.1.1.1,true),v7,v4.2.2))))))
def o127 (a0:AA):Option EG :=
 (bd (α:=(Bool×AA)) (cnd (((a0.2.1.length:Nat):Int)==(0:Int)) (some (true,a0)) (some ((((a0.2.1.length:Nat):Int) != a0.1.2),a0))) (fun v1=>(cnd v1.1 (some (((0:Int),false),([]:Bt),([]:List (Int×I4)))) (bd (α:=(List (Int×I4))) (o151 v1.2.2.2) (fun v2=>(loopO (σ:=EH) fuelN o127_b0 ((((v2.length:Nat):Int),(0:Int)),v1.2,v2)))))))
def h127:HC:=(.s .d (.s (.s (.j false [o127_s0] .d) .d) (.s .d (.s (.s .d (.b (.l [o127_s1] .d))) (.s (.r 1) .d)))))
theorem e127 (t:AA):evF (stpT Tryz.prog T101 K101) Tryz.f127 p127 r127 h127 t=(o127 t):=by kernel_rfl
def n127:FSp:=⟨p127,r127,fun t=>(o127 t)⟩
theorem fo127:FOk Tryz.prog 127 n127:=fk e127
def T102:Tbl:=(127,n127)::T101
theorem K102:TOk Tryz.prog T102:= .cons K101 fo127
def o128_s0:Sch:=⟨[(0,.v (.c (.ptr 0 0))),(1,.v (.c (.i .i64))),(18,.v (.c (.b)))],[Ab]⟩
def o128_s1:Sch:=⟨[(0,.v (.c (.ptr 0 0))),(1,.v (.c (.i .i64))),(24,.v (.c (.b)))],[Ab]⟩
def p128:Sch:=⟨[(0,.v (.c (.ptr 0 0))),(1,.v (.c (.i .i64)))],[Ab]⟩
def r128:List Sch:=[⟨[(0,.v (.c (.i .i64)))],[Ab]⟩]
def o128 (a0:Int) (a1:Ae):Option (Int×Ae) :=
 (bd (α:=(Int×Bool×Ae)) (cnd (a1.1.1.2.2.1 != (0:Int)) (some (a0,true,a1)) (some (a0,(a1.1.1.1.2.1 != (1:Int)),a1))) (fun v1=>(cnd v1.2.1 (some ((8:Int),v1.2.2)) (bd (α:=(Int×Bool×Ae)) (cnd (decide (v1.1 < (1:Int))) (some (v1.1,true,v1.2.2)) (some (v1.1,(decide (v1.1 > (4611686018427387904:Int))),v1.2.2))) (fun v2=>(cnd v2.2.1 (some ((1:Int),v2.2.2)) (some ((0:Int),(((v2.2.2.1.1.1.1,(3:Int),v2.1),v2.2.2.1.1.2),v2.2.2.1.2),v2.2.2.2))))))))
def h128:HC:=(.s .d (.s .d (.s (.s (.j false [o128_s0] .d) .d) (.s (.s (.j false [o128_s1] .d) .d) .d))))
theorem e128 (t:Int×Ae):evF (stpT Tryz.prog T102 K102) Tryz.f128 p128 r128 h128 t=(o128 t.1 t.2):=by kernel_rfl
def n128:FSp:=⟨p128,r128,fun t=>(o128 t.1 t.2)⟩
theorem fo128:FOk Tryz.prog 128 n128:=fk e128
def T103:Tbl:=(128,n128)::T102
theorem K103:TOk Tryz.prog T103:= .cons K102 fo128
end
def byteAt (n:Int) (i:Nat):UInt8:=u8 (IntKind.u8.wrap (shrK .i64 n (8*(i:Int))))
def putB (n:Int) (k:Nat):List UInt8:=(List.range k).map (byteAt n)
theorem putB_len (n:Int) (k:Nat):(putB n k).length=k:=by simp [putB]
theorem putB_zero (n:Int):putB n 0=[]:=rfl
theorem putB_succ (n:Int) (k:Nat):putB n (k+1)=putB n k++[byteAt n k]:=by simp [putB,List.range_succ]
theorem u8_toNat {z:Int} (h:0≤z∧z≤255):((u8 z).toNat:Int)=z:=by
 unfold u8
 rw [UInt8.toNat_ofNat']
 omega
theorem u8_of_toNat (b:UInt8):u8 ((b.toNat:Nat):Int)=b:=by
 unfold u8
 simp
theorem pow8 (i:Nat) (h:i < 8):(2:Int) ^ (min (8*(i:Int)).toNat 64)=256 ^ i:=by
 have:min (8*(i:Int)).toNat 64=8*i:=by omega
 rw [this,Int.pow_mul]
 rfl
theorem shr_i64 (n:Int) (i:Nat) (h:i < 8):shrK .i64 n (8*(i:Int))=n / 256 ^ i:=by
 unfold shrK
 rw [show IntKind.i64.bits=64 from rfl,pow8 i h,Int.fdiv_eq_ediv_of_nonneg]
 exact Int.pow_nonneg (by decide)
theorem shr_u64 (n:Int) (i:Nat) (h:i < 8):shrK .u64 n (8*(i:Int))=n / 256 ^ i:=by
 unfold shrK
 rw [show IntKind.u64.bits=64 from rfl,pow8 i h,Int.fdiv_eq_ediv_of_nonneg]
 exact Int.pow_nonneg (by decide)
theorem byteAt_toNat (n:Int) (i:Nat) (h:i < 8):((byteAt n i).toNat:Int)=n / 256 ^ i % 256:=by
 unfold byteAt
 rw [u8_toNat (wrapU8_rng _),shr_i64 n i h,IntKind.wrap_u8]
theorem byte_u64 (n:Int) (i:Nat) (h:i < 8):u8 (IntKind.u8.wrap (shrK .u64 (IntKind.u64.wrap n) (8*(i:Int))))=byteAt n i:=by
 unfold byteAt
 rw [shr_u64 _ i h,shr_i64 n i h,IntKind.wrap_u8,IntKind.wrap_u8,IntKind.wrap_u64]
 congr 1
 have h8:i=0∨i=1∨i=2∨i=3∨i=4∨i=5∨i=6∨i=7:=by omega
 rcases h8 with rfl | rfl | rfl | rfl | rfl | rfl | rfl | rfl <;> simp only [Int.reducePow] <;> omega
def natL (p:List UInt8):Nat→Nat
 | 0=>0
 | k+1=>natL p k+(p.getD k 0).toNat*256 ^ k
theorem natL_lt (p:List UInt8):∀ k,natL p k < 256 ^ k
 | 0=>by simp [natL]
 | k+1=>by
  have:=natL_lt p k
  have h:=UInt8.toNat_lt (p.getD k 0)
  rw [natL,Nat.pow_succ]
  have:(p.getD k 0).toNat*256 ^ k≤255*256 ^ k:=Nat.mul_le_mul_right _ (by omega)
  omega
def getK (p:List UInt8):Nat→Int
 | 0=>0
 | k+1=>lorK .u64 (getK p k) (shlK .u64 ((p.getD k 0).toNat:Int) (8*(k:Int)))
theorem lor_u64 {a b:Nat} (ha:a < 2 ^ 64) (hb:b < 2 ^ 64):lorK .u64 (a:Int) (b:Int)=((a ||| b:Nat):Int):=by
 unfold lorK
 have h1:(BitVec.ofInt IntKind.u64.bits (a:Int) ||| BitVec.ofInt IntKind.u64.bits (b:Int)).toNat=a ||| b:=by
  rw [BitVec.toNat_or]
  have e:∀ x:Nat,x < 2 ^ 64→(BitVec.ofInt IntKind.u64.bits (x:Int)).toNat=x:=fun x hx=>by
   rw [BitVec.toNat_ofInt]
   show ((x:Int) % ((2 ^ 64:Nat):Int)).toNat=x
   omega
  rw [e a ha,e b hb]
 rw [h1]
 have:a ||| b < 2 ^ 64:=Nat.or_lt_two_pow ha hb
 exact wr_u64 (by omega)
theorem shl_u64 {b k:Nat} (hb:b < 256) (hk:k < 8):shlK .u64 (b:Int) (8*(k:Int))=((b*256 ^ k:Nat):Int):=by
 unfold shlK
 rw [show IntKind.u64.bits=64 from rfl,pow8 k hk]
 have:b*256 ^ k < 2 ^ 64:=by
  have h8:k=0∨k=1∨k=2∨k=3∨k=4∨k=5∨k=6∨k=7:=by omega
  rcases h8 with rfl | rfl | rfl | rfl | rfl | rfl | rfl | rfl <;> simp only [Nat.reducePow] <;> omega
 have e:(b:Int)*256 ^ k=((b*256 ^ k:Nat):Int):=by simp
 rw [e]
 exact wr_u64 (by omega)
theorem getK_eq (p:List UInt8):∀ k,k≤8→getK p k=(natL p k:Int)
 | 0,_=>rfl
 | k+1,h=>by
  have ih:=getK_eq p k (by omega)
  have hb:=UInt8.toNat_lt (p.getD k 0)
  have hlt:=natL_lt p k
  have hp:(256:Nat) ^ k=2 ^ (8*k):=by rw [Nat.pow_mul]
  have h64:256 ^ (k+1)≤2 ^ 64:=by
   have:(256:Nat) ^ (k+1)≤256 ^ 8:=Nat.pow_le_pow_right (by decide) h
   exact this
  have hs:=natL_lt p (k+1)
  rw [natL] at hs
  rw [getK,ih,shl_u64 hb (by omega),lor_u64 (by omega) (by omega),natL]
  congr 1
  have:=Nat.two_pow_add_eq_or_of_lt (i:=8*k) (b:=natL p k) (by rw [← hp];exact hlt) (p.getD k 0).toNat
  rw [← hp] at this
  rw [Nat.or_comm,Nat.mul_comm ((p.getD k 0).toNat),← this,Nat.add_comm]
def getI (p:List UInt8) (k:Nat):Int:=IntKind.i64.wrap (natL p k:Int)
theorem getI_small (p:List UInt8) (k:Nat) (h:k≤7):getI p k=(natL p k:Int):=by
 unfold getI
 have:=natL_lt p k
 have h2:(256:Nat) ^ k≤256 ^ 7:=Nat.pow_le_pow_right (by decide) h
 exact wr64 (by omega)
theorem natL_putB (n:Int):∀ (k m:Nat) (q:List UInt8),k≤m→m≤8→(natL (putB n m++q) k:Int)=n % 256 ^ k
 | 0,m,q,_,_=>by simp [natL,Int.emod_one]
 | k+1,m,q,h,h8=>by
  have ih:=natL_putB n k m q (by omega) h8
  have e:(putB n m++q).getD k 0=byteAt n k:=by
   rw [List.getD_eq_getElem?_getD,List.getElem?_append_left (by rw [putB_len];omega)]
   simp [putB,List.getElem?_range (by omega:k < m)]
  rw [natL,e]
  have hb:=byteAt_toNat n k (by omega)
  have:((natL (putB n m++q) k+(byteAt n k).toNat*256 ^ k:Nat):Int)=(natL (putB n m++q) k:Int)+((byteAt n k).toNat:Int)*256 ^ k:=by simp
  rw [this,ih,hb,Int.pow_succ]
  have hpos:(0:Int) < 256 ^ k:=Int.pow_pos (by decide)
  rw [Int.mul_comm (256 ^ k) 256]
  have e1:=Int.emod_add_mul_ediv n (256 ^ k)
  have e2:=Int.emod_add_mul_ediv (n / 256 ^ k) 256
  have e3:n / (256*256 ^ k)=n / 256 ^ k / 256:=by rw [Int.mul_comm,Int.ediv_ediv,if_neg (fun h=>absurd h.1 (by omega))];simp
  have e4:=Int.emod_add_mul_ediv n (256*256 ^ k)
  rw [e3] at e4
  generalize n / 256 ^ k=q at *
  generalize (256:Int) ^ k=b at *
  have e5:b*q=b*(q % 256)+256*b*(q / 256):=by
   conv=>lhs;rw [← e2]
   rw [Int.mul_add,← Int.mul_assoc,Int.mul_comm b 256]
  rw [Int.mul_comm (q % 256) b]
  omega
theorem dt {p:Prop} [Decidable p] (h:p):decide p=true:=decide_eq_true h
theorem df {p:Prop} [Decidable p] (h:¬ p):decide p=false:=decide_eq_false h
theorem natL_take (p:List UInt8):∀ (k m:Nat),k≤m→natL (p.take m) k=natL p k
 | 0,m,_=>rfl
 | k+1,m,h=>by
  rw [natL,natL,natL_take p k m (by omega)]
  congr 2
  rw [List.getD_eq_getElem?_getD,List.getD_eq_getElem?_getD,List.getElem?_take,if_pos (by omega)]
theorem getI_take (p:List UInt8) (m:Nat):getI (p.take m) m=getI p m:=by unfold getI;rw [natL_take p m m (Nat.le_refl _)]
theorem neq_t {a b:Int} (h:a≠b):(a != b)=true:=by simpa using h
theorem neq_f {a b:Int} (h:a=b):(a != b)=false:=by simpa using h
theorem eq_t {a b:Int} (h:a=b):(a==b)=true:=by simpa using h
theorem eq_f {a b:Int} (h:a≠b):(a==b)=false:=by simpa using h
theorem natL2 (n:Nat) (q:List UInt8) (h:n≤65535):natL (putB n 2++q) 2=n:=by
 have e:=natL_putB n 2 2 q (Nat.le_refl _) (by decide)
 simp only [Int.reducePow] at e
 omega
theorem dropL {p q:List UInt8} {k:Nat} (h:p.length=k):(p++q).drop k=q:=by subst h;simp
theorem cndT {α:Type} {c:Bool} {x y:α} (h:c=true):cnd c x y=x:=by subst h;rfl
theorem cndF {α:Type} {c:Bool} {x y:α} (h:c=false):cnd c x y=y:=by subst h;rfl
theorem gdT {α:Type} {c:Bool} {x:Option α} (h:c=true):gd c x=x:=by subst h;rfl
theorem bdS {α β:Type} {x:Option α} {t:α} {k:α→Option β} (h:x=some t):bd x k=k t:=by subst h;rfl
theorem bdI {α β:Type} (t:α) (k:α→Option β):bd (some t) k=k t:=rfl
theorem dnS {α β:Type} (x:β):dnO (α:=α) (some x)=some (.done x):=rfl
theorem smL {α β ρ:Type} (a:α) (f:α→ρ) (g:β→ρ):sm (.inl a) f g=f a:=rfl
theorem smR {α β ρ:Type} (b:β) (f:α→ρ) (g:β→ρ):sm (.inr b) f g=g b:=rfl
theorem loop_cnt {σ ρ:Type} {B:σ→Option (Ctl σ ρ)} (S:Nat→σ) {r:ρ} {n:Nat} (h:∀ i,i < n→B (S i)=some (.go (S (i+1)))) (hd:B (S n)=some (.done r)) (hn:n < 18446744073709551616):loopO fuelN B (S 0)=some r:=by
 have key:∀ k m,k≤n→k < m→loopO m B (S (n - k))=some r:=by
  intro k
  induction k with
  | zero =>
   intro m _ hm
   obtain ⟨j,rfl⟩:∃ j,m=j+1:=⟨m - 1,by omega⟩
   exact loopO_done hd
  | succ k ih =>
   intro m hk hm
   obtain ⟨j,rfl⟩:∃ j,m=j+1:=⟨m - 1,by omega⟩
   rw [loopO_go (h (n - (k+1)) (by omega)),show n - (k+1)+1=n - k by omega]
   exact ih j (by omega) (by omega)
 have:=key n fuelN (Nat.le_refl _) (by show n < 18446744073709551616;exact hn)
 rw [Nat.sub_self] at this
 exact this
theorem loop_inv {σ ρ:Type} {B:σ→Option (Ctl σ ρ)} (I:Nat→σ→Prop) {Q:ρ→Prop} {n:Nat} (h:∀ i s,i < n→I i s→∃ s',B s=some (.go s')∧I (i+1) s') (hd:∀ s,I n s→∃ r,B s=some (.done r)∧Q r) (hn:n < 18446744073709551616) {s0:σ} (h0:I 0 s0):∃ r,loopO fuelN B s0=some r∧Q r:=by
 have key:∀ k m s,k≤n→k < m→I (n - k) s→∃ r,loopO m B s=some r∧Q r:=by
  intro k
  induction k with
  | zero =>
   intro m s _ hm hi
   obtain ⟨j,rfl⟩:∃ j,m=j+1:=⟨m - 1,by omega⟩
   obtain ⟨r,h1,h2⟩:=hd s hi
   exact ⟨r,loopO_done h1,h2⟩
  | succ k ih =>
   intro m s hk hm hi
   obtain ⟨j,rfl⟩:∃ j,m=j+1:=⟨m - 1,by omega⟩
   obtain ⟨s',h1,h2⟩:=h (n - (k+1)) s (by omega) hi
   rw [loopO_go h1]
   rw [show n - (k+1)+1=n - k by omega] at h2
   exact ih j s' (by omega) (by omega) h2
 exact key n fuelN s0 (Nat.le_refl _) (by show n < 18446744073709551616;exact hn) (by rw [Nat.sub_self];exact h0)
theorem getD_of {α:Type} {l:List α} {i:Nat} {d:α} (h:i < l.length):l.getD i d=l[i]:=by
 rw [List.getD_eq_getElem?_getD,List.getElem?_eq_getElem h];rfl
theorem loop_from {σ ρ:Type} {B:σ→Option (Ctl σ ρ)} (S:Nat→σ) (n:Nat) {s0:σ} {r:ρ} (e:S 0=s0) (h:∀ i,i < n→B (S i)=some (.go (S (i+1)))) (hd:B (S n)=some (.done r)) (hn:n < 18446744073709551616):loopO fuelN B s0=some r:=e ▸ loop_cnt S h hd hn
theorem cnd_ext {α β:Type} {c:Bool} {A B:Option β} {F:α→β} {X Y:α} (hT:A=some (F X)) (hF:B=some (F Y)):cnd c A B=some (F (cond c X Y)):=by cases c <;> assumption
theorem cndN_ext {α β:Type} {c:Bool} {A B:Option β} {F:α→β} {X Y:α} (hT:B=some (F X)) (hF:A=some (F Y)):cnd (!c) A B=some (F (cond c X Y)):=by cases c <;> assumption
theorem cnd_some {α:Type} (c:Bool) (x y:α):cnd c (some x) (some y)=some (cond c x y):=by cases c <;> rfl
theorem o33_eq {l:List UInt8} (h:l.length≤100000000):o33 l=some l:=by
 unfold o33
 rw [nlO_eq fun e=>?_]
 ·rw [gdT (dt (by simp;omega))];rfl
 ·have:l=[]:=by simpa using e
  subst this
  rfl
theorem o148_eq (n:Int) {k:Nat} (hk:k≤8) {l:List UInt8} (hl:l.length≤1000000):o148 n (k:Int) l=some (l++putB n k):=by
 unfold o148
 refine loop_from (fun i=>((n,(k:Int)),((i:Nat):Int),l++putB n i)) k (by rw [putB_zero,List.append_nil];rfl) (fun i hi=>?_) ?_ (by omega)
 ·refine (cndT (dt ?_)).trans ((gdT (dt ?_)).trans ((gdT (dt ?_)).trans ?_))
  ·show (i:Int) < (k:Int);omega
  ·show (0:Int)≤IntKind.i64.wrap (8*(i:Int));rw [wr64 (by omega)];omega
  ·show ((l++putB n i).length+1)*1≤140737488355328
   rw [List.length_append,putB_len];omega
  ·show some (Ctl.go ((n,(k:Int)),IntKind.i64.wrap ((i:Int)+1),(l++putB n i)++[u8 (IntKind.u8.wrap (shrK .i64 n (IntKind.i64.wrap (8*(i:Int)))))]))=_
   rw [wr64 (by omega),wr64 (by omega),List.append_assoc,putB_succ]
   rfl
 ·exact (cndF (df (by show ¬ (k:Int) < (k:Int);omega))).trans (dnS _)
theorem o148v1_eq (n:Int) {k:Nat} (hk:k≤8):o148v1 n (k:Int)=some (putB n k):=by
 unfold o148v1
 refine loop_from (fun i=>((n,(k:Int)),((i:Nat):Int),putB n i)) k rfl (fun i hi=>?_) ?_ (by omega)
 ·refine (cndT (dt ?_)).trans ((gdT (dt ?_)).trans ((gdT (dt ?_)).trans ?_))
  ·show (i:Int) < (k:Int);omega
  ·show (0:Int)≤IntKind.i64.wrap (8*(i:Int));rw [wr64 (by omega)];omega
  ·show ((putB n i).length+1)*1≤140737488355328
   rw [putB_len];omega
  ·show some (Ctl.go ((n,(k:Int)),IntKind.i64.wrap ((i:Int)+1),putB n i++[u8 (IntKind.u8.wrap (shrK .i64 n (IntKind.i64.wrap (8*(i:Int)))))]))=_
   rw [wr64 (by omega),wr64 (by omega),putB_succ]
   rfl
 ·exact (cndF (df (by show ¬ (k:Int) < (k:Int);omega))).trans (dnS _)
theorem o120_eq {p:List UInt8} {k:Nat} (hk:k≤8) (hl:k≤p.length):o120 p (k:Int)=some (getI p k):=by
 unfold o120
 refine loop_from (fun i=>((p,getK p i),(k:Int),((i:Nat):Int))) k rfl (fun i hi=>?_) ?_ (by omega)
 ·refine (cndT (dt ?_)).trans ((gdT (dt ?_)).trans ((gdT (dt ?_)).trans ?_))
  ·show (i:Int) < (k:Int);omega
  ·show (0:Int)≤(i:Int)∧(i:Int) < (p.length:Int);omega
  ·show (0:Int)≤IntKind.i64.wrap (8*(i:Int));rw [wr64 (by omega)];omega
  ·show some (Ctl.go ((p,lorK .u64 (getK p i) (shlK .u64 (IntKind.u64.wrap ((p.getD (i:Int).toNat 0).toNat:Int)) (IntKind.i64.wrap (8*(i:Int))))),(k:Int),IntKind.i64.wrap ((i:Int)+1)))=_
   have hb:=(p.getD (i:Int).toNat 0).toNat_lt
   rw [wr64 (by omega),wr64 (by omega),IntWalk.u64_in _ (by omega)]
   rfl
 ·refine (cndF (df (by show ¬ (k:Int) < (k:Int);omega))).trans ?_
  refine (dnS _).trans ?_
  show some (Ctl.done (IntKind.i64.wrap (getK p k)))=_
  rw [getK_eq p _ (by omega)]
  rfl
structure Hd where
 role:Int
 steps:Int
 base:Int
 have_:Int
 input:List UInt8
abbrev HdT:Type:=(Int×Int)×Int×Int×List UInt8
def Hd.e (h:Hd):HdT:=((h.role,h.steps),h.base,h.have_,h.input)
def badHello (h:Hd):Bool:=decide (h.role < 1) || (decide (h.role > 3) || (decide (h.steps < 0) || (decide (h.base < 0) || (decide (h.have_ < 0) || decide (h.have_ > 65535)))))
def helloB (h:Hd):List UInt8:=[u8 h.role]++putB h.steps 8++putB h.base 8++putB h.have_ 2++h.input
def putHello (h:Hd):Int×List UInt8:=cond (badHello h) (1,[]) (cond (decide ((h.input.length:Int) > 400)) (3,[]) (0,helloB h))
theorem cnd_pr {α:Type} (a b:Bool) (x:α):cnd a (some (true,x)) (some (b,x))=some (a || b,x):=by cases a <;> rfl
theorem cnd_prR {α:Type} (a b:Bool) (x:α):cnd a (some (x,true)) (some (x,b))=some (x,a || b):=by cases a <;> rfl
theorem o112_eq (h:Hd):o112 h.e=some (putHello h):=by
 unfold o112 putHello
 simp only [Hd.e,cnd_pr,bdI]
 show cnd (badHello h) _ _=_
 cases badHello h with
 | true=>rfl
 | false =>
  rw [cndF rfl,cond_false]
  by_cases hl:((h.input.length:Nat):Int) > 400
  ·rw [cndT (dt hl),dt hl];rfl
  ·rw [cndF (df hl),df hl,cond_false]
   have e8:(8:Int)=((8:Nat):Int):=rfl
   have e2:(2:Int)=((2:Nat):Int):=rfl
   rw [e8,e2,o148_eq _ (by decide) (by simp),bdI,o148_eq _ (by decide) (by simp [putB_len]),bdI,o148_eq _ (by decide) (by simp [putB_len]),bdI,gdT (dt (by simp [putB_len];omega))]
   rfl
def noHd:Hd:=⟨0,0,0,0,[]⟩
def getHello (p:List UInt8):Hd×Int :=
 cond (decide ((p.length:Int) < 19) || decide ((p.length:Int) > 419)) (noHd,4)
  (cond (badHello ⟨((p.getD 0 0).toNat:Int),getI (p.drop 1) 8,getI (p.drop 9) 8,getI (p.drop 17) 2,p.drop 19⟩) (noHd,4) (⟨((p.getD 0 0).toNat:Int),getI (p.drop 1) 8,getI (p.drop 9) 8,getI (p.drop 17) 2,p.drop 19⟩,0))
theorem o115_eq (p:List UInt8):o115 p=some ((((getHello p).1.role,(getHello p).1.steps),(getHello p).1.base,(getHello p).1.have_,(getHello p).2),(getHello p).1.input):=by
 unfold o115 getHello
 simp only [cnd_prR,bdI]
 by_cases h1:((p.length:Nat):Int) < 19
 ·rw [dt h1,Bool.true_or];rfl
 by_cases h2:((p.length:Nat):Int) > 419
 ·rw [dt h2,Bool.or_true];rfl
 rw [df h1,df h2,Bool.or_false,cond_false,cndF rfl]
 have e8:(8:Int)=((8:Nat):Int):=rfl
 have e2:(2:Int)=((2:Nat):Int):=rfl
 have d1:(1:Int).toNat=1:=rfl
 have d9:(9:Int).toNat=9:=rfl
 have d17:(17:Int).toNat=17:=rfl
 have d19:(19:Int).toNat=19:=rfl
 have d0:(0:Int).toNat=0:=rfl
 rw [gdT (dt (by omega)),gdT (dt (by omega)),e8,e2,d1,d9,d17,d19,d0,o120_eq (by decide) (by simp;omega),bdI,gdT (dt (by omega)),o120_eq (by decide) (by simp;omega),bdI,gdT (dt (by omega)),o120_eq (by decide) (by simp;omega),bdI,gdT (dt (by omega)),o33_eq (by simp;omega),bdI]
 have hh:=o112_eq ⟨((p.getD 0 0).toNat:Int),getI (p.drop 1) 8,getI (p.drop 9) 8,getI (p.drop 17) 2,p.drop 19⟩
 rw [show o112 ((((p.getD 0 0).toNat:Int),getI (p.drop 1) 8),getI (p.drop 9) 8,getI (p.drop 17) 2,p.drop 19)=_ from hh,bdI]
 unfold putHello
 rw [df (show ¬ (((p.drop 19).length:Nat):Int) > 400 by simp;omega)]
 cases badHello ⟨((p.getD 0 0).toNat:Int),getI (p.drop 1) 8,getI (p.drop 9) 8,getI (p.drop 17) 2,p.drop 19⟩ <;> rfl
theorem e8':(8:Int)=((8:Nat):Int):=rfl
theorem e2':(2:Int)=((2:Nat):Int):=rfl
def long (one:List UInt8) (isOne:Bool) (two:List UInt8) (isTwo:Bool):Bool:=(isOne&&decide ((one.length:Int) > 400)) || (isTwo&&decide ((two.length:Int) > 400))
def part1 (p:List UInt8) (is:Bool):List UInt8:=cond is (putB (p.length:Int) 2++p) []
def flagB (isOne isTwo:Bool):UInt8:=cond isOne (cond isTwo 3 1) (cond isTwo 2 0)
def packC (one:List UInt8) (isOne:Bool) (two:List UInt8) (isTwo:Bool):Int×List UInt8:=cond (long one isOne two isTwo) (3,[]) (0,[flagB isOne isTwo]++part1 one isOne++part1 two isTwo)
theorem part1_len (p:List UInt8) (is:Bool):(part1 p is).length≤p.length+2:=by cases is <;> simp [part1,putB_len];omega
theorem o149_eq {p:List UInt8} {is:Bool} {bit:Int} {b:UInt8} {l:List UInt8} (hl:l.length≤1000) (hp:is=true→p.length≤400):o149 p is bit (b::l)=some (cond is ((u8 (lorK .u8 (b.toNat:Int) bit)::l)++part1 p is) (b::l)):=by
 unfold o149
 cases is with
 | false=>rfl
 | true =>
  have:=hp rfl
  rw [cndT rfl,gdT (dt (by simp)),gdT (dt (by simp))]
  have e:List.set (b::l) ((0:Int).toNat) (u8 (lorK .u8 ((List.getD (b::l) ((0:Int).toNat) 0).toNat:Int) bit))=u8 (lorK .u8 (b.toNat:Int) bit)::l:=rfl
  rw [e,e2',o148_eq _ (by decide) (by simp;omega),bdI,gdT (dt (by simp [putB_len];omega)),cond_true]
  simp [part1]
theorem o118_eq (one:List UInt8) (isOne:Bool) (two:List UInt8) (isTwo:Bool):o118 one isOne two isTwo=some (packC one isOne two isTwo):=by
 unfold o118 packC
 have e:(cnd isOne (cnd (decide (((one.length:Nat):Int) > (400:Int))) (some ((one,isOne),two,isTwo,true)) (cnd isTwo (some ((one,isOne),two,isTwo,(decide (((two.length:Nat):Int) > (400:Int))))) (some ((one,isOne),two,isTwo,false)))) (cnd isTwo (some ((one,isOne),two,isTwo,(decide (((two.length:Nat):Int) > (400:Int))))) (some ((one,isOne),two,isTwo,false))))
   = some ((one,isOne),two,isTwo,long one isOne two isTwo):=by
  unfold long
  cases isOne <;> cases isTwo <;> cases decide (((one.length:Nat):Int) > (400:Int)) <;> rfl
 rw [e,bdI]
 cases hb:long one isOne two isTwo with
 | true=>rfl
 | false =>
  rw [cndF rfl,cond_false]
  unfold long at hb
  simp only [Bool.or_eq_false_iff,Bool.and_eq_false_iff,decide_eq_false_iff_not] at hb
  have h1:isOne=true→one.length≤400:=fun e=>by
   rcases hb.1 with h | h
   ·rw [e] at h;cases h
   ·omega
  have h2:isTwo=true→two.length≤400:=fun e=>by
   rcases hb.2 with h | h
   ·rw [e] at h;cases h
   ·omega
  have hp1:=part1_len one isOne
  have g:o149 one isOne 1 [u8 0]=some (cond isOne ((u8 (lorK .u8 ((u8 0).toNat:Int) 1)::[])++part1 one isOne) (u8 0::[])):=o149_eq (by simp) h1
  rw [show ([(u8 (0:Int))]:List UInt8)=[u8 0] from rfl,g,bdI]
  cases isOne with
  | false =>
   rw [cond_false,o149_eq (by simp) h2,bdI]
   cases isTwo <;> rfl
  | true =>
   have:=h1 rfl
   rw [cond_true,List.cons_append,List.nil_append,o149_eq (by omega) h2,bdI]
   cases isTwo
   ·simp only [cond_false,part1,List.append_nil,cond_true]
    rfl
   ·simp only [cond_true,List.cons_append,List.nil_append]
    rfl
def inputC (p:List UInt8) (is:Bool):List UInt8×List UInt8×Bool :=
 cond (!is) ([],p,true) (cond (decide ((p.length:Int) < 2)) ([],[],false) (cond (decide ((natL p 2:Int) > 400) || decide ((natL p 2:Int) > (p.length:Int) - 2)) ([],[],false) ((p.drop 2).take (natL p 2),p.drop (2+natL p 2),true)))
structure Un where
 one:List UInt8
 isOne:Bool
 two:List UInt8
 isTwo:Bool
 err:Int
def Un.e (x:Un):(Bool×Bool×Int)×List UInt8×List UInt8:=((x.isOne,x.isTwo,x.err),x.one,x.two)
def nothing:Un:=⟨[],false,[],false,4⟩
def unpackC (p:List UInt8):Un :=
 cond ((((p.length:Nat):Int)==0) || decide (((p.getD 0 0).toNat:Int) > 3)) nothing
  (cond (!(inputC (p.drop 1) (landK .u8 ((p.getD 0 0).toNat:Int) 1==1)).2.2) nothing
   (cond (!(inputC (inputC (p.drop 1) (landK .u8 ((p.getD 0 0).toNat:Int) 1==1)).2.1 (landK .u8 ((p.getD 0 0).toNat:Int) 2==2)).2.2) nothing
    (cond ((((inputC (inputC (p.drop 1) (landK .u8 ((p.getD 0 0).toNat:Int) 1==1)).2.1 (landK .u8 ((p.getD 0 0).toNat:Int) 2==2)).2.1.length:Nat):Int) != 0) nothing
    ⟨(inputC (p.drop 1) (landK .u8 ((p.getD 0 0).toNat:Int) 1==1)).1,(landK .u8 ((p.getD 0 0).toNat:Int) 1==1),(inputC (inputC (p.drop 1) (landK .u8 ((p.getD 0 0).toNat:Int) 1==1)).2.1 (landK .u8 ((p.getD 0 0).toNat:Int) 2==2)).1,(landK .u8 ((p.getD 0 0).toNat:Int) 2==2),0⟩)))
theorem bits3 (b:Nat) (h:b≤3):(landK .u8 (shrK .u8 (b:Int) 0) 1==0)=(!(landK .u8 (b:Int) 1==1))∧(landK .u8 (shrK .u8 (b:Int) 1) 1==0)=(!(landK .u8 (b:Int) 2==2)):=by
 have:b=0∨b=1∨b=2∨b=3:=by omega
 rcases this with rfl | rfl | rfl | rfl <;> decide
theorem wrapsub {k:Nat} (h:k≤100000000):IntKind.i64.wrap ((k:Int) - 2)=(k:Int) - 2:=wr64 (by omega)
theorem stepU {p rest:List UInt8} {b:Nat} {i:Int} {x y:List UInt8} {is:Bool} (hp:p≠[]) (hl:rest.length≤100000000) (hi:i=0∨i=1) (hb:(landK .u8 (shrK .u8 ((p.getD 0 0).toNat:Int) i) 1==0) = !is) (hx:i=0→x=[]) (hy:y=[]) :
  o150_b0 ((p,rest),i,x,y)=some (cond (inputC rest is).2.2 (.go ((p,(inputC rest is).2.1),i+1,cond (i==0) (inputC rest is).1 x,cond (i==1) (inputC rest is).1 y)) (.done nothing.e)):=by
 have hp2:0 < p.length:=List.length_pos_iff.2 hp
 have hi2:IntKind.i64.wrap (i+1)=i+1:=wr64 (by omega)
 unfold o150_b0
 refine (cndT (dt (by show i < 2;omega))).trans ((gdT (dt (by show (0:Int)≤0∧(0:Int) < (p.length:Int);omega))).trans ((gdT (dt (by show 0≤i;omega))).trans ?_))
 rw [show (landK .u8 (shrK .u8 ((List.getD ((p,rest),i,x,y).1.1 (0:Int).toNat 0).toNat:Int) ((p,rest),i,x,y).2.1) 1==0) = !is from hb]
 cases is with
 | false =>
  refine (cndT rfl).trans ?_
  show some (Ctl.go ((p,rest),IntKind.i64.wrap (i+1),x,y))=_
  rw [hi2]
  subst hy
  rcases hi with rfl | rfl
  ·rw [hx rfl];rfl
  ·rfl
 | true =>
  refine (cndF rfl).trans ?_
  unfold inputC
  rw [Bool.not_true,cond_false]
  by_cases h2:((rest.length:Nat):Int) < 2
  ·refine (cndT (dt h2)).trans ?_
   rw [dt h2];rfl
  refine (cndF (df h2)).trans ?_
  rw [df h2,cond_false]
  dsimp only
  have g:o120 rest 2=some (natL rest 2:Int):=(o120_eq (k:=2) (by decide) (by show 2≤rest.length;omega)).trans (congrArg some (getI_small rest 2 (by decide)))
  rw [g,bdI]
  have hn:=natL_lt rest 2
  simp only [wrapsub hl]
  have e:(cnd (decide ((natL rest 2:Int) > (400:Int))) (some (((p,rest),i,(natL rest 2:Int)),(i,true),x,y)) (some (((p,rest),i,(natL rest 2:Int)),(i,(decide ((natL rest 2:Int) > (rest.length:Int) - 2))),x,y)))
    = some (((p,rest),i,(natL rest 2:Int)),(i,decide ((natL rest 2:Int) > 400) || decide ((natL rest 2:Int) > (rest.length:Int) - 2)),x,y):=by
   cases decide ((natL rest 2:Int) > (400:Int)) <;> rfl
  rw [e,bdI]
  cases hb:(decide ((natL rest 2:Int) > 400) || decide ((natL rest 2:Int) > ((rest.length:Nat):Int) - 2)) with
  | true=>rfl
  | false =>
   simp only [Bool.or_eq_false_iff,decide_eq_false_iff_not] at hb
   have hw:IntKind.i64.wrap (2+(natL rest 2:Int))=2+(natL rest 2:Int):=wr64 (by omega)
   have hd:(2+(natL rest 2:Int)).toNat=2+natL rest 2:=by omega
   have d2:(2:Int).toNat=2:=rfl
   have h3:2+natL rest 2≤rest.length:=by omega
   simp only [hw,hd,d2]
   rw [cndF rfl,gdT (dt (by omega)),o33_eq (by simp;omega),bdI,gdT (dt (by omega)),show 2+natL rest 2 - 2=natL rest 2 by omega]
   simp only [cond_false]
   rcases hi with rfl | rfl
   ·show bd (sm (isZ 0 0) _ _) _=_
    rw [show isZ 0 0 = .inl () from rfl,smL,bdI]
    show some (Ctl.go ((p,rest.drop (2+natL rest 2)),IntKind.i64.wrap (0+1),_,_))=_
    rw [hi2]
    rfl
   ·show bd (sm (isZ 1 0) _ _) _=_
    rw [show isZ 1 0 = .inr () from rfl,smR,show isZ 1 1 = .inl () from rfl,smL,bdI]
    show some (Ctl.go ((p,rest.drop (2+natL rest 2)),IntKind.i64.wrap (1+1),_,_))=_
    rw [hi2]
    rfl
theorem inputC_len {p:List UInt8} {is:Bool}:(inputC p is).2.1.length≤p.length:=by
 unfold inputC
 cases is with
 | false=>simp
 | true =>
  simp only [Bool.not_true,cond_false]
  cases decide ((p.length:Int) < 2) <;> cases (decide ((natL p 2:Int) > 400) || decide ((natL p 2:Int) > (p.length:Int) - 2)) <;> simp
theorem o150_eq {p:List UInt8} (h:p.length≤1000000):o150 p=some (unpackC p).e:=by
 unfold o150 unpackC
 cases p with
 | nil=>rfl
 | cons b q =>
  have hl:¬ (((b::q).length:Nat):Int)=0:=by simp only [List.length_cons];omega
  rw [cndF (eq_f hl),gdT (dt (by simp only [List.length_cons];omega)),bdI,eq_f hl,Bool.false_or]
  have d0:(0:Int).toNat=0:=rfl
  simp only [d0]
  cases hb:decide ((((b::q).getD 0 0).toNat:Int) > 3) with
  | true=>rfl
  | false =>
   simp only [decide_eq_false_iff_not] at hb
   obtain ⟨b1,b2⟩:=bits3 ((b::q).getD 0 0).toNat (by omega)
   rw [cndF rfl,cond_false,gdT (dt (by simp only [List.length_cons];omega)),show (1:Int).toNat=1 from rfl]
   have hq:((b::q).drop 1).length≤1000000:=by simp at h ⊢;omega
   have hf:fuelN=(((fuelN - 3)+1)+1)+1:=by simp [fuelN]
   rw [hf]
   have s1:=stepU (b:=0) (p:=b::q) (rest:=(b::q).drop 1) (i:=0) (x:=[]) (y:=[]) (by simp) (by omega) (.inl rfl) b1 (fun _=>rfl) rfl
   have hlen:=@inputC_len ((b::q).drop 1) (landK .u8 (((b::q).getD 0 0).toNat:Int) 1==1)
   generalize inputC ((b::q).drop 1) (landK .u8 (((b::q).getD 0 0).toNat:Int) 1==1)=A at s1 hlen ⊢
   obtain ⟨a1,a2,a3⟩:=A
   dsimp only at s1 hlen ⊢
   cases a3 with
   | false =>
    rw [cond_false] at s1
    rw [loopO_done s1];rfl
   | true =>
    rw [cond_true,show (cond ((0:Int)==0) a1 [])=a1 from rfl,show (cond ((0:Int)==1) a1 ([]:List UInt8))=[] from rfl,show (0:Int)+1=1 from rfl] at s1
    rw [loopO_go s1,Bool.not_true,cond_false]
    have s2:=stepU (b:=0) (p:=b::q) (rest:=a2) (i:=1) (x:=a1) (y:=[]) (by simp) (by omega) (.inr rfl) b2 (fun h=>by cases h) rfl
    generalize inputC a2 (landK .u8 (((b::q).getD 0 0).toNat:Int) 2==2)=C at s2 ⊢
    obtain ⟨c1,c2,c3⟩:=C
    dsimp only at s2 ⊢
    cases c3 with
    | false =>
     rw [cond_false] at s2
     rw [loopO_done s2];rfl
    | true =>
     rw [cond_true,show (cond ((1:Int)==0) c1 a1)=a1 from rfl,show (cond ((1:Int)==1) c1 ([]:List UInt8))=c1 from rfl,show (1:Int)+1=2 from rfl] at s2
     rw [loopO_go s2,Bool.not_true,cond_false]
     refine loopO_done (r:=_) ?_
     unfold o150_b0
     refine (cndF (df (by show ¬ ((2:Int) < 2);omega))).trans ?_
     dsimp only
     cases (((c2.length:Nat):Int) != 0) with
     | true=>rfl
     | false =>
      rw [cond_false,cndF rfl,gdT (dt (by simp only [List.length_cons];omega)),gdT (dt (by simp only [List.length_cons];omega)),dnS]
      rfl
structure Se where
 steps:Int
 cycle:Int
 fresh:Bool
 in_:List UInt8
def Se.e (x:Se):(Int×Int)×Bool×List UInt8:=((x.steps,x.cycle),x.fresh,x.in_)
def noSe:Se:=⟨0,0,false,[]⟩
def setB (x:Se):List UInt8:=putB x.steps 8++[u8 (cond x.fresh 1 0)]++x.in_
def putSet (x:Se):Int×List UInt8:=cond (decide (x.steps < 0)) (1,[]) (cond ((unpackC x.in_).err != 0) ((unpackC x.in_).err,[]) (0,setB x))
theorem o119_eq {x:Se} (h:x.in_.length≤1000000):o119 x.e=some (putSet x):=by
 unfold o119 putSet
 by_cases h1:x.steps < 0
 ·refine (cndT (dt h1)).trans ?_
  rw [dt h1];rfl
 refine (cndF (df h1)).trans ?_
 rw [df h1,cond_false]
 refine (bdS (o150_eq h)).trans ?_
 show cnd ((unpackC x.in_).err != 0) (some ((unpackC x.in_).err,[])) (bd (cnd x.fresh (some ((1:Int),((x.steps,x.cycle),x.fresh,x.in_))) (some ((0:Int),((x.steps,x.cycle),x.fresh,x.in_)))) _)=_
 cases (unpackC x.in_).err != 0 with
 | true=>rfl
 | false =>
  rw [cndF rfl,cond_false]
  have e:(cnd x.fresh (some ((1:Int),((x.steps,x.cycle),x.fresh,x.in_))) (some ((0:Int),((x.steps,x.cycle),x.fresh,x.in_))))=some (cond x.fresh 1 0,((x.steps,x.cycle),x.fresh,x.in_)):=by cases x.fresh <;> rfl
  rw [e,bdI,e8',o148v1_eq _ (by decide),bdI,gdT (dt (by simp [putB_len])),gdT (dt (by simp [putB_len];omega))]
  rfl
def getSet (cycle:Int) (p:List UInt8):Se×Int :=
 cond (decide ((p.length:Int) < 9)) (noSe,4) (cond (decide (((p.getD 8 0).toNat:Int) > 1)) (noSe,4)
  (cond ((putSet ⟨getI p 8,cycle,((p.getD 8 0).toNat:Int)==1,p.drop 9⟩).1 != 0) (noSe,4) (⟨getI p 8,cycle,((p.getD 8 0).toNat:Int)==1,p.drop 9⟩,0)))
theorem o77_eq {cycle:Int} {p:List UInt8} (h:p.length≤1000000):o77 cycle p=some ((((getSet cycle p).1.steps,(getSet cycle p).1.cycle),(getSet cycle p).1.fresh,(getSet cycle p).2),(getSet cycle p).1.in_):=by
 unfold o77 getSet
 by_cases h1:((p.length:Nat):Int) < 9
 ·rw [cndT (dt h1),dt h1];rfl
 rw [cndF (df h1),df h1,cond_false,gdT (dt (by omega)),bdI]
 have d8:(8:Int).toNat=8:=rfl
 have d9:(9:Int).toNat=9:=rfl
 simp only [d8,d9]
 cases decide (((p.getD 8 0).toNat:Int) > 1) with
 | true=>rfl
 | false =>
  rw [cndF rfl,cond_false,e8',o120_eq (by decide) (by omega),bdI,gdT (dt (by omega)),gdT (dt (by omega)),o33_eq (by simp;omega),bdI]
  have g:=o119_eq (x:=⟨getI p 8,cycle,((p.getD 8 0).toNat:Int)==1,p.drop 9⟩) (by simp;omega)
  rw [show o119 ((getI p 8,cycle),((p.getD 8 0).toNat:Int)==1,p.drop 9)=_ from g,bdI]
  cases ((putSet ⟨getI p 8,cycle,((p.getD 8 0).toNat:Int)==1,p.drop 9⟩).1 != 0) <;> rfl
structure Tg where
 lat:Int
 ver:Int
 ph:Int
 bank:Int
 speed:Int
 alt:Int
 vs:Int
def Tg.e (t:Tg):(Int×Int×Int)×(Int×Int)×Int×Int:=((t.lat,t.ver,t.ph),(t.bank,t.speed),t.alt,t.vs)
def noTg:Tg:=⟨0,0,0,0,0,0,0⟩
def putRes (s:Int) (t:Tg):List UInt8:=putB s 8++[u8 t.lat,u8 t.ver,u8 t.ph]++putB t.bank 8++putB t.speed 8++putB t.alt 8++putB t.vs 8
theorem resStep {l:List UInt8} {t:Tg} {i:Nat} (hi:i < 4) (hl:l.length≤1000):o121_b0 ((4,(i:Int)),l,[t.bank,t.speed,t.alt,t.vs])=some (.go ((4,((i+1:Nat):Int)),l++putB ([t.bank,t.speed,t.alt,t.vs].getD i 0) 8,[t.bank,t.speed,t.alt,t.vs])):=by
 unfold o121_b0
 refine (cndT (dt (by show (i:Int) < 4;omega))).trans ((gdT (dt (by show (0:Int)≤i∧(i:Int) < 4;omega))).trans ?_)
 dsimp only
 rw [e8',o148_eq _ (by decide) (by omega),bdI,wr64 (by omega)]
 rfl
theorem o121_eq (s:Int) (t:Tg):o121 (((s,t.lat),t.ver,t.ph),(t.bank,t.speed),t.alt,t.vs)=some (putRes s t):=by
 unfold o121
 dsimp only
 rw [e8',o148v1_eq _ (by decide),bdI,gdT (dt (by simp [putB_len]))]
 have hf:fuelN=(((((fuelN - 5)+1)+1)+1)+1)+1:=by simp [fuelN]
 rw [hf]
 have s0:=resStep (t:=t) (i:=0) (l:=putB s 8++[u8 t.lat,u8 t.ver,u8 t.ph]) (by decide) (by simp [putB_len])
 refine (loopO_go s0).trans ((loopO_go (resStep (t:=t) (i:=1) (by decide) (by simp [putB_len]))).trans ((loopO_go (resStep (t:=t) (i:=2) (by decide) (by simp [putB_len]))).trans ((loopO_go (resStep (t:=t) (i:=3) (by decide) (by simp [putB_len]))).trans (loopO_done ?_))))
 unfold o121_b0
 refine (cndF (df (by show ¬ ((4:Nat):Int) < 4;decide))).trans ?_
 rw [dnS]
 rfl
def getRes (p:List UInt8):Int×Tg×Int:=cond (((p.length:Nat):Int) != 43) (0,noTg,4) (getI p 8,⟨((p.getD 8 0).toNat:Int),((p.getD 9 0).toNat:Int),((p.getD 10 0).toNat:Int),getI (p.drop 11) 8,getI (p.drop 19) 8,getI (p.drop 27) 8,getI (p.drop 35) 8⟩,0)
def resE (x:Int×Tg×Int):(((Int×Int)×Int×Int)×(Int×Int)×Int×Int×Int):=(((x.1,x.2.1.lat),x.2.1.ver,x.2.1.ph),(x.2.1.bank,x.2.1.speed),x.2.1.alt,x.2.1.vs,x.2.2)
theorem o122_eq (p:List UInt8):o122 p=some (resE (getRes p)):=by
 unfold o122 getRes
 by_cases h:((p.length:Nat):Int)=43
 ·rw [cndF (neq_f h),neq_f h,cond_false]
  have d8:(8:Int).toNat=8:=rfl
  have d9:(9:Int).toNat=9:=rfl
  have d10:(10:Int).toNat=10:=rfl
  have d11:(11:Int).toNat=11:=rfl
  have d19:(19:Int).toNat=19:=rfl
  have d27:(27:Int).toNat=27:=rfl
  have d35:(35:Int).toNat=35:=rfl
  have g:∀ j,j+8≤43→o120 (p.drop j) 8=some (getI (p.drop j) 8):=fun j hj=>o120_eq (k:=8) (by decide) (by simp;omega)
  have g0:o120 p 8=some (getI p 8):=o120_eq (k:=8) (by decide) (by omega)
  rw [d8,d9,d10,d11,d19,d27,d35,g0,bdI,gdT (dt (by omega)),gdT (dt (by omega)),gdT (dt (by omega)),gdT (dt (by omega)),g 11 (by decide),bdI,gdT (dt (by omega)),g 19 (by decide),bdI,gdT (dt (by omega)),g 27 (by decide),bdI,gdT (dt (by omega)),g 35 (by decide),bdI]
  rfl
 ·rw [cndT (neq_t h),neq_t h];rfl
end Go.Proofs.YtpleflcfaecojaaGreat
