/-
What functions compute, printed by wip/h/py. Conditions: each theorem's own.
-/
import Derived.Test.YtpleflcfaecojaaGreatM8
namespace Go.Proofs.YtpleflcfaecojaaGreat
set_option linter.unusedVariables false
set_option linter.unusedSimpArgs false
set_option maxRecDepth 100000
open Go.RowKit
noncomputable section
abbrev Ej:Type:=(Bt×Int)×((I2)×Int×Bt)×(I2)×Int×Bt
def o110_s0:Sch:=⟨[(0,.v (.c (.own 0))),(2,.v (.c (.ptr 1 0))),(39,.v (.c (.b)))],[.row .y 5,AW]⟩
def o110_s1:Sch:=⟨[(0,.v (.c (.ro .y true))),(2,.v (.c (.ptr 0 0))),(6,.v (.c (.ptr 1 0))),(50,.v (.c (.i .i64)))],[AW,AW]⟩
def p110:Sch:=⟨[(0,.v (.c (.ro .y false)))],[]⟩
def r110:List Sch:=[⟨[(0,Eg)],[]⟩]
def o110_b0 (v4:Ej) :=
 (cnd (decide (v4.1.2 < (8:Int))) (gd (decide ((0:Int)≤(IntKind.wrap .i64 ((2:Int)+v4.1.2))∧(IntKind.wrap .i64 ((2:Int)+v4.1.2)) < ((v4.1.1.length:Nat):Int))) (gd (decide ((0:Int)≤(IntKind.wrap .i64 ((8:Int)*v4.1.2)))) (some (Ctl.go ((v4.1.1,(IntKind.wrap .i64 (v4.1.2+(1:Int)))),v4.2.1,v4.2.2.1,(lorK .i64 v4.2.2.2.1 (IntKind.wrap .i64 (shlK .u64 (IntKind.wrap .u64 ((UInt8.toNat (List.getD v4.1.1 (IntKind.wrap .i64 ((2:Int)+v4.1.2)).toNat (0:UInt8)):Nat):Int)) (IntKind.wrap .i64 ((8:Int)*v4.1.2))))),v4.2.2.2.2))))) (dnO (some (v4.2.2.1,v4.2.2.2.1,v4.2.2.2.2,(0:Int)))))
def o110 (a0:Bt):Option ((I2)×Int×Bt×Int) :=
 (bd (α:=(Int×Bt)) (o147 a0) (fun v1=>(cnd (v1.1 != (0:Int)) (some (((0:Int),(0:Int)),(0:Int),([]:Bt),v1.1)) (cnd (decide (((v1.2.length:Nat):Int) < (12:Int))) (some (((0:Int),(0:Int)),(0:Int),([]:Bt),(4:Int))) (gd (decide ((0:Int)≤(10:Int)∧(10:Int) < ((v1.2.length:Nat):Int))) (gd (decide ((0:Int)≤(11:Int)∧(11:Int) < ((v1.2.length:Nat):Int))) (bd (α:=(Bool×Bt×(I2)×Int×Bt)) (cnd (decide ((IntKind.wrap .i64 ((IntKind.wrap .i64 ((UInt8.toNat (List.getD v1.2 ((10:Int).toNat) (0:UInt8)):Nat):Int))+(shlK .i64 (IntKind.wrap .i64 ((UInt8.toNat (List.getD v1.2 ((11:Int).toNat) (0:UInt8)):Nat):Int)) (8:Int)))) > (1000:Int))) (some (true,v1.2,((0:Int),(0:Int)),(0:Int),([]:Bt))) (some ((((v1.2.length:Nat):Int) != (IntKind.wrap .i64 ((12:Int)+(IntKind.wrap .i64 ((IntKind.wrap .i64 ((UInt8.toNat (List.getD v1.2 ((10:Int).toNat) (0:UInt8)):Nat):Int))+(shlK .i64 (IntKind.wrap .i64 ((UInt8.toNat (List.getD v1.2 ((11:Int).toNat) (0:UInt8)):Nat):Int)) (8:Int))))))),v1.2,((0:Int),(0:Int)),(0:Int),([]:Bt)))) (fun v2=>(cnd v2.1 (some (((0:Int),(0:Int)),(0:Int),([]:Bt),(4:Int))) (gd (decide ((0:Int)≤(0:Int)∧(0:Int) < ((v2.2.1.length:Nat):Int))) (gd (decide ((0:Int)≤(1:Int)∧(1:Int) < ((v2.2.1.length:Nat):Int))) (gd (decide ((0:Int)≤(12:Int)∧(12:Int)≤((v2.2.1.length:Nat):Int))) (loopO (σ:=Ej) fuelN o110_b0 ((v2.2.1,(0:Int)),v2.2.2,(((UInt8.toNat (List.getD v2.2.1 ((0:Int).toNat) (0:UInt8)):Nat):Int),((UInt8.toNat (List.getD v2.2.1 ((1:Int).toNat) (0:UInt8)):Nat):Int)),(0:Int),(List.take (v2.2.1.length - (12:Int).toNat) (List.drop ((12:Int).toNat) v2.2.1))))))))))))))))
def h110:HC:=(.s .d (.s .d (.s .d (.s .d (.s .d (.s (.s (.j false [o110_s0] .d) .d) (.s (.r 1) (.s (.s .d (.b (.l [o110_s1] .d))) .d))))))))
theorem e110 (t:Bt):evF (stpT Tryz.prog T45 K45) Tryz.f110 p110 r110 h110 t=(o110 t):=by kernel_rfl
def n110:FSp:=⟨p110,r110,fun t=>(o110 t)⟩
theorem fo110:FOk Tryz.prog 110 n110:=fk e110
def T46:Tbl:=(110,n110)::T45
theorem K46:TOk Tryz.prog T46:= .cons K45 fo110
abbrev Gu:Type:=Bool×((I2)×Int×Bt)×(I2)×Int×Bt
def o70_s0:Sch:=⟨[(10,.v (.c (.ptr 0 0))),(14,.v (.c (.ptr 1 0))),(49,.v (.c (.b)))],[AW,AW]⟩
def p70:Sch:=⟨[(0,.v (.c (.ro .y false))),(1,.v (.agg [.b,.i .i64,.i .u32])),(2,.v (.c (.i .u8))),(3,.v (.c (.i .u8))),(4,.v (.c (.i .i64)))],[]⟩
def r70:List Sch:=[⟨[(0,Cj)],[]⟩]
def o70 (a0:Bt) (a1:Bool×I2) (a2:Int) (a3:Int) (a4:Int):Option ((I2)×Int×Bt×Bool) :=
 (bd (α:=(Bool×Bt)) (o109 a0 a1) (fun v1=>(cnd (!v1.1) (some (((0:Int),(0:Int)),(0:Int),([]:Bt),false)) (bd (α:=((I2)×Int×Bt×Int)) (o110 v1.2) (fun v2=>(bd (α:=Gu) (cnd (v2.2.2.2 != (0:Int)) (some (true,(((0:Int),(0:Int)),(0:Int),([]:Bt)),v2.1,v2.2.1,v2.2.2.1)) (cnd (v2.1.1 != a2) (some (true,(((0:Int),(0:Int)),(0:Int),([]:Bt)),v2.1,v2.2.1,v2.2.2.1)) (cnd (v2.1.2 != a3) (some (true,(((0:Int),(0:Int)),(0:Int),([]:Bt)),v2.1,v2.2.1,v2.2.2.1)) (some ((v2.2.1 != a4),(((0:Int),(0:Int)),(0:Int),([]:Bt)),v2.1,v2.2.1,v2.2.2.1))))) (fun v3=>(cnd v3.1 (some (((0:Int),(0:Int)),(0:Int),([]:Bt),false)) (some (v3.2.2.1,v3.2.2.2.1,v3.2.2.2.2,true))))))))))
def h70:HC:=(.s .d (.s .d (.s .d (.s .d (.s (.s (.j false [o70_s0] .d) .d) .d)))))
theorem e70 (t:(Bt×Bool×I2)×I3):evF (stpT Tryz.prog T46 K46) Tryz.f70 p70 r70 h70 t=(o70 t.1.1 t.1.2 t.2.1 t.2.2.1 t.2.2.2):=by kernel_rfl
def n70:FSp:=⟨p70,r70,fun t=>(o70 t.1.1 t.1.2 t.2.1 t.2.2.1 t.2.2.2)⟩
theorem fo70:FOk Tryz.prog 70 n70:=fk e70
def T47:Tbl:=(70,n70)::T46
theorem K47:TOk Tryz.prog T47:= .cons K46 fo70
def CD:SSh:= .v (.c (.cap (.cap (.fn 24) (.ptr 9 0)) (.ptr 10 0)))
def AF:BSh:= .cells 105 [.ifc 60 (.ptr 1 0),.ifc 60 (.ptr 2 0),.ptr 3 0,.cst (.pointer none),.ro .y true,.i .i64,.i .i64,.i .i64,.i .i64,.i .i64,.i .u8,.i .u8,.i .u8,.i .i64,.i .i64,.i .i64,.i .i64]
def Ai:BSh:= .cells 137 [.i .i64,.ptr 4 0,.ptr 5 0,.ptr 6 0,.i .i64,.i .i64,.b,.i .i64,.i .i64]
def Al:BSh:= .cells 232 [.i .i64,.i .i64,.own 7,.own 8]
def Bm:BSh:= .cells 108 [.ro .y true,.ro .y true]
def Aj:BSh:= .cells 42 [.b,.b,.b,.b,.b,.b,.i .i64,.i .i64,.b,.i .i64,.i .u32,.b,.i .i64,.i .u32,.b,.i .i64,.i .u32,.b,.i .i64,.i .u32,.b,.i .i64,.i .u32,.b,.i .i64,.i .u32,.b,.i .i64,.i .u32,.b,.i .i64,.i .u32]
def Am:BSh:= .cells 111 [.i .u8,.i .u8,.i .i64,.ro .y true,.i .u8,.i .u8,.i .i64,.ro .y true]
def AP:SSh:= .v (.agg [.b,.b,.b,.b,.b,.b,.i .i64,.i .i64,.b,.i .i64,.i .u32,.b,.i .i64,.i .u32,.b,.i .i64,.i .u32,.b,.i .i64,.i .u32,.b,.i .i64,.i .u32,.b,.i .i64,.i .u32,.b,.i .i64,.i .u32,.b,.i .i64,.i .u32])
def Bq:SSh:= .tup [.agg [.i .u8,.i .u8,.i .i64,.ro .y true,.i .u8,.i .u8,.i .i64,.ro .y true],.agg [.b,.b]]
abbrev Ao:Type:=((((B2)×B2)×(B2)×I2)×((Bool×Int)×Int×Bool)×(I2)×Bool×Int)×(((Int×Bool)×I2)×(Bool×Int)×Int×Bool)×((I2)×Bool×Int)×(Int×Bool)×I2
abbrev BU:Type:=((I2)×Int×Bt×Int)×(I2)×Bt×B2
abbrev BM:Type:=((BU×Af)×(I3)×(I3)×(I3)×Bool×I2)×(Ae×(List (Int×Int×Int×Bt))×I2)×List Bt×(List (Int×I4))×Bt×Bt
abbrev As:Type:=((I2)×Int×Bt)×(I2)×Int×Bt
abbrev Dy:Type:=((Af×(I3)×I3)×((I3)×Bool×I2)×Ae×List (Int×Int×Int×Bt))×((I2)×List Bt×List (Int×I4))×((Bt×Bt)×Ao)×As×B2
def Ek (v5:Dy):Option BM :=
 (some (((((v5.2.2.2.1.1.1,v5.2.2.2.1.1.2.1,v5.2.2.2.1.1.2.2,v5.2.2.2.1.2.1.1),(v5.2.2.2.1.2.1.2,v5.2.2.2.1.2.2.1),v5.2.2.2.1.2.2.2,v5.2.2.2.2),v5.1.1.1),v5.1.1.2.1,v5.1.1.2.2,v5.1.2.1),(v5.1.2.2.1,v5.1.2.2.2,v5.2.1.1),v5.2.1.2.1,v5.2.1.2.2,v5.2.2.1.1))
abbrev El:Type:=((Ao×Af)×(I3)×(I3)×(I3)×Bool×I2)×(Ae×(List (Int×Int×Int×Bt))×I2)×List Bt×(List (Int×I4))×Bt×Bt
def o23_s0:Sch:=⟨[(0,.v (.c (.ptr 0 0))),(1,.v (.c (.ic .i64 (0)))),(3,CD),(6,.v (.c (.ptr 11 0))),(8,.v (.c (.ptr 12 0))),(9,.v (.c (.ptr 13 0))),(15,.v (.c (.ic .i64 (0))))],[AF,Aa,Aa,Ai,Ab,Ad,Al,.row (.a .y) 33,Ac,Bm,.cells 30 [.ptr 0 0],Aj,Am,.cells 34 [.b,.b]]⟩
def p23:Sch:=⟨[(0,.v (.c (.ptr 0 0))),(1,.v (.c (.ic .i64 (0)))),(2,AP),(3,CD)],[AF,Aa,Aa,Ai,Ab,Ad,Al,.row (.a .y) 33,Ac,Bm,.cells 30 [.ptr 0 0]]⟩
def r23:List Sch:=[⟨[(0,Bq)],[AF,Aa,Aa,Ai,Ab,Ad,Al,.row (.a .y) 33,Ac,Bm,.cells 30 [.ptr 0 0]]⟩]
def o23 (a0:Ao) (a1:Af) (a2:I3) (a3:I3) (a4:(I3)×Bool×I2) (a5:Ae) (a6:List (Int×Int×Int×Bt)) (a7:I2) (a8:List Bt) (a9:List (Int×I4)) (a10:Bt×Bt):Option BM :=
 (bd (α:=Dy) (bd (α:=Ck) (o24 a10 a1 a2 a3 a4 a5 a6 a7 a8 a9) (fun v1=>(cnd (!v1.1.1.1.2.2.2) (some (((v1.1.1.2,v1.1.2.1,v1.1.2.2.1),v1.1.2.2.2,v1.2.1),v1.2.2,(a10,a0),((((0:Int),(0:Int)),(0:Int),([]:Bt)),((0:Int),(0:Int)),(0:Int),([]:Bt)),false,false)) (bd (α:=(Int×Bt)) (o69 (v1.1.1.1.1,v1.1.1.1.2.1,v1.1.1.1.2.2.1)) (fun v2=>(cnd (v2.1 != (0:Int)) (some (((v1.1.1.2,v1.1.2.1,v1.1.2.2.1),v1.1.2.2.2,v1.2.1),v1.2.2,(a10,a0),((((0:Int),(0:Int)),(0:Int),([]:Bt)),((0:Int),(0:Int)),(0:Int),([]:Bt)),false,false)) (bd (α:=((I2)×Int×Bt×Bool)) (o70 v2.2 (a0.1.2.1.1.1,a0.1.2.1.1.2,a0.1.2.1.2.1) (1:Int) (1:Int) v1.1.1.2.1.2.2.2) (fun v4=>(some (((v1.1.1.2,v1.1.2.1,v1.1.2.2.1),v1.1.2.2.2,v1.2.1),v1.2.2,(a10,a0),((((0:Int),(0:Int)),(0:Int),([]:Bt)),v4.1,v4.2.1,v4.2.2.1),false,v4.2.2.2)))))))))) Ek)
def h23:HC:=(.s .d (.s (.s .d (.b (.u 3 (.v (.s .d (.s .d (.j false [o23_s0] .d))) (.v .d (.v .d .d)))))) .d))
theorem e23 (t:El):evF (stpT Tryz.prog T47 K47) Tryz.f23 p23 r23 h23 t=(o23 t.1.1.1 t.1.1.2 t.1.2.1 t.1.2.2.1 t.1.2.2.2 t.2.1.1 t.2.1.2.1 t.2.1.2.2 t.2.2.1 t.2.2.2.1 t.2.2.2.2):=by kernel_rfl
def n23:FSp:=⟨p23,r23,fun t=>(o23 t.1.1.1 t.1.1.2 t.1.2.1 t.1.2.2.1 t.1.2.2.2 t.2.1.1 t.2.1.2.1 t.2.1.2.2 t.2.2.1 t.2.2.2.1 t.2.2.2.2)⟩
theorem fo23:FOk Tryz.prog 23 n23:=fk e23
def T48:Tbl:=(23,n23)::T47
theorem K48:TOk Tryz.prog T48:= .cons K47 fo23
def o114_s0:Sch:=⟨[(8,.v (.c (.b)))],[AN]⟩
def p114:Sch:=⟨[(0,.v (.c (.ptr 0 0))),(1,Bl),(2,.v (.c (.b))),(3,.v (.c (.i .u8)))],[AN]⟩
def r114:List Sch:=[⟨[(0,.v (.c (.b)))],[.no]⟩]
def o114 (a0:(I2)×Int×Bt) (a1:Bool) (a2:Int) (a3:Ae):Option Bool :=
 (bd (α:=(Bool×Ae)) (cnd a1 (cnd (a0.1.1==a2) (cnd (a0.1.2==(IntKind.wrap .u8 (IntKind.wrap .i64 ((3:Int) - a3.1.1.1.1)))) (some ((a0.2.1==a3.1.1.2.2.2),a3)) (some (false,a3))) (some (false,a3))) (some (false,a3))) (fun v1=>(some v1.1)))
theorem e114 (t:(((I2)×Int×Bt)×Bool)×Int×Ae):evF (stpT Tryz.prog T48 K48) Tryz.f114 p114 r114 (.s .d (.s (.j false [o114_s0] .d) .d)) t=(o114 t.1.1 t.1.2 t.2.1 t.2.2):=by kernel_rfl
def n114:FSp:=⟨p114,r114,fun t=>(o114 t.1.1 t.1.2 t.2.1 t.2.2)⟩
theorem fo114:FOk Tryz.prog 114 n114:=fk e114
def T49:Tbl:=(114,n114)::T48
theorem K49:TOk Tryz.prog T49:= .cons K48 fo114
def o120_s0:Sch:=⟨[(0,.v (.c (.ro .y false))),(5,.v (.c (.i .u64))),(7,.v (.c (.i .i64))),(8,.v (.c (.i .i64)))],[]⟩
def p120:Sch:=⟨[(0,.v (.c (.ro .y false))),(1,.v (.c (.i .i64)))],[]⟩
def r120:List Sch:=[⟨[(0,.v (.c (.i .i64)))],[]⟩]
def o120_b0 (v2:(Bt×Int)×I2) :=
 (cnd (decide (v2.2.2 < v2.2.1)) (gd (decide ((0:Int)≤v2.2.2∧v2.2.2 < ((v2.1.1.length:Nat):Int))) (gd (decide ((0:Int)≤(IntKind.wrap .i64 ((8:Int)*v2.2.2)))) (some (Ctl.go ((v2.1.1,(lorK .u64 v2.1.2 (shlK .u64 (IntKind.wrap .u64 ((UInt8.toNat (List.getD v2.1.1 v2.2.2.toNat (0:UInt8)):Nat):Int)) (IntKind.wrap .i64 ((8:Int)*v2.2.2))))),v2.2.1,(IntKind.wrap .i64 (v2.2.2+(1:Int)))))))) (dnO (some (IntKind.wrap .i64 v2.1.2))))
def o120 (a0:Bt) (a1:Int):Option Int :=
 (loopO (σ:=(Bt×Int)×I2) fuelN o120_b0 ((a0,(0:Int)),a1,(0:Int)))
def h120:HC:=(.s .d (.s .d (.s (.s .d (.b (.l [o120_s0] .d))) .d)))
theorem e120 (t:Bt×Int):evF (stpT Tryz.prog T49 K49) Tryz.f120 p120 r120 h120 t=(o120 t.1 t.2):=by kernel_rfl
def n120:FSp:=⟨p120,r120,fun t=>(o120 t.1 t.2)⟩
theorem fo120:FOk Tryz.prog 120 n120:=fk e120
def T50:Tbl:=(120,n120)::T49
theorem K50:TOk Tryz.prog T50:= .cons K49 fo120
def Dz:BSh:= .cells 179 [.ic .u8 (0),.ic .i64 (0),.ic .i64 (0),.ic .i64 (0),.cst (.slice none 0 0)]
def Gv:SSh:= .tup [.agg [.i .u8,.i .i64,.i .i64,.i .i64,.own 0],.c (.i .i64)]
def o115_s0:Sch:=⟨[(0,.v (.c (.ro .y false))),(2,.v (.c (.ptr 0 0))),(14,.v (.c (.b)))],[Dz]⟩
def p115:Sch:=⟨[(0,.v (.c (.ro .y false)))],[]⟩
def r115:List Sch:=[⟨[(0,Gv)],[.row .y 5]⟩]
def o115 (a0:Bt):Option (((I2)×I3)×Bt) :=
 (bd (α:=(Bt×Bool)) (cnd (decide (((a0.length:Nat):Int) < (19:Int))) (some (a0,true)) (some (a0,(decide (((a0.length:Nat):Int) > (419:Int)))))) (fun v1=>(cnd v1.2 (some ((((0:Int),(0:Int)),(0:Int),(0:Int),(4:Int)),([]:Bt))) (gd (decide ((0:Int)≤(0:Int)∧(0:Int) < ((v1.1.length:Nat):Int))) (gd (decide ((0:Int)≤(1:Int)∧(1:Int)≤((v1.1.length:Nat):Int))) (bd (α:=Int) (o120 (List.drop (1:Int).toNat v1.1) (8:Int)) (fun v6=>(gd (decide ((0:Int)≤(9:Int)∧(9:Int)≤((v1.1.length:Nat):Int))) (bd (α:=Int) (o120 (List.drop (9:Int).toNat v1.1) (8:Int)) (fun v7=>(gd (decide ((0:Int)≤(17:Int)∧(17:Int)≤((v1.1.length:Nat):Int))) (bd (α:=Int) (o120 (List.drop (17:Int).toNat v1.1) (2:Int)) (fun v8=>(gd (decide ((0:Int)≤(19:Int)∧(19:Int)≤((v1.1.length:Nat):Int))) (bd (α:=(Bt)) (o33 (List.drop (19:Int).toNat v1.1)) (fun v9=>(bd (α:=(Int×Bt)) (o112 ((((UInt8.toNat (List.getD v1.1 (0:Int).toNat (0:UInt8)):Nat):Int),v6),v7,v8,v9)) (fun v10=>(cnd (v10.1 != (0:Int)) (some ((((0:Int),(0:Int)),(0:Int),(0:Int),(4:Int)),([]:Bt))) (some (((((UInt8.toNat (List.getD v1.1 (0:Int).toNat (0:UInt8)):Nat):Int),v6),v7,v8,(0:Int)),v9)))))))))))))))))))))
def h115:HC:=(.s .d (.s (.s (.j false [o115_s0] .d) .d) (.s (.r 2) .d)))
theorem e115 (t:Bt):evF (stpT Tryz.prog T50 K50) Tryz.f115 p115 r115 h115 t=(o115 t):=by kernel_rfl
def n115:FSp:=⟨p115,r115,fun t=>(o115 t)⟩
theorem fo115:FOk Tryz.prog 115 n115:=fk e115
def T51:Tbl:=(115,n115)::T50
theorem K51:TOk Tryz.prog T51:= .cons K50 fo115
def Gw (v2:(I2)×Int×Int×Bool):Option Int :=
 (cnd v2.2.2.2 (some (2:Int)) (cnd (v2.2.1==(2:Int)) (cnd (v2.2.2.1==v2.1.2) (some (3:Int)) (some (1:Int))) (cnd (decide (v2.2.2.1 > v2.1.2)) (some (1:Int)) (bd (α:=Bool) (cnd (decide (v2.2.2.1 < v2.1.2)) (some true) (some (v2.1.1==(1:Int)))) (fun v3=>(cnd v3 (some (2:Int)) (some (3:Int))))))))
def o116_s0:Sch:=⟨[(36,.v (.c (.b)))],[]⟩
def o116_s1:Sch:=⟨[(0,.v (.c (.i .i64))),(2,.v (.c (.i .i64))),(5,.v (.c (.i .u8))),(6,.v (.c (.i .i64))),(39,.v (.c (.b)))],[]⟩
def o116_s2:Sch:=⟨[(60,.v (.c (.b)))],[]⟩
def o116_s3:Sch:=⟨[(88,.v (.c (.b)))],[]⟩
def p116:Sch:=⟨[(0,.v (.c (.i .i64))),(1,.v (.c (.i .u8))),(2,.v (.c (.i .i64))),(3,.v (.c (.i .i64))),(4,.v (.c (.b))),(5,.v (.c (.i .u8))),(6,.v (.c (.i .i64)))],[]⟩
def r116:List Sch:=[⟨[(0,.v (.c (.i .u8)))],[]⟩]
def o116 (a0:Int) (a1:Int) (a2:Int) (a3:Int) (a4:Bool) (a5:Int) (a6:Int):Option Int :=
 (cnd (a1==(2:Int)) (bd (α:=Bool) (cnd a4 (cnd (a5==(2:Int)) (cnd (decide (a6 > a2)) (some true) (cnd (a6==a2) (some (a0==(2:Int))) (some false))) (some false)) (some false)) (fun v1=>(cnd v1 (some (1:Int)) (some (2:Int))))) (cnd (a1==(3:Int)) (bd (α:=((I2)×Int×Int×Bool)) (cnd (!a4) (some ((a0,a2),a5,a6,true)) (cnd (a5 != (2:Int)) (some ((a0,a2),a5,a6,(a5 != (3:Int)))) (some ((a0,a2),a5,a6,false)))) Gw) (bd (α:=Bool) (cnd (!a4) (cnd (decide (a3≥(3:Int))) (some true) (cnd a4 (cnd (a5 != (2:Int)) (cnd (a5 != (3:Int)) (some (a0==(1:Int))) (some false)) (some false)) (some false))) (cnd a4 (cnd (a5 != (2:Int)) (cnd (a5 != (3:Int)) (some (a0==(1:Int))) (some false)) (some false)) (some false))) (fun v4=>(cnd v4 (some (2:Int)) (some (1:Int)))))))
def h116:HC:=(.s .d (.s (.s .d (.b (.s .d (.c (.s (.s (.j false [o116_s0] .d) .d) .d) (.s .d (.c (.s (.b (.s (.j false [o116_s1] .d) (.c .d (.s .d (.c .d (.s .d (.c .d (.s (.j false [o116_s2] .d) .d)))))))) .d) .d)))))) (.s (.s (.j false [o116_s3] .d) .d) .d)))
theorem e116 (t:(I3)×(Int×Bool)×I2):evF (stpT Tryz.prog T51 K51) Tryz.f116 p116 r116 h116 t=(o116 t.1.1 t.1.2.1 t.1.2.2 t.2.1.1 t.2.1.2 t.2.2.1 t.2.2.2):=by kernel_rfl
def n116:FSp:=⟨p116,r116,fun t=>(o116 t.1.1 t.1.2.1 t.1.2.2 t.2.1.1 t.2.1.2 t.2.2.1 t.2.2.2)⟩
theorem fo116:FOk Tryz.prog 116 n116:=fk e116
def T52:Tbl:=(116,n116)::T51
theorem K52:TOk Tryz.prog T52:= .cons K51 fo116
def Gx:SSh:= .tup [.agg [.i .u8,.i .i64,.i .i64,.i .i64,.own 1],.c (.b),.c (.i .i64)]
abbrev Em:Type:=((I3)×Int×Bool×Int)×Ae×Bt
def o74_s0:Sch:=⟨[(0,.v (.c (.ptr 0 0))),(6,.v (.c (.ptr 1 0)))],[Ab,Dz]⟩
def o74_s1:Sch:=⟨[(0,.v (.c (.ptr 0 0))),(6,.v (.c (.ptr 1 0))),(12,.v (.c (.i .u8)))],[Ab,Dz]⟩
def p74:Sch:=⟨[(0,.v (.c (.ptr 0 0))),(1,Bl),(2,.v (.c (.b)))],[Ab]⟩
def r74:List Sch:=[⟨[(0,Gx)],[Ab,.row .y 5]⟩]
def o74 (a0:(I2)×Int×Bt) (a1:Bool) (a2:Ae):Option Em :=
 (bd (α:=Int) (o111 (1:Int) a2) (fun v1=>(cnd (v1 != (0:Int)) (some ((((0:Int),(0:Int),(0:Int)),(0:Int),false,v1),a2,([]:Bt))) (bd (α:=Ae) (bd (α:=Bool) (o114 a0 a1 (1:Int) a2) (fun v2=>(cnd v2 (bd (α:=(((I2)×I3)×Bt)) (o115 a0.2.2) (fun v3=>(some ((a2.1.1,(a2.1.2.1.1,v3.1.1),(v3.1.2.1,v3.1.2.2.1),v3.2,(v3.1.2.2.2==(0:Int))),a2.2)))) (some a2)))) (fun v4=>(bd (α:=Ae) (cnd v4.1.2.2.2.2 (some (((v4.1.1.1,(0:Int),(2:Int),v4.1.1.2.2.2),v4.1.2),v4.2)) (some (((v4.1.1.1,(IntKind.wrap .i64 (v4.1.1.2.1+(1:Int))),(2:Int),v4.1.1.2.2.2),(v4.1.2.1.1,(0:Int),(0:Int)),((0:Int),(0:Int)),([]:Bt),v4.1.2.2.2.2),v4.2))) (fun v5=>(bd (α:=Int) (o116 v5.1.1.1.1 v5.1.1.1.2.1 v5.1.1.1.2.2 v5.1.1.2.1 v5.1.2.2.2.2 v5.1.2.1.2.1 v5.1.2.1.2.2) (fun v7=>(bd (α:=(Int×Ae)) (cnd (v7==(1:Int)) (bd (α:=Ae) (o105 ((((v5.1.1.1.1,v7,v5.1.1.1.2.2),v5.1.1.2),v5.1.2),v5.2)) (fun v8=>(some (v5.1.1.1.2.1,v8)))) (some (v5.1.1.1.2.1,(((v5.1.1.1.1,v7,v5.1.1.1.2.2),v5.1.1.2),v5.1.2),v5.2))) (fun v9=>(bd (α:=Ae) (cnd (v9.1==(1:Int)) (some (v9.2.1,(((v9.2.1.1.1.2.1==(2:Int)),v9.2.2.1.1.2),v9.2.2.1.2),v9.2.2.2)) (some (v9.2.1,((false,v9.2.2.1.1.2),v9.2.2.1.2),v9.2.2.2))) (fun v10=>(bd (α:=Ae) (cnd v10.2.1.1.1 (some ((((v10.1.1.1.1,v10.1.1.1.2.1,(0:Int)),v10.1.1.2),v10.1.2),v10.2)) (some v10)) (fun v11=>(bd (α:=(Bt)) (o33 v11.1.2.2.2.1) (fun v12=>(some (((v11.1.2.1.2.1,v11.1.2.1.2.2,v11.1.2.2.1.1),v11.1.2.2.1.2,v11.1.2.2.2.2,(0:Int)),v11,v12)))))))))))))))))))
def h74:HC:=(.s .d (.s .d (.j false [o74_s0] (.s .d (.s .d (.j false [o74_s0] (.s .d (.s .d (.s .d (.j false [o74_s1] (.s .d (.s (.j false [o74_s0] .d) (.j false [o74_s0] .d)))))))))))))
theorem e74 (t:((I2)×Int×Bt)×Bool×Ae):evF (stpT Tryz.prog T52 K52) Tryz.f74 p74 r74 h74 t=(o74 t.1 t.2.1 t.2.2):=by kernel_rfl
def n74:FSp:=⟨p74,r74,fun t=>(o74 t.1 t.2.1 t.2.2)⟩
theorem fo74:FOk Tryz.prog 74 n74:=fk e74
def T53:Tbl:=(74,n74)::T52
theorem K53:TOk Tryz.prog T53:= .cons K52 fo74
def Gy:BSh:= .cells 179 [.i .u8,.i .i64,.i .i64,.i .i64,.own 9]
abbrev Cl:Type:=(Int×((I3)×Bool×I2)×Ae)×((List (Int×Int×Int×Bt))×I2)×List Bt×List (Int×I4)
abbrev Gz:Type:=((Bool×Int)×((I3)×Bool×I2)×Ae×List (Int×Int×Int×Bt))×((I2)×(I2)×I2)×List Bt×(List (Int×I4))×Bt
abbrev CE:Type:=((((I2)×Int×Bt)×Bool)×((I3)×Bool×I2)×Ae)×((List (Int×Int×Int×Bt))×I2)×List Bt×List (Int×I4)
def o28_s0:Sch:=⟨[],[AB,Ab,Ad,CB,.no,.no,.row (.a .y) 33,Ac]⟩
def o28_s1:Sch:=⟨[(0,.v (.c (.ptr 0 0))),(9,.v (.c (.ptr 6 0))),(10,.v (.c (.b))),(12,.v (.c (.i .u8)))],[AB,Ab,Ad,Al,.no,.no,Gy,.row (.a .y) 33,Ac,.row .y 5]⟩
def p28:Sch:=⟨[(0,.v (.c (.ptr 0 0))),(1,Bl),(2,.v (.c (.b)))],[AB,Ab,Ad,AM,.row (.a .y) 33,Ac]⟩
def r28:List Sch:=[⟨[(0,.v (.c (.i .i64)))],[AB,Ab,Ad,CB,.no,.no,.row (.a .y) 33,Ac]⟩]
def o28 (a0:(I2)×Int×Bt) (a1:Bool) (a2:(I3)×Bool×I2) (a3:Ae) (a4:List (Int×Int×Int×Bt)) (a5:I2) (a6:List Bt) (a7:List (Int×I4)):Option Cl :=
 (bd (α:=Int) (o71 (1:Int) a2 a3 a4 (a5,a6,a7)) (fun v1=>(cnd (v1 != (0:Int)) (some ((v1,a2,a3),(a4,a5),a6,a7)) (bd (α:=Int) (o44 a3) (fun v2=>(bd (α:=Em) (o74 a0 a1 a3) (fun v4=>(cnd (v4.1.2.2.2 != (0:Int)) (some ((v4.1.2.2.2,a2,v4.2.1),(a4,a5),a6,a7)) (bd (α:=Int) (o44 v4.2.1) (fun v5=>(bd (α:=Gz) (cnd (v5 != v2) (bd (α:=AO) (o68 ((a2.1.1,(2:Int),a2.1.2.2),a2.2) v4.2.1 a4 a5 a6 a7) (fun v6=>(some (((v4.1.2.2.1,v5),v6.1.1.1,v6.1.1.2,v6.1.2.1),(v6.1.2.2,(v4.1.1.1,v4.1.1.2.1),v4.1.1.2.2,v4.1.2.1),v6.2.2.1,v6.2.2.2,v4.2.2)))) (some (((v4.1.2.2.1,v5),((a2.1.1,(2:Int),a2.1.2.2),a2.2),v4.2.1,a4),(a5,(v4.1.1.1,v4.1.1.2.1),v4.1.1.2.2,v4.1.2.1),a6,a7,v4.2.2))) (fun v7=>(bd (α:=AV) (cnd (v7.1.1.2==(2:Int)) (cnd v7.1.1.1 (some (((v7.1.2.1.1,(v7.2.1.2.1.1==(1:Int)),v7.2.1.2.2),v7.1.2.2),v7.2.1.1,v7.2.2.1,v7.2.2.2.1)) (some (((v7.1.2.1.1,false,v7.2.1.2.2),v7.1.2.2),v7.2.1.1,v7.2.2.1,v7.2.2.2.1))) (some (((v7.1.2.1.1,false,v7.2.1.2.2),v7.1.2.2),v7.2.1.1,v7.2.2.1,v7.2.2.2.1))) (fun v8=>(some (((0:Int),v8.1.1,v8.1.2.1),(v8.1.2.2,v8.2.1),v8.2.2))))))))))))))))
def h28:HC:=(.s .d (.s .d (.s .d (.s (.r 2) (.s .d (.s .d (.s .d (.j false [o28_s1] (.s .d (.s (.j false [o28_s0] .d) .d))))))))))
theorem e28 (t:CE):evF (stpT Tryz.prog T53 K53) Tryz.f28 p28 r28 h28 t=(o28 t.1.1.1 t.1.1.2 t.1.2.1 t.1.2.2 t.2.1.1 t.2.1.2 t.2.2.1 t.2.2.2):=by kernel_rfl
def n28:FSp:=⟨p28,r28,fun t=>(o28 t.1.1.1 t.1.1.2 t.1.2.1 t.1.2.2 t.2.1.1 t.2.1.2 t.2.2.1 t.2.2.2)⟩
theorem fo28:FOk Tryz.prog 28 n28:=fk e28
def T54:Tbl:=(28,n28)::T53
theorem K54:TOk Tryz.prog T54:= .cons K53 fo28
def AQ:BSh:= .cells 105 [.ifc 60 (.ptr 2 0),.ifc 60 (.ptr 3 0),.ptr 4 0,.cst (.pointer none),.ro .y true,.i .i64,.i .i64,.i .i64,.i .i64,.i .i64,.i .u8,.i .u8,.i .u8,.i .i64,.i .i64,.i .i64,.i .i64]
def Aq:BSh:= .cells 232 [.i .i64,.i .i64,.own 8,.own 9]
def Br:BSh:= .cells 232 [.i .i64,.i .i64,.own 12,.own 13]
abbrev AR:Type:=((Af×I3)×(I3)×((I3)×Bool×I2)×Ae)×((List (Int×Int×Int×Bt))×(I2)×As)×(B2)×List Bt×List (Int×I4)
abbrev BH:Type:=((Af×I3)×(I3)×((I3)×Bool×I2)×Ae)×((List (Int×Int×Int×Bt))×(I2)×List Bt)×(List (Int×I4))×As×B2
def p27:Sch:=⟨[(0,.v (.c (.ic .i64 (0)))),(1,.v (.c (.ptr 0 0))),(2,.v (.c (.ptr 10 0))),(3,.v (.c (.ptr 11 0)))],[.cells 30 [.ptr 1 0],AQ,Aa,Aa,Ak,Ab,Ad,Aq,.row (.a .y) 33,Ac,Am,.cells 34 [.b,.b]]⟩
def r27:List Sch:=[⟨[(0,.tup [])],[.cells 30 [.ptr 1 0],AQ,Aa,Aa,Ak,Ab,Ad,Br,.no,.no,Am,.cells 34 [.b,.b],.row (.a .y) 33,Ac]⟩]
def o27 (a0:Af) (a1:I3) (a2:I3) (a3:(I3)×Bool×I2) (a4:Ae) (a5:List (Int×Int×Int×Bt)) (a6:I2) (a7:List Bt) (a8:List (Int×I4)) (a9:As) (a10:B2):Option AR :=
 (bd (α:=Cl) (o28 a9.1 a10.1 a3 a4 a5 a6 a7 a8) (fun v2=>(some (((a0,a1),a2,v2.1.2),(v2.2.1.1,v2.2.1.2,a9),a10,v2.2.2))))
theorem e27 (t:BH):evF (stpT Tryz.prog T54 K54) Tryz.f27 p27 r27 (.r 2) t=(o27 t.1.1.1 t.1.1.2 t.1.2.1 t.1.2.2.1 t.1.2.2.2 t.2.1.1 t.2.1.2.1 t.2.1.2.2 t.2.2.1 t.2.2.2.1 t.2.2.2.2):=by kernel_rfl
def n27:FSp:=⟨p27,r27,fun t=>(o27 t.1.1.1 t.1.1.2 t.1.2.1 t.1.2.2.1 t.1.2.2.2 t.2.1.1 t.2.1.2.1 t.2.1.2.2 t.2.2.1 t.2.2.2.1 t.2.2.2.2)⟩
theorem fo27:FOk Tryz.prog 27 n27:=fk e27
def T55:Tbl:=(27,n27)::T54
theorem K55:TOk Tryz.prog T55:= .cons K54 fo27
def En:SSh:= .v (.c (.cap (.cap (.cap (.fn 27) (.ptr 9 0)) (.ptr 10 0)) (.ptr 11 0)))
def p26:Sch:=⟨[(0,.v (.c (.ptr 0 0))),(1,En)],[AF,Aa,Aa,Ai,Ab,Ad,Al,.row (.a .y) 33,Ac,.cells 30 [.ptr 0 0],Am,.cells 34 [.b,.b]]⟩
def r26:List Sch:=[⟨[(0,.tup [])],[AF,Aa,Aa,Ai,Ab,Ad,Br,.no,.no,.cells 30 [.ptr 0 0],Am,.cells 34 [.b,.b],.row (.a .y) 33,Ac]⟩]
def o26 (a0:Af) (a1:I3) (a2:I3) (a3:(I3)×Bool×I2) (a4:Ae) (a5:List (Int×Int×Int×Bt)) (a6:I2) (a7:List Bt) (a8:List (Int×I4)) (a9:As) (a10:B2):Option AR :=
 (bd (α:=AR) (o27 a0 a1 a2 a3 a4 a5 a6 a7 a8 a9 a10) (fun v1=>(some v1)))
def h26:HC:=(.s .d (.b (.u 3 (.v .d (.v .d (.v .d .d))))))
theorem e26 (t:BH):evF (stpT Tryz.prog T55 K55) Tryz.f26 p26 r26 h26 t=(o26 t.1.1.1 t.1.1.2 t.1.2.1 t.1.2.2.1 t.1.2.2.2 t.2.1.1 t.2.1.2.1 t.2.1.2.2 t.2.2.1 t.2.2.2.1 t.2.2.2.2):=by kernel_rfl
def n26:FSp:=⟨p26,r26,fun t=>(o26 t.1.1.1 t.1.1.2 t.1.2.1 t.1.2.2.1 t.1.2.2.2 t.2.1.1 t.2.1.2.1 t.2.1.2.2 t.2.2.1 t.2.2.2.1 t.2.2.2.2)⟩
theorem fo26:FOk Tryz.prog 26 n26:=fk e26
def T56:Tbl:=(26,n26)::T55
theorem K56:TOk Tryz.prog T56:= .cons K55 fo26
def o117_s0:Sch:=⟨[(2,.v (.c (.b)))],[AN]⟩
def p117:Sch:=⟨[(0,.v (.c (.ptr 0 0)))],[AN]⟩
def r117:List Sch:=[⟨[(0,.v (.c (.b)))],[.no]⟩]
def o117 (a0:Ae):Option Bool :=
 (bd (α:=(Bool×Ae)) (cnd a0.1.2.2.2.2 (some ((a0.1.2.1.2.1==(3:Int)),a0)) (some (false,a0))) (fun v1=>(some v1.1)))
theorem e117 (t:Ae):evF (stpT Tryz.prog T56 K56) Tryz.f117 p117 r117 (.s .d (.s (.j false [o117_s0] .d) .d)) t=(o117 t):=by kernel_rfl
def n117:FSp:=⟨p117,r117,fun t=>(o117 t)⟩
theorem fo117:FOk Tryz.prog 117 n117:=fk e117
def T57:Tbl:=(117,n117)::T56
theorem K57:TOk Tryz.prog T57:= .cons K56 fo117
def p149:Sch:=⟨[(0,.v (.c (.ro .y false))),(1,.v (.c (.b))),(2,.v (.c (.i .u8))),(3,.v (.c (.ptr 0 0)))],[.cells 33 [.own 1],.row .y 5]⟩
def r149:List Sch:=[⟨[(0,.tup [])],[.cells 33 [.own 2],.no,.row .y 5]⟩]
def o149 (a0:Bt) (a1:Bool) (a2:Int) (a3:Bt):Option (Bt) :=
 (cnd a1 (gd (decide ((0:Int)≤(0:Int)∧(0:Int) < ((a3.length:Nat):Int))) (gd (decide ((0:Int)≤(0:Int)∧(0:Int) < ((a3.length:Nat):Int))) (bd (α:=(Bt)) (o148 ((a0.length:Nat):Int) (2:Int) (List.set a3 ((0:Int).toNat) (u8 (lorK .u8 ((UInt8.toNat (List.getD a3 ((0:Int).toNat) (0:UInt8)):Nat):Int) a2)))) (fun v1=>(gd (decide ((v1.length+a0.length)*1≤140737488355328)) (some (v1++a0))))))) (some a3))
theorem e149 (t:(Bt×Bool)×Int×Bt):evF (stpT Tryz.prog T57 K57) Tryz.f149 p149 r149 .d t=(o149 t.1.1 t.1.2 t.2.1 t.2.2):=by kernel_rfl
def n149:FSp:=⟨p149,r149,fun t=>(o149 t.1.1 t.1.2 t.2.1 t.2.2)⟩
theorem fo149:FOk Tryz.prog 149 n149:=fk e149
def T58:Tbl:=(149,n149)::T57
theorem K58:TOk Tryz.prog T58:= .cons K57 fo149
def o118_s0:Sch:=⟨[(0,.v (.c (.ro .y false))),(1,.v (.c (.b))),(2,.v (.c (.ro .y false))),(3,.v (.c (.b))),(25,.v (.c (.b)))],[]⟩
def p118:Sch:=⟨[(0,.v (.c (.ro .y false))),(1,.v (.c (.b))),(2,.v (.c (.ro .y false))),(3,.v (.c (.b)))],[]⟩
def r118:List Sch:=[⟨[(0,.tup [.c (.own 0),.c (.i .i64)])],[.row .y 5]⟩]
def o118 (a0:Bt) (a1:Bool) (a2:Bt) (a3:Bool):Option (Int×Bt) :=
 (bd (α:=((Bt×Bool)×Bt×B2)) (cnd a1 (cnd (decide (((a0.length:Nat):Int) > (400:Int))) (some ((a0,a1),a2,a3,true)) (cnd a3 (some ((a0,a1),a2,a3,(decide (((a2.length:Nat):Int) > (400:Int))))) (some ((a0,a1),a2,a3,false)))) (cnd a3 (some ((a0,a1),a2,a3,(decide (((a2.length:Nat):Int) > (400:Int))))) (some ((a0,a1),a2,a3,false)))) (fun v1=>(cnd v1.2.2.2 (some ((3:Int),([]:Bt))) (bd (α:=(Bt)) (o149 v1.1.1 v1.1.2 (1:Int) ([(u8 (0:Int))]:Bt)) (fun v2=>(bd (α:=(Bt)) (o149 v1.2.1 v1.2.2.1 (2:Int) v2) (fun v3=>(some ((0:Int),v3)))))))))
def h118:HC:=(.s .d (.s (.s (.j false [o118_s0] .d) .d) .d))
theorem e118 (t:(Bt×Bool)×Bt×Bool):evF (stpT Tryz.prog T58 K58) Tryz.f118 p118 r118 h118 t=(o118 t.1.1 t.1.2 t.2.1 t.2.2):=by kernel_rfl
def n118:FSp:=⟨p118,r118,fun t=>(o118 t.1.1 t.1.2 t.2.1 t.2.2)⟩
theorem fo118:FOk Tryz.prog 118 n118:=fk e118
def T59:Tbl:=(118,n118)::T58
theorem K59:TOk Tryz.prog T59:= .cons K58 fo118
def GA:SSh:= .tup [.c (.own 0),.c (.b),.c (.own 1),.c (.b),.c (.i .i64)]
abbrev GB:Type:=((Bt×Bt)×I2)×(Int×Bool)×Bt×Bt
def o150_s0:Sch:=⟨[(0,.v (.c (.ro .y false))),(19,.v (.c (.b)))],[]⟩
def o150_s1:Sch:=⟨[(0,.v (.c (.ro .y false))),(7,.v (.c (.ro .y false))),(8,.v (.c (.ptr 0 0))),(9,.v (.c (.i .i64))),(10,.v (.c (.i .i64))),(22,.v (.c (.i .i64))),(45,.v (.c (.b)))],[.cells 108 [.own 1,.own 2],.row .y 5,.row .y 5]⟩
def o150_s2:Sch:=⟨[(0,.v (.c (.ro .y false))),(7,.v (.c (.ro .y false))),(8,.v (.c (.ptr 0 0))),(22,.v (.c (.i .i64)))],[.cells 108 [.own 1,.own 2],.row .y 5,.row .y 5]⟩
def p150:Sch:=⟨[(0,.v (.c (.ro .y false)))],[]⟩
def r150:List Sch:=[⟨[(0,GA)],[.row .y 5,.row .y 5]⟩]
def o150_b0 (v4:(Bt×Bt)×Int×Bt×Bt) :=
 (cnd (decide (v4.2.1 < (2:Int))) (gd (decide ((0:Int)≤(0:Int)∧(0:Int) < ((v4.1.1.length:Nat):Int))) (gd (decide ((0:Int)≤v4.2.1)) (cnd ((landK .u8 (shrK .u8 ((UInt8.toNat (List.getD v4.1.1 (0:Int).toNat (0:UInt8)):Nat):Int) v4.2.1) (1:Int))==(0:Int)) (some (Ctl.go (v4.1,(IntKind.wrap .i64 (v4.2.1+(1:Int))),v4.2.2))) (cnd (decide (((v4.1.2.length:Nat):Int) < (2:Int))) (dnO (some ((false,false,(4:Int)),([]:Bt),([]:Bt)))) (bd (α:=Int) (o120 v4.1.2 (2:Int)) (fun v5=>(bd (α:=GB) (cnd (decide (v5 > (400:Int))) (some ((v4.1,v4.2.1,v5),(v4.2.1,true),v4.2.2)) (some ((v4.1,v4.2.1,v5),(v4.2.1,(decide (v5 > (IntKind.wrap .i64 (((v4.1.2.length:Nat):Int) - (2:Int)))))),v4.2.2))) (fun v6=>(cnd v6.2.1.2 (dnO (some ((false,false,(4:Int)),([]:Bt),([]:Bt)))) (bd (α:=((Bt×Bt)×Int×Bt×Bt)) (gd (decide ((0:Int)≤(2:Int)∧(2:Int)≤(IntKind.wrap .i64 ((2:Int)+v6.1.2.2))∧(IntKind.wrap .i64 ((2:Int)+v6.1.2.2))≤((v6.1.1.2.length:Nat):Int))) (bd (α:=(Bt)) (o33 (List.take ((IntKind.wrap .i64 ((2:Int)+v6.1.2.2)).toNat - (2:Int).toNat) (List.drop (2:Int).toNat v6.1.1.2))) (fun v8=>(gd (decide ((0:Int)≤(IntKind.wrap .i64 ((2:Int)+v6.1.2.2))∧(IntKind.wrap .i64 ((2:Int)+v6.1.2.2))≤((v6.1.1.2.length:Nat):Int))) (sm (isZ v6.1.2.1 0) (fun _=>(some ((v6.1.1.1,(List.drop (IntKind.wrap .i64 ((2:Int)+v6.1.2.2)).toNat v6.1.1.2)),v6.2.1.1,v8,v6.2.2.2))) (fun _=>(sm (isZ v6.1.2.1 1) (fun _=>(some ((v6.1.1.1,(List.drop (IntKind.wrap .i64 ((2:Int)+v6.1.2.2)).toNat v6.1.1.2)),v6.2.1.1,v6.2.2.1,v8))) (fun _=>none)))))))) (fun v9=>(some (Ctl.go (v9.1,(IntKind.wrap .i64 (v9.2.1+(1:Int))),v9.2.2)))))))))))))) (dnO (cnd (((v4.1.2.length:Nat):Int) != (0:Int)) (some ((false,false,(4:Int)),([]:Bt),([]:Bt))) (gd (decide ((0:Int)≤(0:Int)∧(0:Int) < ((v4.1.1.length:Nat):Int))) (gd (decide ((0:Int)≤(0:Int)∧(0:Int) < ((v4.1.1.length:Nat):Int))) (some ((((landK .u8 ((UInt8.toNat (List.getD v4.1.1 (0:Int).toNat (0:UInt8)):Nat):Int) (1:Int))==(1:Int)),((landK .u8 ((UInt8.toNat (List.getD v4.1.1 (0:Int).toNat (0:UInt8)):Nat):Int) (2:Int))==(2:Int)),(0:Int)),v4.2.2)))))))
def o150 (a0:Bt):Option ((Bool×Bool×Int)×Bt×Bt) :=
 (bd (α:=(Bt×Bool)) (cnd (((a0.length:Nat):Int)==(0:Int)) (some (a0,true)) (gd (decide ((0:Int)≤(0:Int)∧(0:Int) < ((a0.length:Nat):Int))) (some (a0,(decide (((UInt8.toNat (List.getD a0 (0:Int).toNat (0:UInt8)):Nat):Int) > (3:Int))))))) (fun v1=>(cnd v1.2 (some ((false,false,(4:Int)),([]:Bt),([]:Bt))) (gd (decide ((0:Int)≤(1:Int)∧(1:Int)≤((v1.1.length:Nat):Int))) (loopO (σ:=(Bt×Bt)×Int×Bt×Bt) fuelN o150_b0 ((v1.1,(List.drop (1:Int).toNat v1.1)),(0:Int),([]:Bt),([]:Bt)))))))
def h150:HC:=(.s .d (.s (.s (.j false [o150_s0] .d) .d) (.s .d (.s .d (.s (.s .d (.b (.l [o150_s2] (.s .d (.s .d (.s (.b (.s .d (.s .d (.s .d (.s .d (.s (.s (.j false [o150_s1] .d) .d) (.j false [o150_s2] (.r 1)))))))) .d)))))) .d)))))
theorem e150 (t:Bt):evF (stpT Tryz.prog T59 K59) Tryz.f150 p150 r150 h150 t=(o150 t):=by kernel_rfl
def n150:FSp:=⟨p150,r150,fun t=>(o150 t)⟩
theorem fo150:FOk Tryz.prog 150 n150:=fk e150
def T60:Tbl:=(150,n150)::T59
theorem K60:TOk Tryz.prog T60:= .cons K59 fo150
def o148v1_s0:Sch:=⟨[(0,.v (.c (.own 0))),(1,.v (.c (.i .i64))),(8,.v (.c (.i .i64))),(9,.v (.c (.i .i64)))],[.row .y 5]⟩
def p148v1:Sch:=⟨[(0,.v (.c (.cst (.slice none 0 0)))),(1,.v (.c (.i .i64))),(2,.v (.c (.i .i64)))],[]⟩
def r148v1:List Sch:=[⟨[(0,.v (.c (.own 0)))],[.row .y 5]⟩]
def o148v1_b0 (v2:(I2)×Int×Bt) :=
 (cnd (decide (v2.2.1 < v2.1.2)) (gd (decide ((0:Int)≤(IntKind.wrap .i64 ((8:Int)*v2.2.1)))) (gd (decide ((v2.2.2.length+([(u8 (IntKind.wrap .u8 (shrK .i64 v2.1.1 (IntKind.wrap .i64 ((8:Int)*v2.2.1)))))]:Bt).length)*1≤140737488355328)) (some (Ctl.go (v2.1,(IntKind.wrap .i64 (v2.2.1+(1:Int))),(v2.2.2++([(u8 (IntKind.wrap .u8 (shrK .i64 v2.1.1 (IntKind.wrap .i64 ((8:Int)*v2.2.1)))))]:Bt))))))) (dnO (some v2.2.2)))
def o148v1 (a0:Int) (a1:Int):Option (Bt) :=
 (loopO (σ:=(I2)×Int×Bt) fuelN o148v1_b0 ((a0,a1),(0:Int),([]:Bt)))
def h148v1:HC:=(.s .d (.s (.s .d (.b (.l [o148v1_s0] .d))) .d))
theorem e148v1 (t:I2):evF (stpT Tryz.prog T60 K60) Tryz.f148 p148v1 r148v1 h148v1 t=(o148v1 t.1 t.2):=by kernel_rfl
def n148v1:FSp:=⟨p148v1,r148v1,fun t=>(o148v1 t.1 t.2)⟩
theorem fo148v1:FOk Tryz.prog 148 n148v1:=fk e148v1
def T61:Tbl:=(148,n148v1)::T60
theorem K61:TOk Tryz.prog T61:= .cons K60 fo148v1
def Eo:BSh:= .cells 123 [.i .i64,.i .i64,.b,.ro .y false]
def Ep:SSh:= .v (.agg [.i .i64,.i .i64,.b,.ro .y false])
def o119_s0:Sch:=⟨[(1,.v (.c (.ptr 0 0))),(9,.v (.c (.i .u8)))],[Eo]⟩
def p119:Sch:=⟨[(0,Ep)],[]⟩
def r119:List Sch:=[⟨[(0,.tup [.c (.own 0),.c (.i .i64)])],[.row .y 5]⟩]
def o119 (a0:(I2)×Bool×Bt):Option (Int×Bt) :=
 (cnd (decide (a0.1.1 < (0:Int))) (some ((1:Int),([]:Bt))) (bd (α:=((Bool×Bool×Int)×Bt×Bt)) (o150 a0.2.2) (fun v1=>(cnd (v1.1.2.2 != (0:Int)) (some (v1.1.2.2,([]:Bt))) (bd (α:=(Int×(I2)×Bool×Bt)) (cnd a0.2.1 (some ((1:Int),a0)) (some ((0:Int),a0))) (fun v2=>(bd (α:=(Bt)) (o148v1 v2.2.1.1 (8:Int)) (fun v4=>(gd (decide ((v4.length+([(u8 v2.1)]:Bt).length)*1≤140737488355328)) (gd (decide (((v4++([(u8 v2.1)]:Bt)).length+v2.2.2.2.length)*1≤140737488355328)) (some ((0:Int),((v4++([(u8 v2.1)]:Bt))++v2.2.2.2)))))))))))))
def h119:HC:=(.s .d (.s .d (.s .d (.s .d (.j false [o119_s0] (.s .d (.s (.r 4) .d)))))))
theorem e119 (t:(I2)×Bool×Bt):evF (stpT Tryz.prog T61 K61) Tryz.f119 p119 r119 h119 t=(o119 t):=by kernel_rfl
def n119:FSp:=⟨p119,r119,fun t=>(o119 t)⟩
theorem fo119:FOk Tryz.prog 119 n119:=fk e119
def T62:Tbl:=(119,n119)::T61
theorem K62:TOk Tryz.prog T62:= .cons K61 fo119
def p113v1:Sch:=⟨[(0,.v (.c (.ptr 0 0))),(1,.v (.c (.i .u8))),(2,.v (.c (.own 1)))],[AN,.row .y 5]⟩
def r113v1:List Sch:=[⟨[(0,Ed)],[.no,.row .y 5]⟩]
def o113v1 (a0:Int) (a1:Ae) (a2:Bt):Option ((I3)×Bt) :=
 (some ((a0,(IntKind.wrap .u8 a1.1.1.1.1),a1.1.1.2.2.2),a2))
theorem e113v1 (t:Int×Ae×Bt):evF (stpT Tryz.prog T62 K62) Tryz.f113 p113v1 r113v1 .d t=(o113v1 t.1 t.2.1 t.2.2):=by kernel_rfl
def n113v1:FSp:=⟨p113v1,r113v1,fun t=>(o113v1 t.1 t.2.1 t.2.2)⟩
theorem fo113v1:FOk Tryz.prog 113 n113v1:=fk e113v1
def T63:Tbl:=(113,n113v1)::T62
theorem K63:TOk Tryz.prog T63:= .cons K62 fo113v1
def Eq:SSh:= .tup [.agg [.i .u8,.i .u8,.i .i64,.own 1],.c (.b),.c (.i .i64)]
abbrev DA:Type:=(Ae×(I2)×Int×Bt)×(Bt×Bt)×B2
def o75_s0:Sch:=⟨[(0,.v (.c (.ptr 0 0))),(2,.v (.c (.ptr 1 0))),(6,.v (.c (.ptr 2 0))),(7,.v (.c (.ptr 3 0)))],[Ab,AW,Bm,.cells 34 [.b,.b]]⟩
def p75:Sch:=⟨[(0,.v (.c (.ptr 0 0)))],[Ab]⟩
def r75:List Sch:=[⟨[(0,Eq)],[Ab,.row .y 5]⟩]
def o75 (a0:Ae):Option (((I2)×Int×Bool×Int)×Ae×Bt) :=
 (bd (α:=Int) (o111 (2:Int) a0) (fun v1=>(cnd (v1 != (0:Int)) (some ((((0:Int),(0:Int)),(0:Int),false,v1),a0,([]:Bt))) (cnd (a0.1.1.1.2.1 != (2:Int)) (some ((((0:Int),(0:Int)),(0:Int),false,(0:Int)),(((a0.1.1.1,a0.1.1.2.1,(3:Int),a0.1.1.2.2.2),a0.1.2),a0.2),([]:Bt))) (bd (α:=DA) (sm (isZ (IntKind.wrap .i64 (a0.1.1.1.1 - (1:Int))) 0) (fun _=>(sm (isZ (IntKind.wrap .i64 (a0.1.1.1.1 - (1:Int))) 0) (fun _=>(some (((((a0.1.1.1,a0.1.1.2.1,(3:Int),a0.1.1.2.2.2),a0.1.2),a0.2),((0:Int),(0:Int)),(0:Int),([]:Bt)),(a0.1.2.1.1,([]:Bt)),true,false))) (fun _=>(sm (isZ (IntKind.wrap .i64 (a0.1.1.1.1 - (1:Int))) 1) (fun _=>(some (((((a0.1.1.1,a0.1.1.2.1,(3:Int),a0.1.1.2.2.2),a0.1.2),a0.2),((0:Int),(0:Int)),(0:Int),([]:Bt)),(a0.1.2.1.1,([]:Bt)),false,true))) (fun _=>none))))) (fun _=>(sm (isZ (IntKind.wrap .i64 (a0.1.1.1.1 - (1:Int))) 1) (fun _=>(sm (isZ (IntKind.wrap .i64 (a0.1.1.1.1 - (1:Int))) 0) (fun _=>(some (((((a0.1.1.1,a0.1.1.2.1,(3:Int),a0.1.1.2.2.2),a0.1.2),a0.2),((0:Int),(0:Int)),(0:Int),([]:Bt)),(([]:Bt),a0.1.2.1.1),true,false))) (fun _=>(sm (isZ (IntKind.wrap .i64 (a0.1.1.1.1 - (1:Int))) 1) (fun _=>(some (((((a0.1.1.1,a0.1.1.2.1,(3:Int),a0.1.1.2.2.2),a0.1.2),a0.2),((0:Int),(0:Int)),(0:Int),([]:Bt)),(([]:Bt),a0.1.2.1.1),false,true))) (fun _=>none))))) (fun _=>none)))) (fun v2=>(bd (α:=DA) (bd (α:=Bool) (o117 v2.1.1) (fun v3=>(cnd v3 (bd (α:=DA) (sm (isZ (IntKind.wrap .i64 ((2:Int) - v2.1.1.1.1.1.1)) 0) (fun _=>(sm (isZ (IntKind.wrap .i64 ((2:Int) - v2.1.1.1.1.1.1)) 0) (fun _=>(some (v2.1,(v2.1.1.1.2.2.2.1,v2.2.1.2),true,v2.2.2.2))) (fun _=>(sm (isZ (IntKind.wrap .i64 ((2:Int) - v2.1.1.1.1.1.1)) 1) (fun _=>(some (v2.1,(v2.1.1.1.2.2.2.1,v2.2.1.2),v2.2.2.1,true))) (fun _=>none))))) (fun _=>(sm (isZ (IntKind.wrap .i64 ((2:Int) - v2.1.1.1.1.1.1)) 1) (fun _=>(sm (isZ (IntKind.wrap .i64 ((2:Int) - v2.1.1.1.1.1.1)) 0) (fun _=>(some (v2.1,(v2.2.1.1,v2.1.1.1.2.2.2.1),true,v2.2.2.2))) (fun _=>(sm (isZ (IntKind.wrap .i64 ((2:Int) - v2.1.1.1.1.1.1)) 1) (fun _=>(some (v2.1,(v2.2.1.1,v2.1.1.1.2.2.2.1),v2.2.2.1,true))) (fun _=>none))))) (fun _=>none)))) (fun v4=>(some v4))) (some v2)))) (fun v5=>(bd (α:=(Int×Bt)) (o118 v5.2.1.1 v5.2.2.1 v5.2.1.2 v5.2.2.2) (fun v6=>(bd (α:=(Int×Bt)) (o119 ((v5.1.1.1.1.1.2.2,v5.1.1.1.1.2.2.2),v5.1.1.2.1.1.1,v6.2)) (fun v7=>(bd (α:=((I3)×Bt)) (o113v1 (2:Int) (v5.1.1.1,((v5.1.1.2.1.1.1,v5.1.1.1.1.1.2.2,v5.1.1.1.1.2.2.2),(v5.1.1.2.1.1.1,v6.2),v5.1.1.2.1.2.2),v5.1.1.2.2) v7.2) (fun v8=>(some (((v8.1.1,v8.1.2.1),v8.1.2.2,true,(0:Int)),(v5.1.1.1,((v5.1.1.2.1.1.1,v5.1.1.1.1.1.2.2,v5.1.1.1.1.2.2.2),(v5.1.1.2.1.1.1,v6.2),v5.1.1.2.1.2.2),v5.1.1.2.2),v8.2))))))))))))))))
def h75:HC:=(.s .d (.s .d (.s .d (.s .d (.s .d (.s .d (.s (.j false [o75_s0] .d) (.j false [o75_s0] (.s (.s .d (.c (.j false [o75_s0] .d) .d)) .d)))))))))
theorem e75 (t:Ae):evF (stpT Tryz.prog T63 K63) Tryz.f75 p75 r75 h75 t=(o75 t):=by kernel_rfl
def n75:FSp:=⟨p75,r75,fun t=>(o75 t)⟩
theorem fo75:FOk Tryz.prog 75 n75:=fk e75
def T64:Tbl:=(75,n75)::T63
theorem K64:TOk Tryz.prog T64:= .cons K63 fo75
def DB:SSh:= .tup [.agg [.i .u8,.i .u8,.i .i64,.own 6],.c (.b),.c (.i .i64)]
abbrev Bf:Type:=((((I2)×Int×Bool×Int)×(I3)×Bool×I2)×Ae×List (Int×Int×Int×Bt))×((I2)×List Bt)×(List (Int×I4))×Bt
def p30:Sch:=⟨[(0,.v (.c (.ptr 0 0)))],[AB,Ab,Ad,AM,.row (.a .y) 33,Ac]⟩
def r30:List Sch:=[⟨[(0,DB)],[AB,Ab,Ad,AM,.row (.a .y) 33,Ac,.row .y 5]⟩]
def o30 (a0:(I3)×Bool×I2) (a1:Ae) (a2:List (Int×Int×Int×Bt)) (a3:I2) (a4:List Bt) (a5:List (Int×I4)):Option Bf :=
 (bd (α:=Int) (o71 (2:Int) a0 a1 a2 (a3,a4,a5)) (fun v1=>(cnd (v1 != (0:Int)) (some ((((((0:Int),(0:Int)),(0:Int),false,v1),a0),a1,a2),(a3,a4),a5,([]:Bt))) (bd (α:=(((I2)×Int×Bool×Int)×Ae×Bt)) (o75 a1) (fun v2=>(some (((v2.1,(a0.1.1,(3:Int),a0.1.2.2),a0.2),v2.2.1,a2),(a3,a4),a5,v2.2.2)))))))
theorem e30 (t:AV):evF (stpT Tryz.prog T64 K64) Tryz.f30 p30 r30 .d t=(o30 t.1.1 t.1.2.1 t.1.2.2 t.2.1 t.2.2.1 t.2.2.2):=by kernel_rfl
def n30:FSp:=⟨p30,r30,fun t=>(o30 t.1.1 t.1.2.1 t.1.2.2 t.2.1 t.2.2.1 t.2.2.2)⟩
theorem fo30:FOk Tryz.prog 30 n30:=fk e30
def T65:Tbl:=(30,n30)::T64
theorem K65:TOk Tryz.prog T65:= .cons K64 fo30
def CF:SSh:= .tup [.agg [.i .u8,.i .u8,.i .i64,.own 10],.c (.b)]
abbrev Bs:Type:=((((I2)×Int×Bool)×Af)×(I3)×(I3)×(I3)×Bool×I2)×(Ae×(List (Int×Int×Int×Bt))×I2)×List Bt×(List (Int×I4))×Bt
abbrev BI:Type:=((Af×I3)×(I3)×(I3)×Bool×I2)×(Ae×List (Int×Int×Int×Bt))×(I2)×List Bt×List (Int×I4)
def p29:Sch:=⟨[(0,.v (.c (.ic .i64 (0)))),(1,.v (.c (.ptr 0 0)))],[.cells 30 [.ptr 1 0],AQ,Aa,Aa,Ak,Ab,Ad,Aq,.row (.a .y) 33,Ac]⟩
def r29:List Sch:=[⟨[(0,CF)],[.cells 30 [.ptr 1 0],AQ,Aa,Aa,Ak,Ab,Ad,Aq,.row (.a .y) 33,Ac,.row .y 5]⟩]
def o29 (a0:Af) (a1:I3) (a2:I3) (a3:(I3)×Bool×I2) (a4:Ae) (a5:List (Int×Int×Int×Bt)) (a6:I2) (a7:List Bt) (a8:List (Int×I4)):Option Bs :=
 (bd (α:=Bf) (o30 a3 a4 a5 a6 a7 a8) (fun v1=>(some ((((v1.1.1.1.1,v1.1.1.1.2.1,v1.1.1.1.2.2.1),a0),a1,a2,v1.1.1.2),(v1.1.2.1,v1.1.2.2,v1.2.1.1),v1.2.1.2,v1.2.2))))
theorem e29 (t:BI):evF (stpT Tryz.prog T65 K65) Tryz.f29 p29 r29 .d t=(o29 t.1.1.1 t.1.1.2 t.1.2.1 t.1.2.2 t.2.1.1 t.2.1.2 t.2.2.1 t.2.2.2.1 t.2.2.2.2):=by kernel_rfl
def n29:FSp:=⟨p29,r29,fun t=>(o29 t.1.1.1 t.1.1.2 t.1.2.1 t.1.2.2 t.2.1.1 t.2.1.2 t.2.2.1 t.2.2.2.1 t.2.2.2.2)⟩
theorem fo29:FOk Tryz.prog 29 n29:=fk e29
def T66:Tbl:=(29,n29)::T65
theorem K66:TOk Tryz.prog T66:= .cons K65 fo29
abbrev Bu:Type:=((BU×Af)×(I3)×(I3)×(I3)×Bool×I2)×(Ae×List (Int×Int×Int×Bt))×(I2)×List Bt×List (Int×I4)
abbrev CG:Type:=((Af×(I3)×I3)×((I3)×Bool×I2)×Ae×List (Int×Int×Int×Bt))×((I2)×List Bt×List (Int×I4))×Ao×As×B2
abbrev CH:Type:=((Ao×Af)×(I3)×(I3)×(I3)×Bool×I2)×(Ae×List (Int×Int×Int×Bt))×(I2)×List Bt×List (Int×I4)
def o23v1_s0:Sch:=⟨[(0,.v (.c (.ptr 0 0))),(1,.v (.c (.ic .i64 (1)))),(3,.v (.c (.cap (.fn 29) (.ptr 9 0)))),(6,.v (.c (.ptr 10 0))),(8,.v (.c (.ptr 11 0))),(9,.v (.c (.ptr 12 0))),(15,.v (.c (.ic .i64 (0))))],[AF,Aa,Aa,Ai,Ab,Ad,Al,.row (.a .y) 33,Ac,.cells 30 [.ptr 0 0],Aj,Am,.cells 34 [.b,.b]]⟩
def p23v1:Sch:=⟨[(0,.v (.c (.ptr 0 0))),(1,.v (.c (.ic .i64 (1)))),(2,AP),(3,.v (.c (.cap (.fn 29) (.ptr 9 0))))],[AF,Aa,Aa,Ai,Ab,Ad,Al,.row (.a .y) 33,Ac,.cells 30 [.ptr 0 0]]⟩
def r23v1:List Sch:=[⟨[(0,Bq)],[AF,Aa,Aa,Ai,Ab,Ad,Al,.row (.a .y) 33,Ac,.cells 30 [.ptr 0 0]]⟩]
def o23v1 (a0:Ao) (a1:Af) (a2:I3) (a3:I3) (a4:(I3)×Bool×I2) (a5:Ae) (a6:List (Int×Int×Int×Bt)) (a7:I2) (a8:List Bt) (a9:List (Int×I4)):Option Bu :=
 (bd (α:=CG) (bd (α:=Bs) (o29 a1 a2 a3 a4 a5 a6 a7 a8 a9) (fun v1=>(cnd (!v1.1.1.1.2.2) (some (((v1.1.1.2,v1.1.2.1,v1.1.2.2.1),v1.1.2.2.2,v1.2.1.1,v1.2.1.2.1),(v1.2.1.2.2,v1.2.2.1,v1.2.2.2.1),a0,((((0:Int),(0:Int)),(0:Int),([]:Bt)),((0:Int),(0:Int)),(0:Int),([]:Bt)),false,false)) (bd (α:=(Int×Bt)) (o69 (v1.1.1.1.1,v1.1.1.1.2.1,v1.2.2.2.2)) (fun v2=>(cnd (v2.1 != (0:Int)) (some (((v1.1.1.2,v1.1.2.1,v1.1.2.2.1),v1.1.2.2.2,v1.2.1.1,v1.2.1.2.1),(v1.2.1.2.2,v1.2.2.1,v1.2.2.2.1),a0,((((0:Int),(0:Int)),(0:Int),([]:Bt)),((0:Int),(0:Int)),(0:Int),([]:Bt)),false,false)) (bd (α:=((I2)×Int×Bt×Bool)) (o70 v2.2 (a0.1.2.1.2.2,a0.1.2.2.1) (2:Int) (1:Int) v1.1.1.2.1.2.2.2) (fun v4=>(some (((v1.1.1.2,v1.1.2.1,v1.1.2.2.1),v1.1.2.2.2,v1.2.1.1,v1.2.1.2.1),(v1.2.1.2.2,v1.2.2.1,v1.2.2.2.1),a0,((((0:Int),(0:Int)),(0:Int),([]:Bt)),v4.1,v4.2.1,v4.2.2.1),false,v4.2.2.2)))))))))) (fun v5=>(some (((((v5.2.2.2.1.1.1,v5.2.2.2.1.1.2.1,v5.2.2.2.1.1.2.2,v5.2.2.2.1.2.1.1),(v5.2.2.2.1.2.1.2,v5.2.2.2.1.2.2.1),v5.2.2.2.1.2.2.2,v5.2.2.2.2),v5.1.1.1),v5.1.1.2.1,v5.1.1.2.2,v5.1.2.1),v5.1.2.2,v5.2.1))))
def h23v1:HC:=(.s .d (.s (.s .d (.b (.u 3 (.v (.s .d (.s .d (.j false [o23v1_s0] .d))) (.v .d (.v .d .d)))))) .d))
theorem e23v1 (t:CH):evF (stpT Tryz.prog T66 K66) Tryz.f23 p23v1 r23v1 h23v1 t=(o23v1 t.1.1.1 t.1.1.2 t.1.2.1 t.1.2.2.1 t.1.2.2.2 t.2.1.1 t.2.1.2 t.2.2.1 t.2.2.2.1 t.2.2.2.2):=by kernel_rfl
def n23v1:FSp:=⟨p23v1,r23v1,fun t=>(o23v1 t.1.1.1 t.1.1.2 t.1.2.1 t.1.2.2.1 t.1.2.2.2 t.2.1.1 t.2.1.2 t.2.2.1 t.2.2.2.1 t.2.2.2.2)⟩
theorem fo23v1:FOk Tryz.prog 23 n23v1:=fk e23v1
def T67:Tbl:=(23,n23v1)::T66
theorem K67:TOk Tryz.prog T67:= .cons K66 fo23v1
def BW:BSh:= .cells 123 [.ic .i64 (0),.ic .i64 (0),.b,.cst (.slice none 0 0)]
def GC:SSh:= .tup [.agg [.i .i64,.i .i64,.b,.own 0],.c (.i .i64)]
def o77_s0:Sch:=⟨[(0,.v (.c (.i .i64))),(1,.v (.c (.ro .y false))),(4,.v (.c (.ptr 0 0))),(17,.v (.c (.b)))],[BW]⟩
def p77:Sch:=⟨[(0,.v (.c (.i .i64))),(1,.v (.c (.ro .y false)))],[]⟩
def r77:List Sch:=[⟨[(0,GC)],[.row .y 5]⟩]
def o77 (a0:Int) (a1:Bt):Option (((I2)×Bool×Int)×Bt) :=
 (bd (α:=((Int×Bt)×B2)) (cnd (decide (((a1.length:Nat):Int) < (9:Int))) (some ((a0,a1),true,false)) (gd (decide ((0:Int)≤(8:Int)∧(8:Int) < ((a1.length:Nat):Int))) (some ((a0,a1),(decide (((UInt8.toNat (List.getD a1 (8:Int).toNat (0:UInt8)):Nat):Int) > (1:Int))),false)))) (fun v1=>(cnd v1.2.1 (some ((((0:Int),(0:Int)),false,(4:Int)),([]:Bt))) (bd (α:=Int) (o120 v1.1.2 (8:Int)) (fun v4=>(gd (decide ((0:Int)≤(8:Int)∧(8:Int) < ((v1.1.2.length:Nat):Int))) (gd (decide ((0:Int)≤(9:Int)∧(9:Int)≤((v1.1.2.length:Nat):Int))) (bd (α:=(Bt)) (o33 (List.drop (9:Int).toNat v1.1.2)) (fun v5=>(bd (α:=(Int×Bt)) (o119 ((v4,v1.1.1),(((UInt8.toNat (List.getD v1.1.2 (8:Int).toNat (0:UInt8)):Nat):Int)==(1:Int)),v5)) (fun v6=>(cnd (v6.1 != (0:Int)) (some ((((0:Int),(0:Int)),false,(4:Int)),([]:Bt))) (some (((v4,v1.1.1),(((UInt8.toNat (List.getD v1.1.2 (8:Int).toNat (0:UInt8)):Nat):Int)==(1:Int)),(0:Int)),v5))))))))))))))
def h77:HC:=(.s .d (.s (.s (.j false [o77_s0] .d) .d) (.s (.r 2) .d)))
theorem e77 (t:Int×Bt):evF (stpT Tryz.prog T67 K67) Tryz.f77 p77 r77 h77 t=(o77 t.1 t.2):=by kernel_rfl
def n77:FSp:=⟨p77,r77,fun t=>(o77 t.1 t.2)⟩
theorem fo77:FOk Tryz.prog 77 n77:=fk e77
def T68:Tbl:=(77,n77)::T67
theorem K68:TOk Tryz.prog T68:= .cons K67 fo77
def GD:BSh:= .cells 123 [.i .i64,.i .i64,.b,.own 3]
def GE:SSh:= .tup [.agg [.i .i64,.i .i64,.b,.own 1],.c (.b),.c (.i .i64)]
def o76_s0:Sch:=⟨[(0,.v (.c (.ptr 0 0))),(6,.v (.c (.ptr 1 0))),(10,.v (.c (.ptr 2 0))),(62,.v (.c (.b)))],[Ab,BW,GD,.row .y 5]⟩
def o76_s1:Sch:=⟨[(0,.v (.c (.ptr 0 0))),(6,.v (.c (.ptr 1 0)))],[Ab,BW]⟩
def p76:Sch:=⟨[(0,.v (.c (.ptr 0 0))),(1,Bl),(2,.v (.c (.b)))],[Ab]⟩
def r76:List Sch:=[⟨[(0,GE)],[Ab,.row .y 5]⟩]
def o76 (a0:(I2)×Int×Bt) (a1:Bool) (a2:Ae):Option (((I2)×Bool×Bool×Int)×Ae×Bt) :=
 (bd (α:=Int) (o111 (3:Int) a2) (fun v1=>(cnd (v1 != (0:Int)) (some ((((0:Int),(0:Int)),false,false,v1),a2,([]:Bt))) (bd (α:=(Ae×Bool)) (cnd (a2.1.1.1.2.1==(2:Int)) (some ((((a2.1.1.1,a2.1.1.2.1,(4:Int),a2.1.1.2.2.2),a2.1.2),(a2.2.1.1,a2.2.1.2.1,true,a2.2.1.2.2.2),a2.2.2),false)) (cnd (a2.1.1.1.2.1==(3:Int)) (bd (α:=(Ae×Bool)) (bd (α:=Bool) (o114 a0 a1 (2:Int) (((a2.1.1.1,a2.1.1.2.1,(4:Int),a2.1.1.2.2.2),a2.1.2),a2.2)) (fun v2=>(cnd v2 (bd (α:=(((I2)×Bool×Int)×Bt)) (o77 a2.1.1.2.2.2 a0.2.2) (fun v4=>(bd (α:=((Bool×Ae)×Bool×(Int×Int×Bool)×Bt)) (cnd (v4.1.2.2==(0:Int)) (cnd (!v4.1.2.1) (some (((v4.1.1.1==a2.1.1.1.2.2),((a2.1.1.1,a2.1.1.2.1,(4:Int),a2.1.1.2.2.2),a2.1.2),a2.2),false,(v4.1.1.1,v4.1.1.2,v4.1.2.1),v4.2)) (some ((false,((a2.1.1.1,a2.1.1.2.1,(4:Int),a2.1.1.2.2.2),a2.1.2),a2.2),false,(v4.1.1.1,v4.1.1.2,v4.1.2.1),v4.2))) (some ((false,((a2.1.1.1,a2.1.1.2.1,(4:Int),a2.1.1.2.2.2),a2.1.2),a2.2),false,(v4.1.1.1,v4.1.1.2,v4.1.2.1),v4.2))) (fun v5=>(cnd v5.1.1 (some ((v5.1.2.1,((v5.1.2.2.1.1.1,v5.2.2.1.1,v5.2.2.1.2.1),(v5.2.2.1.2.2,v5.2.2.2),true,v5.1.2.2.1.2.2.2),v5.1.2.2.2),v5.2.1)) (some (v5.1.2,v5.2.1))))))) (some ((((a2.1.1.1,a2.1.1.2.1,(4:Int),a2.1.1.2.2.2),a2.1.2),a2.2),false))))) (fun v6=>(cnd (!v6.1.2.1.2.2.1) (bd (α:=Ae) (o105 v6.1) (fun v7=>(some (v7,v6.2)))) (some v6)))) (some ((((a2.1.1.1,a2.1.1.2.1,(4:Int),a2.1.1.2.2.2),a2.1.2),a2.2),false)))) (fun v8=>(cnd (!v8.1.2.1.2.2.1) (some ((((0:Int),(0:Int)),false,false,(0:Int)),v8.1,([]:Bt))) (bd (α:=(Bt)) (o33 v8.1.2.1.2.1.2) (fun v9=>(some ((v8.1.2.1.1.2,v8.1.2.1.2.1.1,true,(0:Int)),((((v8.1.1.1.1.1,v8.1.1.1.1.2.1,(IntKind.wrap .i64 (v8.1.1.1.1.2.2+(1:Int)))),v8.1.1.1.2),v8.1.1.2),v8.1.2),v9))))))))))
def h76:HC:=(.s .d (.s .d (.s .d (.j false [o76_s1] (.s (.s .d (.b (.s .d (.c .d (.s .d (.c (.j false [o76_s1] (.s (.s .d (.c (.s (.r 2) (.s (.j false [o76_s0] .d) .d)) .d)) .d)) .d)))))) .d)))))
theorem e76 (t:((I2)×Int×Bt)×Bool×Ae):evF (stpT Tryz.prog T68 K68) Tryz.f76 p76 r76 h76 t=(o76 t.1 t.2.1 t.2.2):=by kernel_rfl
def n76:FSp:=⟨p76,r76,fun t=>(o76 t.1 t.2.1 t.2.2)⟩
theorem fo76:FOk Tryz.prog 76 n76:=fk e76
def T69:Tbl:=(76,n76)::T68
theorem K69:TOk Tryz.prog T69:= .cons K68 fo76
abbrev GF:Type:=(Bool×I2)×List Bt×(List (Int×I4))×(I2)×Bool×Bt
abbrev GG:Type:=(((I2)×Bool×Bt)×Bool)×(I2)×List Bt×List (Int×I4)
def o78_s0:Sch:=⟨[(0,.v (.c (.ptr 0 0))),(4,.v (.c (.ptr 3 0))),(49,.v (.c (.b)))],[BT,.row (.a .y) 33,Ac,Eo]⟩
def p78:Sch:=⟨[(0,.v (.c (.ptr 0 0))),(1,Ep),(2,.v (.c (.b)))],[BT,.row (.a .y) 33,Ac]⟩
def r78:List Sch:=[⟨[(0,.tup [])],[Dr,.no,.no,.row (.a .y) 33,Ac]⟩]
def o78 (a0:(I2)×Bool×Bt) (a1:Bool) (a2:I2) (a3:List Bt) (a4:List (Int×I4)):Option AA :=
 (cnd (((a3.length:Nat):Int)==(0:Int)) (some (a2,a3,a4)) (bd (α:=GF) (cnd (!a1) (some ((true,a2),a3,a4,a0)) (cnd (a0.1.1 != (IntKind.wrap .i64 (a2.1+((a4.length:Nat):Int)))) (some ((true,a2),a3,a4,a0)) (cnd a0.2.1 (some ((true,a2),a3,a4,a0)) (some (((decide (((a4.length:Nat):Int)≥((a3.length:Nat):Int))),a2),a3,a4,a0))))) (fun v1=>(cnd v1.1.1 (bd (α:=Ds) (o107 v1.1.2 v1.2.1 v1.2.2.1) (fun v2=>(some (v2.1.1,v2.2.2)))) (bd (α:=(Bt)) (o33 v1.2.2.2.2.2) (fun v3=>(gd (decide ((v1.2.2.1.length+([(v1.2.2.2.1.1,(v1.2.2.2.1.2,(v1.2.2.2.2.1,v3)))]:List (Int×I4)).length)*48≤140737488355328)) (some (v1.1.2,v1.2.1,(v1.2.2.1++([(v1.2.2.2.1.1,(v1.2.2.2.1.2,(v1.2.2.2.2.1,v3)))]:List (Int×I4))))))))))))
def h78:HC:=(.s .d (.s .d (.s (.s (.j false [o78_s0] .d) .d) (.s .d (.r 2)))))
theorem e78 (t:GG):evF (stpT Tryz.prog T69 K69) Tryz.f78 p78 r78 h78 t=(o78 t.1.1 t.1.2 t.2.1 t.2.2.1 t.2.2.2):=by kernel_rfl
def n78:FSp:=⟨p78,r78,fun t=>(o78 t.1.1 t.1.2 t.2.1 t.2.2.1 t.2.2.2)⟩
theorem fo78:FOk Tryz.prog 78 n78:=fk e78
def T70:Tbl:=(78,n78)::T69
theorem K70:TOk Tryz.prog T70:= .cons K69 fo78
def Er:BSh:= .cells 123 [.i .i64,.i .i64,.b,.own 11]
def GH:BSh:= .cells 123 [.i .i64,.i .i64,.b,.own 12]
def GJ:BSh:= .cells 123 [.i .i64,.i .i64,.b,.own 8]
def GK:SSh:= .tup [.agg [.i .i64,.i .i64,.b,.own 6],.c (.b),.c (.i .i64)]
abbrev Cm:Type:=((((I2)×Bool×Bool×Int)×(I3)×Bool×I2)×Ae×List (Int×Int×Int×Bt))×((I2)×Bt)×List Bt×List (Int×I4)
abbrev GL:Type:=((Bool×Int)×((I3)×Bool×I2)×Ae×List (Int×Int×Int×Bt))×((I2)×Bool×Int×Int×Bool)×Bt×List Bt×List (Int×I4)
abbrev GM:Type:=((Bool×Bool×Int)×((I3)×Bool×I2)×Ae×List (Int×Int×Int×Bt))×((I2)×((I2)×Int×Bt)×Bool)×((Int×Int×Bool)×List Bt)×(List (Int×I4))×Bt
abbrev GN:Type:=((Bool×Int×Bool)×(((I3)×Bool×I2)×Ae)×(List (Int×Int×Int×Bt))×I2)×(Bool×(Int×Int×Bool)×Int×Int×Bool)×(List Bt×List (Int×I4))×Bt×Bt
def o32_s0:Sch:=⟨[(0,.v (.c (.ptr 0 0))),(6,.v (.c (.ptr 6 0))),(11,.v (.c (.ptr 7 0))),(12,.v (.c (.b))),(13,.v (.c (.i .i64))),(14,.v (.c (.ptr 8 0))),(16,.v (.c (.b)))],[AB,Ab,Ad,AX,.no,.no,BW,Er,GH,.row (.a .y) 33,Ac,.row .y 5,.row .y 5]⟩
def o32_s1:Sch:=⟨[(0,.v (.c (.ptr 0 0))),(2,.v (.c (.b))),(4,.v (.c (.ptr 6 0))),(6,.v (.c (.ptr 7 0))),(11,.v (.c (.ptr 8 0))),(12,.v (.c (.b))),(13,.v (.c (.i .i64)))],[AB,Ab,Ad,AX,.no,.no,Dx,BW,Er,.row (.a .y) 33,Ac,.row .y 5]⟩
def o32_s2:Sch:=⟨[(6,.v (.c (.ptr 6 0))),(11,.v (.c (.ptr 7 0))),(12,.v (.c (.b))),(13,.v (.c (.i .i64)))],[AB,Ab,Ad,AX,.no,.no,BW,GJ,.row .y 5,.row (.a .y) 33,Ac]⟩
def p32:Sch:=⟨[(0,.v (.c (.ptr 0 0))),(1,Bl),(2,.v (.c (.b)))],[AB,Ab,Ad,AM,.row (.a .y) 33,Ac]⟩
def r32:List Sch:=[⟨[(0,GK)],[AB,Ab,Ad,Al,.no,.no,.row .y 5,.row (.a .y) 33,Ac]⟩]
def o32 (a0:(I2)×Int×Bt) (a1:Bool) (a2:(I3)×Bool×I2) (a3:Ae) (a4:List (Int×Int×Int×Bt)) (a5:I2) (a6:List Bt) (a7:List (Int×I4)):Option Cm :=
 (bd (α:=Int) (o71 (3:Int) a2 a3 a4 (a5,a6,a7)) (fun v1=>(cnd (v1 != (0:Int)) (some ((((((0:Int),(0:Int)),false,false,v1),a2),a3,a4),(a5,([]:Bt)),a6,a7)) (bd (α:=Bool) (o46 ((a2.1.1,(4:Int),a2.1.2.2),a2.2) a3 a4 (a5,a6,a7)) (fun v2=>(bd (α:=(((I2)×Bool×Bool×Int)×Ae×Bt)) (o76 a0 a1 a3) (fun v4=>(bd (α:=GL) (bd (α:=Bool) (o46 ((a2.1.1,(4:Int),a2.1.2.2),a2.2) v4.2.1 a4 (a5,a6,a7)) (fun v5=>(cnd v5 (bd (α:=GM) (cnd (!v2) (bd (α:=AO) (o68 ((a2.1.1,(4:Int),a2.1.2.2),a2.2) v4.2.1 a4 a5 a6 a7) (fun v6=>(some (((a1,v4.1.2.2),v6.1.1.1,v6.1.1.2,v6.1.2.1),(v6.1.2.2,a0,false),((v4.1.1.1,v4.1.1.2,v4.1.2.1),v6.2.2.1),v6.2.2.2,v4.2.2)))) (some (((a1,v4.1.2.2),((a2.1.1,(4:Int),a2.1.2.2),a2.2),v4.2.1,a4),(a5,a0,false),((v4.1.1.1,v4.1.1.2,v4.1.2.1),a6),a7,v4.2.2))) (fun v7=>(bd (α:=(((I2)×Bool×Int)×Bt)) (o77 v7.1.2.1.1.2.2 v7.2.1.2.1.2.2) (fun v9=>(bd (α:=GN) (cnd v7.1.1.1 (cnd (v7.2.1.2.1.1.1==(2:Int)) (cnd (v7.2.1.2.1.1.2==(IntKind.wrap .u8 (IntKind.wrap .i64 ((3:Int) - v7.1.2.1.1.1)))) (cnd (v7.2.1.2.1.2.1==v7.1.2.1.1.2.2) (some (((v7.1.1.2.1,v7.1.1.2.2,(v9.1.2.2==(0:Int))),(v7.1.2.1,v7.1.2.2.1),v7.1.2.2.2,v7.2.1.1),(v7.2.1.2.2,v7.2.2.1.1,v9.1.1.1,v9.1.1.2,v9.1.2.1),(v7.2.2.1.2,v7.2.2.2.1),v7.2.2.2.2,v9.2)) (some (((v7.1.1.2.1,v7.1.1.2.2,false),(v7.1.2.1,v7.1.2.2.1),v7.1.2.2.2,v7.2.1.1),(v7.2.1.2.2,v7.2.2.1.1,v9.1.1.1,v9.1.1.2,v9.1.2.1),(v7.2.2.1.2,v7.2.2.2.1),v7.2.2.2.2,v9.2))) (some (((v7.1.1.2.1,v7.1.1.2.2,false),(v7.1.2.1,v7.1.2.2.1),v7.1.2.2.2,v7.2.1.1),(v7.2.1.2.2,v7.2.2.1.1,v9.1.1.1,v9.1.1.2,v9.1.2.1),(v7.2.2.1.2,v7.2.2.2.1),v7.2.2.2.2,v9.2))) (some (((v7.1.1.2.1,v7.1.1.2.2,false),(v7.1.2.1,v7.1.2.2.1),v7.1.2.2.2,v7.2.1.1),(v7.2.1.2.2,v7.2.2.1.1,v9.1.1.1,v9.1.1.2,v9.1.2.1),(v7.2.2.1.2,v7.2.2.2.1),v7.2.2.2.2,v9.2))) (some (((v7.1.1.2.1,v7.1.1.2.2,false),(v7.1.2.1,v7.1.2.2.1),v7.1.2.2.2,v7.2.1.1),(v7.2.1.2.2,v7.2.2.1.1,v9.1.1.1,v9.1.1.2,v9.1.2.1),(v7.2.2.1.2,v7.2.2.2.1),v7.2.2.2.2,v9.2))) (fun v10=>(bd (α:=AA) (o78 ((v10.2.1.2.2.1,v10.2.1.2.2.2.1),v10.2.1.2.2.2.2,v10.2.2.2.2) v10.1.1.2.2 v10.1.2.2.2 v10.2.2.1.1 v10.2.2.1.2) (fun v12=>(some (((v10.1.1.1,v10.1.1.2.1),v10.1.2.1.1,v10.1.2.1.2,v10.1.2.2.1),(v12.1,v10.2.1.1,v10.2.1.2.1),v10.2.2.2.1,v12.2)))))))))) (some ((v4.1.2.2,((a2.1.1,(4:Int),a2.1.2.2),a2.2),v4.2.1,a4),(a5,false,v4.1.1.1,v4.1.1.2,v4.1.2.1),v4.2.2,a6,a7))))) (fun v13=>(some (((((v13.2.1.2.2.1,v13.2.1.2.2.2.1),v13.2.1.2.2.2.2,v13.1.1),v13.1.2.1),v13.1.2.2),(v13.2.1.1,v13.2.2.1),v13.2.2.2)))))))))))
def h32:HC:=(.s .d (.s .d (.s .d (.s .d (.s (.r 2) (.j false [o32_s2] (.s (.s .d (.c (.j false [o32_s1] (.s .d (.s (.r 2) (.s (.j false [o32_s0] .d) (.r 2))))) .d)) .d)))))))
theorem e32 (t:CE):evF (stpT Tryz.prog T70 K70) Tryz.f32 p32 r32 h32 t=(o32 t.1.1.1 t.1.1.2 t.1.2.1 t.1.2.2 t.2.1.1 t.2.1.2 t.2.2.1 t.2.2.2):=by kernel_rfl
def n32:FSp:=⟨p32,r32,fun t=>(o32 t.1.1.1 t.1.1.2 t.1.2.1 t.1.2.2 t.2.1.1 t.2.1.2 t.2.2.1 t.2.2.2)⟩
theorem fo32:FOk Tryz.prog 32 n32:=fk e32
def T71:Tbl:=(32,n32)::T70
theorem K71:TOk Tryz.prog T71:= .cons K70 fo32
def o137_s0:Sch:=⟨[(3,.v (.c (.i .u64))),(6,.v (.c (.ro .y false))),(7,.v (.c (.i .i64))),(8,.v (.c (.i .i64)))],[]⟩
def p137:Sch:=⟨[(0,.v (.c (.ro .y false)))],[]⟩
def r137:List Sch:=[⟨[(0,.v (.c (.i .i64)))],[]⟩]
def o137_b0 (v2:(Int×Bt)×I2) :=
 (cnd (decide (v2.2.2 < v2.2.1)) (gd (decide ((0:Int)≤v2.2.2∧v2.2.2 < ((v2.1.2.length:Nat):Int))) (gd (decide ((0:Int)≤(IntKind.wrap .i64 ((8:Int)*v2.2.2)))) (some (Ctl.go (((lorK .u64 v2.1.1 (shlK .u64 (IntKind.wrap .u64 ((UInt8.toNat (List.getD v2.1.2 v2.2.2.toNat (0:UInt8)):Nat):Int)) (IntKind.wrap .i64 ((8:Int)*v2.2.2)))),v2.1.2),v2.2.1,(IntKind.wrap .i64 (v2.2.2+(1:Int)))))))) (dnO (some (IntKind.wrap .i64 v2.1.1))))
def o137 (a0:Bt):Option Int :=
 (loopO (σ:=(Int×Bt)×I2) fuelN o137_b0 (((0:Int),a0),((a0.length:Nat):Int),(0:Int)))
def h137:HC:=(.s .d (.s .d (.s (.s .d (.b (.l [o137_s0] .d))) .d)))
theorem e137 (t:Bt):evF (stpT Tryz.prog T71 K71) Tryz.f137 p137 r137 h137 t=(o137 t):=by kernel_rfl
def n137:FSp:=⟨p137,r137,fun t=>(o137 t)⟩
theorem fo137:FOk Tryz.prog 137 n137:=fk e137
def T72:Tbl:=(137,n137)::T71
theorem K72:TOk Tryz.prog T72:= .cons K71 fo137
end
end Go.Proofs.YtpleflcfaecojaaGreat
