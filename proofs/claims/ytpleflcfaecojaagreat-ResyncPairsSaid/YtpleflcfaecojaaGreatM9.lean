/-
What functions compute, printed by wip/h/py. Conditions: each theorem's own.
-/
import Derived.Test.YtpleflcfaecojaaGreatM8
namespace Go.Proofs.YtpleflcfaecojaaGreat
set_option linter.unusedVariables false
set_option linter.unusedSimpArgs false
set_option maxRecDepth 100000
open Go.RowKit
noncomputable section
abbrev Ou:Type:=(Bt×Int)×((I2)×Int×Bt)×(I2)×Int×Bt
def AfL:Sch:=⟨[(0,.v (.c (.own 0))),(2,.v (.c (.ptr 1 0))),(39,.v (.c (.b)))],[.row .y 5,Bi]⟩
def AfM:Sch:=⟨[(0,.v (.c (.ro .y true))),(2,.v (.c (.ptr 0 0))),(6,.v (.c (.ptr 1 0))),(50,.v (.c (.i .i64)))],[Bi,Bi]⟩
def MC (b:Ou) :=
 (cnd (decide (b.1.2 < (8:Int))) (gd (decide ((0:Int)≤(IntKind.wrap .i64 ((2:Int)+b.1.2))∧(IntKind.wrap .i64 ((2:Int)+b.1.2)) < ((b.1.1.length:Nat):Int))) (gd (decide ((0:Int)≤(IntKind.wrap .i64 ((8:Int)*b.1.2)))) (some (Ctl.go ((b.1.1,(IntKind.wrap .i64 (b.1.2+(1:Int)))),b.2.1,b.2.2.1,(lorK .i64 b.2.2.2.1 (IntKind.wrap .i64 (shlK .u64 (IntKind.wrap .u64 ((UInt8.toNat (List.getD b.1.1 (IntKind.wrap .i64 ((2:Int)+b.1.2)).toNat (0:UInt8)):Nat):Int)) (IntKind.wrap .i64 ((8:Int)*b.1.2))))),b.2.2.2.2))))) (dnO (some (b.2.2.1,b.2.2.2.1,b.2.2.2.2,(0:Int)))))
def o110 (d:Bt):Option ((I2)×Int×Bt×Int) :=
 (bd (o147 d) (fun b=>(cnd (b.1 != (0:Int)) (some (((0:Int),(0:Int)),(0:Int),([]:Bt),b.1)) (cnd (decide (((b.2.length:Nat):Int) < (12:Int))) (some (((0:Int),(0:Int)),(0:Int),([]:Bt),(4:Int))) (gd (decide ((0:Int)≤(10:Int)∧(10:Int) < ((b.2.length:Nat):Int))) (gd (decide ((0:Int)≤(11:Int)∧(11:Int) < ((b.2.length:Nat):Int))) (bd (α:=(Bool×Bt×(I2)×Int×Bt)) (cnd (decide ((IntKind.wrap .i64 ((IntKind.wrap .i64 ((UInt8.toNat (List.getD b.2 ((10:Int).toNat) (0:UInt8)):Nat):Int))+(shlK .i64 (IntKind.wrap .i64 ((UInt8.toNat (List.getD b.2 ((11:Int).toNat) (0:UInt8)):Nat):Int)) (8:Int)))) > (1000:Int))) (some (true,b.2,((0:Int),(0:Int)),(0:Int),([]:Bt))) (some ((((b.2.length:Nat):Int) != (IntKind.wrap .i64 ((12:Int)+(IntKind.wrap .i64 ((IntKind.wrap .i64 ((UInt8.toNat (List.getD b.2 ((10:Int).toNat) (0:UInt8)):Nat):Int))+(shlK .i64 (IntKind.wrap .i64 ((UInt8.toNat (List.getD b.2 ((11:Int).toNat) (0:UInt8)):Nat):Int)) (8:Int))))))),b.2,((0:Int),(0:Int)),(0:Int),([]:Bt)))) (fun c=>(cnd c.1 (some (((0:Int),(0:Int)),(0:Int),([]:Bt),(4:Int))) (gd (decide ((0:Int)≤(0:Int)∧(0:Int) < ((c.2.1.length:Nat):Int))) (gd (decide ((0:Int)≤(1:Int)∧(1:Int) < ((c.2.1.length:Nat):Int))) (gd (decide ((0:Int)≤(12:Int)∧(12:Int)≤((c.2.1.length:Nat):Int))) (loopO (σ:=Ou) fuelN MC ((c.2.1,(0:Int)),c.2.2,(((UInt8.toNat (List.getD c.2.1 ((0:Int).toNat) (0:UInt8)):Nat):Int),((UInt8.toNat (List.getD c.2.1 ((1:Int).toNat) (0:UInt8)):Nat):Int)),(0:Int),(List.take (c.2.1.length - (12:Int).toNat) (List.drop ((12:Int).toNat) c.2.1))))))))))))))))
def h110:HC:=(.s .d (.s .d (.s .d (.s .d (.s .d (.s (.s (.j false [AfL] .d) .d) (.s (.r 1) (.s (.s .d (.b (.l [AfM] .d))) .d))))))))
def T46:Tbl:=(110,⟨⟨[(0,.v (.c (.ro .y false)))],[]⟩,[⟨[(0,Oq)],[]⟩],fun t=>(o110 t)⟩)::T45
theorem K46:TK T46:=kc K45 Tryz.f110 h110 fun t=>by kernel_rfl
abbrev Ov:Type:=Bool×((I2)×Int×Bt)×(I2)×Int×Bt
def Ajo:Sch:=⟨[(10,.v (.c (.ptr 0 0))),(14,.v (.c (.ptr 1 0))),(49,.v (.c (.b)))],[Bi,Bi]⟩
def o70 (e:Bt) (f:Bool×I2) (g:Int) (h:Int) (i:Int):Option ((I2)×Int×Bt×Bool) :=
 (bd (o109 e f) (fun d=>(cnd (!d.1) (some (((0:Int),(0:Int)),(0:Int),([]:Bt),false)) (bd (o110 d.2) (fun b=>(bd (α:=Ov) (cnd (b.2.2.2 != (0:Int)) (some (true,(((0:Int),(0:Int)),(0:Int),([]:Bt)),b.1,b.2.1,b.2.2.1)) (cnd (b.1.1 != g) (some (true,(((0:Int),(0:Int)),(0:Int),([]:Bt)),b.1,b.2.1,b.2.2.1)) (cnd (b.1.2 != h) (some (true,(((0:Int),(0:Int)),(0:Int),([]:Bt)),b.1,b.2.1,b.2.2.1)) (some ((b.2.1 != i),(((0:Int),(0:Int)),(0:Int),([]:Bt)),b.1,b.2.1,b.2.2.1))))) (fun c=>(cnd c.1 (some (((0:Int),(0:Int)),(0:Int),([]:Bt),false)) (some (c.2.2.1,c.2.2.2.1,c.2.2.2.2,true))))))))))
def h70:HC:=(.s .d (.s .d (.s .d (.s .d (.s (.s (.j false [Ajo] .d) .d) .d)))))
def T47:Tbl:=(70,⟨⟨[(0,.v (.c (.ro .y false))),(1,.v (.agg [.b,.i .i64,.i .u32])),(2,.v (.c (.i .u8))),(3,.v (.c (.i .u8))),(4,.v (.c (.i .i64)))],[]⟩,[⟨[(0,DP)],[]⟩],fun t=>(o70 t.1.1 t.1.2 t.2.1 t.2.2.1 t.2.2.2)⟩)::T46
theorem K47:TK T47:=kc K46 Tryz.f70 h70 fun t=>by kernel_rfl
def GX:SSh:= .v (.c (.cap (.cap (.fn 24) (.ptr 9 0)) (.ptr 10 0)))
def AZ:BSh:= .cells 105 [.ifc 60 (.ptr 1 0),.ifc 60 (.ptr 2 0),.ptr 3 0,.cst (.pointer none),.ro .y true,.i .i64,.i .i64,.i .i64,.i .i64,.i .i64,.i .u8,.i .u8,.i .u8,.i .i64,.i .i64,.i .i64,.i .i64]
def Ak:BSh:= .cells 137 [.i .i64,.ptr 4 0,.ptr 5 0,.ptr 6 0,.i .i64,.i .i64,.b,.i .i64,.i .i64]
def Am:BSh:= .cells 232 [.i .i64,.i .i64,.own 7,.own 8]
def Bn:BSh:= .cells 108 [.ro .y true,.ro .y true]
def Ao:BSh:= .cells 42 [.b,.b,.b,.b,.b,.b,.i .i64,.i .i64,.b,.i .i64,.i .u32,.b,.i .i64,.i .u32,.b,.i .i64,.i .u32,.b,.i .i64,.i .u32,.b,.i .i64,.i .u32,.b,.i .i64,.i .u32,.b,.i .i64,.i .u32,.b,.i .i64,.i .u32]
def Al:BSh:= .cells 111 [.i .u8,.i .u8,.i .i64,.ro .y true,.i .u8,.i .u8,.i .i64,.ro .y true]
def Bo:SSh:= .v (.agg [.b,.b,.b,.b,.b,.b,.i .i64,.i .i64,.b,.i .i64,.i .u32,.b,.i .i64,.i .u32,.b,.i .i64,.i .u32,.b,.i .i64,.i .u32,.b,.i .i64,.i .u32,.b,.i .i64,.i .u32,.b,.i .i64,.i .u32,.b,.i .i64,.i .u32])
def Ch:SSh:= .tup [.agg [.i .u8,.i .u8,.i .i64,.ro .y true,.i .u8,.i .u8,.i .i64,.ro .y true],.agg [.b,.b]]
abbrev Aq:Type:=((((B2)×B2)×(B2)×I2)×((Bool×Int)×Int×Bool)×(I2)×Bool×Int)×(((Int×Bool)×I2)×(Bool×Int)×Int×Bool)×((I2)×Bool×Int)×(Int×Bool)×I2
abbrev Ex:Type:=((I2)×Int×Bt×Int)×(I2)×Bt×B2
abbrev JM:Type:=((Ex×Ag)×(I3)×(I3)×(I3)×Bool×I2)×(Ae×(List (Int×Int×Int×Bt))×I2)×List Bt×(List (Int×I4))×Bt×Bt
abbrev Ar:Type:=((I2)×Int×Bt)×(I2)×Int×Bt
abbrev JN:Type:=((Ag×(I3)×I3)×((I3)×Bool×I2)×Ae×List (Int×Int×Int×Bt))×((I2)×List Bt×List (Int×I4))×((Bt×Bt)×Aq)×Ar×B2
def Ow (b:JN):Option JM :=
 (some (((((b.2.2.2.1.1.1,b.2.2.2.1.1.2.1,b.2.2.2.1.1.2.2,b.2.2.2.1.2.1.1),(b.2.2.2.1.2.1.2,b.2.2.2.1.2.2.1),b.2.2.2.1.2.2.2,b.2.2.2.2),b.1.1.1),b.1.1.2.1,b.1.1.2.2,b.1.2.1),(b.1.2.2.1,b.1.2.2.2,b.2.1.1),b.2.1.2.1,b.2.1.2.2,b.2.2.1.1))
def Ajp:Sch:=⟨[(0,.v (.c (.ptr 0 0))),(1,.v (.c (.ic .i64 (0)))),(3,GX),(6,.v (.c (.ptr 11 0))),(8,.v (.c (.ptr 12 0))),(9,.v (.c (.ptr 13 0))),(15,.v (.c (.ic .i64 (0))))],[AZ,Aa,Aa,Ak,Ab,Ad,Am,.row (.a .y) 33,Ac,Bn,.cells 30 [.ptr 0 0],Ao,Al,.cells 34 [.b,.b]]⟩
def o23 (c:Aq) (g:Ag) (h:I3) (i:I3) (j:(I3)×Bool×I2) (k:Ae) (l:List (Int×Int×Int×Bt)) (m:I2) (n:List Bt) (o:List (Int×I4)) (d:Bt×Bt):Option JM :=
 (bd (α:=JN) (bd (o24 d g h i j k l m n o) (fun b=>(cnd (!b.1.1.1.2.2.2) (some (((b.1.1.2,b.1.2.1,b.1.2.2.1),b.1.2.2.2,b.2.1),b.2.2,(d,c),((((0:Int),(0:Int)),(0:Int),([]:Bt)),((0:Int),(0:Int)),(0:Int),([]:Bt)),false,false)) (bd (o69 (b.1.1.1.1,b.1.1.1.2.1,b.1.1.1.2.2.1)) (fun f=>(cnd (f.1 != (0:Int)) (some (((b.1.1.2,b.1.2.1,b.1.2.2.1),b.1.2.2.2,b.2.1),b.2.2,(d,c),((((0:Int),(0:Int)),(0:Int),([]:Bt)),((0:Int),(0:Int)),(0:Int),([]:Bt)),false,false)) (bd (o70 f.2 (c.1.2.1.1.1,c.1.2.1.1.2,c.1.2.1.2.1) (1:Int) (1:Int) b.1.1.2.1.2.2.2) (fun e=>(some (((b.1.1.2,b.1.2.1,b.1.2.2.1),b.1.2.2.2,b.2.1),b.2.2,(d,c),((((0:Int),(0:Int)),(0:Int),([]:Bt)),e.1,e.2.1,e.2.2.1),false,e.2.2.2)))))))))) Ow)
def h23:HC:=(.s .d (.s (.s .d (.b (.u 3 (.v (.s .d (.s .d (.j false [Ajp] .d))) (.v .d (.v .d .d)))))) .d))
def T48:Tbl:=(23,⟨⟨[(0,.v (.c (.ptr 0 0))),(1,.v (.c (.ic .i64 (0)))),(2,Bo),(3,GX)],[AZ,Aa,Aa,Ak,Ab,Ad,Am,.row (.a .y) 33,Ac,Bn,.cells 30 [.ptr 0 0]]⟩,[⟨[(0,Ch)],[AZ,Aa,Aa,Ak,Ab,Ad,Am,.row (.a .y) 33,Ac,Bn,.cells 30 [.ptr 0 0]]⟩],fun t=>(o23 t.1.1.1 t.1.1.2 t.1.2.1 t.1.2.2.1 t.1.2.2.2 t.2.1.1 t.2.1.2.1 t.2.1.2.2 t.2.2.1 t.2.2.2.1 t.2.2.2.2)⟩)::T47
theorem K48:TK T48:=kc K47 Tryz.f23 h23 fun t=>by kernel_rfl
def AfN:Sch:=⟨[(8,.v (.c (.b)))],[AG]⟩
def o114 (c:(I2)×Int×Bt) (d:Bool) (e:Int) (b:Ae):Option Bool :=
 (bd (α:=(Bool×Ae)) (cnd d (cnd (c.1.1==e) (cnd (c.1.2==(IntKind.wrap .u8 (IntKind.wrap .i64 ((3:Int) - b.1.1.1.1)))) (some ((c.2.1==b.1.1.2.2.2),b)) (some (false,b))) (some (false,b))) (some (false,b))) (fun f=>(some f.1)))
def T49:Tbl:=(114,⟨⟨[(0,.v (.c (.ptr 0 0))),(1,BI),(2,.v (.c (.b))),(3,.v (.c (.i .u8)))],[AG]⟩,[⟨[(0,.v (.c (.b)))],[.no]⟩],fun t=>(o114 t.1.1 t.1.2 t.2.1 t.2.2)⟩)::T48
theorem K49:TK T49:=kc K48 Tryz.f114 (.s .d (.s (.j false [AfN] .d) .d)) fun t=>by kernel_rfl
def AfO:Sch:=⟨[(0,.v (.c (.ro .y false))),(5,.v (.c (.i .u64))),(7,.v (.c (.i .i64))),(8,.v (.c (.i .i64)))],[]⟩
def AfP (b:(Bt×Int)×I2) :=
 (cnd (decide (b.2.2 < b.2.1)) (gd (decide ((0:Int)≤b.2.2∧b.2.2 < ((b.1.1.length:Nat):Int))) (gd (decide ((0:Int)≤(IntKind.wrap .i64 ((8:Int)*b.2.2)))) (some (Ctl.go ((b.1.1,(lorK .u64 b.1.2 (shlK .u64 (IntKind.wrap .u64 ((UInt8.toNat (List.getD b.1.1 b.2.2.toNat (0:UInt8)):Nat):Int)) (IntKind.wrap .i64 ((8:Int)*b.2.2))))),b.2.1,(IntKind.wrap .i64 (b.2.2+(1:Int)))))))) (dnO (some (IntKind.wrap .i64 b.1.2))))
def o120 (b:Bt) (c:Int):Option Int :=
 (loopO (σ:=(Bt×Int)×I2) fuelN AfP ((b,(0:Int)),c,(0:Int)))
def h120:HC:=(.s .d (.s .d (.s (.s .d (.b (.l [AfO] .d))) .d)))
def T50:Tbl:=(120,⟨⟨[(0,.v (.c (.ro .y false))),(1,.v (.c (.i .i64)))],[]⟩,[⟨[(0,.v (.c (.i .i64)))],[]⟩],fun t=>(o120 t.1 t.2)⟩)::T49
theorem K50:TK T50:=kc K49 Tryz.f120 h120 fun t=>by kernel_rfl
def JO:BSh:= .cells 179 [.ic .u8 (0),.ic .i64 (0),.ic .i64 (0),.ic .i64 (0),.cst (.slice none 0 0)]
def Ox:SSh:= .tup [.agg [.i .u8,.i .i64,.i .i64,.i .i64,.own 0],.c (.i .i64)]
def AfQ:Sch:=⟨[(0,.v (.c (.ro .y false))),(2,.v (.c (.ptr 0 0))),(14,.v (.c (.b)))],[JO]⟩
def o115 (c:Bt):Option (((I2)×I3)×Bt) :=
 (bd (α:=(Bt×Bool)) (cnd (decide (((c.length:Nat):Int) < (19:Int))) (some (c,true)) (some (c,(decide (((c.length:Nat):Int) > (419:Int)))))) (fun b=>(cnd b.2 (some ((((0:Int),(0:Int)),(0:Int),(0:Int),(4:Int)),([]:Bt))) (gd (decide ((0:Int)≤(0:Int)∧(0:Int) < ((b.1.length:Nat):Int))) (gd (decide ((0:Int)≤(1:Int)∧(1:Int)≤((b.1.length:Nat):Int))) (bd (o120 (List.drop (1:Int).toNat b.1) (8:Int)) (fun d=>(gd (decide ((0:Int)≤(9:Int)∧(9:Int)≤((b.1.length:Nat):Int))) (bd (o120 (List.drop (9:Int).toNat b.1) (8:Int)) (fun e=>(gd (decide ((0:Int)≤(17:Int)∧(17:Int)≤((b.1.length:Nat):Int))) (bd (o120 (List.drop (17:Int).toNat b.1) (2:Int)) (fun f=>(gd (decide ((0:Int)≤(19:Int)∧(19:Int)≤((b.1.length:Nat):Int))) (bd (o33 (List.drop (19:Int).toNat b.1)) (fun g=>(bd (o112 ((((UInt8.toNat (List.getD b.1 (0:Int).toNat (0:UInt8)):Nat):Int),d),e,f,g)) (fun h=>(cnd (h.1 != (0:Int)) (some ((((0:Int),(0:Int)),(0:Int),(0:Int),(4:Int)),([]:Bt))) (some (((((UInt8.toNat (List.getD b.1 (0:Int).toNat (0:UInt8)):Nat):Int),d),e,f,(0:Int)),g)))))))))))))))))))))
def h115:HC:=(.s .d (.s (.s (.j false [AfQ] .d) .d) (.s (.r 2) .d)))
def T51:Tbl:=(115,⟨⟨[(0,.v (.c (.ro .y false)))],[]⟩,[⟨[(0,Ox)],[.row .y 5]⟩],fun t=>(o115 t)⟩)::T50
theorem K51:TK T51:=kc K50 Tryz.f115 h115 fun t=>by kernel_rfl
def JP (b:(I2)×Int×Int×Bool):Option Int :=
 (cnd b.2.2.2 (some (2:Int)) (cnd (b.2.1==(2:Int)) (cnd (b.2.2.1==b.1.2) (some (3:Int)) (some (1:Int))) (cnd (decide (b.2.2.1 > b.1.2)) (some (1:Int)) (bd (α:=Bool) (cnd (decide (b.2.2.1 < b.1.2)) (some true) (some (b.1.1==(1:Int)))) (fun c=>(cnd c (some (2:Int)) (some (3:Int))))))))
def AfR:Sch:=⟨[(36,.v (.c (.b)))],[]⟩
def AfS:Sch:=⟨[(0,.v (.c (.i .i64))),(2,.v (.c (.i .i64))),(5,.v (.c (.i .u8))),(6,.v (.c (.i .i64))),(39,.v (.c (.b)))],[]⟩
def AfT:Sch:=⟨[(60,.v (.c (.b)))],[]⟩
def AfU:Sch:=⟨[(88,.v (.c (.b)))],[]⟩
def o116 (c:Int) (g:Int) (d:Int) (h:Int) (e:Bool) (b:Int) (f:Int):Option Int :=
 (cnd (g==(2:Int)) (bd (α:=Bool) (cnd e (cnd (b==(2:Int)) (cnd (decide (f > d)) (some true) (cnd (f==d) (some (c==(2:Int))) (some false))) (some false)) (some false)) (fun i=>(cnd i (some (1:Int)) (some (2:Int))))) (cnd (g==(3:Int)) (bd (α:=((I2)×Int×Int×Bool)) (cnd (!e) (some ((c,d),b,f,true)) (cnd (b != (2:Int)) (some ((c,d),b,f,(b != (3:Int)))) (some ((c,d),b,f,false)))) JP) (bd (α:=Bool) (cnd (!e) (cnd (decide (h≥(3:Int))) (some true) (cnd e (cnd (b != (2:Int)) (cnd (b != (3:Int)) (some (c==(1:Int))) (some false)) (some false)) (some false))) (cnd e (cnd (b != (2:Int)) (cnd (b != (3:Int)) (some (c==(1:Int))) (some false)) (some false)) (some false))) (fun j=>(cnd j (some (2:Int)) (some (1:Int)))))))
def h116:HC:=(.s .d (.s (.s .d (.b (.s .d (.c (.s (.s (.j false [AfR] .d) .d) .d) (.s .d (.c (.s (.b (.s (.j false [AfS] .d) (.c .d (.s .d (.c .d (.s .d (.c .d (.s (.j false [AfT] .d) .d)))))))) .d) .d)))))) (.s (.s (.j false [AfU] .d) .d) .d)))
def T52:Tbl:=(116,⟨⟨[(0,.v (.c (.i .i64))),(1,.v (.c (.i .u8))),(2,.v (.c (.i .i64))),(3,.v (.c (.i .i64))),(4,.v (.c (.b))),(5,.v (.c (.i .u8))),(6,.v (.c (.i .i64)))],[]⟩,[⟨[(0,.v (.c (.i .u8)))],[]⟩],fun t=>(o116 t.1.1 t.1.2.1 t.1.2.2 t.2.1.1 t.2.1.2 t.2.2.1 t.2.2.2)⟩)::T51
theorem K52:TK T52:=kc K51 Tryz.f116 h116 fun t=>by kernel_rfl
def YF:SSh:= .tup [.agg [.i .u8,.i .i64,.i .i64,.i .i64,.own 1],.c (.b),.c (.i .i64)]
abbrev YG:Type:=((I3)×Int×Bool×Int)×Ae×Bt
def MD:Sch:=⟨[(0,.v (.c (.ptr 0 0))),(6,.v (.c (.ptr 1 0)))],[Ab,JO]⟩
def Ajq:Sch:=⟨[(0,.v (.c (.ptr 0 0))),(6,.v (.c (.ptr 1 0))),(12,.v (.c (.i .u8)))],[Ab,JO]⟩
def o74 (j:(I2)×Int×Bt) (l:Bool) (e:Ae):Option YG :=
 (bd (o111 (1:Int) e) (fun k=>(cnd (k != (0:Int)) (some ((((0:Int),(0:Int),(0:Int)),(0:Int),false,k),e,([]:Bt))) (bd (α:=Ae) (bd (o114 j l (1:Int) e) (fun m=>(cnd m (bd (α:=(((I2)×I3)×Bt)) (o115 j.2.2) (fun h=>(some ((e.1.1,(e.1.2.1.1,h.1.1),(h.1.2.1,h.1.2.2.1),h.2,(h.1.2.2.2==(0:Int))),e.2)))) (some e)))) (fun c=>(bd (α:=Ae) (cnd c.1.2.2.2.2 (some (((c.1.1.1,(0:Int),(2:Int),c.1.1.2.2.2),c.1.2),c.2)) (some (((c.1.1.1,(IntKind.wrap .i64 (c.1.1.2.1+(1:Int))),(2:Int),c.1.1.2.2.2),(c.1.2.1.1,(0:Int),(0:Int)),((0:Int),(0:Int)),([]:Bt),c.1.2.2.2.2),c.2))) (fun b=>(bd (o116 b.1.1.1.1 b.1.1.1.2.1 b.1.1.1.2.2 b.1.1.2.1 b.1.2.2.2.2 b.1.2.1.2.1 b.1.2.1.2.2) (fun i=>(bd (α:=(Int×Ae)) (cnd (i==(1:Int)) (bd (o105 ((((b.1.1.1.1,i,b.1.1.1.2.2),b.1.1.2),b.1.2),b.2)) (fun n=>(some (b.1.1.1.2.1,n)))) (some (b.1.1.1.2.1,(((b.1.1.1.1,i,b.1.1.1.2.2),b.1.1.2),b.1.2),b.2))) (fun d=>(bd (α:=Ae) (cnd (d.1==(1:Int)) (some (d.2.1,(((d.2.1.1.1.2.1==(2:Int)),d.2.2.1.1.2),d.2.2.1.2),d.2.2.2)) (some (d.2.1,((false,d.2.2.1.1.2),d.2.2.1.2),d.2.2.2))) (fun f=>(bd (α:=Ae) (cnd f.2.1.1.1 (some ((((f.1.1.1.1,f.1.1.1.2.1,(0:Int)),f.1.1.2),f.1.2),f.2)) (some f)) (fun g=>(bd (o33 g.1.2.2.2.1) (fun o=>(some (((g.1.2.1.2.1,g.1.2.1.2.2,g.1.2.2.1.1),g.1.2.2.1.2,g.1.2.2.2.2,(0:Int)),g,o)))))))))))))))))))
def h74:HC:=(.s .d (.s .d (.j false [MD] (.s .d (.s .d (.j false [MD] (.s .d (.s .d (.s .d (.j false [Ajq] (.s .d (.s (.j false [MD] .d) (.j false [MD] .d)))))))))))))
def T53:Tbl:=(74,⟨⟨[(0,.v (.c (.ptr 0 0))),(1,BI),(2,.v (.c (.b)))],[Ab]⟩,[⟨[(0,YF)],[Ab,.row .y 5]⟩],fun t=>(o74 t.1 t.2.1 t.2.2)⟩)::T52
theorem K53:TK T53:=kc K52 Tryz.f74 h74 fun t=>by kernel_rfl
def YH:BSh:= .cells 179 [.i .u8,.i .i64,.i .i64,.i .i64,.own 9]
abbrev YI:Type:=(Int×((I3)×Bool×I2)×Ae)×((List (Int×Int×Int×Bt))×I2)×List Bt×List (Int×I4)
abbrev YJ:Type:=((Bool×Int)×((I3)×Bool×I2)×Ae×List (Int×Int×Int×Bt))×((I2)×(I2)×I2)×List Bt×(List (Int×I4))×Bt
def Ajr:Sch:=⟨[],[AQ,Ab,Ad,GV,.no,.no,.row (.a .y) 33,Ac]⟩
def Ajs:Sch:=⟨[(0,.v (.c (.ptr 0 0))),(9,.v (.c (.ptr 6 0))),(10,.v (.c (.b))),(12,.v (.c (.i .u8)))],[AQ,Ab,Ad,Am,.no,.no,YH,.row (.a .y) 33,Ac,.row .y 5]⟩
def o28 (n:(I2)×Int×Bt) (o:Bool) (d:(I3)×Bool×I2) (k:Ae) (f:List (Int×Int×Int×Bt)) (g:I2) (h:List Bt) (i:List (Int×I4)):Option YI :=
 (bd (o71 (1:Int) d k f (g,h,i)) (fun m=>(cnd (m != (0:Int)) (some ((m,d,k),(f,g),h,i)) (bd (o44 k) (fun p=>(bd (o74 n o k) (fun c=>(cnd (c.1.2.2.2 != (0:Int)) (some ((c.1.2.2.2,d,c.2.1),(f,g),h,i)) (bd (o44 c.2.1) (fun l=>(bd (α:=YJ) (cnd (l != p) (bd (o68 ((d.1.1,(2:Int),d.1.2.2),d.2) c.2.1 f g h i) (fun e=>(some (((c.1.2.2.1,l),e.1.1.1,e.1.1.2,e.1.2.1),(e.1.2.2,(c.1.1.1,c.1.1.2.1),c.1.1.2.2,c.1.2.1),e.2.2.1,e.2.2.2,c.2.2)))) (some (((c.1.2.2.1,l),((d.1.1,(2:Int),d.1.2.2),d.2),c.2.1,f),(g,(c.1.1.1,c.1.1.2.1),c.1.1.2.2,c.1.2.1),h,i,c.2.2))) (fun b=>(bd (α:=BQ) (cnd (b.1.1.2==(2:Int)) (cnd b.1.1.1 (some (((b.1.2.1.1,(b.2.1.2.1.1==(1:Int)),b.2.1.2.2),b.1.2.2),b.2.1.1,b.2.2.1,b.2.2.2.1)) (some (((b.1.2.1.1,false,b.2.1.2.2),b.1.2.2),b.2.1.1,b.2.2.1,b.2.2.2.1))) (some (((b.1.2.1.1,false,b.2.1.2.2),b.1.2.2),b.2.1.1,b.2.2.1,b.2.2.2.1))) (fun j=>(some (((0:Int),j.1.1,j.1.2.1),(j.1.2.2,j.2.1),j.2.2))))))))))))))))
def h28:HC:=(.s .d (.s .d (.s .d (.s (.r 2) (.s .d (.s .d (.s .d (.j false [Ajs] (.s .d (.s (.j false [Ajr] .d) .d))))))))))
def T54:Tbl:=(28,⟨⟨[(0,.v (.c (.ptr 0 0))),(1,BI),(2,.v (.c (.b)))],[AQ,Ab,Ad,Bp,.row (.a .y) 33,Ac]⟩,[⟨[(0,.v (.c (.i .i64)))],[AQ,Ab,Ad,GV,.no,.no,.row (.a .y) 33,Ac]⟩],fun t=>(o28 t.1.1.1 t.1.1.2 t.1.2.1 t.1.2.2 t.2.1.1 t.2.1.2 t.2.2.1 t.2.2.2)⟩)::T53
theorem K54:TK T54:=kc K53 Tryz.f28 h28 fun t=>by kernel_rfl
def BJ:BSh:= .cells 105 [.ifc 60 (.ptr 2 0),.ifc 60 (.ptr 3 0),.ptr 4 0,.cst (.pointer none),.ro .y true,.i .i64,.i .i64,.i .i64,.i .i64,.i .i64,.i .u8,.i .u8,.i .u8,.i .i64,.i .i64,.i .i64,.i .i64]
def Ax:BSh:= .cells 232 [.i .i64,.i .i64,.own 8,.own 9]
def Dm:BSh:= .cells 232 [.i .i64,.i .i64,.own 12,.own 13]
abbrev Dn:Type:=((Ag×I3)×(I3)×((I3)×Bool×I2)×Ae)×((List (Int×Int×Int×Bt))×(I2)×Ar)×(B2)×List Bt×List (Int×I4)
def o27 (e:Ag) (f:I3) (g:I3) (h:(I3)×Bool×I2) (i:Ae) (j:List (Int×Int×Int×Bt)) (k:I2) (l:List Bt) (m:List (Int×I4)) (c:Ar) (d:B2):Option Dn :=
 (bd (o28 c.1 d.1 h i j k l m) (fun b=>(some (((e,f),g,b.1.2),(b.2.1.1,b.2.1.2,c),d,b.2.2))))
def T55:Tbl:=(27,⟨⟨[(0,.v (.c (.ic .i64 (0)))),(1,.v (.c (.ptr 0 0))),(2,.v (.c (.ptr 10 0))),(3,.v (.c (.ptr 11 0)))],[.cells 30 [.ptr 1 0],BJ,Aa,Aa,Ap,Ab,Ad,Ax,.row (.a .y) 33,Ac,Al,.cells 34 [.b,.b]]⟩,[⟨[(0,.tup [])],[.cells 30 [.ptr 1 0],BJ,Aa,Aa,Ap,Ab,Ad,Dm,.no,.no,Al,.cells 34 [.b,.b],.row (.a .y) 33,Ac]⟩],fun t=>(o27 t.1.1.1 t.1.1.2 t.1.2.1 t.1.2.2.1 t.1.2.2.2 t.2.1.1 t.2.1.2.1 t.2.1.2.2 t.2.2.1 t.2.2.2.1 t.2.2.2.2)⟩)::T54
theorem K55:TK T55:=kc K54 Tryz.f27 (.r 2) fun t=>by kernel_rfl
def Oy:SSh:= .v (.c (.cap (.cap (.cap (.fn 27) (.ptr 9 0)) (.ptr 10 0)) (.ptr 11 0)))
def o26 (b:Ag) (c:I3) (d:I3) (e:(I3)×Bool×I2) (f:Ae) (g:List (Int×Int×Int×Bt)) (h:I2) (i:List Bt) (j:List (Int×I4)) (k:Ar) (l:B2):Option Dn :=
 (bd (o27 b c d e f g h i j k l) (fun m=>(some m)))
def h26:HC:=(.s .d (.b (.u 3 (.v .d (.v .d (.v .d .d))))))
def T56:Tbl:=(26,⟨⟨[(0,.v (.c (.ptr 0 0))),(1,Oy)],[AZ,Aa,Aa,Ak,Ab,Ad,Am,.row (.a .y) 33,Ac,.cells 30 [.ptr 0 0],Al,.cells 34 [.b,.b]]⟩,[⟨[(0,.tup [])],[AZ,Aa,Aa,Ak,Ab,Ad,Dm,.no,.no,.cells 30 [.ptr 0 0],Al,.cells 34 [.b,.b],.row (.a .y) 33,Ac]⟩],fun t=>(o26 t.1.1.1 t.1.1.2 t.1.2.1 t.1.2.2.1 t.1.2.2.2 t.2.1.1 t.2.1.2.1 t.2.1.2.2 t.2.2.1 t.2.2.2.1 t.2.2.2.2)⟩)::T55
theorem K56:TK T56:=kc K55 Tryz.f26 h26 fun t=>by kernel_rfl
def AfV:Sch:=⟨[(2,.v (.c (.b)))],[AG]⟩
def o117 (b:Ae):Option Bool :=
 (bd (α:=(Bool×Ae)) (cnd b.1.2.2.2.2 (some ((b.1.2.1.2.1==(3:Int)),b)) (some (false,b))) (fun c=>(some c.1)))
def T57:Tbl:=(117,⟨⟨[(0,.v (.c (.ptr 0 0)))],[AG]⟩,[⟨[(0,.v (.c (.b)))],[.no]⟩],fun t=>(o117 t)⟩)::T56
theorem K57:TK T57:=kc K56 Tryz.f117 (.s .d (.s (.j false [AfV] .d) .d)) fun t=>by kernel_rfl
def o149 (c:Bt) (e:Bool) (f:Int) (b:Bt):Option (Bt) :=
 (cnd e (gd (decide ((0:Int)≤(0:Int)∧(0:Int) < ((b.length:Nat):Int))) (gd (decide ((0:Int)≤(0:Int)∧(0:Int) < ((b.length:Nat):Int))) (bd (o148 ((c.length:Nat):Int) (2:Int) (List.set b ((0:Int).toNat) (u8 (lorK .u8 ((UInt8.toNat (List.getD b ((0:Int).toNat) (0:UInt8)):Nat):Int) f)))) (fun d=>(gd (decide ((d.length+c.length)*1≤140737488355328)) (some (d++c))))))) (some b))
def T58:Tbl:=(149,⟨⟨[(0,.v (.c (.ro .y false))),(1,.v (.c (.b))),(2,.v (.c (.i .u8))),(3,.v (.c (.ptr 0 0)))],[.cells 33 [.own 1],.row .y 5]⟩,[⟨[(0,.tup [])],[.cells 33 [.own 2],.no,.row .y 5]⟩],fun t=>(o149 t.1.1 t.1.2 t.2.1 t.2.2)⟩)::T57
theorem K58:TK T58:=kc K57 Tryz.f149 .d fun t=>by kernel_rfl
def AfW:Sch:=⟨[(0,.v (.c (.ro .y false))),(1,.v (.c (.b))),(2,.v (.c (.ro .y false))),(3,.v (.c (.b))),(25,.v (.c (.b)))],[]⟩
def o118 (d:Bt) (e:Bool) (b:Bt) (c:Bool):Option (Int×Bt) :=
 (bd (α:=((Bt×Bool)×Bt×B2)) (cnd e (cnd (decide (((d.length:Nat):Int) > (400:Int))) (some ((d,e),b,c,true)) (cnd c (some ((d,e),b,c,(decide (((b.length:Nat):Int) > (400:Int))))) (some ((d,e),b,c,false)))) (cnd c (some ((d,e),b,c,(decide (((b.length:Nat):Int) > (400:Int))))) (some ((d,e),b,c,false)))) (fun f=>(cnd f.2.2.2 (some ((3:Int),([]:Bt))) (bd (o149 f.1.1 f.1.2 (1:Int) ([(u8 (0:Int))]:Bt)) (fun g=>(bd (o149 f.2.1 f.2.2.1 (2:Int) g) (fun h=>(some ((0:Int),h)))))))))
def h118:HC:=(.s .d (.s (.s (.j false [AfW] .d) .d) .d))
def T59:Tbl:=(118,⟨⟨[(0,.v (.c (.ro .y false))),(1,.v (.c (.b))),(2,.v (.c (.ro .y false))),(3,.v (.c (.b)))],[]⟩,[⟨[(0,.tup [.c (.own 0),.c (.i .i64)])],[.row .y 5]⟩],fun t=>(o118 t.1.1 t.1.2 t.2.1 t.2.2)⟩)::T58
theorem K59:TK T59:=kc K58 Tryz.f118 h118 fun t=>by kernel_rfl
def Oz:SSh:= .tup [.c (.own 0),.c (.b),.c (.own 1),.c (.b),.c (.i .i64)]
abbrev YK:Type:=((Bt×Bt)×I2)×(Int×Bool)×Bt×Bt
def AfX:Sch:=⟨[(0,.v (.c (.ro .y false))),(19,.v (.c (.b)))],[]⟩
def AfY:Sch:=⟨[(0,.v (.c (.ro .y false))),(7,.v (.c (.ro .y false))),(8,.v (.c (.ptr 0 0))),(9,.v (.c (.i .i64))),(10,.v (.c (.i .i64))),(22,.v (.c (.i .i64))),(45,.v (.c (.b)))],[.cells 108 [.own 1,.own 2],.row .y 5,.row .y 5]⟩
def TL:Sch:=⟨[(0,.v (.c (.ro .y false))),(7,.v (.c (.ro .y false))),(8,.v (.c (.ptr 0 0))),(22,.v (.c (.i .i64)))],[.cells 108 [.own 1,.own 2],.row .y 5,.row .y 5]⟩
def IQ (b:(Bt×Bt)×Int×Bt×Bt) :=
 (cnd (decide (b.2.1 < (2:Int))) (gd (decide ((0:Int)≤(0:Int)∧(0:Int) < ((b.1.1.length:Nat):Int))) (gd (decide ((0:Int)≤b.2.1)) (cnd ((landK .u8 (shrK .u8 ((UInt8.toNat (List.getD b.1.1 (0:Int).toNat (0:UInt8)):Nat):Int) b.2.1) (1:Int))==(0:Int)) (some (Ctl.go (b.1,(IntKind.wrap .i64 (b.2.1+(1:Int))),b.2.2))) (cnd (decide (((b.1.2.length:Nat):Int) < (2:Int))) (dnO (some ((false,false,(4:Int)),([]:Bt),([]:Bt)))) (bd (o120 b.1.2 (2:Int)) (fun d=>(bd (α:=YK) (cnd (decide (d > (400:Int))) (some ((b.1,b.2.1,d),(b.2.1,true),b.2.2)) (some ((b.1,b.2.1,d),(b.2.1,(decide (d > (IntKind.wrap .i64 (((b.1.2.length:Nat):Int) - (2:Int)))))),b.2.2))) (fun c=>(cnd c.2.1.2 (dnO (some ((false,false,(4:Int)),([]:Bt),([]:Bt)))) (bd (α:=((Bt×Bt)×Int×Bt×Bt)) (gd (decide ((0:Int)≤(2:Int)∧(2:Int)≤(IntKind.wrap .i64 ((2:Int)+c.1.2.2))∧(IntKind.wrap .i64 ((2:Int)+c.1.2.2))≤((c.1.1.2.length:Nat):Int))) (bd (o33 (List.take ((IntKind.wrap .i64 ((2:Int)+c.1.2.2)).toNat - (2:Int).toNat) (List.drop (2:Int).toNat c.1.1.2))) (fun f=>(gd (decide ((0:Int)≤(IntKind.wrap .i64 ((2:Int)+c.1.2.2))∧(IntKind.wrap .i64 ((2:Int)+c.1.2.2))≤((c.1.1.2.length:Nat):Int))) (sm (isZ c.1.2.1 0) (fun _=>(some ((c.1.1.1,(List.drop (IntKind.wrap .i64 ((2:Int)+c.1.2.2)).toNat c.1.1.2)),c.2.1.1,f,c.2.2.2))) (fun _=>(sm (isZ c.1.2.1 1) (fun _=>(some ((c.1.1.1,(List.drop (IntKind.wrap .i64 ((2:Int)+c.1.2.2)).toNat c.1.1.2)),c.2.1.1,c.2.2.1,f))) (fun _=>none)))))))) (fun e=>(some (Ctl.go (e.1,(IntKind.wrap .i64 (e.2.1+(1:Int))),e.2.2)))))))))))))) (dnO (cnd (((b.1.2.length:Nat):Int) != (0:Int)) (some ((false,false,(4:Int)),([]:Bt),([]:Bt))) (gd (decide ((0:Int)≤(0:Int)∧(0:Int) < ((b.1.1.length:Nat):Int))) (gd (decide ((0:Int)≤(0:Int)∧(0:Int) < ((b.1.1.length:Nat):Int))) (some ((((landK .u8 ((UInt8.toNat (List.getD b.1.1 (0:Int).toNat (0:UInt8)):Nat):Int) (1:Int))==(1:Int)),((landK .u8 ((UInt8.toNat (List.getD b.1.1 (0:Int).toNat (0:UInt8)):Nat):Int) (2:Int))==(2:Int)),(0:Int)),b.2.2)))))))
def o150 (b:Bt):Option ((Bool×Bool×Int)×Bt×Bt) :=
 (bd (α:=(Bt×Bool)) (cnd (((b.length:Nat):Int)==(0:Int)) (some (b,true)) (gd (decide ((0:Int)≤(0:Int)∧(0:Int) < ((b.length:Nat):Int))) (some (b,(decide (((UInt8.toNat (List.getD b (0:Int).toNat (0:UInt8)):Nat):Int) > (3:Int))))))) (fun c=>(cnd c.2 (some ((false,false,(4:Int)),([]:Bt),([]:Bt))) (gd (decide ((0:Int)≤(1:Int)∧(1:Int)≤((c.1.length:Nat):Int))) (loopO (σ:=(Bt×Bt)×Int×Bt×Bt) fuelN IQ ((c.1,(List.drop (1:Int).toNat c.1)),(0:Int),([]:Bt),([]:Bt)))))))
def h150:HC:=(.s .d (.s (.s (.j false [AfX] .d) .d) (.s .d (.s .d (.s (.s .d (.b (.l [TL] (.s .d (.s .d (.s (.b (.s .d (.s .d (.s .d (.s .d (.s (.s (.j false [AfY] .d) .d) (.j false [TL] (.r 1)))))))) .d)))))) .d)))))
def T60:Tbl:=(150,⟨⟨[(0,.v (.c (.ro .y false)))],[]⟩,[⟨[(0,Oz)],[.row .y 5,.row .y 5]⟩],fun t=>(o150 t)⟩)::T59
theorem K60:TK T60:=kc K59 Tryz.f150 h150 fun t=>by kernel_rfl
def VW:Sch:=⟨[(0,.v (.c (.own 0))),(1,.v (.c (.i .i64))),(8,.v (.c (.i .i64))),(9,.v (.c (.i .i64)))],[.row .y 5]⟩
def VX (b:(I2)×Int×Bt) :=
 (cnd (decide (b.2.1 < b.1.2)) (gd (decide ((0:Int)≤(IntKind.wrap .i64 ((8:Int)*b.2.1)))) (gd (decide ((b.2.2.length+([(u8 (IntKind.wrap .u8 (shrK .i64 b.1.1 (IntKind.wrap .i64 ((8:Int)*b.2.1)))))]:Bt).length)*1≤140737488355328)) (some (Ctl.go (b.1,(IntKind.wrap .i64 (b.2.1+(1:Int))),(b.2.2++([(u8 (IntKind.wrap .u8 (shrK .i64 b.1.1 (IntKind.wrap .i64 ((8:Int)*b.2.1)))))]:Bt))))))) (dnO (some b.2.2)))
def JQ (b:Int) (c:Int):Option (Bt) :=
 (loopO (σ:=(I2)×Int×Bt) fuelN VX ((b,c),(0:Int),([]:Bt)))
def Ajt:HC:=(.s .d (.s (.s .d (.b (.l [VW] .d))) .d))
def T61:Tbl:=(148,⟨⟨[(0,.v (.c (.cst (.slice none 0 0)))),(1,.v (.c (.i .i64))),(2,.v (.c (.i .i64)))],[]⟩,[⟨[(0,.v (.c (.own 0)))],[.row .y 5]⟩],fun t=>(JQ t.1 t.2)⟩)::T60
theorem K61:TK T61:=kc K60 Tryz.f148 Ajt fun t=>by kernel_rfl
def OA:BSh:= .cells 123 [.i .i64,.i .i64,.b,.ro .y false]
def OB:SSh:= .v (.agg [.i .i64,.i .i64,.b,.ro .y false])
def AfZ:Sch:=⟨[(1,.v (.c (.ptr 0 0))),(9,.v (.c (.i .u8)))],[OA]⟩
def o119 (c:(I2)×Bool×Bt):Option (Int×Bt) :=
 (cnd (decide (c.1.1 < (0:Int))) (some ((1:Int),([]:Bt))) (bd (o150 c.2.2) (fun e=>(cnd (e.1.2.2 != (0:Int)) (some (e.1.2.2,([]:Bt))) (bd (α:=(Int×(I2)×Bool×Bt)) (cnd c.2.1 (some ((1:Int),c)) (some ((0:Int),c))) (fun b=>(bd (JQ b.2.1.1 (8:Int)) (fun d=>(gd (decide ((d.length+([(u8 b.1)]:Bt).length)*1≤140737488355328)) (gd (decide (((d++([(u8 b.1)]:Bt)).length+b.2.2.2.length)*1≤140737488355328)) (some ((0:Int),((d++([(u8 b.1)]:Bt))++b.2.2.2)))))))))))))
def h119:HC:=(.s .d (.s .d (.s .d (.s .d (.j false [AfZ] (.s .d (.s (.r 4) .d)))))))
def T62:Tbl:=(119,⟨⟨[(0,OB)],[]⟩,[⟨[(0,.tup [.c (.own 0),.c (.i .i64)])],[.row .y 5]⟩],fun t=>(o119 t)⟩)::T61
theorem K62:TK T62:=kc K61 Tryz.f119 h119 fun t=>by kernel_rfl
def SL (c:Int) (b:Ae) (d:Bt):Option ((I3)×Bt) :=
 (some ((c,(IntKind.wrap .u8 b.1.1.1.1),b.1.1.2.2.2),d))
def T63:Tbl:=(113,⟨⟨[(0,.v (.c (.ptr 0 0))),(1,.v (.c (.i .u8))),(2,.v (.c (.own 1)))],[AG,.row .y 5]⟩,[⟨[(0,Oo)],[.no,.row .y 5]⟩],fun t=>(SL t.1 t.2.1 t.2.2)⟩)::T62
theorem K63:TK T63:=kc K62 Tryz.f113 .d fun t=>by kernel_rfl
def OC:SSh:= .tup [.agg [.i .u8,.i .u8,.i .i64,.own 1],.c (.b),.c (.i .i64)]
abbrev JR:Type:=(Ae×(I2)×Int×Bt)×(Bt×Bt)×B2
def SM:Sch:=⟨[(0,.v (.c (.ptr 0 0))),(2,.v (.c (.ptr 1 0))),(6,.v (.c (.ptr 2 0))),(7,.v (.c (.ptr 3 0)))],[Ab,Bi,Bn,.cells 34 [.b,.b]]⟩
def o75 (b:Ae):Option (((I2)×Int×Bool×Int)×Ae×Bt) :=
 (bd (o111 (2:Int) b) (fun g=>(cnd (g != (0:Int)) (some ((((0:Int),(0:Int)),(0:Int),false,g),b,([]:Bt))) (cnd (b.1.1.1.2.1 != (2:Int)) (some ((((0:Int),(0:Int)),(0:Int),false,(0:Int)),(((b.1.1.1,b.1.1.2.1,(3:Int),b.1.1.2.2.2),b.1.2),b.2),([]:Bt))) (bd (α:=JR) (sm (isZ (IntKind.wrap .i64 (b.1.1.1.1 - (1:Int))) 0) (fun _=>(sm (isZ (IntKind.wrap .i64 (b.1.1.1.1 - (1:Int))) 0) (fun _=>(some (((((b.1.1.1,b.1.1.2.1,(3:Int),b.1.1.2.2.2),b.1.2),b.2),((0:Int),(0:Int)),(0:Int),([]:Bt)),(b.1.2.1.1,([]:Bt)),true,false))) (fun _=>(sm (isZ (IntKind.wrap .i64 (b.1.1.1.1 - (1:Int))) 1) (fun _=>(some (((((b.1.1.1,b.1.1.2.1,(3:Int),b.1.1.2.2.2),b.1.2),b.2),((0:Int),(0:Int)),(0:Int),([]:Bt)),(b.1.2.1.1,([]:Bt)),false,true))) (fun _=>none))))) (fun _=>(sm (isZ (IntKind.wrap .i64 (b.1.1.1.1 - (1:Int))) 1) (fun _=>(sm (isZ (IntKind.wrap .i64 (b.1.1.1.1 - (1:Int))) 0) (fun _=>(some (((((b.1.1.1,b.1.1.2.1,(3:Int),b.1.1.2.2.2),b.1.2),b.2),((0:Int),(0:Int)),(0:Int),([]:Bt)),(([]:Bt),b.1.2.1.1),true,false))) (fun _=>(sm (isZ (IntKind.wrap .i64 (b.1.1.1.1 - (1:Int))) 1) (fun _=>(some (((((b.1.1.1,b.1.1.2.1,(3:Int),b.1.1.2.2.2),b.1.2),b.2),((0:Int),(0:Int)),(0:Int),([]:Bt)),(([]:Bt),b.1.2.1.1),false,true))) (fun _=>none))))) (fun _=>none)))) (fun c=>(bd (α:=JR) (bd (o117 c.1.1) (fun h=>(cnd h (bd (α:=JR) (sm (isZ (IntKind.wrap .i64 ((2:Int) - c.1.1.1.1.1.1)) 0) (fun _=>(sm (isZ (IntKind.wrap .i64 ((2:Int) - c.1.1.1.1.1.1)) 0) (fun _=>(some (c.1,(c.1.1.1.2.2.2.1,c.2.1.2),true,c.2.2.2))) (fun _=>(sm (isZ (IntKind.wrap .i64 ((2:Int) - c.1.1.1.1.1.1)) 1) (fun _=>(some (c.1,(c.1.1.1.2.2.2.1,c.2.1.2),c.2.2.1,true))) (fun _=>none))))) (fun _=>(sm (isZ (IntKind.wrap .i64 ((2:Int) - c.1.1.1.1.1.1)) 1) (fun _=>(sm (isZ (IntKind.wrap .i64 ((2:Int) - c.1.1.1.1.1.1)) 0) (fun _=>(some (c.1,(c.2.1.1,c.1.1.1.2.2.2.1),true,c.2.2.2))) (fun _=>(sm (isZ (IntKind.wrap .i64 ((2:Int) - c.1.1.1.1.1.1)) 1) (fun _=>(some (c.1,(c.2.1.1,c.1.1.1.2.2.2.1),c.2.2.1,true))) (fun _=>none))))) (fun _=>none)))) (fun i=>(some i))) (some c)))) (fun d=>(bd (o118 d.2.1.1 d.2.2.1 d.2.1.2 d.2.2.2) (fun f=>(bd (o119 ((d.1.1.1.1.1.2.2,d.1.1.1.1.2.2.2),d.1.1.2.1.1.1,f.2)) (fun j=>(bd (SL (2:Int) (d.1.1.1,((d.1.1.2.1.1.1,d.1.1.1.1.1.2.2,d.1.1.1.1.2.2.2),(d.1.1.2.1.1.1,f.2),d.1.1.2.1.2.2),d.1.1.2.2) j.2) (fun e=>(some (((e.1.1,e.1.2.1),e.1.2.2,true,(0:Int)),(d.1.1.1,((d.1.1.2.1.1.1,d.1.1.1.1.1.2.2,d.1.1.1.1.2.2.2),(d.1.1.2.1.1.1,f.2),d.1.1.2.1.2.2),d.1.1.2.2),e.2))))))))))))))))
def h75:HC:=(.s .d (.s .d (.s .d (.s .d (.s .d (.s .d (.s (.j false [SM] .d) (.j false [SM] (.s (.s .d (.c (.j false [SM] .d) .d)) .d)))))))))
def T64:Tbl:=(75,⟨⟨[(0,.v (.c (.ptr 0 0)))],[Ab]⟩,[⟨[(0,OC)],[Ab,.row .y 5]⟩],fun t=>(o75 t)⟩)::T63
theorem K64:TK T64:=kc K63 Tryz.f75 h75 fun t=>by kernel_rfl
def JS:SSh:= .tup [.agg [.i .u8,.i .u8,.i .i64,.own 6],.c (.b),.c (.i .i64)]
abbrev JT:Type:=((((I2)×Int×Bool×Int)×(I3)×Bool×I2)×Ae×List (Int×Int×Int×Bt))×((I2)×List Bt)×(List (Int×I4))×Bt
def o30 (b:(I3)×Bool×I2) (c:Ae) (d:List (Int×Int×Int×Bt)) (e:I2) (f:List Bt) (g:List (Int×I4)):Option JT :=
 (bd (o71 (2:Int) b c d (e,f,g)) (fun i=>(cnd (i != (0:Int)) (some ((((((0:Int),(0:Int)),(0:Int),false,i),b),c,d),(e,f),g,([]:Bt))) (bd (α:=(((I2)×Int×Bool×Int)×Ae×Bt)) (o75 c) (fun h=>(some (((h.1,(b.1.1,(3:Int),b.1.2.2),b.2),h.2.1,d),(e,f),g,h.2.2)))))))
def T65:Tbl:=(30,⟨⟨[(0,.v (.c (.ptr 0 0)))],[AQ,Ab,Ad,Bp,.row (.a .y) 33,Ac]⟩,[⟨[(0,JS)],[AQ,Ab,Ad,Bp,.row (.a .y) 33,Ac,.row .y 5]⟩],fun t=>(o30 t.1.1 t.1.2.1 t.1.2.2 t.2.1 t.2.2.1 t.2.2.2)⟩)::T64
theorem K65:TK T65:=kc K64 Tryz.f30 .d fun t=>by kernel_rfl
def GY:SSh:= .tup [.agg [.i .u8,.i .u8,.i .i64,.own 10],.c (.b)]
abbrev Ey:Type:=((((I2)×Int×Bool)×Ag)×(I3)×(I3)×(I3)×Bool×I2)×(Ae×(List (Int×Int×Int×Bt))×I2)×List Bt×(List (Int×I4))×Bt
abbrev OD:Type:=((Ag×I3)×(I3)×(I3)×Bool×I2)×(Ae×List (Int×Int×Int×Bt))×(I2)×List Bt×List (Int×I4)
def o29 (c:Ag) (d:I3) (e:I3) (f:(I3)×Bool×I2) (g:Ae) (h:List (Int×Int×Int×Bt)) (i:I2) (j:List Bt) (k:List (Int×I4)):Option Ey :=
 (bd (o30 f g h i j k) (fun b=>(some ((((b.1.1.1.1,b.1.1.1.2.1,b.1.1.1.2.2.1),c),d,e,b.1.1.2),(b.1.2.1,b.1.2.2,b.2.1.1),b.2.1.2,b.2.2))))
def T66:Tbl:=(29,⟨⟨[(0,.v (.c (.ic .i64 (0)))),(1,.v (.c (.ptr 0 0)))],[.cells 30 [.ptr 1 0],BJ,Aa,Aa,Ap,Ab,Ad,Ax,.row (.a .y) 33,Ac]⟩,[⟨[(0,GY)],[.cells 30 [.ptr 1 0],BJ,Aa,Aa,Ap,Ab,Ad,Ax,.row (.a .y) 33,Ac,.row .y 5]⟩],fun t=>(o29 t.1.1.1 t.1.1.2 t.1.2.1 t.1.2.2 t.2.1.1 t.2.1.2 t.2.2.1 t.2.2.2.1 t.2.2.2.2)⟩)::T65
theorem K66:TK T66:=kc K65 Tryz.f29 .d fun t=>by kernel_rfl
abbrev GZ:Type:=((Ex×Ag)×(I3)×(I3)×(I3)×Bool×I2)×(Ae×List (Int×Int×Int×Bt))×(I2)×List Bt×List (Int×I4)
abbrev Ha:Type:=((Ag×(I3)×I3)×((I3)×Bool×I2)×Ae×List (Int×Int×Int×Bt))×((I2)×List Bt×List (Int×I4))×Aq×Ar×B2
def YL:Sch:=⟨[(0,.v (.c (.ptr 0 0))),(1,.v (.c (.ic .i64 (1)))),(3,.v (.c (.cap (.fn 29) (.ptr 9 0)))),(6,.v (.c (.ptr 10 0))),(8,.v (.c (.ptr 11 0))),(9,.v (.c (.ptr 12 0))),(15,.v (.c (.ic .i64 (0))))],[AZ,Aa,Aa,Ak,Ab,Ad,Am,.row (.a .y) 33,Ac,.cells 30 [.ptr 0 0],Ao,Al,.cells 34 [.b,.b]]⟩
def OE (d:Aq) (g:Ag) (h:I3) (i:I3) (j:(I3)×Bool×I2) (k:Ae) (l:List (Int×Int×Int×Bt)) (m:I2) (n:List Bt) (o:List (Int×I4)):Option GZ :=
 (bd (α:=Ha) (bd (o29 g h i j k l m n o) (fun b=>(cnd (!b.1.1.1.2.2) (some (((b.1.1.2,b.1.2.1,b.1.2.2.1),b.1.2.2.2,b.2.1.1,b.2.1.2.1),(b.2.1.2.2,b.2.2.1,b.2.2.2.1),d,((((0:Int),(0:Int)),(0:Int),([]:Bt)),((0:Int),(0:Int)),(0:Int),([]:Bt)),false,false)) (bd (o69 (b.1.1.1.1,b.1.1.1.2.1,b.2.2.2.2)) (fun f=>(cnd (f.1 != (0:Int)) (some (((b.1.1.2,b.1.2.1,b.1.2.2.1),b.1.2.2.2,b.2.1.1,b.2.1.2.1),(b.2.1.2.2,b.2.2.1,b.2.2.2.1),d,((((0:Int),(0:Int)),(0:Int),([]:Bt)),((0:Int),(0:Int)),(0:Int),([]:Bt)),false,false)) (bd (o70 f.2 (d.1.2.1.2.2,d.1.2.2.1) (2:Int) (1:Int) b.1.1.2.1.2.2.2) (fun e=>(some (((b.1.1.2,b.1.2.1,b.1.2.2.1),b.1.2.2.2,b.2.1.1,b.2.1.2.1),(b.2.1.2.2,b.2.2.1,b.2.2.2.1),d,((((0:Int),(0:Int)),(0:Int),([]:Bt)),e.1,e.2.1,e.2.2.1),false,e.2.2.2)))))))))) (fun c=>(some (((((c.2.2.2.1.1.1,c.2.2.2.1.1.2.1,c.2.2.2.1.1.2.2,c.2.2.2.1.2.1.1),(c.2.2.2.1.2.1.2,c.2.2.2.1.2.2.1),c.2.2.2.1.2.2.2,c.2.2.2.2),c.1.1.1),c.1.1.2.1,c.1.1.2.2,c.1.2.1),c.1.2.2,c.2.1))))
def AlQ:HC:=(.s .d (.s (.s .d (.b (.u 3 (.v (.s .d (.s .d (.j false [YL] .d))) (.v .d (.v .d .d)))))) .d))
def T67:Tbl:=(23,⟨⟨[(0,.v (.c (.ptr 0 0))),(1,.v (.c (.ic .i64 (1)))),(2,Bo),(3,.v (.c (.cap (.fn 29) (.ptr 9 0))))],[AZ,Aa,Aa,Ak,Ab,Ad,Am,.row (.a .y) 33,Ac,.cells 30 [.ptr 0 0]]⟩,[⟨[(0,Ch)],[AZ,Aa,Aa,Ak,Ab,Ad,Am,.row (.a .y) 33,Ac,.cells 30 [.ptr 0 0]]⟩],fun t=>(OE t.1.1.1 t.1.1.2 t.1.2.1 t.1.2.2.1 t.1.2.2.2 t.2.1.1 t.2.1.2 t.2.2.1 t.2.2.2.1 t.2.2.2.2)⟩)::T66
theorem K67:TK T67:=kc K66 Tryz.f23 AlQ fun t=>by kernel_rfl
def Ez:BSh:= .cells 123 [.ic .i64 (0),.ic .i64 (0),.b,.cst (.slice none 0 0)]
def OG:SSh:= .tup [.agg [.i .i64,.i .i64,.b,.own 0],.c (.i .i64)]
def Aju:Sch:=⟨[(0,.v (.c (.i .i64))),(1,.v (.c (.ro .y false))),(4,.v (.c (.ptr 0 0))),(17,.v (.c (.b)))],[Ez]⟩
def o77 (d:Int) (c:Bt):Option (((I2)×Bool×Int)×Bt) :=
 (bd (α:=((Int×Bt)×B2)) (cnd (decide (((c.length:Nat):Int) < (9:Int))) (some ((d,c),true,false)) (gd (decide ((0:Int)≤(8:Int)∧(8:Int) < ((c.length:Nat):Int))) (some ((d,c),(decide (((UInt8.toNat (List.getD c (8:Int).toNat (0:UInt8)):Nat):Int) > (1:Int))),false)))) (fun b=>(cnd b.2.1 (some ((((0:Int),(0:Int)),false,(4:Int)),([]:Bt))) (bd (o120 b.1.2 (8:Int)) (fun e=>(gd (decide ((0:Int)≤(8:Int)∧(8:Int) < ((b.1.2.length:Nat):Int))) (gd (decide ((0:Int)≤(9:Int)∧(9:Int)≤((b.1.2.length:Nat):Int))) (bd (o33 (List.drop (9:Int).toNat b.1.2)) (fun f=>(bd (o119 ((e,b.1.1),(((UInt8.toNat (List.getD b.1.2 (8:Int).toNat (0:UInt8)):Nat):Int)==(1:Int)),f)) (fun g=>(cnd (g.1 != (0:Int)) (some ((((0:Int),(0:Int)),false,(4:Int)),([]:Bt))) (some (((e,b.1.1),(((UInt8.toNat (List.getD b.1.2 (8:Int).toNat (0:UInt8)):Nat):Int)==(1:Int)),(0:Int)),f))))))))))))))
def h77:HC:=(.s .d (.s (.s (.j false [Aju] .d) .d) (.s (.r 2) .d)))
def T68:Tbl:=(77,⟨⟨[(0,.v (.c (.i .i64))),(1,.v (.c (.ro .y false)))],[]⟩,[⟨[(0,OG)],[.row .y 5]⟩],fun t=>(o77 t.1 t.2)⟩)::T67
theorem K68:TK T68:=kc K67 Tryz.f77 h77 fun t=>by kernel_rfl
def YM:BSh:= .cells 123 [.i .i64,.i .i64,.b,.own 3]
def YN:SSh:= .tup [.agg [.i .i64,.i .i64,.b,.own 1],.c (.b),.c (.i .i64)]
def Ajv:Sch:=⟨[(0,.v (.c (.ptr 0 0))),(6,.v (.c (.ptr 1 0))),(10,.v (.c (.ptr 2 0))),(62,.v (.c (.b)))],[Ab,Ez,YM,.row .y 5]⟩
def YO:Sch:=⟨[(0,.v (.c (.ptr 0 0))),(6,.v (.c (.ptr 1 0)))],[Ab,Ez]⟩
def o76 (g:(I2)×Int×Bt) (i:Bool) (b:Ae):Option (((I2)×Bool×Bool×Int)×Ae×Bt) :=
 (bd (o111 (3:Int) b) (fun h=>(cnd (h != (0:Int)) (some ((((0:Int),(0:Int)),false,false,h),b,([]:Bt))) (bd (α:=(Ae×Bool)) (cnd (b.1.1.1.2.1==(2:Int)) (some ((((b.1.1.1,b.1.1.2.1,(4:Int),b.1.1.2.2.2),b.1.2),(b.2.1.1,b.2.1.2.1,true,b.2.1.2.2.2),b.2.2),false)) (cnd (b.1.1.1.2.1==(3:Int)) (bd (α:=(Ae×Bool)) (bd (o114 g i (2:Int) (((b.1.1.1,b.1.1.2.1,(4:Int),b.1.1.2.2.2),b.1.2),b.2)) (fun j=>(cnd j (bd (α:=(((I2)×Bool×Int)×Bt)) (o77 b.1.1.2.2.2 g.2.2) (fun c=>(bd (α:=((Bool×Ae)×Bool×(Int×Int×Bool)×Bt)) (cnd (c.1.2.2==(0:Int)) (cnd (!c.1.2.1) (some (((c.1.1.1==b.1.1.1.2.2),((b.1.1.1,b.1.1.2.1,(4:Int),b.1.1.2.2.2),b.1.2),b.2),false,(c.1.1.1,c.1.1.2,c.1.2.1),c.2)) (some ((false,((b.1.1.1,b.1.1.2.1,(4:Int),b.1.1.2.2.2),b.1.2),b.2),false,(c.1.1.1,c.1.1.2,c.1.2.1),c.2))) (some ((false,((b.1.1.1,b.1.1.2.1,(4:Int),b.1.1.2.2.2),b.1.2),b.2),false,(c.1.1.1,c.1.1.2,c.1.2.1),c.2))) (fun d=>(cnd d.1.1 (some ((d.1.2.1,((d.1.2.2.1.1.1,d.2.2.1.1,d.2.2.1.2.1),(d.2.2.1.2.2,d.2.2.2),true,d.1.2.2.1.2.2.2),d.1.2.2.2),d.2.1)) (some (d.1.2,d.2.1))))))) (some ((((b.1.1.1,b.1.1.2.1,(4:Int),b.1.1.2.2.2),b.1.2),b.2),false))))) (fun f=>(cnd (!f.1.2.1.2.2.1) (bd (o105 f.1) (fun k=>(some (k,f.2)))) (some f)))) (some ((((b.1.1.1,b.1.1.2.1,(4:Int),b.1.1.2.2.2),b.1.2),b.2),false)))) (fun e=>(cnd (!e.1.2.1.2.2.1) (some ((((0:Int),(0:Int)),false,false,(0:Int)),e.1,([]:Bt))) (bd (o33 e.1.2.1.2.1.2) (fun l=>(some ((e.1.2.1.1.2,e.1.2.1.2.1.1,true,(0:Int)),((((e.1.1.1.1.1,e.1.1.1.1.2.1,(IntKind.wrap .i64 (e.1.1.1.1.2.2+(1:Int)))),e.1.1.1.2),e.1.1.2),e.1.2),l))))))))))
def h76:HC:=(.s .d (.s .d (.s .d (.j false [YO] (.s (.s .d (.b (.s .d (.c .d (.s .d (.c (.j false [YO] (.s (.s .d (.c (.s (.r 2) (.s (.j false [Ajv] .d) .d)) .d)) .d)) .d)))))) .d)))))
def T69:Tbl:=(76,⟨⟨[(0,.v (.c (.ptr 0 0))),(1,BI),(2,.v (.c (.b)))],[Ab]⟩,[⟨[(0,YN)],[Ab,.row .y 5]⟩],fun t=>(o76 t.1 t.2.1 t.2.2)⟩)::T68
theorem K69:TK T69:=kc K68 Tryz.f76 h76 fun t=>by kernel_rfl
abbrev YP:Type:=(Bool×I2)×List Bt×(List (Int×I4))×(I2)×Bool×Bt
def Ajw:Sch:=⟨[(0,.v (.c (.ptr 0 0))),(4,.v (.c (.ptr 3 0))),(49,.v (.c (.b)))],[Ew,.row (.a .y) 33,Ac,OA]⟩
def o78 (e:(I2)×Bool×Bt) (i:Bool) (f:I2) (c:List Bt) (d:List (Int×I4)):Option AE :=
 (cnd (((c.length:Nat):Int)==(0:Int)) (some (f,c,d)) (bd (α:=YP) (cnd (!i) (some ((true,f),c,d,e)) (cnd (e.1.1 != (IntKind.wrap .i64 (f.1+((d.length:Nat):Int)))) (some ((true,f),c,d,e)) (cnd e.2.1 (some ((true,f),c,d,e)) (some (((decide (((d.length:Nat):Int)≥((c.length:Nat):Int))),f),c,d,e))))) (fun b=>(cnd b.1.1 (bd (o107 b.1.2 b.2.1 b.2.2.1) (fun g=>(some (g.1.1,g.2.2)))) (bd (o33 b.2.2.2.2.2) (fun h=>(gd (decide ((b.2.2.1.length+([(b.2.2.2.1.1,(b.2.2.2.1.2,(b.2.2.2.2.1,h)))]:List (Int×I4)).length)*48≤140737488355328)) (some (b.1.2,b.2.1,(b.2.2.1++([(b.2.2.2.1.1,(b.2.2.2.1.2,(b.2.2.2.2.1,h)))]:List (Int×I4))))))))))))
def h78:HC:=(.s .d (.s .d (.s (.s (.j false [Ajw] .d) .d) (.s .d (.r 2)))))
def T70:Tbl:=(78,⟨⟨[(0,.v (.c (.ptr 0 0))),(1,OB),(2,.v (.c (.b)))],[Ew,.row (.a .y) 33,Ac]⟩,[⟨[(0,.tup [])],[JH,.no,.no,.row (.a .y) 33,Ac]⟩],fun t=>(o78 t.1.1 t.1.2 t.2.1 t.2.2.1 t.2.2.2)⟩)::T69
theorem K70:TK T70:=kc K69 Tryz.f78 h78 fun t=>by kernel_rfl
def OH:BSh:= .cells 123 [.i .i64,.i .i64,.b,.own 11]
def YQ:BSh:= .cells 123 [.i .i64,.i .i64,.b,.own 12]
def YR:BSh:= .cells 123 [.i .i64,.i .i64,.b,.own 8]
def YS:SSh:= .tup [.agg [.i .i64,.i .i64,.b,.own 6],.c (.b),.c (.i .i64)]
abbrev YT:Type:=((((I2)×Bool×Bool×Int)×(I3)×Bool×I2)×Ae×List (Int×Int×Int×Bt))×((I2)×Bt)×List Bt×List (Int×I4)
abbrev YU:Type:=((Bool×Int)×((I3)×Bool×I2)×Ae×List (Int×Int×Int×Bt))×((I2)×Bool×Int×Int×Bool)×Bt×List Bt×List (Int×I4)
abbrev YV:Type:=((Bool×Bool×Int)×((I3)×Bool×I2)×Ae×List (Int×Int×Int×Bt))×((I2)×((I2)×Int×Bt)×Bool)×((Int×Int×Bool)×List Bt)×(List (Int×I4))×Bt
abbrev YW:Type:=((Bool×Int×Bool)×(((I3)×Bool×I2)×Ae)×(List (Int×Int×Int×Bt))×I2)×(Bool×(Int×Int×Bool)×Int×Int×Bool)×(List Bt×List (Int×I4))×Bt×Bt
def Ajx:Sch:=⟨[(0,.v (.c (.ptr 0 0))),(6,.v (.c (.ptr 6 0))),(11,.v (.c (.ptr 7 0))),(12,.v (.c (.b))),(13,.v (.c (.i .i64))),(14,.v (.c (.ptr 8 0))),(16,.v (.c (.b)))],[AQ,Ab,Ad,Be,.no,.no,Ez,OH,YQ,.row (.a .y) 33,Ac,.row .y 5,.row .y 5]⟩
def Ajy:Sch:=⟨[(0,.v (.c (.ptr 0 0))),(2,.v (.c (.b))),(4,.v (.c (.ptr 6 0))),(6,.v (.c (.ptr 7 0))),(11,.v (.c (.ptr 8 0))),(12,.v (.c (.b))),(13,.v (.c (.i .i64)))],[AQ,Ab,Ad,Be,.no,.no,JL,Ez,OH,.row (.a .y) 33,Ac,.row .y 5]⟩
def Ajz:Sch:=⟨[(6,.v (.c (.ptr 6 0))),(11,.v (.c (.ptr 7 0))),(12,.v (.c (.b))),(13,.v (.c (.i .i64)))],[AQ,Ab,Ad,Be,.no,.no,Ez,YR,.row .y 5,.row (.a .y) 33,Ac]⟩
def o32 (n:(I2)×Int×Bt) (o:Bool) (e:(I3)×Bool×I2) (m:Ae) (h:List (Int×Int×Int×Bt)) (i:I2) (j:List Bt) (k:List (Int×I4)):Option YT :=
 (bd (o71 (3:Int) e m h (i,j,k)) (fun p=>(cnd (p != (0:Int)) (some ((((((0:Int),(0:Int)),false,false,p),e),m,h),(i,([]:Bt)),j,k)) (bd (o46 ((e.1.1,(4:Int),e.1.2.2),e.2) m h (i,j,k)) (fun r=>(bd (α:=(((I2)×Bool×Bool×Int)×Ae×Bt)) (o76 n o m) (fun d=>(bd (α:=YU) (bd (o46 ((e.1.1,(4:Int),e.1.2.2),e.2) d.2.1 h (i,j,k)) (fun s=>(cnd s (bd (α:=YV) (cnd (!r) (bd (o68 ((e.1.1,(4:Int),e.1.2.2),e.2) d.2.1 h i j k) (fun l=>(some (((o,d.1.2.2),l.1.1.1,l.1.1.2,l.1.2.1),(l.1.2.2,n,false),((d.1.1.1,d.1.1.2,d.1.2.1),l.2.2.1),l.2.2.2,d.2.2)))) (some (((o,d.1.2.2),((e.1.1,(4:Int),e.1.2.2),e.2),d.2.1,h),(i,n,false),((d.1.1.1,d.1.1.2,d.1.2.1),j),k,d.2.2))) (fun b=>(bd (α:=(((I2)×Bool×Int)×Bt)) (o77 b.1.2.1.1.2.2 b.2.1.2.1.2.2) (fun c=>(bd (α:=YW) (cnd b.1.1.1 (cnd (b.2.1.2.1.1.1==(2:Int)) (cnd (b.2.1.2.1.1.2==(IntKind.wrap .u8 (IntKind.wrap .i64 ((3:Int) - b.1.2.1.1.1)))) (cnd (b.2.1.2.1.2.1==b.1.2.1.1.2.2) (some (((b.1.1.2.1,b.1.1.2.2,(c.1.2.2==(0:Int))),(b.1.2.1,b.1.2.2.1),b.1.2.2.2,b.2.1.1),(b.2.1.2.2,b.2.2.1.1,c.1.1.1,c.1.1.2,c.1.2.1),(b.2.2.1.2,b.2.2.2.1),b.2.2.2.2,c.2)) (some (((b.1.1.2.1,b.1.1.2.2,false),(b.1.2.1,b.1.2.2.1),b.1.2.2.2,b.2.1.1),(b.2.1.2.2,b.2.2.1.1,c.1.1.1,c.1.1.2,c.1.2.1),(b.2.2.1.2,b.2.2.2.1),b.2.2.2.2,c.2))) (some (((b.1.1.2.1,b.1.1.2.2,false),(b.1.2.1,b.1.2.2.1),b.1.2.2.2,b.2.1.1),(b.2.1.2.2,b.2.2.1.1,c.1.1.1,c.1.1.2,c.1.2.1),(b.2.2.1.2,b.2.2.2.1),b.2.2.2.2,c.2))) (some (((b.1.1.2.1,b.1.1.2.2,false),(b.1.2.1,b.1.2.2.1),b.1.2.2.2,b.2.1.1),(b.2.1.2.2,b.2.2.1.1,c.1.1.1,c.1.1.2,c.1.2.1),(b.2.2.1.2,b.2.2.2.1),b.2.2.2.2,c.2))) (some (((b.1.1.2.1,b.1.1.2.2,false),(b.1.2.1,b.1.2.2.1),b.1.2.2.2,b.2.1.1),(b.2.1.2.2,b.2.2.1.1,c.1.1.1,c.1.1.2,c.1.2.1),(b.2.2.1.2,b.2.2.2.1),b.2.2.2.2,c.2))) (fun f=>(bd (o78 ((f.2.1.2.2.1,f.2.1.2.2.2.1),f.2.1.2.2.2.2,f.2.2.2.2) f.1.1.2.2 f.1.2.2.2 f.2.2.1.1 f.2.2.1.2) (fun q=>(some (((f.1.1.1,f.1.1.2.1),f.1.2.1.1,f.1.2.1.2,f.1.2.2.1),(q.1,f.2.1.1,f.2.1.2.1),f.2.2.2.1,q.2)))))))))) (some ((d.1.2.2,((e.1.1,(4:Int),e.1.2.2),e.2),d.2.1,h),(i,false,d.1.1.1,d.1.1.2,d.1.2.1),d.2.2,j,k))))) (fun g=>(some (((((g.2.1.2.2.1,g.2.1.2.2.2.1),g.2.1.2.2.2.2,g.1.1),g.1.2.1),g.1.2.2),(g.2.1.1,g.2.2.1),g.2.2.2)))))))))))
def h32:HC:=(.s .d (.s .d (.s .d (.s .d (.s (.r 2) (.j false [Ajz] (.s (.s .d (.c (.j false [Ajy] (.s .d (.s (.r 2) (.s (.j false [Ajx] .d) (.r 2))))) .d)) .d)))))))
def T71:Tbl:=(32,⟨⟨[(0,.v (.c (.ptr 0 0))),(1,BI),(2,.v (.c (.b)))],[AQ,Ab,Ad,Bp,.row (.a .y) 33,Ac]⟩,[⟨[(0,YS)],[AQ,Ab,Ad,Am,.no,.no,.row .y 5,.row (.a .y) 33,Ac]⟩],fun t=>(o32 t.1.1.1 t.1.1.2 t.1.2.1 t.1.2.2 t.2.1.1 t.2.1.2 t.2.2.1 t.2.2.2)⟩)::T70
theorem K71:TK T71:=kc K70 Tryz.f32 h32 fun t=>by kernel_rfl
def Aga:Sch:=⟨[(3,.v (.c (.i .u64))),(6,.v (.c (.ro .y false))),(7,.v (.c (.i .i64))),(8,.v (.c (.i .i64)))],[]⟩
def Agb (b:(Int×Bt)×I2) :=
 (cnd (decide (b.2.2 < b.2.1)) (gd (decide ((0:Int)≤b.2.2∧b.2.2 < ((b.1.2.length:Nat):Int))) (gd (decide ((0:Int)≤(IntKind.wrap .i64 ((8:Int)*b.2.2)))) (some (Ctl.go (((lorK .u64 b.1.1 (shlK .u64 (IntKind.wrap .u64 ((UInt8.toNat (List.getD b.1.2 b.2.2.toNat (0:UInt8)):Nat):Int)) (IntKind.wrap .i64 ((8:Int)*b.2.2)))),b.1.2),b.2.1,(IntKind.wrap .i64 (b.2.2+(1:Int)))))))) (dnO (some (IntKind.wrap .i64 b.1.1))))
def o137 (b:Bt):Option Int :=
 (loopO (σ:=(Int×Bt)×I2) fuelN Agb (((0:Int),b),((b.length:Nat):Int),(0:Int)))
def h137:HC:=(.s .d (.s .d (.s (.s .d (.b (.l [Aga] .d))) .d)))
def T72:Tbl:=(137,⟨⟨[(0,.v (.c (.ro .y false)))],[]⟩,[⟨[(0,.v (.c (.i .i64)))],[]⟩],fun t=>(o137 t)⟩)::T71
theorem K72:TK T72:=kc K71 Tryz.f137 h137 fun t=>by kernel_rfl
end
noncomputable section
def YX:SSh:= .tup [.agg [.i .u64,.i .i64,.i .i64],.c (.i .i64)]
def o103 (b:I3) (c:Bt):Option ((I2)×I2) :=
 (cnd (((c.length:Nat):Int) != (IntKind.wrap .i64 ((16:Int)+b.2.2))) (some ((b.1,b.2.1),b.2.2,(4:Int))) (gd (decide ((0:Int)≤(8:Int)∧(8:Int)≤((c.length:Nat):Int))) (bd (o137 (List.take (8:Int).toNat c)) (fun d=>(gd (decide ((0:Int)≤(8:Int)∧(8:Int)≤(16:Int)∧(16:Int)≤((c.length:Nat):Int))) (bd (o137 (List.take ((16:Int).toNat - (8:Int).toNat) (List.drop (8:Int).toNat c))) (fun e=>(bd (o48 ((IntKind.wrap .u64 d),e,b.2.2)) (fun f=>(cnd (!(f==c)) (some ((b.1,b.2.1),b.2.2,(4:Int))) (some (((IntKind.wrap .u64 d),e),b.2.2,(0:Int)))))))))))))
def h103:HC:=(.s .d (.s .d (.s (.r 1) (.s (.s (.r 1) .d) .d))))
def T73:Tbl:=(103,⟨⟨[(0,GT),(1,.v (.c (.ro .y false)))],[]⟩,[⟨[(0,YX)],[]⟩],fun t=>(o103 t.1 t.2)⟩)::T72
theorem K73:TK T73:=kc K72 Tryz.f103 h103 fun t=>by kernel_rfl
def o179 (c:Bt) (d:I3):Option (Int×I3) :=
 (bd (o103 d c) (fun b=>(some (b.2.2,b.1.1,b.1.2,b.2.1))))
def T74:Tbl:=(179,⟨⟨[(0,.v (.c (.ptr 0 0))),(1,.v (.c (.ro .y false)))],[Aa]⟩,[⟨[(0,.v (.c (.i .i64)))],[Aa]⟩],fun t=>(o179 t.1 t.2)⟩)::T73
theorem K74:TK T74:=kc K73 Tryz.f179 .d fun t=>by kernel_rfl
def YY:BSh:= .cells 56 [.ic .u64 (0),.ic .i64 (0),.ic .i64 (0)]
def YZ:BSh:= .cells 47 [.ic .u8 (0),.ic .u8 (0),.ic .u8 (0),.ic .i64 (0),.ic .i64 (0),.ic .i64 (0),.ic .i64 (0)]
def Za:SSh:= .tup [.agg [.i .u64,.i .i64,.i .i64],.agg [.i .u8,.i .u8,.i .u8,.i .i64,.i .i64,.i .i64,.i .i64]]
abbrev Zb:Type:=((I2)×I3)×(I2)×I3
def AjA:Sch:=⟨[(3,.v (.c (.ptr 0 0))),(6,.v (.c (.ptr 1 0))),(7,.v (.c (.ptr 2 0))),(18,.v (.c (.ro .y false))),(19,.v (.c (.i .i64))),(20,.v (.c (.i .i64)))],[FB,YY,YZ]⟩
def SN (b:(Bt×Int)×Int×I3) :=
 (cnd (decide (b.2.1 < b.1.2)) (gd (decide ((0:Int)≤b.2.1∧b.2.1 < ((b.1.1.length:Nat):Int))) (some (Ctl.go (b.1,(IntKind.wrap .i64 (b.2.1+(1:Int))),(IntKind.wrap .u64 ((IntKind.wrap .u64 (b.2.2.1*(31:Int)))+(IntKind.wrap .u64 ((UInt8.toNat (List.getD b.1.1 b.2.1.toNat (0:UInt8)):Nat):Int)))),b.2.2.2)))) (dnO (some (((b.2.2.1,(IntKind.wrap .i64 (b.2.2.2.1+(1:Int)))),b.2.2.2.2,(IntKind.wrap .u8 (Int.tmod b.2.2.1 (7:Int))),(IntKind.wrap .u8 (Int.tmod b.2.2.1 (9:Int)))),((IntKind.wrap .u8 (Int.tmod (IntKind.wrap .i64 (b.2.2.2.1+(1:Int))) (9:Int))),(IntKind.wrap .i64 ((IntKind.wrap .i64 (Int.tmod b.2.2.1 (6001:Int))) - (3000:Int)))),(IntKind.wrap .i64 (Int.tmod (shrK .u64 b.2.2.1 (13:Int)) (1000:Int))),(IntKind.wrap .i64 ((IntKind.wrap .i64 (Int.tmod (shrK .u64 b.2.2.1 (23:Int)) (6000000:Int))) - (1000:Int))),(IntKind.wrap .i64 ((IntKind.wrap .i64 (Int.tmod (shrK .u64 b.2.2.1 (33:Int)) (12000:Int))) - (6000:Int)))))))
def o56 (b:I3) (d:Int) (c:Bt):Option Zb :=
 (loopO (σ:=(Bt×Int)×Int×I3) fuelN SN ((c,((c.length:Nat):Int)),(0:Int),(IntKind.wrap .u64 ((IntKind.wrap .u64 (b.1*(31:Int)))+(IntKind.wrap .u64 d))),b.2))
def h56:HC:=(.s .d (.s .d (.s (.s .d (.b (.l [AjA] .d))) .d)))
def T75:Tbl:=(56,⟨⟨[(0,GT),(1,.v (.c (.i .i64))),(2,.v (.c (.ro .y false)))],[]⟩,[⟨[(0,Za)],[]⟩],fun t=>(o56 t.1 t.2.1 t.2.2)⟩)::T74
theorem K75:TK T75:=kc K74 Tryz.f56 h56 fun t=>by kernel_rfl
def o181 (c:Int) (d:Bt) (e:I3):Option (BF×I3) :=
 (bd (o56 e c d) (fun b=>(some (((b.1.2.2.1,b.1.2.2.2,b.2.1.1),(b.2.1.2,b.2.2.1),b.2.2.2),b.1.1.1,b.1.1.2,b.1.2.1))))
def T76:Tbl:=(181,⟨⟨[(0,.v (.c (.ptr 0 0))),(1,.v (.c (.i .i64))),(2,.v (.c (.ro .y false)))],[Aa]⟩,[⟨[(0,BP)],[Aa]⟩],fun t=>(o181 t.1 t.2.1 t.2.2)⟩)::T75
theorem K76:TK T76:=kc K75 Tryz.f181 .d fun t=>by kernel_rfl
def CK:BSh:= .cells 232 [.i .i64,.i .i64,.own 16,.own 17]
def Af:BSh:= .cells 50 [.i .i64,.i .u8,.i .u8,.i .u8,.i .u8,.i .i64,.i .i64,.i .u8,.i .u8,.i .u8,.i .i64,.i .i64,.i .i64,.i .i64,.i .u8,.i .u8,.i .u8,.i .i64,.i .i64,.i .i64,.i .i64,.i .i64,.i .u8,.i .u8,.i .u8,.i .i64,.i .i64,.i .i64,.i .i64]
def OI:BSh:= .cells 123 [.i .i64,.i .i64,.b,.own 18]
abbrev Aj:Type:=(((I3)×(I2)×I2)×(I3)×(I2)×I2)×((I3)×(I2)×I2)×((I2)×I2)×(I2)×I2
abbrev Hb:Type:=((Ag×(I3)×I3)×(((I3)×Bool×I2)×Ae)×(List (Int×Int×Int×Bt))×I2)×(Ar×(B2)×B2)×(Aj×Aq)×List Bt×List (Int×I4)
abbrev OJ:Type:=(((Ag×I3)×(I3)×(I3)×Bool×I2)×(Ae×List (Int×Int×Int×Bt))×(I2)×Ar)×(((B2)×B2)×Aj×Aq)×((Int×Int×Bool)×List Bt)×(List (Int×I4))×Bt
def AjB:Sch:=⟨[(0,.v (.c (.ic .i64 (0)))),(1,.v (.c (.ptr 0 0))),(4,.v (.c (.ptr 12 0))),(5,.v (.c (.ptr 13 0))),(6,.v (.c (.ptr 14 0))),(8,.v (.c (.ptr 15 0)))],[.cells 30 [.ptr 1 0],BJ,Aa,Aa,Ap,Ab,Ad,CK,.no,.no,Al,.cells 34 [.b,.b],.cells 34 [.b,.b],Af,Ao,OI,.row (.a .y) 33,Ac,.row .y 5]⟩
def o31 (e:Ag) (h:I3) (i:I3) (m:(I3)×Bool×I2) (n:Ae) (o:List (Int×Int×Int×Bt)) (p:I2) (q:List Bt) (r:List (Int×I4)) (f:Ar) (g:B2) (j:B2) (k:Aj) (l:Aq):Option Hb :=
 (bd (o32 f.1 g.1 m n o p q r) (fun b=>(cnd (!b.1.1.1.2.2.1) (some (((e,h,i),(b.1.1.2,b.1.2.1),b.1.2.2,b.2.1.1),(f,g,j),(k,l),b.2.2)) (bd (α:=OJ) (cnd b.1.1.1.2.1 (bd (o33 e.1.1.1) (fun s=>(bd (o179 s h) (fun u=>(some ((((e,u.2),i,b.1.1.2),b.1.2,b.2.1.1,f),((g,j),k,l),((b.1.1.1.1.1,b.1.1.1.1.2,b.1.1.1.2.1),b.2.2.1),b.2.2.2,b.2.1.2)))))) (some ((((e,h),i,b.1.1.2),b.1.2,b.2.1.1,f),((g,j),k,l),((b.1.1.1.1.1,b.1.1.1.1.2,b.1.1.1.2.1),b.2.2.1),b.2.2.2,b.2.1.2))) (fun c=>(bd (o181 c.2.2.1.1.2.1 c.2.2.2.2 c.1.1.1.2) (fun d=>(some (((c.1.1.1.1,d.2,c.1.1.2.1),(c.1.1.2.2,c.1.2.1.1),c.1.2.1.2,c.1.2.2.1),(c.1.2.2.2,c.2.1.1.1,true,c.2.1.1.2.2),(((c.2.1.2.1.1.1,d.1.1,((lxorK .i64 d.1.2.1.1 c.2.1.2.2.1.1.2.2.1),d.1.2.1.2),d.1.2.2),c.2.1.2.1.2),c.2.1.2.2),c.2.2.1.2,c.2.2.2.1)))))))))
def h31:HC:=(.s (.r 4) (.s .d (.j false [AjB] (.s (.s .d (.c (.r 1) .d)) .d))))
def T77:Tbl:=(31,⟨⟨[(0,.v (.c (.ic .i64 (0)))),(1,.v (.c (.ptr 0 0))),(2,.v (.c (.ptr 10 0))),(3,.v (.c (.ptr 11 0))),(4,.v (.c (.ptr 12 0))),(5,.v (.c (.ptr 13 0))),(6,.v (.c (.ptr 14 0)))],[.cells 30 [.ptr 1 0],BJ,Aa,Aa,Ap,Ab,Ad,Ax,.row (.a .y) 33,Ac,Al,.cells 34 [.b,.b],.cells 34 [.b,.b],Af,Ao]⟩,[⟨[(0,.tup [])],[.cells 30 [.ptr 1 0],BJ,Aa,Aa,Ap,Ab,Ad,Bm,.no,.no,Al,.cells 34 [.b,.b],.cells 34 [.b,.b],Af,Ao,.row (.a .y) 33,Ac]⟩],fun t=>(o31 t.1.1.1 t.1.1.2.1 t.1.1.2.2 t.1.2.1.1 t.1.2.1.2 t.1.2.2.1 t.1.2.2.2 t.2.1.1 t.2.1.2.1 t.2.1.2.2 t.2.2.1.1 t.2.2.1.2 t.2.2.2.1 t.2.2.2.2)⟩)::T76
theorem K77:TK T77:=kc K76 Tryz.f31 h31 fun t=>by kernel_rfl
def OK:SSh:= .v (.c (.cap (.cap (.cap (.cap (.cap (.cap (.fn 31) (.ptr 9 0)) (.ptr 10 0)) (.ptr 11 0)) (.ptr 12 0)) (.ptr 13 0)) (.ptr 14 0)))
def OL (b:Ag) (c:I3) (d:I3) (e:(I3)×Bool×I2) (f:Ae) (g:List (Int×Int×Int×Bt)) (h:I2) (i:List Bt) (j:List (Int×I4)) (k:Ar) (l:B2) (m:B2) (n:Aj) (o:Aq):Option Hb :=
 (bd (o31 b c d e f g h i j k l m n o) (fun p=>(some p)))
def AlR:HC:=(.s .d (.b (.u 3 (.v .d (.v .d (.v .d .d))))))
def T78:Tbl:=(26,⟨⟨[(0,.v (.c (.ptr 0 0))),(1,OK)],[AZ,Aa,Aa,Ak,Ab,Ad,Am,.row (.a .y) 33,Ac,.cells 30 [.ptr 0 0],Al,.cells 34 [.b,.b],.cells 34 [.b,.b],Af,Ao]⟩,[⟨[(0,.tup [])],[AZ,Aa,Aa,Ak,Ab,Ad,Bm,.no,.no,.cells 30 [.ptr 0 0],Al,.cells 34 [.b,.b],.cells 34 [.b,.b],Af,Ao,.row (.a .y) 33,Ac]⟩],fun t=>(OL t.1.1.1 t.1.1.2.1 t.1.1.2.2 t.1.2.1.1 t.1.2.1.2 t.1.2.2.1 t.1.2.2.2 t.2.1.1 t.2.1.2.1 t.2.1.2.2 t.2.2.1.1 t.2.2.1.2 t.2.2.2.1 t.2.2.2.2)⟩)::T77
theorem K78:TK T78:=kc K77 Tryz.f26 AlR fun t=>by kernel_rfl
def OM:SSh:= .v (.agg [.i .i64,.i .u8,.i .u8,.i .u8,.i .i64,.i .i64,.i .i64,.i .i64])
abbrev DQ:Type:=((I2)×I2)×(I2)×I2
def Agc:Sch:=⟨[(4,.v (.c (.own 0))),(28,.v (.c (.own 1))),(29,.v (.c (.i .i64))),(30,.v (.c (.i .i64)))],[.row .y 5,.row (.i .i64) 2]⟩
def IR (b:(I2)×Bt×List Int) :=
 (cnd (decide (b.1.2 < b.1.1)) (gd (decide ((0:Int)≤b.1.2∧b.1.2 < ((b.2.2.length:Nat):Int))) (bd (o148 (List.getD b.2.2 b.1.2.toNat (0:Int)) (8:Int) b.2.1) (fun c=>(some (Ctl.go ((b.1.1,(IntKind.wrap .i64 (b.1.2+(1:Int)))),c,b.2.2)))))) (dnO (some b.2.1)))
def o121 (b:DQ):Option (Bt) :=
 (bd (JQ b.1.1.1 (8:Int)) (fun c=>(gd (decide ((c.length+([(u8 b.1.1.2),(u8 b.1.2.1),(u8 b.1.2.2)]:Bt).length)*1≤140737488355328)) (loopO (σ:=(I2)×Bt×List Int) fuelN IR ((((([b.2.1.1,b.2.1.2,b.2.2.1,b.2.2.2]:List Int).length:Nat):Int),(0:Int)),(c++([(u8 b.1.1.2),(u8 b.1.2.1),(u8 b.1.2.2)]:Bt)),([b.2.1.1,b.2.1.2,b.2.2.1,b.2.2.2]:List Int))))))
def h121:HC:=(.s .d (.s .d (.s (.r 3) (.s (.s .d (.b (.l [Agc] .d))) .d))))
def T79:Tbl:=(121,⟨⟨[(0,OM)],[]⟩,[⟨[(0,.v (.c (.own 0)))],[.row .y 5]⟩],fun t=>(o121 t)⟩)::T78
theorem K79:TK T79:=kc K78 Tryz.f121 h121 fun t=>by kernel_rfl
def o79 (c:BF) (b:Ae):Option (((I2)×Int×Bool×Int)×Ae×Bt) :=
 (bd (o111 (4:Int) b) (fun e=>(cnd (e != (0:Int)) (some ((((0:Int),(0:Int)),(0:Int),false,e),b,([]:Bt))) (cnd (!b.2.1.2.2.1) (some ((((0:Int),(0:Int)),(0:Int),false,(0:Int)),(((b.1.1.1,b.1.1.2.1,(5:Int),b.1.1.2.2.2),b.1.2),b.2),([]:Bt))) (bd (o121 (((b.1.1.1.2.2,c.1.1),c.1.2),c.2)) (fun f=>(bd (SL (3:Int) (((b.1.1.1,b.1.1.2.1,(5:Int),b.1.1.2.2.2),b.1.2),(b.2.1.1,b.2.1.2.1,b.2.1.2.2.1,b.1.1.1.2.2),c) f) (fun d=>(some (((d.1.1,d.1.2.1),d.1.2.2,true,(0:Int)),(((b.1.1.1,b.1.1.2.1,(5:Int),b.1.1.2.2.2),b.1.2),(b.2.1.1,b.2.1.2.1,b.2.1.2.2.1,b.1.1.1.2.2),c),d.2))))))))))
def T80:Tbl:=(79,⟨⟨[(0,.v (.c (.ptr 0 0))),(1,BP)],[Ab]⟩,[⟨[(0,OC)],[Ab,.row .y 5]⟩],fun t=>(o79 t.1 t.2)⟩)::T79
theorem K80:TK T80:=kc K79 Tryz.f79 .d fun t=>by kernel_rfl
def o35 (j:BF) (b:(I3)×Bool×I2) (c:Ae) (d:List (Int×Int×Int×Bt)) (e:I2) (f:List Bt) (g:List (Int×I4)):Option JT :=
 (bd (o71 (4:Int) b c d (e,f,g)) (fun i=>(cnd (i != (0:Int)) (some ((((((0:Int),(0:Int)),(0:Int),false,i),b),c,d),(e,f),g,([]:Bt))) (bd (α:=(((I2)×Int×Bool×Int)×Ae×Bt)) (o79 j c) (fun h=>(some (((h.1,(b.1.1,(5:Int),b.1.2.2),b.2),h.2.1,d),(e,f),g,h.2.2)))))))
def T81:Tbl:=(35,⟨⟨[(0,.v (.c (.ptr 0 0))),(1,BP)],[AQ,Ab,Ad,Bp,.row (.a .y) 33,Ac]⟩,[⟨[(0,JS)],[AQ,Ab,Ad,Bp,.row (.a .y) 33,Ac,.row .y 5]⟩],fun t=>(o35 t.1.1 t.1.2.1 t.1.2.2 t.2.1.1 t.2.1.2 t.2.2.1 t.2.2.2)⟩)::T80
theorem K81:TK T81:=kc K80 Tryz.f35 (.s .d (.s .d (.s .d (.s (.r 1) .d)))) fun t=>by kernel_rfl
def Hc:BSh:= .lent [.i .i64,.i .u8,.i .u8,.i .u8,.i .u8,.i .i64,.i .i64,.i .u8,.i .u8,.i .u8,.i .i64,.i .i64,.i .i64,.i .i64,.i .u8,.i .u8,.i .u8,.i .i64,.i .i64,.i .i64,.i .i64,.i .i64,.i .u8,.i .u8,.i .u8,.i .i64,.i .i64,.i .i64,.i .i64]
def ON:SSh:= .tup [.agg [.i .u8,.i .u8,.i .i64,.own 11],.c (.b)]
abbrev He:Type:=((Ag×I3)×(I3)×((I3)×Bool×I2)×Ae)×((List (Int×Int×Int×Bt))×I2)×List Bt×(List (Int×I4))×Aj
def o34 (c:Ag) (d:I3) (e:I3) (f:(I3)×Bool×I2) (g:Ae) (h:List (Int×Int×Int×Bt)) (i:I2) (j:List Bt) (k:List (Int×I4)) (l:Aj):Option Ey :=
 (bd (o35 l.1.2 f g h i j k) (fun b=>(some ((((b.1.1.1.1,b.1.1.1.2.1,b.1.1.1.2.2.1),c),d,e,b.1.1.2),(b.1.2.1,b.1.2.2,b.2.1.1),b.2.1.2,b.2.2))))
def T82:Tbl:=(34,⟨⟨[(0,.v (.c (.ic .i64 (0)))),(1,.v (.c (.ptr 0 0))),(2,.v (.c (.ptr 10 0)))],[.cells 30 [.ptr 1 0],BJ,Aa,Aa,Ap,Ab,Ad,Ax,.row (.a .y) 33,Ac,Hc]⟩,[⟨[(0,ON)],[.cells 30 [.ptr 1 0],BJ,Aa,Aa,Ap,Ab,Ad,Ax,.row (.a .y) 33,Ac,.no,.row .y 5]⟩],fun t=>(o34 t.1.1.1 t.1.1.2 t.1.2.1 t.1.2.2.1 t.1.2.2.2 t.2.1.1 t.2.1.2 t.2.2.1 t.2.2.2.1 t.2.2.2.2)⟩)::T81
theorem K82:TK T82:=kc K81 Tryz.f34 (.s .d (.s (.r 2) .d)) fun t=>by kernel_rfl
def Hf:SSh:= .v (.c (.cap (.cap (.fn 34) (.ptr 9 0)) (.ptr 10 0)))
abbrev JU:Type:=((Ex×Ag)×(I3)×(I3)×(I3)×Bool×I2)×(Ae×(List (Int×Int×Int×Bt))×I2)×List Bt×(List (Int×I4))×Aj
abbrev JV:Type:=((Ag×(I3)×I3)×((I3)×Bool×I2)×Ae×List (Int×Int×Int×Bt))×((I2)×List Bt×List (Int×I4))×(Aj×Aq)×Ar×B2
def OO (b:JV):Option JU :=
 (some (((((b.2.2.2.1.1.1,b.2.2.2.1.1.2.1,b.2.2.2.1.1.2.2,b.2.2.2.1.2.1.1),(b.2.2.2.1.2.1.2,b.2.2.2.1.2.2.1),b.2.2.2.1.2.2.2,b.2.2.2.2),b.1.1.1),b.1.1.2.1,b.1.1.2.2,b.1.2.1),(b.1.2.2.1,b.1.2.2.2,b.2.1.1),b.2.1.2.1,b.2.1.2.2,b.2.2.1.1))
def Zc:Sch:=⟨[(0,.v (.c (.ptr 0 0))),(1,.v (.c (.ic .i64 (2)))),(3,Hf),(6,.v (.c (.ptr 11 0))),(8,.v (.c (.ptr 12 0))),(9,.v (.c (.ptr 13 0))),(15,.v (.c (.ic .i64 (0))))],[AZ,Aa,Aa,Ak,Ab,Ad,Am,.row (.a .y) 33,Ac,.cells 30 [.ptr 0 0],Af,Ao,Al,.cells 34 [.b,.b]]⟩
def OP (c:Aq) (g:Ag) (h:I3) (i:I3) (j:(I3)×Bool×I2) (k:Ae) (l:List (Int×Int×Int×Bt)) (m:I2) (n:List Bt) (o:List (Int×I4)) (d:Aj):Option JU :=
 (bd (α:=JV) (bd (o34 g h i j k l m n o d) (fun b=>(cnd (!b.1.1.1.2.2) (some (((b.1.1.2,b.1.2.1,b.1.2.2.1),b.1.2.2.2,b.2.1.1,b.2.1.2.1),(b.2.1.2.2,b.2.2.1,b.2.2.2.1),(d,c),((((0:Int),(0:Int)),(0:Int),([]:Bt)),((0:Int),(0:Int)),(0:Int),([]:Bt)),false,false)) (bd (o69 (b.1.1.1.1,b.1.1.1.2.1,b.2.2.2.2)) (fun f=>(cnd (f.1 != (0:Int)) (some (((b.1.1.2,b.1.2.1,b.1.2.2.1),b.1.2.2.2,b.2.1.1,b.2.1.2.1),(b.2.1.2.2,b.2.2.1,b.2.2.2.1),(d,c),((((0:Int),(0:Int)),(0:Int),([]:Bt)),((0:Int),(0:Int)),(0:Int),([]:Bt)),false,false)) (bd (o70 f.2 (c.1.2.2.2.1,c.1.2.2.2.2,c.2.1.1.1.1) (3:Int) (1:Int) b.1.1.2.1.2.2.2) (fun e=>(some (((b.1.1.2,b.1.2.1,b.1.2.2.1),b.1.2.2.2,b.2.1.1,b.2.1.2.1),(b.2.1.2.2,b.2.2.1,b.2.2.2.1),(d,c),((((0:Int),(0:Int)),(0:Int),([]:Bt)),e.1,e.2.1,e.2.2.1),false,e.2.2.2)))))))))) OO)
def AlS:HC:=(.s .d (.s (.s .d (.b (.u 3 (.v (.s .d (.s .d (.j false [Zc] .d))) (.v .d (.v .d .d)))))) .d))
def T83:Tbl:=(23,⟨⟨[(0,.v (.c (.ptr 0 0))),(1,.v (.c (.ic .i64 (2)))),(2,Bo),(3,Hf)],[AZ,Aa,Aa,Ak,Ab,Ad,Am,.row (.a .y) 33,Ac,.cells 30 [.ptr 0 0],Af]⟩,[⟨[(0,Ch)],[AZ,Aa,Aa,Ak,Ab,Ad,Am,.row (.a .y) 33,Ac,.cells 30 [.ptr 0 0],Af]⟩],fun t=>(OP t.1.1.1 t.1.1.2 t.1.2.1 t.1.2.2.1 t.1.2.2.2 t.2.1.1 t.2.1.2.1 t.2.1.2.2 t.2.2.1 t.2.2.2.1 t.2.2.2.2)⟩)::T82
theorem K83:TK T83:=kc K82 Tryz.f23 AlS fun t=>by kernel_rfl
def OQ:SSh:= .tup [.agg [.i .i64,.i .u8,.i .u8,.i .u8,.i .i64,.i .i64,.i .i64,.i .i64],.c (.i .i64)]
abbrev OR:Type:=((I2)×I2)×(I2)×I3
def o122 (b:Bt):Option OR :=
 (cnd (((b.length:Nat):Int) != (43:Int)) (some ((((0:Int),(0:Int)),(0:Int),(0:Int)),((0:Int),(0:Int)),(0:Int),(0:Int),(4:Int))) (bd (o120 b (8:Int)) (fun c=>(gd (decide ((0:Int)≤(8:Int)∧(8:Int) < ((b.length:Nat):Int))) (gd (decide ((0:Int)≤(9:Int)∧(9:Int) < ((b.length:Nat):Int))) (gd (decide ((0:Int)≤(10:Int)∧(10:Int) < ((b.length:Nat):Int))) (gd (decide ((0:Int)≤(11:Int)∧(11:Int)≤((b.length:Nat):Int))) (bd (o120 (List.drop (11:Int).toNat b) (8:Int)) (fun d=>(gd (decide ((0:Int)≤(19:Int)∧(19:Int)≤((b.length:Nat):Int))) (bd (o120 (List.drop (19:Int).toNat b) (8:Int)) (fun e=>(gd (decide ((0:Int)≤(27:Int)∧(27:Int)≤((b.length:Nat):Int))) (bd (o120 (List.drop (27:Int).toNat b) (8:Int)) (fun f=>(gd (decide ((0:Int)≤(35:Int)∧(35:Int)≤((b.length:Nat):Int))) (bd (o120 (List.drop (35:Int).toNat b) (8:Int)) (fun g=>(some (((c,((UInt8.toNat (List.getD b (8:Int).toNat (0:UInt8)):Nat):Int)),((UInt8.toNat (List.getD b (9:Int).toNat (0:UInt8)):Nat):Int),((UInt8.toNat (List.getD b (10:Int).toNat (0:UInt8)):Nat):Int)),(d,e),f,g,(0:Int)))))))))))))))))))))
def T84:Tbl:=(122,⟨⟨[(0,.v (.c (.ro .y false)))],[]⟩,[⟨[(0,OQ)],[]⟩],fun t=>(o122 t)⟩)::T83
theorem K84:TK T84:=kc K83 Tryz.f122 .d fun t=>by kernel_rfl
def Zd:BSh:= .cells 195 [.i .i64,.i .u8,.i .u8,.i .u8,.i .i64,.i .i64,.i .i64,.i .i64]
def AjC:Sch:=⟨[(0,.v (.c (.ptr 0 0))),(9,.v (.c (.ptr 1 0))),(11,.v (.c (.b)))],[Ab,Zd]⟩
def AjD:Sch:=⟨[(42,.v (.c (.b)))],[Ab]⟩
def o80 (f:(I2)×Int×Bt) (h:Bool) (c:Ae):Option ((I2)×Ae) :=
 (bd (o111 (5:Int) c) (fun g=>(cnd (g != (0:Int)) (some (((0:Int),g),c)) (cnd (!c.2.1.2.2.1) (some (((2:Int),(0:Int)),((c.1.1.1,c.1.1.2.1,(0:Int),c.1.1.2.2.2),c.1.2),c.2)) (bd (o122 f.2.2) (fun d=>(bd (α:=(Bool×Ae×DQ)) (bd (o114 f h (3:Int) (((c.1.1.1,c.1.1.2.1,(0:Int),c.1.1.2.2.2),c.1.2),c.2)) (fun i=>(cnd i (some ((d.2.2.2.2==(0:Int)),(((c.1.1.1,c.1.1.2.1,(0:Int),c.1.1.2.2.2),c.1.2),c.2),d.1,d.2.1,d.2.2.1,d.2.2.2.1)) (some (false,(((c.1.1.1,c.1.1.2.1,(0:Int),c.1.1.2.2.2),c.1.2),c.2),d.1,d.2.1,d.2.2.1,d.2.2.2.1))))) (fun b=>(cnd (!b.1) (some (((3:Int),(0:Int)),b.2.1)) (bd (α:=(Bool×Ae)) (cnd (b.2.1.1.1.1.2.1==(3:Int)) (some (((b.2.2.1.1.1==b.2.1.2.1.2.2.2)&&((b.2.2.1.1.2==b.2.1.2.2.1.1)&&((b.2.2.1.2.1==b.2.1.2.2.1.2.1)&&((b.2.2.1.2.2==b.2.1.2.2.1.2.2)&&((b.2.2.2.1.1==b.2.1.2.2.2.1.1)&&((b.2.2.2.1.2==b.2.1.2.2.2.1.2)&&((b.2.2.2.2.1==b.2.1.2.2.2.2.1)&&(b.2.2.2.2.2==b.2.1.2.2.2.2.2)))))))),b.2.1)) (bd (o117 b.2.1) (fun j=>(cnd j (some (((b.2.2.1.1.1==b.2.1.2.1.2.2.2)&&((b.2.2.1.1.2==b.2.1.2.2.1.1)&&((b.2.2.1.2.1==b.2.1.2.2.1.2.1)&&((b.2.2.1.2.2==b.2.1.2.2.1.2.2)&&((b.2.2.2.1.1==b.2.1.2.2.2.1.1)&&((b.2.2.2.1.2==b.2.1.2.2.2.1.2)&&((b.2.2.2.2.1==b.2.1.2.2.2.2.1)&&(b.2.2.2.2.2==b.2.1.2.2.2.2.2)))))))),b.2.1)) (some (false,b.2.1)))))) (fun e=>(cnd e.1 (some (((4:Int),(0:Int)),e.2)) (some (((2:Int),(0:Int)),e.2))))))))))))))
def h80:HC:=(.s .d (.s .d (.s .d (.s .d (.s .d (.s (.j false [AjC] .d) (.s (.b (.s .d (.c .d (.s (.j false [AjD] .d) .d)))) .d)))))))
def T85:Tbl:=(80,⟨⟨[(0,.v (.c (.ptr 0 0))),(1,BI),(2,.v (.c (.b)))],[Ab]⟩,[⟨[(0,.tup [.c (.i .u8),.c (.i .i64)])],[Ab]⟩],fun t=>(o80 t.1 t.2.1 t.2.2)⟩)::T84
theorem K85:TK T85:=kc K84 Tryz.f80 h80 fun t=>by kernel_rfl
abbrev Ze:Type:=((I2)×((I3)×Bool×I2)×Ae)×((List (Int×Int×Int×Bt))×I2)×List Bt×List (Int×I4)
def o37 (j:(I2)×Int×Bt) (k:Bool) (b:(I3)×Bool×I2) (c:Ae) (d:List (Int×Int×Int×Bt)) (e:I2) (f:List Bt) (g:List (Int×I4)):Option Ze :=
 (bd (o71 (5:Int) b c d (e,f,g)) (fun h=>(cnd (h != (0:Int)) (some ((((0:Int),h),b,c),(d,e),f,g)) (bd (o80 j k c) (fun i=>(some ((i.1,((b.1.1,(6:Int),b.1.2.2),b.2),i.2),(d,e),f,g)))))))
def T86:Tbl:=(37,⟨⟨[(0,.v (.c (.ptr 0 0))),(1,BI),(2,.v (.c (.b)))],[AQ,Ab,Ad,Bp,.row (.a .y) 33,Ac]⟩,[⟨[(0,.tup [.c (.i .u8),.c (.i .i64)])],[AQ,Ab,Ad,Bp,.row (.a .y) 33,Ac]⟩],fun t=>(o37 t.1.1.1 t.1.1.2 t.1.2.1 t.1.2.2 t.2.1.1 t.2.1.2 t.2.2.1 t.2.2.2)⟩)::T85
theorem K86:TK T86:=kc K85 Tryz.f37 .d fun t=>by kernel_rfl
abbrev Hg:Type:=((Ag×(I3)×I3)×((I3)×Bool×I2)×Ae×List (Int×Int×Int×Bt))×((I2)×List Bt×List (Int×I4))×Ar×(B2)×Aj
def o36 (f:Ag) (g:I3) (h:I3) (i:(I3)×Bool×I2) (j:Ae) (k:List (Int×Int×Int×Bt)) (l:I2) (m:List Bt) (n:List (Int×I4)) (d:Ar) (e:B2) (c:Aj):Option Hg :=
 (bd (o37 d.1 e.1 i j k l m n) (fun b=>(some (((f,g,h),b.1.2.1,b.1.2.2,b.2.1.1),(b.2.1.2,b.2.2),d,e,((c.1.1.1,(b.1.1.1,c.1.1.2.1.2),c.1.1.2.2),c.1.2),c.2))))
def T87:Tbl:=(36,⟨⟨[(0,.v (.c (.ic .i64 (0)))),(1,.v (.c (.ptr 0 0))),(2,.v (.c (.ptr 10 0))),(3,.v (.c (.ptr 11 0))),(4,.v (.c (.ptr 12 0)))],[.cells 30 [.ptr 1 0],BJ,Aa,Aa,Ap,Ab,Ad,Ax,.row (.a .y) 33,Ac,Al,.cells 34 [.b,.b],Af]⟩,[⟨[(0,.tup [])],[.cells 30 [.ptr 1 0],BJ,Aa,Aa,Ap,Ab,Ad,Ax,.row (.a .y) 33,Ac,Al,.cells 34 [.b,.b],Af]⟩],fun t=>(o36 t.1.1.1 t.1.1.2.1 t.1.1.2.2 t.1.2.1 t.1.2.2.1 t.1.2.2.2 t.2.1.1 t.2.1.2.1 t.2.1.2.2 t.2.2.1 t.2.2.2.1 t.2.2.2.2)⟩)::T86
theorem K87:TK T87:=kc K86 Tryz.f36 .d fun t=>by kernel_rfl
def OS:SSh:= .v (.c (.cap (.cap (.cap (.cap (.fn 36) (.ptr 9 0)) (.ptr 10 0)) (.ptr 11 0)) (.ptr 12 0)))
def OT (b:Ag) (c:I3) (d:I3) (e:(I3)×Bool×I2) (f:Ae) (g:List (Int×Int×Int×Bt)) (h:I2) (i:List Bt) (j:List (Int×I4)) (k:Ar) (l:B2) (m:Aj):Option Hg :=
 (bd (o36 b c d e f g h i j k l m) (fun n=>(some n)))
def AlT:HC:=(.s .d (.b (.u 3 (.v .d (.v .d (.v .d .d))))))
def T88:Tbl:=(26,⟨⟨[(0,.v (.c (.ptr 0 0))),(1,OS)],[AZ,Aa,Aa,Ak,Ab,Ad,Am,.row (.a .y) 33,Ac,.cells 30 [.ptr 0 0],Al,.cells 34 [.b,.b],Af]⟩,[⟨[(0,.tup [])],[AZ,Aa,Aa,Ak,Ab,Ad,Am,.row (.a .y) 33,Ac,.cells 30 [.ptr 0 0],Al,.cells 34 [.b,.b],Af]⟩],fun t=>(OT t.1.1.1 t.1.1.2.1 t.1.1.2.2 t.1.2.1 t.1.2.2.1 t.1.2.2.2 t.2.1.1 t.2.1.2.1 t.2.1.2.2 t.2.2.1 t.2.2.2.1 t.2.2.2.2)⟩)::T87
theorem K88:TK T88:=kc K87 Tryz.f26 AlT fun t=>by kernel_rfl
def o45 (b:Ae):Option Int :=
 (some b.1.1.1.2.2)
def T89:Tbl:=(45,⟨⟨[(0,.v (.c (.ptr 0 0)))],[AG]⟩,[⟨[(0,.v (.c (.i .i64)))],[.no]⟩],fun t=>(o45 t)⟩)::T88
theorem K89:TK T89:=kc K88 Tryz.f45 .d fun t=>by kernel_rfl
def FD:SSh:= .v (.agg [.i .i64,.i .i64,.i .i64,.ro .y false])
def Zg:SSh:= .v (.agg [.i .i64,.i .i64,.i .i64,.own 0])
def o123 (b:(I2)×Int×Bt):Option ((I3)×Bt) :=
 (bd (o33 b.2.2) (fun c=>(some ((b.1.1,b.1.2,b.2.1),c))))
def T90:Tbl:=(123,⟨⟨[(0,FD)],[]⟩,[⟨[(0,Zg)],[.row .y 5]⟩],fun t=>(o123 t)⟩)::T89
theorem K90:TK T90:=kc K89 Tryz.f123 .d fun t=>by kernel_rfl
def OU:BSh:= .cells 97 [.ic .i64 (0),.ic .i64 (0),.ic .i64 (0),.cst (.slice none 0 0)]
def Zh:SSh:= .tup [.agg [.i .i64,.i .i64,.i .i64,.own 1],.c (.i .i64)]
abbrev Zi:Type:=((I2)×I2)×(List (Int×Int×Int×Bt))×Bt
abbrev OV:Type:=(Int×Bt)×Bool×(List (Int×Int×Int×Bt))×I2
def AjE:Sch:=⟨[(0,.v (.c (.ptr 0 0))),(2,.v (.c (.i .i64))),(3,.v (.c (.ro .y false))),(5,.v (.c (.ptr 1 0))),(8,.v (.c (.ptr 2 0))),(47,.v (.c (.b)))],[Ad,.cells 135 [.i .i64,.i .i64],OU]⟩
def o81 (e:I2) (f:Int) (g:Bt) (c:List (Int×Int×Int×Bt)):Option Zi :=
 (bd (α:=OV) (cnd (decide (((c.length:Nat):Int) > (0:Int))) (gd (decide ((0:Int)≤(0:Int)∧(0:Int) < ((c.length:Nat):Int))) (cnd (e.1==(List.getD c (0:Int).toNat ((0:Int),((0:Int),((0:Int),([]:Bt))))).1) (cnd (decide (e.2≥(0:Int))) (some ((f,g),(decide (e.2 < ((c.length:Nat):Int))),c,e)) (some ((f,g),false,c,e))) (some ((f,g),false,c,e)))) (some ((f,g),false,c,e))) (fun b=>(cnd b.2.1 (gd (decide ((0:Int)≤b.2.2.2.2∧b.2.2.2.2 < ((b.2.2.1.length:Nat):Int))) (bd (o123 (((List.getD b.2.2.1 b.2.2.2.2.toNat ((0:Int),((0:Int),((0:Int),([]:Bt))))).1,((List.getD b.2.2.1 b.2.2.2.2.toNat ((0:Int),((0:Int),((0:Int),([]:Bt))))).2).1),(((List.getD b.2.2.1 b.2.2.2.2.toNat ((0:Int),((0:Int),((0:Int),([]:Bt))))).2).2).1,(((List.getD b.2.2.1 b.2.2.2.2.toNat ((0:Int),((0:Int),((0:Int),([]:Bt))))).2).2).2)) (fun h=>(some (((h.1.1,h.1.2.1),h.1.2.2,(0:Int)),b.2.2.1,h.2))))) (bd (o18 b.1.1 b.1.2) (fun d=>(cnd (d.1 != (0:Int)) (some ((((0:Int),(0:Int)),(0:Int),d.1),b.2.2.1,([]:Bt))) (gd (decide ((0:Int)≤(0:Int)∧(0:Int) < ((d.2.length:Nat):Int))) (bd (o123 (((List.getD d.2 ((0:Int).toNat) ((0:Int),((0:Int),((0:Int),([]:Bt))))).1,((List.getD d.2 ((0:Int).toNat) ((0:Int),((0:Int),((0:Int),([]:Bt))))).2).1),(((List.getD d.2 ((0:Int).toNat) ((0:Int),((0:Int),((0:Int),([]:Bt))))).2).2).1,(((List.getD d.2 ((0:Int).toNat) ((0:Int),((0:Int),((0:Int),([]:Bt))))).2).2).2)) (fun i=>(some (((i.1.1,i.1.2.1),i.1.2.2,(0:Int)),d.2,i.2)))))))))))
def h81:HC:=(.s .d (.s .d (.s (.s (.j false [AjE] .d) (.c (.s (.r 1) .d) .d)) .d)))
def T91:Tbl:=(81,⟨⟨[(0,.v (.c (.ptr 0 0))),(1,.v (.agg [.i .i64,.i .i64])),(2,.v (.c (.i .i64))),(3,.v (.c (.ro .y false)))],[Ad]⟩,[⟨[(0,Zh)],[Ad,.row .y 5]⟩],fun t=>(o81 t.1.1 t.1.2 t.2.1 t.2.2)⟩)::T90
theorem K91:TK T91:=kc K90 Tryz.f81 h81 fun t=>by kernel_rfl
def Agd:Sch:=⟨[(2,.v (.c (.b)))],[]⟩
def o124 (b:(I2)×Int×Bt):Option Bool :=
 (bd (α:=Bool) (cnd (decide (b.1.1≥(1:Int))) (cnd (decide (b.1.1≤(2305843009213693952:Int))) (cnd (decide (b.2.1≥(1:Int))) (cnd (decide (b.2.1≤(874:Int))) (cnd (decide (b.1.2≥(0:Int))) (cnd (decide (b.1.2 < b.2.1)) (some (decide (((b.2.2.length:Nat):Int)≤(600:Int)))) (some false)) (some false)) (some false)) (some false)) (some false)) (some false)) (fun c=>(some c)))
def T92:Tbl:=(124,⟨⟨[(0,FD)],[]⟩,[⟨[(0,.v (.c (.b)))],[]⟩],fun t=>(o124 t)⟩)::T91
theorem K92:TK T92:=kc K91 Tryz.f124 (.s .d (.s (.j false [Agd] .d) .d)) fun t=>by kernel_rfl
def OW:BSh:= .cells 97 [.i .i64,.i .i64,.i .i64,.ro .y false]
def AjF:Sch:=⟨[(1,.v (.c (.ptr 0 0))),(4,.v (.c (.own 1))),(9,.v (.c (.i .i64)))],[OW,.row .y 5]⟩
def SO (b:Int×((I2)×Int×Bt)×Bt) :=
 (cnd (decide (b.1 < (8:Int))) (gd (decide ((0:Int)≤(IntKind.wrap .i64 ((8:Int)*b.1)))) (gd (decide ((b.2.2.length+([(u8 (IntKind.wrap .u8 (shrK .i64 b.2.1.1.1 (IntKind.wrap .i64 ((8:Int)*b.1)))))]:Bt).length)*1≤140737488355328)) (some (Ctl.go ((IntKind.wrap .i64 (b.1+(1:Int))),b.2.1,(b.2.2++([(u8 (IntKind.wrap .u8 (shrK .i64 b.2.1.1.1 (IntKind.wrap .i64 ((8:Int)*b.1)))))]:Bt))))))) (dnO (gd (decide ((b.2.2.length+([(u8 (IntKind.wrap .u8 b.2.1.1.2)),(u8 (IntKind.wrap .u8 (shrK .i64 b.2.1.1.2 (8:Int)))),(u8 (IntKind.wrap .u8 b.2.1.2.1)),(u8 (IntKind.wrap .u8 (shrK .i64 b.2.1.2.1 (8:Int))))]:Bt).length)*1≤140737488355328)) (gd (decide (((b.2.2++([(u8 (IntKind.wrap .u8 b.2.1.1.2)),(u8 (IntKind.wrap .u8 (shrK .i64 b.2.1.1.2 (8:Int)))),(u8 (IntKind.wrap .u8 b.2.1.2.1)),(u8 (IntKind.wrap .u8 (shrK .i64 b.2.1.2.1 (8:Int))))]:Bt)).length+b.2.1.2.2.length)*1≤140737488355328)) (some ((0:Int),((b.2.2++([(u8 (IntKind.wrap .u8 b.2.1.1.2)),(u8 (IntKind.wrap .u8 (shrK .i64 b.2.1.1.2 (8:Int)))),(u8 (IntKind.wrap .u8 b.2.1.2.1)),(u8 (IntKind.wrap .u8 (shrK .i64 b.2.1.2.1 (8:Int))))]:Bt))++b.2.1.2.2)))))))
def o82 (b:(I2)×Int×Bt):Option (Int×Bt) :=
 (bd (o124 b) (fun c=>(cnd (!c) (some ((1:Int),([]:Bt))) (loopO (σ:=Int×((I2)×Int×Bt)×Bt) fuelN SO ((0:Int),b,([]:Bt))))))
def h82:HC:=(.s .d (.s .d (.s .d (.s (.s .d (.b (.l [AjF] .d))) .d))))
def T93:Tbl:=(82,⟨⟨[(0,FD)],[]⟩,[⟨[(0,.tup [.c (.own 0),.c (.i .i64)])],[.row .y 5]⟩],fun t=>(o82 t)⟩)::T92
theorem K93:TK T93:=kc K92 Tryz.f82 h82 fun t=>by kernel_rfl
def o39 (j:Bt) (b:(I3)×Bool×I2) (d:Ae) (h:List (Int×Int×Int×Bt)) (e:I2) (f:List Bt) (g:List (Int×I4)):Option JT :=
 (bd (o71 (6:Int) b d h (e,f,g)) (fun i=>(cnd (i != (0:Int)) (some ((((((0:Int),(0:Int)),(0:Int),false,i),b),d,h),(e,f),g,([]:Bt))) (cnd (!b.2.1) (some ((((((0:Int),(0:Int)),(0:Int),false,(0:Int)),(b.1.1,(7:Int),b.1.2.2),b.2),d,h),(e,f),g,([]:Bt))) (bd (o45 d) (fun k=>(bd (o81 b.2.2 k j h) (fun c=>(cnd (c.1.2.2 != (0:Int)) (some ((((((0:Int),(0:Int)),(0:Int),false,c.1.2.2),(b.1.1,(7:Int),b.1.2.2),b.2),d,c.2.1),(e,f),g,([]:Bt))) (bd (o82 (c.1.1,c.1.2.1,c.2.2)) (fun l=>(some ((((((4:Int),(IntKind.wrap .u8 b.1.1)),b.1.2.2,true,(0:Int)),(b.1.1,(7:Int),b.1.2.2),b.2),d,c.2.1),(e,f),g,l.2)))))))))))))
def h39:HC:=(.s .d (.s .d (.s .d (.s .d (.s (.r 2) .d)))))
def T94:Tbl:=(39,⟨⟨[(0,.v (.c (.ptr 0 0))),(1,.v (.c (.ro .y false)))],[AQ,Ab,Ad,Bp,.row (.a .y) 33,Ac]⟩,[⟨[(0,JS)],[AQ,Ab,Ad,Bp,.row (.a .y) 33,Ac,.row .y 5]⟩],fun t=>(o39 t.1.1 t.1.2.1 t.1.2.2 t.2.1.1 t.2.1.2 t.2.2.1 t.2.2.2)⟩)::T93
theorem K94:TK T94:=kc K93 Tryz.f39 h39 fun t=>by kernel_rfl
abbrev OX:Type:=((Ag×I3)×(I3)×((I3)×Bool×I2)×Ae)×((List (Int×Int×Int×Bt))×(I2)×List Bt)×(List (Int×I4))×((I2)×Int×Bt)×Bt
def AjG:Sch:=⟨[(0,.v (.c (.ic .i64 (0)))),(1,.v (.c (.ptr 0 0))),(3,.v (.c (.ptr 10 0))),(5,.v (.c (.own 11)))],[.cells 30 [.ptr 1 0],BJ,Aa,Aa,Ap,Ab,Ad,Ax,.row (.a .y) 33,Ac,Bi,.row .y 5]⟩
def o38 (f:Ag) (d:I3) (g:I3) (e:(I3)×Bool×I2) (h:Ae) (i:List (Int×Int×Int×Bt)) (j:I2) (k:List Bt) (l:List (Int×I4)):Option Ey :=
 (bd (α:=OX) (cnd e.2.1 (bd (o180 d) (fun m=>(some (((f,d),g,e,h),(i,j,k),l,(((0:Int),(0:Int)),(0:Int),([]:Bt)),m)))) (some (((f,d),g,e,h),(i,j,k),l,(((0:Int),(0:Int)),(0:Int),([]:Bt)),([]:Bt)))) (fun b=>(bd (o39 b.2.2.2.2 b.1.2.2.1 b.1.2.2.2 b.2.1.1 b.2.1.2.1 b.2.1.2.2 b.2.2.1) (fun c=>(some ((((c.1.1.1.1,c.1.1.1.2.1,c.1.1.1.2.2.1),b.1.1.1),b.1.1.2,b.1.2.1,c.1.1.2),(c.1.2.1,c.1.2.2,c.2.1.1),c.2.1.2,c.2.2))))))
def T95:Tbl:=(38,⟨⟨[(0,.v (.c (.ic .i64 (0)))),(1,.v (.c (.ptr 0 0)))],[.cells 30 [.ptr 1 0],BJ,Aa,Aa,Ap,Ab,Ad,Ax,.row (.a .y) 33,Ac]⟩,[⟨[(0,GY)],[.cells 30 [.ptr 1 0],BJ,Aa,Aa,Ap,Ab,Ad,Ax,.row (.a .y) 33,Ac,.row .y 5]⟩],fun t=>(o38 t.1.1.1 t.1.1.2 t.1.2.1 t.1.2.2 t.2.1.1 t.2.1.2 t.2.2.1 t.2.2.2.1 t.2.2.2.2)⟩)::T94
theorem K95:TK T95:=kc K94 Tryz.f38 (.s .d (.s .d (.j false [AjG] .d))) fun t=>by kernel_rfl
def Zj:Sch:=⟨[(0,.v (.c (.ptr 0 0))),(1,.v (.c (.ic .i64 (3)))),(3,.v (.c (.cap (.fn 38) (.ptr 9 0)))),(6,.v (.c (.ptr 10 0))),(8,.v (.c (.ptr 11 0))),(9,.v (.c (.ptr 12 0))),(15,.v (.c (.ic .i64 (0))))],[AZ,Aa,Aa,Ak,Ab,Ad,Am,.row (.a .y) 33,Ac,.cells 30 [.ptr 0 0],Ao,Al,.cells 34 [.b,.b]]⟩
def OY (d:Aq) (g:Ag) (h:I3) (i:I3) (j:(I3)×Bool×I2) (k:Ae) (l:List (Int×Int×Int×Bt)) (m:I2) (n:List Bt) (o:List (Int×I4)):Option GZ :=
 (bd (α:=Ha) (bd (o38 g h i j k l m n o) (fun b=>(cnd (!b.1.1.1.2.2) (some (((b.1.1.2,b.1.2.1,b.1.2.2.1),b.1.2.2.2,b.2.1.1,b.2.1.2.1),(b.2.1.2.2,b.2.2.1,b.2.2.2.1),d,((((0:Int),(0:Int)),(0:Int),([]:Bt)),((0:Int),(0:Int)),(0:Int),([]:Bt)),false,false)) (bd (o69 (b.1.1.1.1,b.1.1.1.2.1,b.2.2.2.2)) (fun f=>(cnd (f.1 != (0:Int)) (some (((b.1.1.2,b.1.2.1,b.1.2.2.1),b.1.2.2.2,b.2.1.1,b.2.1.2.1),(b.2.1.2.2,b.2.2.1,b.2.2.2.1),d,((((0:Int),(0:Int)),(0:Int),([]:Bt)),((0:Int),(0:Int)),(0:Int),([]:Bt)),false,false)) (bd (o70 f.2 (d.2.1.1.1.2,d.2.1.1.2) (4:Int) (1:Int) b.1.1.2.1.2.2.2) (fun e=>(some (((b.1.1.2,b.1.2.1,b.1.2.2.1),b.1.2.2.2,b.2.1.1,b.2.1.2.1),(b.2.1.2.2,b.2.2.1,b.2.2.2.1),d,((((0:Int),(0:Int)),(0:Int),([]:Bt)),e.1,e.2.1,e.2.2.1),false,e.2.2.2)))))))))) (fun c=>(some (((((c.2.2.2.1.1.1,c.2.2.2.1.1.2.1,c.2.2.2.1.1.2.2,c.2.2.2.1.2.1.1),(c.2.2.2.1.2.1.2,c.2.2.2.1.2.2.1),c.2.2.2.1.2.2.2,c.2.2.2.2),c.1.1.1),c.1.1.2.1,c.1.1.2.2,c.1.2.1),c.1.2.2,c.2.1))))
def AlU:HC:=(.s .d (.s (.s .d (.b (.u 3 (.v (.s .d (.s .d (.j false [Zj] .d))) (.v .d (.v .d .d)))))) .d))
def T96:Tbl:=(23,⟨⟨[(0,.v (.c (.ptr 0 0))),(1,.v (.c (.ic .i64 (3)))),(2,Bo),(3,.v (.c (.cap (.fn 38) (.ptr 9 0))))],[AZ,Aa,Aa,Ak,Ab,Ad,Am,.row (.a .y) 33,Ac,.cells 30 [.ptr 0 0]]⟩,[⟨[(0,Ch)],[AZ,Aa,Aa,Ak,Ab,Ad,Am,.row (.a .y) 33,Ac,.cells 30 [.ptr 0 0]]⟩],fun t=>(OY t.1.1.1 t.1.1.2 t.1.2.1 t.1.2.2.1 t.1.2.2.2 t.2.1.1 t.2.1.2 t.2.2.1 t.2.2.2.1 t.2.2.2.2)⟩)::T95
theorem K96:TK T96:=kc K95 Tryz.f23 AlU fun t=>by kernel_rfl
def Zk:BSh:= .cells 97 [.i .i64,.i .i64,.i .i64,.own 2]
def OZ:SSh:= .tup [.agg [.i .i64,.i .i64,.i .i64,.own 0],.c (.i .i64)]
def Age:Sch:=⟨[(0,.v (.c (.ro .y false))),(2,.v (.c (.ptr 0 0))),(4,.v (.c (.ptr 1 0))),(34,.v (.c (.i .i64)))],[OU,Zk,.row .y 5]⟩
def ME (b:(Bt×Int)×(I3)×Bt) :=
 (cnd (decide (b.1.2 < (8:Int))) (gd (decide ((0:Int)≤b.1.2∧b.1.2 < ((b.1.1.length:Nat):Int))) (gd (decide ((0:Int)≤(IntKind.wrap .i64 ((8:Int)*b.1.2)))) (some (Ctl.go ((b.1.1,(IntKind.wrap .i64 (b.1.2+(1:Int)))),((lorK .i64 b.2.1.1 (IntKind.wrap .i64 (shlK .u64 (IntKind.wrap .u64 ((UInt8.toNat (List.getD b.1.1 b.1.2.toNat (0:UInt8)):Nat):Int)) (IntKind.wrap .i64 ((8:Int)*b.1.2))))),b.2.1.2),b.2.2))))) (dnO (bd (o124 ((b.2.1.1,b.2.1.2.1),b.2.1.2.2,b.2.2)) (fun c=>(cnd (!c) (some ((((0:Int),(0:Int)),(0:Int),(4:Int)),([]:Bt))) (some (((b.2.1.1,b.2.1.2.1),b.2.1.2.2,(0:Int)),b.2.2)))))))
def o125 (b:Bt):Option (((I2)×I2)×Bt) :=
 (cnd (decide (((b.length:Nat):Int) < (12:Int))) (some ((((0:Int),(0:Int)),(0:Int),(4:Int)),([]:Bt))) (gd (decide ((0:Int)≤(8:Int)∧(8:Int) < ((b.length:Nat):Int))) (gd (decide ((0:Int)≤(9:Int)∧(9:Int) < ((b.length:Nat):Int))) (gd (decide ((0:Int)≤(10:Int)∧(10:Int) < ((b.length:Nat):Int))) (gd (decide ((0:Int)≤(11:Int)∧(11:Int) < ((b.length:Nat):Int))) (gd (decide ((0:Int)≤(12:Int)∧(12:Int)≤((b.length:Nat):Int))) (bd (o33 (List.drop (12:Int).toNat b)) (fun c=>(loopO (σ:=(Bt×Int)×(I3)×Bt) fuelN ME ((b,(0:Int)),((0:Int),(IntKind.wrap .i64 ((IntKind.wrap .i64 ((UInt8.toNat (List.getD b (8:Int).toNat (0:UInt8)):Nat):Int))+(shlK .i64 (IntKind.wrap .i64 ((UInt8.toNat (List.getD b (9:Int).toNat (0:UInt8)):Nat):Int)) (8:Int)))),(IntKind.wrap .i64 ((IntKind.wrap .i64 ((UInt8.toNat (List.getD b (10:Int).toNat (0:UInt8)):Nat):Int))+(shlK .i64 (IntKind.wrap .i64 ((UInt8.toNat (List.getD b (11:Int).toNat (0:UInt8)):Nat):Int)) (8:Int))))),c))))))))))
def h125:HC:=(.s .d (.s .d (.s (.r 2) (.s (.s .d (.b (.l [Age] .d))) .d))))
def T97:Tbl:=(125,⟨⟨[(0,.v (.c (.ro .y false)))],[]⟩,[⟨[(0,OZ)],[.row .y 5]⟩],fun t=>(o125 t)⟩)::T96
theorem K97:TK T97:=kc K96 Tryz.f125 h125 fun t=>by kernel_rfl
abbrev Zl:Type:=(Bool×I2)×List Bt×(List (Int×I4))×(I2)×Int×Bt
def Agf:Sch:=⟨[(0,.v (.c (.ptr 0 0))),(3,.v (.c (.ptr 3 0))),(44,.v (.c (.b)))],[Ew,.row (.a .y) 33,Ac,OW]⟩
def o126 (c:(I2)×Int×Bt) (d:I2) (e:List Bt) (f:List (Int×I4)):Option AE :=
 (bd (o124 c) (fun h=>(cnd (!h) (some (d,e,f)) (bd (α:=Zl) (cnd (decide (((e.length:Nat):Int) > (0:Int))) (cnd (c.1.1==d.1) (cnd (c.2.1==d.2) (some (((c.1.2==((e.length:Nat):Int)),d),e,f,c)) (some ((false,d),e,f,c))) (some ((false,d),e,f,c))) (some ((false,d),e,f,c))) (fun b=>(cnd b.1.1 (bd (o33 b.2.2.2.2.2) (fun g=>(gd (decide ((b.2.1.length+([g]:List Bt).length)*24≤140737488355328)) (some (b.1.2,(b.2.1++([g]:List Bt)),b.2.2.1))))) (cnd (b.2.2.2.1.2==(0:Int)) (bd (o33 b.2.2.2.2.2) (fun i=>(some ((b.2.2.2.1.1,b.2.2.2.2.1),([i]:List Bt),([]:List (Int×I4)))))) (some (b.1.2,b.2.1,b.2.2.1)))))))))
def h126:HC:=(.s .d (.s .d (.s (.s (.j false [Agf] .d) (.c (.s (.r 3) .d) .d)) (.s .d (.c (.r 2) .d)))))
def T98:Tbl:=(126,⟨⟨[(0,.v (.c (.ptr 0 0))),(1,FD)],[Ew,.row (.a .y) 33,Ac]⟩,[⟨[(0,.tup [])],[JH,.no,.no,.row (.a .y) 33,Ac]⟩],fun t=>(o126 t.1.1 t.1.2 t.2.1 t.2.2)⟩)::T97
theorem K98:TK T98:=kc K97 Tryz.f126 h126 fun t=>by kernel_rfl
def Zm:SSh:= .v (.c (.ro (.p (.i .i64) (.p (.i .i64) (.p .b (.a .y)))) false))
def o151 (b:List (Int×I4)):Option (List (Int×I4)) :=
 (nlO (List.isEmpty b) (some ([]:List (Int×I4))) (gd (decide ((([]:List (Int×I4)).length+b.length)*48≤140737488355328)) (some (([]:List (Int×I4))++b))))
def T99:Tbl:=(151,⟨⟨[(0,Zm)],[]⟩,[⟨[(0,.v (.c (.own 0)))],[Ac]⟩],fun t=>(o151 t)⟩)::T98
theorem K99:TK T99:=kc K98 Tryz.f151 .d fun t=>by kernel_rfl
def o159 (b:Int):Option (Bt) :=
 (cnd (decide (b < (0:Int))) none (cnd (decide ((IntKind.wrap .i64 (b - (IntKind.wrap .i64 ((0:Int) - (0:Int))))) > (0:Int))) (gd (decide ((0:Int)≤(0:Int)∧(0:Int)≤((0:Nat):Int))) (gd (decide ((0:Int) < (IntKind.wrap .i64 (b - (IntKind.wrap .i64 ((0:Int) - (0:Int)))))∧(IntKind.wrap .i64 (b - (IntKind.wrap .i64 ((0:Int) - (0:Int)))))*(1:Int)≤(140737488355328:Int))) (gd (decide ((0:Int)≤(0:Int)∧(0:Int)≤(((List.replicate (IntKind.wrap .i64 (b - (IntKind.wrap .i64 ((0:Int) - (0:Int))))).toNat (u8 (0:Int))).length:Nat):Int))) (some (List.take ((0:Int).toNat) (List.replicate (IntKind.wrap .i64 (b - (IntKind.wrap .i64 ((0:Int) - (0:Int))))).toNat (u8 (0:Int)))))))) (some ([]:Bt))))
def AlV:Tbl:=(159,⟨⟨[(0,.v (.c (.cst (.slice none 0 0)))),(1,.v (.c (.i .i64)))],[]⟩,[⟨[(0,.v (.c (.own 0)))],[.row .y 5]⟩],fun t=>(o159 t)⟩)::T99
theorem ApV:TK AlV:=kc K99 Tryz.f159 .d fun t=>by kernel_rfl
def Agg:Sch:=⟨[(0,.v (.c (.ro (.a .y) false))),(3,.v (.c (.i .i64))),(9,.v (.c (.ro (.a .y) false))),(10,.v (.c (.i .i64))),(11,.v (.c (.i .i64)))],[]⟩
def Agh:Sch:=⟨[(6,.v (.c (.own 0))),(25,.v (.c (.ro (.a .y) false))),(26,.v (.c (.i .i64))),(27,.v (.c (.i .i64)))],[.row .y 5]⟩
def MF (b:(List Bt×Int)×Int×Bt) :=
 (cnd (decide (b.2.1 < b.1.2)) (gd (decide ((0:Int)≤b.2.1∧b.2.1 < ((b.1.1.length:Nat):Int))) (gd (decide ((b.2.2.length+(List.getD b.1.1 b.2.1.toNat ([]:Bt)).length)*1≤140737488355328)) (some (Ctl.go (b.1,(IntKind.wrap .i64 (b.2.1+(1:Int))),(b.2.2++(List.getD b.1.1 b.2.1.toNat ([]:Bt)))))))) (dnO (some b.2.2)))
def MG (b:(List Bt×Int)×List Bt×I2) :=
 (cnd (decide (b.2.2.2 < b.2.2.1)) (gd (decide ((0:Int)≤b.2.2.2∧b.2.2.2 < ((b.2.1.length:Nat):Int))) (cnd (decide ((IntKind.wrap .i64 (b.1.2+(((List.getD b.2.1 b.2.2.2.toNat ([]:Bt)).length:Nat):Int))) < (0:Int))) none (some (Ctl.go ((b.1.1,(IntKind.wrap .i64 (b.1.2+(((List.getD b.2.1 b.2.2.2.toNat ([]:Bt)).length:Nat):Int)))),b.2.1,b.2.2.1,(IntKind.wrap .i64 (b.2.2.2+(1:Int)))))))) (dnO (bd (o159 b.1.2) (fun c=>(loopO (σ:=(List Bt×Int)×Int×Bt) fuelN MF ((b.1.1,((b.1.1.length:Nat):Int)),(0:Int),c))))))
def o152 (b:List Bt):Option (Bt) :=
 (loopO (σ:=(List Bt×Int)×List Bt×I2) fuelN MG ((b,(0:Int)),b,((b.length:Nat):Int),(0:Int)))
def h152:HC:=(.s .d (.s .d (.s (.s .d (.b (.l [Agg] .d))) (.s .d (.s (.s .d (.b (.l [Agh] .d))) .d)))))
def AlW:Tbl:=(152,⟨⟨[(0,.v (.c (.ro (.a .y) false)))],[]⟩,[⟨[(0,.v (.c (.own 0)))],[.row .y 5]⟩],fun t=>(o152 t)⟩)::AlV
theorem ApW:TK AlW:=kc ApV Tryz.f152 h152 fun t=>by kernel_rfl
def FE:BSh:= .cells 190 [.ic .i64 (0),.cst (.slice none 0 0),.cst (.slice none 0 0)]
def Zn:SSh:= .tup [.agg [.i .i64,.own 1,.own 2],.c (.b)]
abbrev Zo:Type:=(Int×Bool)×Bt×List (Int×I4)
abbrev Pa:Type:=(I2)×AE×List (Int×I4)
def Agi:Sch:=⟨[(0,.v (.c (.ptr 0 0))),(2,.v (.c (.ptr 1 0))),(27,.v (.c (.b)))],[AP,FE]⟩
def Agj:Sch:=⟨[(0,.v (.c (.ptr 0 0))),(2,.v (.c (.ptr 1 0))),(4,.v (.c (.own 2))),(35,.v (.c (.i .i64))),(36,.v (.c (.i .i64)))],[AP,FE,Ac]⟩
def MH (b:Pa) :=
 (cnd (decide (b.1.2 < b.1.1)) (gd (decide ((0:Int)≤b.1.2∧b.1.2 < ((b.2.2.length:Nat):Int))) (bd (o33 ((((List.getD b.2.2 b.1.2.toNat ((0:Int),((0:Int),(false,([]:Bt))))).2).2).2)) (fun c=>(gd (decide ((0:Int)≤b.1.2∧b.1.2 < ((b.2.2.length:Nat):Int))) (some (Ctl.go ((b.1.1,(IntKind.wrap .i64 (b.1.2+(1:Int)))),b.2.1,(List.set b.2.2 b.1.2.toNat ((List.getD b.2.2 b.1.2.toNat ((0:Int),((0:Int),(false,([]:Bt))))).1,(((List.getD b.2.2 b.1.2.toNat ((0:Int),((0:Int),(false,([]:Bt))))).2).1,((((List.getD b.2.2 b.1.2.toNat ((0:Int),((0:Int),(false,([]:Bt))))).2).2).1,c))))))))))) (dnO (bd (o152 b.2.1.2.1) (fun d=>(some ((b.2.1.1.1,true),d,b.2.2))))))
def o127 (b:AE):Option Zo :=
 (bd (α:=(Bool×AE)) (cnd (((b.2.1.length:Nat):Int)==(0:Int)) (some (true,b)) (some ((((b.2.1.length:Nat):Int) != b.1.2),b))) (fun c=>(cnd c.1 (some (((0:Int),false),([]:Bt),([]:List (Int×I4)))) (bd (o151 c.2.2.2) (fun d=>(loopO (σ:=Pa) fuelN MH ((((d.length:Nat):Int),(0:Int)),c.2,d)))))))
def h127:HC:=(.s .d (.s (.s (.j false [Agi] .d) .d) (.s .d (.s (.s .d (.b (.l [Agj] .d))) (.s (.r 1) .d)))))
def AlX:Tbl:=(127,⟨⟨[(0,.v (.c (.ptr 0 0)))],[AP]⟩,[⟨[(0,Zn)],[.no,.row .y 5,Ac]⟩],fun t=>(o127 t)⟩)::AlW
theorem ApX:TK AlX:=kc ApW Tryz.f127 h127 fun t=>by kernel_rfl
def Agk:Sch:=⟨[(0,.v (.c (.ptr 0 0))),(1,.v (.c (.i .i64))),(18,.v (.c (.b)))],[Ab]⟩
def Agl:Sch:=⟨[(0,.v (.c (.ptr 0 0))),(1,.v (.c (.i .i64))),(24,.v (.c (.b)))],[Ab]⟩
def o128 (e:Int) (d:Ae):Option (Int×Ae) :=
 (bd (α:=(Int×Bool×Ae)) (cnd (d.1.1.2.2.1 != (0:Int)) (some (e,true,d)) (some (e,(d.1.1.1.2.1 != (1:Int)),d))) (fun b=>(cnd b.2.1 (some ((8:Int),b.2.2)) (bd (α:=(Int×Bool×Ae)) (cnd (decide (b.1 < (1:Int))) (some (b.1,true,b.2.2)) (some (b.1,(decide (b.1 > (4611686018427387904:Int))),b.2.2))) (fun c=>(cnd c.2.1 (some ((1:Int),c.2.2)) (some ((0:Int),(((c.2.2.1.1.1.1,(3:Int),c.1),c.2.2.1.1.2),c.2.2.1.2),c.2.2.2))))))))
def h128:HC:=(.s .d (.s .d (.s (.s (.j false [Agk] .d) .d) (.s (.s (.j false [Agl] .d) .d) .d))))
def AlY:Tbl:=(128,⟨⟨[(0,.v (.c (.ptr 0 0))),(1,.v (.c (.i .i64)))],[Ab]⟩,[⟨[(0,.v (.c (.i .i64)))],[Ab]⟩],fun t=>(o128 t.1 t.2)⟩)::AlX
theorem ApY:TK AlY:=kc ApX Tryz.f128 h128 fun t=>by kernel_rfl
end
end Go.Proofs.YtpleflcfaecojaaGreat
