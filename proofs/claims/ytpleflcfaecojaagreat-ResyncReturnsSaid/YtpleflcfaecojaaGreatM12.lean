/-
What functions compute, printed by wip/h/py. Conditions: each theorem's own.
-/
import Derived.Test.YtpleflcfaecojaaGreatM11
namespace Go.Proofs.YtpleflcfaecojaaGreat
set_option linter.unusedVariables false
set_option linter.unusedSimpArgs false
set_option maxRecDepth 100000
open Go.RowKit
noncomputable section
def DH:SSh:= .v (.c (.cap (.cap (.fn 34) (.ptr 15 0)) (.ptr 16 0)))
abbrev EY:Type:=(((BU×Af)×(I3)×I3)×(((I3)×Bool×I2)×Ae)×(List (Int×Int×Int×Bt))×I2)×((List Bt×List (Int×I4))×((I3)×Bool×I2)×Ae)×((List (Int×Int×Int×Bt))×I2)×List Bt×(List (Int×I4))×Ah
abbrev Fa:Type:=(((Af×I3)×(I3)×(I3)×Bool×I2)×(Ae×List (Int×Int×Int×Bt))×(I2)×List Bt×List (Int×I4))×((((I3)×Bool×I2)×Ae)×(List (Int×Int×Int×Bt))×(I2)×List Bt)×((List (Int×I4))×Ah)×Ao×As×B2
abbrev Ht:Type:=(((Ao×Af)×(I3)×I3)×(((I3)×Bool×I2)×Ae)×(List (Int×Int×Int×Bt))×I2)×((List Bt×List (Int×I4))×((I3)×Bool×I2)×Ae)×((List (Int×Int×Int×Bt))×I2)×List Bt×(List (Int×I4))×Ah
def o23v6_s0:Sch:=⟨[(0,.v (.c (.ptr 0 0))),(1,.v (.c (.ic .i64 (2)))),(3,DH),(6,.v (.c (.ptr 17 0))),(8,.v (.c (.ptr 18 0))),(9,.v (.c (.ptr 19 0))),(15,.v (.c (.ic .i64 (0))))],[Aw,Aa,Aa,Ai,Ab,Ad,Al,.row (.a .y) 33,Ac,Au,Ab,Ad,Ap,.row (.a .y) 33,Ac,.cells 30 [.ptr 0 0],Ag,Aj,Am,.cells 34 [.b,.b]]⟩
def o23v6_s1:Sch:=⟨[(0,.v (.c (.ptr 0 0))),(1,.v (.c (.ic .i64 (2)))),(3,DH),(6,.v (.c (.ptr 17 0))),(8,.v (.c (.ptr 18 0))),(9,.v (.c (.ptr 19 0))),(15,.v (.c (.ic .i64 (1))))],[Aw,Aa,Aa,Ai,Ab,Ad,Al,.row (.a .y) 33,Ac,Au,Ab,Ad,Ap,.row (.a .y) 33,Ac,.cells 30 [.ptr 0 0],Ag,Aj,Am,.cells 34 [.b,.b]]⟩
def p23v6:Sch:=⟨[(0,.v (.c (.ptr 0 0))),(1,.v (.c (.ic .i64 (2)))),(2,AP),(3,DH)],[Aw,Aa,Aa,Ai,Ab,Ad,Al,.row (.a .y) 33,Ac,Au,Ab,Ad,Ap,.row (.a .y) 33,Ac,.cells 30 [.ptr 0 0],Ag]⟩
def r23v6:List Sch:=[⟨[(0,Bq)],[Aw,Aa,Aa,Ai,Ab,Ad,Al,.row (.a .y) 33,Ac,Au,Ab,Ad,Ap,.row (.a .y) 33,Ac,.cells 30 [.ptr 0 0],Ag]⟩]
def o23v6 (a0:Ao) (a1:Af) (a2:I3) (a3:I3) (a4:(I3)×Bool×I2) (a5:Ae) (a6:List (Int×Int×Int×Bt)) (a7:I2) (a8:List Bt) (a9:List (Int×I4)) (a10:(I3)×Bool×I2) (a11:Ae) (a12:List (Int×Int×Int×Bt)) (a13:I2) (a14:List Bt) (a15:List (Int×I4)) (a16:Ah):Option EY :=
 (bd (α:=Fa) (bd (α:=Bn) (o34v1 a1 a2 a3 a4 a5 a6 a7 a8 a9 a10 a11 a12 a13 a14 a15 a16) (fun v1=>(cnd (!v1.1.1.1.1.2.2) (some ((((v1.1.1.1.2,v1.1.1.2.1),v1.1.1.2.2,v1.1.2.1.1),(v1.1.2.1.2,v1.1.2.2.1),v1.1.2.2.2,v1.2.1.1),(v1.2.1.2,v1.2.2.1.1,v1.2.2.1.2,v1.2.2.2.1),(v1.2.2.2.2.1,a16),a0,((((0:Int),(0:Int)),(0:Int),([]:Bt)),((0:Int),(0:Int)),(0:Int),([]:Bt)),false,false)) (bd (α:=(Int×Bt)) (o69 (v1.1.1.1.1.1,v1.1.1.1.1.2.1,v1.2.2.2.2.2)) (fun v2=>(cnd (v2.1 != (0:Int)) (some ((((v1.1.1.1.2,v1.1.1.2.1),v1.1.1.2.2,v1.1.2.1.1),(v1.1.2.1.2,v1.1.2.2.1),v1.1.2.2.2,v1.2.1.1),(v1.2.1.2,v1.2.2.1.1,v1.2.2.1.2,v1.2.2.2.1),(v1.2.2.2.2.1,a16),a0,((((0:Int),(0:Int)),(0:Int),([]:Bt)),((0:Int),(0:Int)),(0:Int),([]:Bt)),false,false)) (bd (α:=((I2)×Int×Bt×Bool)) (o70 v2.2 (a0.1.2.2.2.1,a0.1.2.2.2.2,a0.2.1.1.1.1) (3:Int) (1:Int) v1.1.1.1.2.1.2.2.2) (fun v4=>(some ((((v1.1.1.1.2,v1.1.1.2.1),v1.1.1.2.2,v1.1.2.1.1),(v1.1.2.1.2,v1.1.2.2.1),v1.1.2.2.2,v1.2.1.1),(v1.2.1.2,v1.2.2.1.1,v1.2.2.1.2,v1.2.2.2.1),(v1.2.2.2.2.1,a16),a0,((((0:Int),(0:Int)),(0:Int),([]:Bt)),v4.1,v4.2.1,v4.2.2.1),false,v4.2.2.2)))))))))) (fun v5=>(bd (α:=Fa) (bd (α:=Bn) (o34v2 v5.1.1.1.1 v5.1.1.1.2 v5.1.1.2.1 v5.1.1.2.2 v5.1.2.1.1 v5.1.2.1.2 v5.1.2.2.1 v5.1.2.2.2.1 v5.1.2.2.2.2 v5.2.1.1.1 v5.2.1.1.2 v5.2.1.2.1 v5.2.1.2.2.1 v5.2.1.2.2.2 v5.2.2.1.1 v5.2.2.1.2) (fun v6=>(cnd (!v6.1.1.1.1.2.2) (some ((((v6.1.1.1.2,v6.1.1.2.1),v6.1.1.2.2,v6.1.2.1.1),(v6.1.2.1.2,v6.1.2.2.1),v6.1.2.2.2,v6.2.1.1),(v6.2.1.2,v6.2.2.1.1,v6.2.2.1.2,v6.2.2.2.1),(v6.2.2.2.2.1,v5.2.2.1.2),v5.2.2.2)) (bd (α:=(Int×Bt)) (o69 (v6.1.1.1.1.1,v6.1.1.1.1.2.1,v6.2.2.2.2.2)) (fun v7=>(cnd (v7.1 != (0:Int)) (some ((((v6.1.1.1.2,v6.1.1.2.1),v6.1.1.2.2,v6.1.2.1.1),(v6.1.2.1.2,v6.1.2.2.1),v6.1.2.2.2,v6.2.1.1),(v6.2.1.2,v6.2.2.1.1,v6.2.2.1.2,v6.2.2.2.1),(v6.2.2.2.2.1,v5.2.2.1.2),v5.2.2.2)) (bd (α:=((I2)×Int×Bt×Bool)) (o70 v7.2 (v5.2.2.2.1.2.2.1.2.1,v5.2.2.2.1.2.2.1.2.2,v5.2.2.2.1.2.2.2.1.1) (3:Int) (2:Int) v6.1.1.1.2.1.2.2.2) (fun v9=>(some ((((v6.1.1.1.2,v6.1.1.2.1),v6.1.1.2.2,v6.1.2.1.1),(v6.1.2.1.2,v6.1.2.2.1),v6.1.2.2.2,v6.2.1.1),(v6.2.1.2,v6.2.2.1.1,v6.2.2.1.2,v6.2.2.2.1),(v6.2.2.2.2.1,v5.2.2.1.2),v5.2.2.2.1,((v9.1,v9.2.1,v9.2.2.1),v5.2.2.2.2.1.2),v9.2.2.2,v5.2.2.2.2.2.2)))))))))) (fun v10=>(some ((((((v10.2.2.2.2.1.1.1,v10.2.2.2.2.1.1.2.1,v10.2.2.2.2.1.1.2.2,v10.2.2.2.2.1.2.1.1),(v10.2.2.2.2.1.2.1.2,v10.2.2.2.2.1.2.2.1),v10.2.2.2.2.1.2.2.2,v10.2.2.2.2.2),v10.1.1.1.1),v10.1.1.1.2,v10.1.1.2.1),(v10.1.1.2.2,v10.1.2.1.1),v10.1.2.1.2,v10.1.2.2.1),(v10.1.2.2.2,v10.2.1.1),(v10.2.1.2.1,v10.2.1.2.2.1),v10.2.1.2.2.2,v10.2.2.1))))))
def h23v6:HC:=(.s .d (.s (.s .d (.b (.u 3 (.v (.s .d (.s .d (.j false [o23v6_s0] .d))) (.v (.s .d (.s .d (.j false [o23v6_s1] .d))) (.v .d .d)))))) .d))
theorem e23v6 (t:Ht):evF (stpT Tryz.prog T125 K125) Tryz.f23 p23v6 r23v6 h23v6 t=(o23v6 t.1.1.1.1 t.1.1.1.2 t.1.1.2.1 t.1.1.2.2 t.1.2.1.1 t.1.2.1.2 t.1.2.2.1 t.1.2.2.2 t.2.1.1.1 t.2.1.1.2 t.2.1.2.1 t.2.1.2.2 t.2.2.1.1 t.2.2.1.2 t.2.2.2.1 t.2.2.2.2.1 t.2.2.2.2.2):=by kernel_rfl
def n23v6:FSp:=⟨p23v6,r23v6,fun t=>(o23v6 t.1.1.1.1 t.1.1.1.2 t.1.1.2.1 t.1.1.2.2 t.1.2.1.1 t.1.2.1.2 t.1.2.2.1 t.1.2.2.2 t.2.1.1.1 t.2.1.1.2 t.2.1.2.1 t.2.1.2.2 t.2.2.1.1 t.2.2.1.2 t.2.2.2.1 t.2.2.2.2.1 t.2.2.2.2.2)⟩
theorem fo23v6:FOk Tryz.prog 23 n23v6:=fk e23v6
def T126:Tbl:=(23,n23v6)::T125
theorem K126:TOk Tryz.prog T126:= .cons K125 fo23v6
abbrev BG:Type:=(((Af×I3)×(I3)×(I3)×Bool×I2)×(Ae×List (Int×Int×Int×Bt))×(I2)×List Bt×List (Int×I4))×((((I3)×Bool×I2)×Ae)×(List (Int×Int×Int×Bt))×I2)×(List Bt×List (Int×I4))×As×(B2)×Ah
def p36v1:Sch:=⟨[(0,.v (.c (.ic .i64 (0)))),(1,.v (.c (.ptr 0 0))),(2,.v (.c (.ptr 16 0))),(3,.v (.c (.ptr 17 0))),(4,.v (.c (.ptr 18 0)))],[.cells 30 [.ptr 1 0],AC,Aa,Aa,Ak,Ab,Ad,Aq,.row (.a .y) 33,Ac,Av,Ab,Ad,Ay,.row (.a .y) 33,Ac,Am,.cells 34 [.b,.b],Ag]⟩
def r36v1:List Sch:=[⟨[(0,.tup [])],[.cells 30 [.ptr 1 0],AC,Aa,Aa,Ak,Ab,Ad,Aq,.row (.a .y) 33,Ac,Av,Ab,Ad,Ay,.row (.a .y) 33,Ac,Am,.cells 34 [.b,.b],Ag]⟩]
def o36v1 (a0:Af) (a1:I3) (a2:I3) (a3:(I3)×Bool×I2) (a4:Ae) (a5:List (Int×Int×Int×Bt)) (a6:I2) (a7:List Bt) (a8:List (Int×I4)) (a9:(I3)×Bool×I2) (a10:Ae) (a11:List (Int×Int×Int×Bt)) (a12:I2) (a13:List Bt) (a14:List (Int×I4)) (a15:As) (a16:B2) (a17:Ah):Option BG :=
 (bd (α:=Cn) (o37 a15.1 a16.1 a3 a4 a5 a6 a7 a8) (fun v2=>(some ((((a0,a1),a2,v2.1.2.1),(v2.1.2.2,v2.2.1.1),v2.2.1.2,v2.2.2),((a9,a10),a11,a12),(a13,a14),a15,a16,((a17.1.1.1,(v2.1.1.1,a17.1.1.2.1.2),a17.1.1.2.2),a17.1.2),a17.2))))
theorem e36v1 (t:BG):evF (stpT Tryz.prog T126 K126) Tryz.f36 p36v1 r36v1 .d t=(o36v1 t.1.1.1.1 t.1.1.1.2 t.1.1.2.1 t.1.1.2.2 t.1.2.1.1 t.1.2.1.2 t.1.2.2.1 t.1.2.2.2.1 t.1.2.2.2.2 t.2.1.1.1 t.2.1.1.2 t.2.1.2.1 t.2.1.2.2 t.2.2.1.1 t.2.2.1.2 t.2.2.2.1 t.2.2.2.2.1 t.2.2.2.2.2):=by kernel_rfl
def n36v1:FSp:=⟨p36v1,r36v1,fun t=>(o36v1 t.1.1.1.1 t.1.1.1.2 t.1.1.2.1 t.1.1.2.2 t.1.2.1.1 t.1.2.1.2 t.1.2.2.1 t.1.2.2.2.1 t.1.2.2.2.2 t.2.1.1.1 t.2.1.1.2 t.2.1.2.1 t.2.1.2.2 t.2.2.1.1 t.2.2.1.2 t.2.2.2.1 t.2.2.2.2.1 t.2.2.2.2.2)⟩
theorem fo36v1:FOk Tryz.prog 36 n36v1:=fk e36v1
def T127:Tbl:=(36,n36v1)::T126
theorem K127:TOk Tryz.prog T127:= .cons K126 fo36v1
def p36v2:Sch:=⟨[(0,.v (.c (.ic .i64 (1)))),(1,.v (.c (.ptr 0 0))),(2,.v (.c (.ptr 16 0))),(3,.v (.c (.ptr 17 0))),(4,.v (.c (.ptr 18 0)))],[.cells 30 [.ptr 1 0],AC,Aa,Aa,Ak,Ab,Ad,Aq,.row (.a .y) 33,Ac,Av,Ab,Ad,Ay,.row (.a .y) 33,Ac,Am,.cells 34 [.b,.b],Ag]⟩
def r36v2:List Sch:=[⟨[(0,.tup [])],[.cells 30 [.ptr 1 0],AC,Aa,Aa,Ak,Ab,Ad,Aq,.row (.a .y) 33,Ac,Av,Ab,Ad,Ay,.row (.a .y) 33,Ac,Am,.cells 34 [.b,.b],Ag]⟩]
def o36v2 (a0:Af) (a1:I3) (a2:I3) (a3:(I3)×Bool×I2) (a4:Ae) (a5:List (Int×Int×Int×Bt)) (a6:I2) (a7:List Bt) (a8:List (Int×I4)) (a9:(I3)×Bool×I2) (a10:Ae) (a11:List (Int×Int×Int×Bt)) (a12:I2) (a13:List Bt) (a14:List (Int×I4)) (a15:As) (a16:B2) (a17:Ah):Option BG :=
 (bd (α:=Cn) (o37 a15.2 a16.2 a9 a10 a11 a12 a13 a14) (fun v2=>(some ((((a0,a1),a2,a3),(a4,a5),a6,a7,a8),(v2.1.2,v2.2.1),v2.2.2,a15,a16,((a17.1.1.1,(a17.1.1.2.1.1,v2.1.1.1),a17.1.1.2.2),a17.1.2),a17.2))))
theorem e36v2 (t:BG):evF (stpT Tryz.prog T127 K127) Tryz.f36 p36v2 r36v2 .d t=(o36v2 t.1.1.1.1 t.1.1.1.2 t.1.1.2.1 t.1.1.2.2 t.1.2.1.1 t.1.2.1.2 t.1.2.2.1 t.1.2.2.2.1 t.1.2.2.2.2 t.2.1.1.1 t.2.1.1.2 t.2.1.2.1 t.2.1.2.2 t.2.2.1.1 t.2.2.1.2 t.2.2.2.1 t.2.2.2.2.1 t.2.2.2.2.2):=by kernel_rfl
def n36v2:FSp:=⟨p36v2,r36v2,fun t=>(o36v2 t.1.1.1.1 t.1.1.1.2 t.1.1.2.1 t.1.1.2.2 t.1.2.1.1 t.1.2.1.2 t.1.2.2.1 t.1.2.2.2.1 t.1.2.2.2.2 t.2.1.1.1 t.2.1.1.2 t.2.1.2.1 t.2.1.2.2 t.2.2.1.1 t.2.2.1.2 t.2.2.2.1 t.2.2.2.2.1 t.2.2.2.2.2)⟩
theorem fo36v2:FOk Tryz.prog 36 n36v2:=fk e36v2
def T128:Tbl:=(36,n36v2)::T127
theorem K128:TOk Tryz.prog T128:= .cons K127 fo36v2
def Hu:SSh:= .v (.c (.cap (.cap (.cap (.cap (.fn 36) (.ptr 15 0)) (.ptr 16 0)) (.ptr 17 0)) (.ptr 18 0)))
def p26v7:Sch:=⟨[(0,.v (.c (.ptr 0 0))),(1,Hu)],[Aw,Aa,Aa,Ai,Ab,Ad,Al,.row (.a .y) 33,Ac,Au,Ab,Ad,Ap,.row (.a .y) 33,Ac,.cells 30 [.ptr 0 0],Am,.cells 34 [.b,.b],Ag]⟩
def r26v7:List Sch:=[⟨[(0,.tup [])],[Aw,Aa,Aa,Ai,Ab,Ad,Al,.row (.a .y) 33,Ac,Au,Ab,Ad,Ap,.row (.a .y) 33,Ac,.cells 30 [.ptr 0 0],Am,.cells 34 [.b,.b],Ag]⟩]
def o26v7 (a0:Af) (a1:I3) (a2:I3) (a3:(I3)×Bool×I2) (a4:Ae) (a5:List (Int×Int×Int×Bt)) (a6:I2) (a7:List Bt) (a8:List (Int×I4)) (a9:(I3)×Bool×I2) (a10:Ae) (a11:List (Int×Int×Int×Bt)) (a12:I2) (a13:List Bt) (a14:List (Int×I4)) (a15:As) (a16:B2) (a17:Ah):Option BG :=
 (bd (α:=BG) (o36v1 a0 a1 a2 a3 a4 a5 a6 a7 a8 a9 a10 a11 a12 a13 a14 a15 a16 a17) (fun v1=>(bd (α:=BG) (o36v2 v1.1.1.1.1 v1.1.1.1.2 v1.1.1.2.1 v1.1.1.2.2 v1.1.2.1.1 v1.1.2.1.2 v1.1.2.2.1 v1.1.2.2.2.1 v1.1.2.2.2.2 v1.2.1.1.1 v1.2.1.1.2 v1.2.1.2.1 v1.2.1.2.2 v1.2.2.1.1 v1.2.2.1.2 v1.2.2.2.1 v1.2.2.2.2.1 v1.2.2.2.2.2) (fun v2=>(some v2)))))
def h26v7:HC:=(.s .d (.b (.u 3 (.v .d (.v .d (.v .d .d))))))
theorem e26v7 (t:BG):evF (stpT Tryz.prog T128 K128) Tryz.f26 p26v7 r26v7 h26v7 t=(o26v7 t.1.1.1.1 t.1.1.1.2 t.1.1.2.1 t.1.1.2.2 t.1.2.1.1 t.1.2.1.2 t.1.2.2.1 t.1.2.2.2.1 t.1.2.2.2.2 t.2.1.1.1 t.2.1.1.2 t.2.1.2.1 t.2.1.2.2 t.2.2.1.1 t.2.2.1.2 t.2.2.2.1 t.2.2.2.2.1 t.2.2.2.2.2):=by kernel_rfl
def n26v7:FSp:=⟨p26v7,r26v7,fun t=>(o26v7 t.1.1.1.1 t.1.1.1.2 t.1.1.2.1 t.1.1.2.2 t.1.2.1.1 t.1.2.1.2 t.1.2.2.1 t.1.2.2.2.1 t.1.2.2.2.2 t.2.1.1.1 t.2.1.1.2 t.2.1.2.1 t.2.1.2.2 t.2.2.1.1 t.2.2.1.2 t.2.2.2.1 t.2.2.2.2.1 t.2.2.2.2.2)⟩
theorem fo26v7:FOk Tryz.prog 26 n26v7:=fk e26v7
def T129:Tbl:=(26,n26v7)::T128
theorem K129:TOk Tryz.prog T129:= .cons K128 fo26v7
abbrev Fb:Type:=(((Af×I3)×(I3)×(I3)×Bool×I2)×(Ae×List (Int×Int×Int×Bt))×(I2)×List Bt)×(((List (Int×I4))×(I3)×Bool×I2)×Ae×List (Int×Int×Int×Bt))×((I2)×List Bt)×(List (Int×I4))×((I2)×Int×Bt)×Bt
def o38v1_s0:Sch:=⟨[(0,.v (.c (.ic .i64 (0)))),(1,.v (.c (.ptr 0 0))),(3,.v (.c (.ptr 16 0))),(5,.v (.c (.own 17)))],[.cells 30 [.ptr 1 0],AC,Aa,Aa,Ak,Ab,Ad,Aq,.row (.a .y) 33,Ac,Av,Ab,Ad,Ay,.row (.a .y) 33,Ac,AW,.row .y 5]⟩
def p38v1:Sch:=⟨[(0,.v (.c (.ic .i64 (0)))),(1,.v (.c (.ptr 0 0)))],[.cells 30 [.ptr 1 0],AC,Aa,Aa,Ak,Ab,Ad,Aq,.row (.a .y) 33,Ac,Av,Ab,Ad,Ay,.row (.a .y) 33,Ac]⟩
def r38v1:List Sch:=[⟨[(0,CU)],[.cells 30 [.ptr 1 0],AC,Aa,Aa,Ak,Ab,Ad,Aq,.row (.a .y) 33,Ac,Av,Ab,Ad,Ay,.row (.a .y) 33,Ac,.row .y 5]⟩]
def o38v1 (a0:Af) (a1:I3) (a2:I3) (a3:(I3)×Bool×I2) (a4:Ae) (a5:List (Int×Int×Int×Bt)) (a6:I2) (a7:List Bt) (a8:List (Int×I4)) (a9:(I3)×Bool×I2) (a10:Ae) (a11:List (Int×Int×Int×Bt)) (a12:I2) (a13:List Bt) (a14:List (Int×I4)):Option Bn :=
 (bd (α:=Fb) (cnd a3.2.1 (bd (α:=(Bt)) (o180 a1) (fun v1=>(some ((((a0,a1),a2,a3),(a4,a5),a6,a7),((a8,a9),a10,a11),(a12,a13),a14,(((0:Int),(0:Int)),(0:Int),([]:Bt)),v1)))) (some ((((a0,a1),a2,a3),(a4,a5),a6,a7),((a8,a9),a10,a11),(a12,a13),a14,(((0:Int),(0:Int)),(0:Int),([]:Bt)),([]:Bt)))) (fun v2=>(bd (α:=Bf) (o39 v2.2.2.2.2.2 v2.1.1.2.2 v2.1.2.1.1 v2.1.2.1.2 v2.1.2.2.1 v2.1.2.2.2 v2.2.1.1.1) (fun v3=>(some (((((v3.1.1.1.1,v3.1.1.1.2.1,v3.1.1.1.2.2.1),v2.1.1.1.1),v2.1.1.1.2,v2.1.1.2.1),(v3.1.1.2,v3.1.2.1),v3.1.2.2,v3.2.1.1),((v3.2.1.2,v3.2.2.1),v2.2.1.1.2,v2.2.1.2.1),(v2.2.1.2.2,v2.2.2.1.1),v2.2.2.1.2,v2.2.2.2.1,v3.2.2.2))))))
theorem e38v1 (t:Cb):evF (stpT Tryz.prog T129 K129) Tryz.f38 p38v1 r38v1 (.s .d (.s .d (.j false [o38v1_s0] .d))) t=(o38v1 t.1.1.1 t.1.1.2.1 t.1.1.2.2 t.1.2.1.1 t.1.2.1.2 t.1.2.2.1 t.1.2.2.2 t.2.1.1.1 t.2.1.1.2 t.2.1.2.1 t.2.1.2.2 t.2.2.1.1 t.2.2.1.2 t.2.2.2.1 t.2.2.2.2):=by kernel_rfl
def n38v1:FSp:=⟨p38v1,r38v1,fun t=>(o38v1 t.1.1.1 t.1.1.2.1 t.1.1.2.2 t.1.2.1.1 t.1.2.1.2 t.1.2.2.1 t.1.2.2.2 t.2.1.1.1 t.2.1.1.2 t.2.1.2.1 t.2.1.2.2 t.2.2.1.1 t.2.2.1.2 t.2.2.2.1 t.2.2.2.2)⟩
theorem fo38v1:FOk Tryz.prog 38 n38v1:=fk e38v1
def T130:Tbl:=(38,n38v1)::T129
theorem K130:TOk Tryz.prog T130:= .cons K129 fo38v1
def o38v2_s0:Sch:=⟨[(0,.v (.c (.ic .i64 (1)))),(1,.v (.c (.ptr 0 0))),(3,.v (.c (.ptr 16 0))),(5,.v (.c (.own 17)))],[.cells 30 [.ptr 1 0],AC,Aa,Aa,Ak,Ab,Ad,Aq,.row (.a .y) 33,Ac,Av,Ab,Ad,Ay,.row (.a .y) 33,Ac,AW,.row .y 5]⟩
def p38v2:Sch:=⟨[(0,.v (.c (.ic .i64 (1)))),(1,.v (.c (.ptr 0 0)))],[.cells 30 [.ptr 1 0],AC,Aa,Aa,Ak,Ab,Ad,Aq,.row (.a .y) 33,Ac,Av,Ab,Ad,Ay,.row (.a .y) 33,Ac]⟩
def r38v2:List Sch:=[⟨[(0,CU)],[.cells 30 [.ptr 1 0],AC,Aa,Aa,Ak,Ab,Ad,Aq,.row (.a .y) 33,Ac,Av,Ab,Ad,Ay,.row (.a .y) 33,Ac,.row .y 5]⟩]
def o38v2 (a0:Af) (a1:I3) (a2:I3) (a3:(I3)×Bool×I2) (a4:Ae) (a5:List (Int×Int×Int×Bt)) (a6:I2) (a7:List Bt) (a8:List (Int×I4)) (a9:(I3)×Bool×I2) (a10:Ae) (a11:List (Int×Int×Int×Bt)) (a12:I2) (a13:List Bt) (a14:List (Int×I4)):Option Bn :=
 (bd (α:=Fb) (cnd a9.2.1 (bd (α:=(Bt)) (o180 a2) (fun v1=>(some ((((a0,a1),a2,a3),(a4,a5),a6,a7),((a8,a9),a10,a11),(a12,a13),a14,(((0:Int),(0:Int)),(0:Int),([]:Bt)),v1)))) (some ((((a0,a1),a2,a3),(a4,a5),a6,a7),((a8,a9),a10,a11),(a12,a13),a14,(((0:Int),(0:Int)),(0:Int),([]:Bt)),([]:Bt)))) (fun v2=>(bd (α:=Bf) (o39 v2.2.2.2.2.2 v2.2.1.1.2 v2.2.1.2.1 v2.2.1.2.2 v2.2.2.1.1 v2.2.2.1.2 v2.2.2.2.1) (fun v3=>(some (((((v3.1.1.1.1,v3.1.1.1.2.1,v3.1.1.1.2.2.1),v2.1.1.1.1),v2.1.1.1.2,v2.1.1.2.1),(v2.1.1.2.2,v2.1.2.1.1),v2.1.2.1.2,v2.1.2.2.1),((v2.1.2.2.2,v2.2.1.1.1),v3.1.1.2,v3.1.2.1),(v3.1.2.2,v3.2.1.1),v3.2.1.2,v3.2.2))))))
theorem e38v2 (t:Cb):evF (stpT Tryz.prog T130 K130) Tryz.f38 p38v2 r38v2 (.s .d (.s .d (.j false [o38v2_s0] .d))) t=(o38v2 t.1.1.1 t.1.1.2.1 t.1.1.2.2 t.1.2.1.1 t.1.2.1.2 t.1.2.2.1 t.1.2.2.2 t.2.1.1.1 t.2.1.1.2 t.2.1.2.1 t.2.1.2.2 t.2.2.1.1 t.2.2.1.2 t.2.2.2.1 t.2.2.2.2):=by kernel_rfl
def n38v2:FSp:=⟨p38v2,r38v2,fun t=>(o38v2 t.1.1.1 t.1.1.2.1 t.1.1.2.2 t.1.2.1.1 t.1.2.1.2 t.1.2.2.1 t.1.2.2.2 t.2.1.1.1 t.2.1.1.2 t.2.1.2.1 t.2.1.2.2 t.2.2.1.1 t.2.2.1.2 t.2.2.2.1 t.2.2.2.2)⟩
theorem fo38v2:FOk Tryz.prog 38 n38v2:=fk e38v2
def T131:Tbl:=(38,n38v2)::T130
theorem K131:TOk Tryz.prog T131:= .cons K130 fo38v2
def DI:SSh:= .v (.c (.cap (.fn 38) (.ptr 15 0)))
def o23v7_s0:Sch:=⟨[(0,.v (.c (.ptr 0 0))),(1,.v (.c (.ic .i64 (3)))),(3,DI),(6,.v (.c (.ptr 16 0))),(8,.v (.c (.ptr 17 0))),(9,.v (.c (.ptr 18 0))),(15,.v (.c (.ic .i64 (0))))],[Aw,Aa,Aa,Ai,Ab,Ad,Al,.row (.a .y) 33,Ac,Au,Ab,Ad,Ap,.row (.a .y) 33,Ac,.cells 30 [.ptr 0 0],Aj,Am,.cells 34 [.b,.b]]⟩
def o23v7_s1:Sch:=⟨[(0,.v (.c (.ptr 0 0))),(1,.v (.c (.ic .i64 (3)))),(3,DI),(6,.v (.c (.ptr 16 0))),(8,.v (.c (.ptr 17 0))),(9,.v (.c (.ptr 18 0))),(15,.v (.c (.ic .i64 (1))))],[Aw,Aa,Aa,Ai,Ab,Ad,Al,.row (.a .y) 33,Ac,Au,Ab,Ad,Ap,.row (.a .y) 33,Ac,.cells 30 [.ptr 0 0],Aj,Am,.cells 34 [.b,.b]]⟩
def p23v7:Sch:=⟨[(0,.v (.c (.ptr 0 0))),(1,.v (.c (.ic .i64 (3)))),(2,AP),(3,DI)],[Aw,Aa,Aa,Ai,Ab,Ad,Al,.row (.a .y) 33,Ac,Au,Ab,Ad,Ap,.row (.a .y) 33,Ac,.cells 30 [.ptr 0 0]]⟩
def r23v7:List Sch:=[⟨[(0,Bq)],[Aw,Aa,Aa,Ai,Ab,Ad,Al,.row (.a .y) 33,Ac,Au,Ab,Ad,Ap,.row (.a .y) 33,Ac,.cells 30 [.ptr 0 0]]⟩]
def o23v7 (a0:Ao) (a1:Af) (a2:I3) (a3:I3) (a4:(I3)×Bool×I2) (a5:Ae) (a6:List (Int×Int×Int×Bt)) (a7:I2) (a8:List Bt) (a9:List (Int×I4)) (a10:(I3)×Bool×I2) (a11:Ae) (a12:List (Int×Int×Int×Bt)) (a13:I2) (a14:List Bt) (a15:List (Int×I4)):Option Cs :=
 (bd (α:=Cc) (bd (α:=Bn) (o38v1 a1 a2 a3 a4 a5 a6 a7 a8 a9 a10 a11 a12 a13 a14 a15) (fun v1=>(cnd (!v1.1.1.1.1.2.2) (some ((((v1.1.1.1.2,v1.1.1.2.1),v1.1.1.2.2,v1.1.2.1.1),(v1.1.2.1.2,v1.1.2.2.1),v1.1.2.2.2,v1.2.1.1),(v1.2.1.2,v1.2.2.1),(v1.2.2.2.1,v1.2.2.2.2.1),a0,((((0:Int),(0:Int)),(0:Int),([]:Bt)),((0:Int),(0:Int)),(0:Int),([]:Bt)),false,false)) (bd (α:=(Int×Bt)) (o69 (v1.1.1.1.1.1,v1.1.1.1.1.2.1,v1.2.2.2.2.2)) (fun v2=>(cnd (v2.1 != (0:Int)) (some ((((v1.1.1.1.2,v1.1.1.2.1),v1.1.1.2.2,v1.1.2.1.1),(v1.1.2.1.2,v1.1.2.2.1),v1.1.2.2.2,v1.2.1.1),(v1.2.1.2,v1.2.2.1),(v1.2.2.2.1,v1.2.2.2.2.1),a0,((((0:Int),(0:Int)),(0:Int),([]:Bt)),((0:Int),(0:Int)),(0:Int),([]:Bt)),false,false)) (bd (α:=((I2)×Int×Bt×Bool)) (o70 v2.2 (a0.2.1.1.1.2,a0.2.1.1.2) (4:Int) (1:Int) v1.1.1.1.2.1.2.2.2) (EQ v1 a0)))))))) (fun v5=>(bd (α:=Cc) (bd (α:=Bn) (o38v2 v5.1.1.1.1 v5.1.1.1.2 v5.1.1.2.1 v5.1.1.2.2 v5.1.2.1.1 v5.1.2.1.2 v5.1.2.2.1 v5.1.2.2.2.1 v5.1.2.2.2.2 v5.2.1.1.1 v5.2.1.1.2 v5.2.1.2.1 v5.2.1.2.2 v5.2.2.1.1 v5.2.2.1.2) (fun v6=>(cnd (!v6.1.1.1.1.2.2) (some ((((v6.1.1.1.2,v6.1.1.2.1),v6.1.1.2.2,v6.1.2.1.1),(v6.1.2.1.2,v6.1.2.2.1),v6.1.2.2.2,v6.2.1.1),(v6.2.1.2,v6.2.2.1),(v6.2.2.2.1,v6.2.2.2.2.1),v5.2.2.2)) (bd (α:=(Int×Bt)) (o69 (v6.1.1.1.1.1,v6.1.1.1.1.2.1,v6.2.2.2.2.2)) (fun v7=>(cnd (v7.1 != (0:Int)) (some ((((v6.1.1.1.2,v6.1.1.2.1),v6.1.1.2.2,v6.1.2.1.1),(v6.1.2.1.2,v6.1.2.2.1),v6.1.2.2.2,v6.2.1.1),(v6.2.1.2,v6.2.2.1),(v6.2.2.2.1,v6.2.2.2.2.1),v5.2.2.2)) (bd (α:=((I2)×Int×Bt×Bool)) (o70 v7.2 (v5.2.2.2.1.2.2.2.1.2,v5.2.2.2.1.2.2.2.2) (4:Int) (2:Int) v6.1.1.1.2.1.2.2.2) (fun v9=>(some ((((v6.1.1.1.2,v6.1.1.2.1),v6.1.1.2.2,v6.1.2.1.1),(v6.1.2.1.2,v6.1.2.2.1),v6.1.2.2.2,v6.2.1.1),(v6.2.1.2,v6.2.2.1),(v6.2.2.2.1,v6.2.2.2.2.1),v5.2.2.2.1,((v9.1,v9.2.1,v9.2.2.1),v5.2.2.2.2.1.2),v9.2.2.2,v5.2.2.2.2.2.2)))))))))) ER)))
def h23v7:HC:=(.s .d (.s (.s .d (.b (.u 3 (.v (.s .d (.s .d (.j false [o23v7_s0] .d))) (.v (.s .d (.s .d (.j false [o23v7_s1] .d))) (.v .d .d)))))) .d))
theorem e23v7 (t:ES):evF (stpT Tryz.prog T131 K131) Tryz.f23 p23v7 r23v7 h23v7 t=(o23v7 t.1.1.1.1 t.1.1.1.2 t.1.1.2.1 t.1.1.2.2 t.1.2.1.1 t.1.2.1.2 t.1.2.2.1 t.1.2.2.2 t.2.1.1.1 t.2.1.1.2 t.2.1.2.1 t.2.1.2.2 t.2.2.1.1 t.2.2.1.2 t.2.2.2.1 t.2.2.2.2):=by kernel_rfl
def n23v7:FSp:=⟨p23v7,r23v7,fun t=>(o23v7 t.1.1.1.1 t.1.1.1.2 t.1.1.2.1 t.1.1.2.2 t.1.2.1.1 t.1.2.1.2 t.1.2.2.1 t.1.2.2.2 t.2.1.1.1 t.2.1.1.2 t.2.1.2.1 t.2.1.2.2 t.2.2.1.1 t.2.2.1.2 t.2.2.2.1 t.2.2.2.2)⟩
theorem fo23v7:FOk Tryz.prog 23 n23v7:=fk e23v7
def T132:Tbl:=(23,n23v7)::T131
theorem K132:TOk Tryz.prog T132:= .cons K131 fo23v7
abbrev Fc:Type:=((Af×(I3)×I3)×(((I3)×Bool×I2)×Ae)×(List (Int×Int×Int×Bt))×I2)×((((I3)×Bool×I2)×Ae)×(List (Int×Int×Int×Bt))×I2)×(List Bt×List (Int×I4))×List Bt×List (Int×I4)
abbrev Fd:Type:=(((I2)×Af×I3)×((I3)×(I3)×Bool×I2)×Ae×(List (Int×Int×Int×Bt))×I2)×((((I3)×Bool×I2)×Ae)×(List (Int×Int×Int×Bt))×I2)×(List Bt×List (Int×I4))×(List (Int×I4))×List Bt×List (Int×I4)
abbrev Fe:Type:=(((((I2)×Int×Bt)×Bool)×Af×I3)×((I3)×(I3)×Bool×I2)×Ae×List (Int×Int×Int×Bt))×(((I2)×List Bt)×(List (Int×I4))×(I3)×Bool×I2)×(Ae×List (Int×Int×Int×Bt))×(I2)×List Bt×List (Int×I4)
def o41v1_s0:Sch:=⟨[(0,.v (.c (.ptr 0 0))),(1,.v (.c (.ic .i64 (0)))),(46,.v (.c (.own 15))),(47,.v (.c (.i .i64))),(48,.v (.c (.i .i64)))],[Aw,Aa,Aa,Ai,Ab,Ad,BF,.no,.no,Au,Ab,Ad,Ap,.row (.a .y) 33,Ac,Ac,.row (.a .y) 33,Ac]⟩
def p41v1:Sch:=⟨[(0,.v (.c (.ptr 0 0))),(1,.v (.c (.ic .i64 (0)))),(2,Bl),(3,.v (.c (.b)))],[Aw,Aa,Aa,Ai,Ab,Ad,Al,.row (.a .y) 33,Ac,Au,Ab,Ad,Ap,.row (.a .y) 33,Ac]⟩
def r41v1:List Sch:=[⟨[(0,.tup [])],[Aw,Aa,Aa,Ai,Ab,Ad,Bi,.no,.no,Au,Ab,Ad,Ap,.row (.a .y) 33,Ac,.row (.a .y) 33,Ac]⟩]
def o41v1_b0 (v7:Fd) :=
 (cnd (decide (v7.1.1.1.2 < v7.1.1.1.1)) (gd (decide ((0:Int)≤v7.1.1.1.2∧v7.1.1.1.2 < ((v7.2.2.2.1.length:Nat):Int))) (bd (α:=(AE×I3)) (o181 (((List.getD v7.2.2.2.1 v7.1.1.1.2.toNat ((0:Int),((0:Int),(false,([]:Bt))))).2).1) ((((List.getD v7.2.2.2.1 v7.1.1.1.2.toNat ((0:Int),((0:Int),(false,([]:Bt))))).2).2).2) v7.1.1.2.2) (fun v9=>(some (Ctl.go ((((v7.1.1.1.1,(IntKind.wrap .i64 (v7.1.1.1.2+(1:Int)))),v7.1.1.2.1,v9.2),v7.1.2),v7.2)))))) (dnO (some (((v7.1.1.2.1,v7.1.1.2.2,v7.1.2.1.1),(v7.1.2.1.2,v7.1.2.2.1),v7.1.2.2.2),v7.2.1,v7.2.2.1,v7.2.2.2.2))))
def o41v1 (a0:(I2)×Int×Bt) (a1:Bool) (a2:Af) (a3:I3) (a4:I3) (a5:(I3)×Bool×I2) (a6:Ae) (a7:List (Int×Int×Int×Bt)) (a8:I2) (a9:List Bt) (a10:List (Int×I4)) (a11:(I3)×Bool×I2) (a12:Ae) (a13:List (Int×Int×Int×Bt)) (a14:I2) (a15:List Bt) (a16:List (Int×I4)):Option Fc :=
 (bd (α:=Cr) (o83 a0 a1 a5 a6 a7 a8 a9 a10) (fun v2=>(cnd (!v2.1.1.1.2.1) (some (((a2,a3,a4),(v2.1.1.2,v2.1.2.1),v2.1.2.2,v2.2.1.1),((a11,a12),a13,a14),(a15,a16),v2.2.2.2)) (bd (α:=(Int×I3)) (o179 v2.2.1.2 a3) (fun v4=>(cnd (v4.1 != (0:Int)) (bd (α:=AO) (o22 v2.1.1.2 v2.1.2.1 v2.1.2.2 v2.2.1.1 v2.2.2.2.1 v2.2.2.2.2) (fun v5=>(some (((a2,v4.2,a4),v5.1),((a11,a12),a13,a14),(a15,a16),v5.2.2)))) (loopO (σ:=Fd) fuelN o41v1_b0 ((((((v2.2.2.1.length:Nat):Int),(0:Int)),a2,v4.2),(a4,v2.1.1.2),v2.1.2.1,v2.1.2.2,v2.2.1.1),((a11,a12),a13,a14),(a15,a16),v2.2.2))))))))
def h41v1:HC:=(.s .d (.s (.r 5) (.s .d (.s .d (.s .d (.b (.l [o41v1_s0] .d)))))))
theorem e41v1 (t:Fe):evF (stpT Tryz.prog T132 K132) Tryz.f41 p41v1 r41v1 h41v1 t=(o41v1 t.1.1.1.1 t.1.1.1.2 t.1.1.2.1 t.1.1.2.2 t.1.2.1.1 t.1.2.1.2 t.1.2.2.1 t.1.2.2.2 t.2.1.1.1 t.2.1.1.2 t.2.1.2.1 t.2.1.2.2 t.2.2.1.1 t.2.2.1.2 t.2.2.2.1 t.2.2.2.2.1 t.2.2.2.2.2):=by kernel_rfl
def n41v1:FSp:=⟨p41v1,r41v1,fun t=>(o41v1 t.1.1.1.1 t.1.1.1.2 t.1.1.2.1 t.1.1.2.2 t.1.2.1.1 t.1.2.1.2 t.1.2.2.1 t.1.2.2.2 t.2.1.1.1 t.2.1.1.2 t.2.1.2.1 t.2.1.2.2 t.2.2.1.1 t.2.2.1.2 t.2.2.2.1 t.2.2.2.2.1 t.2.2.2.2.2)⟩
theorem fo41v1:FOk Tryz.prog 41 n41v1:=fk e41v1
def T133:Tbl:=(41,n41v1)::T132
theorem K133:TOk Tryz.prog T133:= .cons K132 fo41v1
def p40v1:Sch:=⟨[(0,.v (.c (.ic .i64 (0)))),(1,.v (.c (.ptr 0 0))),(2,.v (.c (.ptr 16 0))),(3,.v (.c (.ptr 17 0)))],[.cells 30 [.ptr 1 0],AC,Aa,Aa,Ak,Ab,Ad,Aq,.row (.a .y) 33,Ac,Av,Ab,Ad,Ay,.row (.a .y) 33,Ac,Am,.cells 34 [.b,.b]]⟩
def r40v1:List Sch:=[⟨[(0,.tup [])],[.cells 30 [.ptr 1 0],AC,Aa,Aa,Ak,Ab,Ad,BZ,.no,.no,Av,Ab,Ad,Ay,.row (.a .y) 33,Ac,Am,.cells 34 [.b,.b],.row (.a .y) 33,Ac]⟩]
def o40v1 (a0:Af) (a1:I3) (a2:I3) (a3:(I3)×Bool×I2) (a4:Ae) (a5:List (Int×Int×Int×Bt)) (a6:I2) (a7:List Bt) (a8:List (Int×I4)) (a9:(I3)×Bool×I2) (a10:Ae) (a11:List (Int×Int×Int×Bt)) (a12:I2) (a13:List Bt) (a14:List (Int×I4)) (a15:As) (a16:B2):Option CQ :=
 (bd (α:=Fc) (o41v1 a15.1 a16.1 a0 a1 a2 a3 a4 a5 a6 a7 a8 a9 a10 a11 a12 a13 a14) (fun v2=>(some ((((v2.1.1.1,v2.1.1.2.1),v2.1.1.2.2,v2.1.2.1.1),(v2.1.2.1.2,v2.1.2.2.1),v2.1.2.2.2,v2.2.1.1.1),((v2.2.1.1.2,v2.2.1.2.1),v2.2.1.2.2,v2.2.2.1.1),(v2.2.2.1.2,a15),a16,v2.2.2.2))))
theorem e40v1 (t:Ca):evF (stpT Tryz.prog T133 K133) Tryz.f40 p40v1 r40v1 (.r 2) t=(o40v1 t.1.1.1.1 t.1.1.1.2 t.1.1.2.1 t.1.1.2.2 t.1.2.1.1 t.1.2.1.2 t.1.2.2.1 t.1.2.2.2 t.2.1.1.1 t.2.1.1.2 t.2.1.2.1 t.2.1.2.2 t.2.2.1.1 t.2.2.1.2 t.2.2.2.1 t.2.2.2.2.1 t.2.2.2.2.2):=by kernel_rfl
def n40v1:FSp:=⟨p40v1,r40v1,fun t=>(o40v1 t.1.1.1.1 t.1.1.1.2 t.1.1.2.1 t.1.1.2.2 t.1.2.1.1 t.1.2.1.2 t.1.2.2.1 t.1.2.2.2 t.2.1.1.1 t.2.1.1.2 t.2.1.2.1 t.2.1.2.2 t.2.2.1.1 t.2.2.1.2 t.2.2.2.1 t.2.2.2.2.1 t.2.2.2.2.2)⟩
theorem fo40v1:FOk Tryz.prog 40 n40v1:=fk e40v1
def T134:Tbl:=(40,n40v1)::T133
theorem K134:TOk Tryz.prog T134:= .cons K133 fo40v1
abbrev Ff:Type:=(((I2)×Af×I3)×((I3)×(I3)×Bool×I2)×Ae×(List (Int×Int×Int×Bt))×I2)×((List Bt×List (Int×I4))×((I3)×Bool×I2)×Ae)×((List (Int×Int×Int×Bt))×I2)×(List (Int×I4))×List Bt×List (Int×I4)
def o41v2_s0:Sch:=⟨[(0,.v (.c (.ptr 0 0))),(1,.v (.c (.ic .i64 (1)))),(46,.v (.c (.own 15))),(47,.v (.c (.i .i64))),(48,.v (.c (.i .i64)))],[Aw,Aa,Aa,Ai,Ab,Ad,Al,.row (.a .y) 33,Ac,Au,Ab,Ad,BF,.no,.no,Ac,.row (.a .y) 33,Ac]⟩
def p41v2:Sch:=⟨[(0,.v (.c (.ptr 0 0))),(1,.v (.c (.ic .i64 (1)))),(2,Bl),(3,.v (.c (.b)))],[Aw,Aa,Aa,Ai,Ab,Ad,Al,.row (.a .y) 33,Ac,Au,Ab,Ad,Ap,.row (.a .y) 33,Ac]⟩
def r41v2:List Sch:=[⟨[(0,.tup [])],[Aw,Aa,Aa,Ai,Ab,Ad,Al,.row (.a .y) 33,Ac,Au,Ab,Ad,Bi,.no,.no,.row (.a .y) 33,Ac]⟩]
def o41v2_b0 (v7:Ff) :=
 (cnd (decide (v7.1.1.1.2 < v7.1.1.1.1)) (gd (decide ((0:Int)≤v7.1.1.1.2∧v7.1.1.1.2 < ((v7.2.2.2.1.length:Nat):Int))) (bd (α:=(AE×I3)) (o181 (((List.getD v7.2.2.2.1 v7.1.1.1.2.toNat ((0:Int),((0:Int),(false,([]:Bt))))).2).1) ((((List.getD v7.2.2.2.1 v7.1.1.1.2.toNat ((0:Int),((0:Int),(false,([]:Bt))))).2).2).2) v7.1.2.1.1) (fun v9=>(some (Ctl.go ((((v7.1.1.1.1,(IntKind.wrap .i64 (v7.1.1.1.2+(1:Int)))),v7.1.1.2),(v9.2,v7.1.2.1.2),v7.1.2.2),v7.2)))))) (dnO (some (((v7.1.1.2.1,v7.1.1.2.2,v7.1.2.1.1),(v7.1.2.1.2,v7.1.2.2.1),v7.1.2.2.2),v7.2.1,v7.2.2.1,v7.2.2.2.2))))
def o41v2 (a0:(I2)×Int×Bt) (a1:Bool) (a2:Af) (a3:I3) (a4:I3) (a5:(I3)×Bool×I2) (a6:Ae) (a7:List (Int×Int×Int×Bt)) (a8:I2) (a9:List Bt) (a10:List (Int×I4)) (a11:(I3)×Bool×I2) (a12:Ae) (a13:List (Int×Int×Int×Bt)) (a14:I2) (a15:List Bt) (a16:List (Int×I4)):Option Cb :=
 (bd (α:=Cr) (o83 a0 a1 a11 a12 a13 a14 a15 a16) (fun v2=>(cnd (!v2.1.1.1.2.1) (some (((a2,a3,a4),(a5,a6),a7,a8),((a9,a10),v2.1.1.2,v2.1.2.1),(v2.1.2.2,v2.2.1.1),v2.2.2.2)) (bd (α:=(Int×I3)) (o179 v2.2.1.2 a4) (fun v4=>(cnd (v4.1 != (0:Int)) (bd (α:=AO) (o22 v2.1.1.2 v2.1.2.1 v2.1.2.2 v2.2.1.1 v2.2.2.2.1 v2.2.2.2.2) (fun v5=>(some (((a2,a3,v4.2),(a5,a6),a7,a8),((a9,a10),v5.1.1),v5.1.2,v5.2.2)))) (loopO (σ:=Ff) fuelN o41v2_b0 ((((((v2.2.2.1.length:Nat):Int),(0:Int)),a2,a3),(v4.2,a5),a6,a7,a8),((a9,a10),v2.1.1.2,v2.1.2.1),(v2.1.2.2,v2.2.1.1),v2.2.2))))))))
def h41v2:HC:=(.s .d (.s (.r 5) (.s .d (.s .d (.s .d (.b (.l [o41v2_s0] .d)))))))
theorem e41v2 (t:Fe):evF (stpT Tryz.prog T134 K134) Tryz.f41 p41v2 r41v2 h41v2 t=(o41v2 t.1.1.1.1 t.1.1.1.2 t.1.1.2.1 t.1.1.2.2 t.1.2.1.1 t.1.2.1.2 t.1.2.2.1 t.1.2.2.2 t.2.1.1.1 t.2.1.1.2 t.2.1.2.1 t.2.1.2.2 t.2.2.1.1 t.2.2.1.2 t.2.2.2.1 t.2.2.2.2.1 t.2.2.2.2.2):=by kernel_rfl
def n41v2:FSp:=⟨p41v2,r41v2,fun t=>(o41v2 t.1.1.1.1 t.1.1.1.2 t.1.1.2.1 t.1.1.2.2 t.1.2.1.1 t.1.2.1.2 t.1.2.2.1 t.1.2.2.2 t.2.1.1.1 t.2.1.1.2 t.2.1.2.1 t.2.1.2.2 t.2.2.1.1 t.2.2.1.2 t.2.2.2.1 t.2.2.2.2.1 t.2.2.2.2.2)⟩
theorem fo41v2:FOk Tryz.prog 41 n41v2:=fk e41v2
def T135:Tbl:=(41,n41v2)::T134
theorem K135:TOk Tryz.prog T135:= .cons K134 fo41v2
def p40v2:Sch:=⟨[(0,.v (.c (.ic .i64 (1)))),(1,.v (.c (.ptr 0 0))),(2,.v (.c (.ptr 16 0))),(3,.v (.c (.ptr 17 0)))],[.cells 30 [.ptr 1 0],AC,Aa,Aa,Ak,Ab,Ad,Aq,.row (.a .y) 33,Ac,Av,Ab,Ad,Ay,.row (.a .y) 33,Ac,Am,.cells 34 [.b,.b]]⟩
def r40v2:List Sch:=[⟨[(0,.tup [])],[.cells 30 [.ptr 1 0],AC,Aa,Aa,Ak,Ab,Ad,Aq,.row (.a .y) 33,Ac,Av,Ab,Ad,BZ,.no,.no,Am,.cells 34 [.b,.b],.row (.a .y) 33,Ac]⟩]
def o40v2 (a0:Af) (a1:I3) (a2:I3) (a3:(I3)×Bool×I2) (a4:Ae) (a5:List (Int×Int×Int×Bt)) (a6:I2) (a7:List Bt) (a8:List (Int×I4)) (a9:(I3)×Bool×I2) (a10:Ae) (a11:List (Int×Int×Int×Bt)) (a12:I2) (a13:List Bt) (a14:List (Int×I4)) (a15:As) (a16:B2):Option CR :=
 (bd (α:=Cb) (o41v2 a15.2 a16.2 a0 a1 a2 a3 a4 a5 a6 a7 a8 a9 a10 a11 a12 a13 a14) (fun v2=>(some ((((v2.1.1.1,v2.1.1.2.1),v2.1.1.2.2,v2.1.2.1.1),(v2.1.2.1.2,v2.1.2.2.1),v2.1.2.2.2,v2.2.1.1.1),((v2.2.1.1.2,v2.2.1.2.1),v2.2.1.2.2,v2.2.2.1.1),(v2.2.2.1.2,a15),a16,v2.2.2.2))))
theorem e40v2 (t:Ca):evF (stpT Tryz.prog T135 K135) Tryz.f40 p40v2 r40v2 (.r 2) t=(o40v2 t.1.1.1.1 t.1.1.1.2 t.1.1.2.1 t.1.1.2.2 t.1.2.1.1 t.1.2.1.2 t.1.2.2.1 t.1.2.2.2 t.2.1.1.1 t.2.1.1.2 t.2.1.2.1 t.2.1.2.2 t.2.2.1.1 t.2.2.1.2 t.2.2.2.1 t.2.2.2.2.1 t.2.2.2.2.2):=by kernel_rfl
def n40v2:FSp:=⟨p40v2,r40v2,fun t=>(o40v2 t.1.1.1.1 t.1.1.1.2 t.1.1.2.1 t.1.1.2.2 t.1.2.1.1 t.1.2.1.2 t.1.2.2.1 t.1.2.2.2 t.2.1.1.1 t.2.1.1.2 t.2.1.2.1 t.2.1.2.2 t.2.2.1.1 t.2.2.1.2 t.2.2.2.1 t.2.2.2.2.1 t.2.2.2.2.2)⟩
theorem fo40v2:FOk Tryz.prog 40 n40v2:=fk e40v2
def T136:Tbl:=(40,n40v2)::T135
theorem K136:TOk Tryz.prog T136:= .cons K135 fo40v2
def Hv:SSh:= .v (.c (.cap (.cap (.cap (.fn 40) (.ptr 15 0)) (.ptr 16 0)) (.ptr 17 0)))
def p26v8:Sch:=⟨[(0,.v (.c (.ptr 0 0))),(1,Hv)],[Aw,Aa,Aa,Ai,Ab,Ad,Al,.row (.a .y) 33,Ac,Au,Ab,Ad,Ap,.row (.a .y) 33,Ac,.cells 30 [.ptr 0 0],Am,.cells 34 [.b,.b]]⟩
def r26v8:List Sch:=[⟨[(0,.tup [])],[Aw,Aa,Aa,Ai,Ab,Ad,BZ,.no,.no,Au,Ab,Ad,CS,.no,.no,.cells 30 [.ptr 0 0],Am,.cells 34 [.b,.b],.row (.a .y) 33,Ac,.row (.a .y) 33,Ac]⟩]
def o26v8 (a0:Af) (a1:I3) (a2:I3) (a3:(I3)×Bool×I2) (a4:Ae) (a5:List (Int×Int×Int×Bt)) (a6:I2) (a7:List Bt) (a8:List (Int×I4)) (a9:(I3)×Bool×I2) (a10:Ae) (a11:List (Int×Int×Int×Bt)) (a12:I2) (a13:List Bt) (a14:List (Int×I4)) (a15:As) (a16:B2):Option CT :=
 (bd (α:=CQ) (o40v1 a0 a1 a2 a3 a4 a5 a6 a7 a8 a9 a10 a11 a12 a13 a14 a15 a16) (fun v1=>(bd (α:=CR) (o40v2 v1.1.1.1.1 v1.1.1.1.2 v1.1.1.2.1 v1.1.1.2.2 v1.1.2.1.1 v1.1.2.1.2 v1.1.2.2.1 v1.2.2.2.2.1 v1.2.2.2.2.2 v1.1.2.2.2 v1.2.1.1.1 v1.2.1.1.2 v1.2.1.2.1 v1.2.1.2.2 v1.2.2.1.1 v1.2.2.1.2 v1.2.2.2.1) (fun v2=>(some ((v2.1.1,v2.1.2.1,v2.1.2.2.1,v2.2.1.1.2),(v2.2.1.2,v2.2.2.1),(v2.2.2.2.1,v2.1.2.2.2),v2.2.1.1.1,v2.2.2.2.2))))))
def h26v8:HC:=(.s .d (.b (.u 3 (.v .d (.v .d (.v .d .d))))))
theorem e26v8 (t:Ca):evF (stpT Tryz.prog T136 K136) Tryz.f26 p26v8 r26v8 h26v8 t=(o26v8 t.1.1.1.1 t.1.1.1.2 t.1.1.2.1 t.1.1.2.2 t.1.2.1.1 t.1.2.1.2 t.1.2.2.1 t.1.2.2.2 t.2.1.1.1 t.2.1.1.2 t.2.1.2.1 t.2.1.2.2 t.2.2.1.1 t.2.2.1.2 t.2.2.2.1 t.2.2.2.2.1 t.2.2.2.2.2):=by kernel_rfl
def n26v8:FSp:=⟨p26v8,r26v8,fun t=>(o26v8 t.1.1.1.1 t.1.1.1.2 t.1.1.2.1 t.1.1.2.2 t.1.2.1.1 t.1.2.1.2 t.1.2.2.1 t.1.2.2.2 t.2.1.1.1 t.2.1.1.2 t.2.1.2.1 t.2.1.2.2 t.2.2.1.1 t.2.2.1.2 t.2.2.2.1 t.2.2.2.2.1 t.2.2.2.2.2)⟩
theorem fo26v8:FOk Tryz.prog 26 n26v8:=fk e26v8
def T137:Tbl:=(26,n26v8)::T136
theorem K137:TOk Tryz.prog T137:= .cons K136 fo26v8
def Fg:BSh:= .lent [.ifc 60 (.ptr 2 0),.ifc 60 (.ptr 3 0),.ptr 4 0,.ptr 8 0,.ro .y false,.i .i64,.i .i64,.i .i64,.i .i64,.i .i64,.i .u8,.i .u8,.i .u8,.i .i64,.i .i64,.i .i64,.i .i64]
def Fh:BSh:= .lent [.i .i64,.ptr 9 0,.ptr 10 0,.ptr 11 0,.i .i64,.i .i64,.b,.i .i64,.i .i64]
abbrev Fi:Type:=((Af×(I3)×I3)×((I3)×Bool×I2)×Ae×List (Int×Int×Int×Bt))×(AA×((I3)×Bool×I2)×Ae)×(List (Int×Int×Int×Bt))×AA×Ah
def p42v1:Sch:=⟨[(0,.v (.c (.ic .i64 (0)))),(1,.v (.c (.ptr 0 0))),(2,.v (.c (.ptr 12 0)))],[.lent [.ptr 1 0],Fg,.lent [.i .u64,.i .i64,.i .i64],.lent [.i .u64,.i .i64,.i .i64],CO,AN,Bz,Be,Fh,AN,Bz,Be,Ag]⟩
def r42v1:List Sch:=[⟨[(0,.tup [])],[.no,.no,.no,.no,.no,.no,.no,.no,.no,.no,.no,.no,Ag]⟩]
def o42v1 (a0:Af) (a1:I3) (a2:I3) (a3:(I3)×Bool×I2) (a4:Ae) (a5:List (Int×Int×Int×Bt)) (a6:AA) (a7:(I3)×Bool×I2) (a8:Ae) (a9:List (Int×Int×Int×Bt)) (a10:AA) (a11:Ah):Option Ah :=
 (bd (α:=Ae) (o43 a3 a4 a5 a6) (fun v1=>(bd (α:=Int) (o44 v1) (fun v4=>(bd (α:=Int) (o45 v1) (fun v5=>(some ((((a11.1.1.1.1,v4,a11.1.1.1.2.2),a11.1.1.2.1,v5,a11.1.1.2.2.2),a11.1.2),a11.2))))))))
theorem e42v1 (t:Fi):evF (stpT Tryz.prog T137 K137) Tryz.f42 p42v1 r42v1 .d t=(o42v1 t.1.1.1 t.1.1.2.1 t.1.1.2.2 t.1.2.1 t.1.2.2.1 t.1.2.2.2 t.2.1.1 t.2.1.2.1 t.2.1.2.2 t.2.2.1 t.2.2.2.1 t.2.2.2.2):=by kernel_rfl
def n42v1:FSp:=⟨p42v1,r42v1,fun t=>(o42v1 t.1.1.1 t.1.1.2.1 t.1.1.2.2 t.1.2.1 t.1.2.2.1 t.1.2.2.2 t.2.1.1 t.2.1.2.1 t.2.1.2.2 t.2.2.1 t.2.2.2.1 t.2.2.2.2)⟩
theorem fo42v1:FOk Tryz.prog 42 n42v1:=fk e42v1
def T138:Tbl:=(42,n42v1)::T137
theorem K138:TOk Tryz.prog T138:= .cons K137 fo42v1
def p42v2:Sch:=⟨[(0,.v (.c (.ic .i64 (1)))),(1,.v (.c (.ptr 0 0))),(2,.v (.c (.ptr 12 0)))],[.lent [.ptr 1 0],Fg,.lent [.i .u64,.i .i64,.i .i64],.lent [.i .u64,.i .i64,.i .i64],CO,AN,Bz,Be,Fh,AN,Bz,Be,Ag]⟩
def r42v2:List Sch:=[⟨[(0,.tup [])],[.no,.no,.no,.no,.no,.no,.no,.no,.no,.no,.no,.no,Ag]⟩]
def o42v2 (a0:Af) (a1:I3) (a2:I3) (a3:(I3)×Bool×I2) (a4:Ae) (a5:List (Int×Int×Int×Bt)) (a6:AA) (a7:(I3)×Bool×I2) (a8:Ae) (a9:List (Int×Int×Int×Bt)) (a10:AA) (a11:Ah):Option Ah :=
 (bd (α:=Ae) (o43 a7 a8 a9 a10) (fun v1=>(bd (α:=Int) (o44 v1) (fun v4=>(bd (α:=Int) (o45 v1) (fun v5=>(some ((((a11.1.1.1.1,a11.1.1.1.2.1,v4),a11.1.1.2.1,a11.1.1.2.2.1,v5),a11.1.2),a11.2))))))))
theorem e42v2 (t:Fi):evF (stpT Tryz.prog T138 K138) Tryz.f42 p42v2 r42v2 .d t=(o42v2 t.1.1.1 t.1.1.2.1 t.1.1.2.2 t.1.2.1 t.1.2.2.1 t.1.2.2.2 t.2.1.1 t.2.1.2.1 t.2.1.2.2 t.2.2.1 t.2.2.2.1 t.2.2.2.2):=by kernel_rfl
def n42v2:FSp:=⟨p42v2,r42v2,fun t=>(o42v2 t.1.1.1 t.1.1.2.1 t.1.1.2.2 t.1.2.1 t.1.2.2.1 t.1.2.2.2 t.2.1.1 t.2.1.2.1 t.2.1.2.2 t.2.2.1 t.2.2.2.1 t.2.2.2.2)⟩
theorem fo42v2:FOk Tryz.prog 42 n42v2:=fk e42v2
def T139:Tbl:=(42,n42v2)::T138
theorem K139:TOk Tryz.prog T139:= .cons K138 fo42v2
def Hw:SSh:= .v (.c (.cap (.cap (.fn 42) (.ptr 15 0)) (.ptr 16 0)))
def p26v9:Sch:=⟨[(0,.v (.c (.ptr 0 0))),(1,Hw)],[Aw,Aa,Aa,Ai,Ab,Ad,Al,.row (.a .y) 33,Ac,Au,Ab,Ad,Ap,.row (.a .y) 33,Ac,.cells 30 [.ptr 0 0],Ag]⟩
def r26v9:List Sch:=[⟨[(0,.tup [])],[Aw,Aa,Aa,Ai,Ab,Ad,Al,.row (.a .y) 33,Ac,Au,Ab,Ad,Ap,.row (.a .y) 33,Ac,.cells 30 [.ptr 0 0],Ag]⟩]
def o26v9 (a0:Af) (a1:I3) (a2:I3) (a3:(I3)×Bool×I2) (a4:Ae) (a5:List (Int×Int×Int×Bt)) (a6:I2) (a7:List Bt) (a8:List (Int×I4)) (a9:(I3)×Bool×I2) (a10:Ae) (a11:List (Int×Int×Int×Bt)) (a12:I2) (a13:List Bt) (a14:List (Int×I4)) (a15:Ah):Option Ct :=
 (bd (α:=Ah) (o42v1 a0 a1 a2 a3 a4 a5 (a6,a7,a8) a9 a10 a11 (a12,a13,a14) a15) (fun v1=>(bd (α:=Ah) (o42v2 a0 a1 a2 a3 a4 a5 (a6,a7,a8) a9 a10 a11 (a12,a13,a14) v1) (fun v2=>(some ((((a0,a1),a2,a3),(a4,a5),a6,a7),((a8,a9),a10,a11),(a12,a13),a14,v2))))))
def h26v9:HC:=(.s .d (.b (.u 3 (.v .d (.v .d (.v .d .d))))))
theorem e26v9 (t:Ct):evF (stpT Tryz.prog T139 K139) Tryz.f26 p26v9 r26v9 h26v9 t=(o26v9 t.1.1.1.1 t.1.1.1.2 t.1.1.2.1 t.1.1.2.2 t.1.2.1.1 t.1.2.1.2 t.1.2.2.1 t.1.2.2.2 t.2.1.1.1 t.2.1.1.2 t.2.1.2.1 t.2.1.2.2 t.2.2.1.1 t.2.2.1.2 t.2.2.2.1 t.2.2.2.2):=by kernel_rfl
def n26v9:FSp:=⟨p26v9,r26v9,fun t=>(o26v9 t.1.1.1.1 t.1.1.1.2 t.1.1.2.1 t.1.1.2.2 t.1.2.1.1 t.1.2.1.2 t.1.2.2.1 t.1.2.2.2 t.2.1.1.1 t.2.1.1.2 t.2.1.2.1 t.2.1.2.2 t.2.2.1.1 t.2.2.1.2 t.2.2.2.1 t.2.2.2.2)⟩
theorem fo26v9:FOk Tryz.prog 26 n26v9:=fk e26v9
def T140:Tbl:=(26,n26v9)::T139
theorem K140:TOk Tryz.prog T140:= .cons K139 fo26v9
def Hx:SSh:= .v (.c (.cap (.cap (.fn 24) (.ptr 3 0)) (.ptr 4 0)))
def Ar:BSh:= .cells 105 [.ifc 60 (.ptr 1 0),.ifc 60 (.ptr 2 0),.cst (.pointer none),.cst (.pointer none),.ro .y true,.i .i64,.i .i64,.i .i64,.i .i64,.i .i64,.i .u8,.i .u8,.i .u8,.i .i64,.i .i64,.i .i64,.i .i64]
def CW:SSh:= .tup [.agg [.ic .u8 (0),.ic .u8 (0),.ic .i64 (0),.cst (.slice none 0 0),.ic .u8 (0),.ic .u8 (0),.ic .i64 (0),.cst (.slice none 0 0)],.agg [.b,.b]]
abbrev Fj:Type:=((B2)×Af)×(I3)×(I3)×Bt×Bt
abbrev Hy:Type:=(Ao×Af)×(I3)×(I3)×Bt×Bt
def p23v8:Sch:=⟨[(0,.v (.c (.ptr 0 0))),(1,.v (.c (.ic .i64 (0)))),(2,AP),(3,Hx)],[Ar,Aa,Aa,Bm,.cells 30 [.ptr 0 0]]⟩
def r23v8:List Sch:=[⟨[(0,CW)],[Ar,Aa,Aa,Bm,.cells 30 [.ptr 0 0]]⟩]
def o23v8 (a0:Ao) (a1:Af) (a2:I3) (a3:I3) (a4:Bt×Bt):Option Fj :=
 (some (((false,false),a1),a2,a3,a4))
def h23v8:HC:=(.s .d (.s (.s .d (.b (.u 3 (.v .d (.v .d (.v .d .d)))))) .d))
theorem e23v8 (t:Hy):evF (stpT Tryz.prog T140 K140) Tryz.f23 p23v8 r23v8 h23v8 t=(o23v8 t.1.1 t.1.2 t.2.1 t.2.2.1 t.2.2.2):=by kernel_rfl
def n23v8:FSp:=⟨p23v8,r23v8,fun t=>(o23v8 t.1.1 t.1.2 t.2.1 t.2.2.1 t.2.2.2)⟩
theorem fo23v8:FOk Tryz.prog 23 n23v8:=fk e23v8
def T141:Tbl:=(23,n23v8)::T140
theorem K141:TOk Tryz.prog T141:= .cons K140 fo23v8
def Hz:SSh:= .v (.c (.cap (.cap (.cap (.fn 27) (.ptr 3 0)) (.ptr 4 0)) (.ptr 5 0)))
def CX:BSh:= .cells 111 [.i .u8,.i .u8,.i .i64,.cst (.slice none 0 0),.i .u8,.i .u8,.i .i64,.cst (.slice none 0 0)]
abbrev CY:Type:=(Af×I3)×(I3)×As×B2
abbrev Fk:Type:=(Af×I3)×(I3)×((I3)×I3)×B2
def p26v10:Sch:=⟨[(0,.v (.c (.ptr 0 0))),(1,Hz)],[Ar,Aa,Aa,.cells 30 [.ptr 0 0],CX,.cells 34 [.b,.b]]⟩
def r26v10:List Sch:=[⟨[(0,.tup [])],[Ar,Aa,Aa,.cells 30 [.ptr 0 0],Am,.cells 34 [.b,.b]]⟩]
def o26v10 (a0:Af) (a1:I3) (a2:I3) (a3:(I3)×I3) (a4:B2):Option CY :=
 (some ((a0,a1),a2,(((a3.1.1,a3.1.2.1),a3.1.2.2,([]:Bt)),(a3.2.1,a3.2.2.1),a3.2.2.2,([]:Bt)),a4))
def h26v10:HC:=(.s .d (.b (.u 3 (.v .d (.v .d (.v .d .d))))))
theorem e26v10 (t:Fk):evF (stpT Tryz.prog T141 K141) Tryz.f26 p26v10 r26v10 h26v10 t=(o26v10 t.1.1 t.1.2 t.2.1 t.2.2.1 t.2.2.2):=by kernel_rfl
def n26v10:FSp:=⟨p26v10,r26v10,fun t=>(o26v10 t.1.1 t.1.2 t.2.1 t.2.2.1 t.2.2.2)⟩
theorem fo26v10:FOk Tryz.prog 26 n26v10:=fk e26v10
def T142:Tbl:=(26,n26v10)::T141
theorem K142:TOk Tryz.prog T142:= .cons K141 fo26v10
abbrev CZ:Type:=((B2)×Af)×(I3)×I3
def p23v9:Sch:=⟨[(0,.v (.c (.ptr 0 0))),(1,.v (.c (.ic .i64 (1)))),(2,AP),(3,.v (.c (.cap (.fn 29) (.ptr 3 0))))],[Ar,Aa,Aa,.cells 30 [.ptr 0 0]]⟩
def r23v9:List Sch:=[⟨[(0,CW)],[Ar,Aa,Aa,.cells 30 [.ptr 0 0]]⟩]
def o23v9 (a0:Ao) (a1:Af) (a2:I3) (a3:I3):Option CZ :=
 (some (((false,false),a1),a2,a3))
def h23v9:HC:=(.s .d (.s (.s .d (.b (.u 3 (.v .d (.v .d (.v .d .d)))))) .d))
theorem e23v9 (t:(Ao×Af)×(I3)×I3):evF (stpT Tryz.prog T142 K142) Tryz.f23 p23v9 r23v9 h23v9 t=(o23v9 t.1.1 t.1.2 t.2.1 t.2.2):=by kernel_rfl
def n23v9:FSp:=⟨p23v9,r23v9,fun t=>(o23v9 t.1.1 t.1.2 t.2.1 t.2.2)⟩
theorem fo23v9:FOk Tryz.prog 23 n23v9:=fk e23v9
def T143:Tbl:=(23,n23v9)::T142
theorem K143:TOk Tryz.prog T143:= .cons K142 fo23v9
def HA:SSh:= .v (.c (.cap (.cap (.cap (.cap (.cap (.cap (.fn 31) (.ptr 3 0)) (.ptr 4 0)) (.ptr 5 0)) (.ptr 6 0)) (.ptr 7 0)) (.ptr 8 0)))
abbrev Fl:Type:=((Af×I3)×(I3)×As)×((B2)×B2)×Ah×Ao
abbrev HB:Type:=((Af×I3)×(I3)×(I3)×I3)×((B2)×B2)×Ah×Ao
def p26v11:Sch:=⟨[(0,.v (.c (.ptr 0 0))),(1,HA)],[Ar,Aa,Aa,.cells 30 [.ptr 0 0],CX,.cells 34 [.b,.b],.cells 34 [.b,.b],Ag,Aj]⟩
def r26v11:List Sch:=[⟨[(0,.tup [])],[Ar,Aa,Aa,.cells 30 [.ptr 0 0],Am,.cells 34 [.b,.b],.cells 34 [.b,.b],Ag,Aj]⟩]
def o26v11 (a0:Af) (a1:I3) (a2:I3) (a3:(I3)×I3) (a4:B2) (a5:B2) (a6:Ah) (a7:Ao):Option Fl :=
 (some (((a0,a1),a2,((a3.1.1,a3.1.2.1),a3.1.2.2,([]:Bt)),(a3.2.1,a3.2.2.1),a3.2.2.2,([]:Bt)),(a4,a5),a6,a7))
def h26v11:HC:=(.s .d (.b (.u 3 (.v .d (.v .d (.v .d .d))))))
theorem e26v11 (t:HB):evF (stpT Tryz.prog T143 K143) Tryz.f26 p26v11 r26v11 h26v11 t=(o26v11 t.1.1.1 t.1.1.2 t.1.2.1 t.1.2.2 t.2.1.1 t.2.1.2 t.2.2.1 t.2.2.2):=by kernel_rfl
def n26v11:FSp:=⟨p26v11,r26v11,fun t=>(o26v11 t.1.1.1 t.1.1.2 t.1.2.1 t.1.2.2 t.2.1.1 t.2.1.2 t.2.2.1 t.2.2.2)⟩
theorem fo26v11:FOk Tryz.prog 26 n26v11:=fk e26v11
def T144:Tbl:=(26,n26v11)::T143
theorem K144:TOk Tryz.prog T144:= .cons K143 fo26v11
def HD:SSh:= .v (.c (.cap (.cap (.fn 34) (.ptr 3 0)) (.ptr 4 0)))
abbrev Fm:Type:=((B2)×Af)×(I3)×(I3)×Ah
abbrev HF:Type:=(Ao×Af)×(I3)×(I3)×Ah
def p23v10:Sch:=⟨[(0,.v (.c (.ptr 0 0))),(1,.v (.c (.ic .i64 (2)))),(2,AP),(3,HD)],[Ar,Aa,Aa,.cells 30 [.ptr 0 0],Ag]⟩
def r23v10:List Sch:=[⟨[(0,CW)],[Ar,Aa,Aa,.cells 30 [.ptr 0 0],Ag]⟩]
def o23v10 (a0:Ao) (a1:Af) (a2:I3) (a3:I3) (a4:Ah):Option Fm :=
 (some (((false,false),a1),a2,a3,a4))
def h23v10:HC:=(.s .d (.s (.s .d (.b (.u 3 (.v .d (.v .d (.v .d .d)))))) .d))
theorem e23v10 (t:HF):evF (stpT Tryz.prog T144 K144) Tryz.f23 p23v10 r23v10 h23v10 t=(o23v10 t.1.1 t.1.2 t.2.1 t.2.2.1 t.2.2.2):=by kernel_rfl
def n23v10:FSp:=⟨p23v10,r23v10,fun t=>(o23v10 t.1.1 t.1.2 t.2.1 t.2.2.1 t.2.2.2)⟩
theorem fo23v10:FOk Tryz.prog 23 n23v10:=fk e23v10
def T145:Tbl:=(23,n23v10)::T144
theorem K145:TOk Tryz.prog T145:= .cons K144 fo23v10
def HG:SSh:= .v (.c (.cap (.cap (.cap (.cap (.fn 36) (.ptr 3 0)) (.ptr 4 0)) (.ptr 5 0)) (.ptr 6 0)))
abbrev Fo:Type:=(Af×(I3)×I3)×As×(B2)×Ah
abbrev HH:Type:=(Af×(I3)×I3)×((I3)×I3)×(B2)×Ah
def p26v12:Sch:=⟨[(0,.v (.c (.ptr 0 0))),(1,HG)],[Ar,Aa,Aa,.cells 30 [.ptr 0 0],CX,.cells 34 [.b,.b],Ag]⟩
def r26v12:List Sch:=[⟨[(0,.tup [])],[Ar,Aa,Aa,.cells 30 [.ptr 0 0],Am,.cells 34 [.b,.b],Ag]⟩]
def o26v12 (a0:Af) (a1:I3) (a2:I3) (a3:(I3)×I3) (a4:B2) (a5:Ah):Option Fo :=
 (some ((a0,a1,a2),(((a3.1.1,a3.1.2.1),a3.1.2.2,([]:Bt)),(a3.2.1,a3.2.2.1),a3.2.2.2,([]:Bt)),a4,a5))
def h26v12:HC:=(.s .d (.b (.u 3 (.v .d (.v .d (.v .d .d))))))
theorem e26v12 (t:HH):evF (stpT Tryz.prog T145 K145) Tryz.f26 p26v12 r26v12 h26v12 t=(o26v12 t.1.1 t.1.2.1 t.1.2.2 t.2.1 t.2.2.1 t.2.2.2):=by kernel_rfl
def n26v12:FSp:=⟨p26v12,r26v12,fun t=>(o26v12 t.1.1 t.1.2.1 t.1.2.2 t.2.1 t.2.2.1 t.2.2.2)⟩
theorem fo26v12:FOk Tryz.prog 26 n26v12:=fk e26v12
def T146:Tbl:=(26,n26v12)::T145
theorem K146:TOk Tryz.prog T146:= .cons K145 fo26v12
def p23v11:Sch:=⟨[(0,.v (.c (.ptr 0 0))),(1,.v (.c (.ic .i64 (3)))),(2,AP),(3,.v (.c (.cap (.fn 38) (.ptr 3 0))))],[Ar,Aa,Aa,.cells 30 [.ptr 0 0]]⟩
def r23v11:List Sch:=[⟨[(0,CW)],[Ar,Aa,Aa,.cells 30 [.ptr 0 0]]⟩]
def o23v11 (a0:Ao) (a1:Af) (a2:I3) (a3:I3):Option CZ :=
 (some (((false,false),a1),a2,a3))
def h23v11:HC:=(.s .d (.s (.s .d (.b (.u 3 (.v .d (.v .d (.v .d .d)))))) .d))
theorem e23v11 (t:(Ao×Af)×(I3)×I3):evF (stpT Tryz.prog T146 K146) Tryz.f23 p23v11 r23v11 h23v11 t=(o23v11 t.1.1 t.1.2 t.2.1 t.2.2):=by kernel_rfl
def n23v11:FSp:=⟨p23v11,r23v11,fun t=>(o23v11 t.1.1 t.1.2 t.2.1 t.2.2)⟩
theorem fo23v11:FOk Tryz.prog 23 n23v11:=fk e23v11
def T147:Tbl:=(23,n23v11)::T146
theorem K147:TOk Tryz.prog T147:= .cons K146 fo23v11
def HI:SSh:= .v (.c (.cap (.cap (.cap (.fn 40) (.ptr 3 0)) (.ptr 4 0)) (.ptr 5 0)))
def p26v13:Sch:=⟨[(0,.v (.c (.ptr 0 0))),(1,HI)],[Ar,Aa,Aa,.cells 30 [.ptr 0 0],CX,.cells 34 [.b,.b]]⟩
def r26v13:List Sch:=[⟨[(0,.tup [])],[Ar,Aa,Aa,.cells 30 [.ptr 0 0],Am,.cells 34 [.b,.b]]⟩]
def o26v13 (a0:Af) (a1:I3) (a2:I3) (a3:(I3)×I3) (a4:B2):Option CY :=
 (some ((a0,a1),a2,(((a3.1.1,a3.1.2.1),a3.1.2.2,([]:Bt)),(a3.2.1,a3.2.2.1),a3.2.2.2,([]:Bt)),a4))
def h26v13:HC:=(.s .d (.b (.u 3 (.v .d (.v .d (.v .d .d))))))
theorem e26v13 (t:Fk):evF (stpT Tryz.prog T147 K147) Tryz.f26 p26v13 r26v13 h26v13 t=(o26v13 t.1.1 t.1.2 t.2.1 t.2.2.1 t.2.2.2):=by kernel_rfl
def n26v13:FSp:=⟨p26v13,r26v13,fun t=>(o26v13 t.1.1 t.1.2 t.2.1 t.2.2.1 t.2.2.2)⟩
theorem fo26v13:FOk Tryz.prog 26 n26v13:=fk e26v13
def T148:Tbl:=(26,n26v13)::T147
theorem K148:TOk Tryz.prog T148:= .cons K147 fo26v13
def HJ:SSh:= .v (.c (.cap (.cap (.fn 42) (.ptr 3 0)) (.ptr 4 0)))
def p26v14:Sch:=⟨[(0,.v (.c (.ptr 0 0))),(1,HJ)],[Ar,Aa,Aa,.cells 30 [.ptr 0 0],Ag]⟩
def r26v14:List Sch:=[⟨[(0,.tup [])],[Ar,Aa,Aa,.cells 30 [.ptr 0 0],Ag]⟩]
def o26v14 (a0:Af) (a1:I3) (a2:I3) (a3:Ah):Option ((Af×I3)×(I3)×Ah) :=
 (some ((a0,a1),a2,a3))
def h26v14:HC:=(.s .d (.b (.u 3 (.v .d (.v .d (.v .d .d))))))
theorem e26v14 (t:(Af×I3)×(I3)×Ah):evF (stpT Tryz.prog T148 K148) Tryz.f26 p26v14 r26v14 h26v14 t=(o26v14 t.1.1 t.1.2 t.2.1 t.2.2):=by kernel_rfl
def n26v14:FSp:=⟨p26v14,r26v14,fun t=>(o26v14 t.1.1 t.1.2 t.2.1 t.2.2)⟩
theorem fo26v14:FOk Tryz.prog 26 n26v14:=fk e26v14
def T149:Tbl:=(26,n26v14)::T148
theorem K149:TOk Tryz.prog T149:= .cons K148 fo26v14
def DJ:BSh:= .cells 105 [.ifc 60 (.ptr 3 0),.ifc 60 (.ptr 4 0),.cst (.pointer none),.ptr 5 0,.ro .y true,.i .i64,.i .i64,.i .i64,.i .i64,.i .i64,.i .u8,.i .u8,.i .u8,.i .i64,.i .i64,.i .i64,.i .i64]
def o24v3_s0:Sch:=⟨[(0,.v (.c (.ic .i64 (1)))),(2,.v (.c (.ptr 1 0))),(4,.v (.c (.ptr 11 0))),(6,.v (.c (.ro .y false)))],[.lent [.ro .y false,.ro .y false],.cells 30 [.ptr 2 0],DJ,Aa,Aa,AZ,Ab,Ad,AX,.row (.a .y) 33,Ac,AW]⟩
def p24v3:Sch:=⟨[(0,.v (.c (.ic .i64 (1)))),(1,.v (.c (.ptr 0 0))),(2,.v (.c (.ptr 1 0)))],[.lent [.ro .y false,.ro .y false],.cells 30 [.ptr 2 0],DJ,Aa,Aa,AZ,Ab,Ad,AX,.row (.a .y) 33,Ac]⟩
def r24v3:List Sch:=[⟨[(0,Cj)],[.no,.cells 30 [.ptr 2 0],DJ,Aa,Aa,AZ,Ab,Ad,AX,.row (.a .y) 33,Ac]⟩]
def o24v3 (a0:Bt×Bt) (a1:Af) (a2:I3) (a3:I3) (a4:(I3)×Bool×I2) (a5:Ae) (a6:List (Int×Int×Int×Bt)) (a7:I2) (a8:List Bt) (a9:List (Int×I4)):Option Ck :=
 (bd (α:=Dw) (cnd (decide (((a0.2.length:Nat):Int) > (400:Int))) (some (((([]:Bt),a0,a1),a2,a3,a4),(a5,a6,a7),a8,a9,((0:Int),(0:Int)),(0:Int),([]:Bt))) (some (((a0.2,a0,a1),a2,a3,a4),(a5,a6,a7),a8,a9,((0:Int),(0:Int)),(0:Int),([]:Bt)))) Eh)
def h24v3:HC:=(.s .d (.s .d (.j false [o24v3_s0] (.s .d (.s (.r 1) .d)))))
theorem e24v3 (t:Ei):evF (stpT Tryz.prog T149 K149) Tryz.f24 p24v3 r24v3 h24v3 t=(o24v3 t.1.1.1 t.1.1.2 t.1.2.1 t.1.2.2.1 t.1.2.2.2 t.2.1.1 t.2.1.2 t.2.2.1 t.2.2.2.1 t.2.2.2.2):=by kernel_rfl
def n24v3:FSp:=⟨p24v3,r24v3,fun t=>(o24v3 t.1.1.1 t.1.1.2 t.1.2.1 t.1.2.2.1 t.1.2.2.2 t.2.1.1 t.2.1.2 t.2.2.1 t.2.2.2.1 t.2.2.2.2)⟩
theorem fo24v3:FOk Tryz.prog 24 n24v3:=fk e24v3
def T150:Tbl:=(24,n24v3)::T149
theorem K150:TOk Tryz.prog T150:= .cons K149 fo24v3
def Ax:BSh:= .cells 105 [.ifc 60 (.ptr 1 0),.ifc 60 (.ptr 2 0),.cst (.pointer none),.ptr 3 0,.ro .y true,.i .i64,.i .i64,.i .i64,.i .i64,.i .i64,.i .u8,.i .u8,.i .u8,.i .i64,.i .i64,.i .i64,.i .i64]
def o23v12_s0:Sch:=⟨[(0,.v (.c (.ptr 0 0))),(1,.v (.c (.ic .i64 (0)))),(3,CD),(6,.v (.c (.ptr 11 0))),(8,.v (.c (.ptr 12 0))),(9,.v (.c (.ptr 13 0))),(15,.v (.c (.ic .i64 (1))))],[Ax,Aa,Aa,Ai,Ab,Ad,Al,.row (.a .y) 33,Ac,Bm,.cells 30 [.ptr 0 0],Aj,Am,.cells 34 [.b,.b]]⟩
def p23v12:Sch:=⟨[(0,.v (.c (.ptr 0 0))),(1,.v (.c (.ic .i64 (0)))),(2,AP),(3,CD)],[Ax,Aa,Aa,Ai,Ab,Ad,Al,.row (.a .y) 33,Ac,Bm,.cells 30 [.ptr 0 0]]⟩
def r23v12:List Sch:=[⟨[(0,Bq)],[Ax,Aa,Aa,Ai,Ab,Ad,Al,.row (.a .y) 33,Ac,Bm,.cells 30 [.ptr 0 0]]⟩]
def o23v12 (a0:Ao) (a1:Af) (a2:I3) (a3:I3) (a4:(I3)×Bool×I2) (a5:Ae) (a6:List (Int×Int×Int×Bt)) (a7:I2) (a8:List Bt) (a9:List (Int×I4)) (a10:Bt×Bt):Option BM :=
 (bd (α:=Dy) (bd (α:=Ck) (o24v3 a10 a1 a2 a3 a4 a5 a6 a7 a8 a9) (fun v1=>(cnd (!v1.1.1.1.2.2.2) (some (((v1.1.1.2,v1.1.2.1,v1.1.2.2.1),v1.1.2.2.2,v1.2.1),v1.2.2,(a10,a0),((((0:Int),(0:Int)),(0:Int),([]:Bt)),((0:Int),(0:Int)),(0:Int),([]:Bt)),false,false)) (bd (α:=(Int×Bt)) (o69 (v1.1.1.1.1,v1.1.1.1.2.1,v1.1.1.1.2.2.1)) (fun v2=>(cnd (v2.1 != (0:Int)) (some (((v1.1.1.2,v1.1.2.1,v1.1.2.2.1),v1.1.2.2.2,v1.2.1),v1.2.2,(a10,a0),((((0:Int),(0:Int)),(0:Int),([]:Bt)),((0:Int),(0:Int)),(0:Int),([]:Bt)),false,false)) (bd (α:=((I2)×Int×Bt×Bool)) (o70 v2.2 (a0.2.1.2.1.1,a0.2.1.2.1.2,a0.2.1.2.2.1) (1:Int) (2:Int) v1.1.1.2.1.2.2.2) (fun v4=>(some (((v1.1.1.2,v1.1.2.1,v1.1.2.2.1),v1.1.2.2.2,v1.2.1),v1.2.2,(a10,a0),((v4.1,v4.2.1,v4.2.2.1),((0:Int),(0:Int)),(0:Int),([]:Bt)),v4.2.2.2,false)))))))))) Ek)
def h23v12:HC:=(.s .d (.s (.s .d (.b (.u 3 (.v .d (.v (.s .d (.s .d (.j false [o23v12_s0] .d))) (.v .d .d)))))) .d))
theorem e23v12 (t:El):evF (stpT Tryz.prog T150 K150) Tryz.f23 p23v12 r23v12 h23v12 t=(o23v12 t.1.1.1 t.1.1.2 t.1.2.1 t.1.2.2.1 t.1.2.2.2 t.2.1.1 t.2.1.2.1 t.2.1.2.2 t.2.2.1 t.2.2.2.1 t.2.2.2.2):=by kernel_rfl
def n23v12:FSp:=⟨p23v12,r23v12,fun t=>(o23v12 t.1.1.1 t.1.1.2 t.1.2.1 t.1.2.2.1 t.1.2.2.2 t.2.1.1 t.2.1.2.1 t.2.1.2.2 t.2.2.1 t.2.2.2.1 t.2.2.2.2)⟩
theorem fo23v12:FOk Tryz.prog 23 n23v12:=fk e23v12
def T151:Tbl:=(23,n23v12)::T150
theorem K151:TOk Tryz.prog T151:= .cons K150 fo23v12
end
abbrev PT:Type:=Int×Int×Int×List UInt8
abbrev ST:Type:=Int×Int×Bool×List UInt8
def pieces (save:List UInt8):Nat:=max ((save.length+599) / 600) 1
def pcAt (base:Int) (save:List UInt8) (i:Nat):PT:=(base,(i:Int),(pieces save:Int),(save.drop (600*i)).take (min (600*(i+1)) save.length - 600*i))
def splitL (base:Int) (save:List UInt8):List PT:=(List.range (pieces save)).map (pcAt base save)
def split (base:Int) (save:List UInt8):Int×List PT:=cond (decide (base < 1) || decide (base > 2305843009213693952)) (1,[]) (cond (decide ((save.length:Int) > 524288)) (3,[]) (0,splitL base save))
theorem o18_eq (base:Int) (save:List UInt8):o18 base save=some (split base save):=by
 unfold o18 split
 have e:(cnd (decide (base < (1:Int))) (some (base,save,true)) (some (base,save,(decide (base > (2305843009213693952:Int))))))=some (base,save,decide (base < 1) || decide (base > 2305843009213693952)):=by
  cases decide (base < (1:Int)) <;> rfl
 rw [e,bdI]
 refine cnd_ext (F:=fun x=>x) rfl ?_
 by_cases hl:((save.length:Nat):Int) > 524288
 ·refine (cndT (dt hl)).trans ?_
  rw [dt hl];rfl
 refine (cndF (df hl)).trans ?_
 rw [df hl,cond_false]
 have hn:maxI (IntKind.i64.wrap (Int.tdiv (IntKind.i64.wrap (IntKind.i64.wrap (((save.length:Nat):Int)+600) - 1)) 600)) 1=(pieces save:Int):=by
  rw [show IntKind.i64.wrap (((save.length:Nat):Int)+600)=(save.length:Int)+600 from wr64 (by omega),show IntKind.i64.wrap ((save.length:Int)+600 - 1)=(save.length:Int)+599 by rw [wr64 (by omega)];omega,Int.tdiv_eq_ediv_of_nonneg (by omega),wr64 (by omega)]
  unfold maxI pieces
  split <;> omega
 dsimp only
 rw [hn]
 have hb:pieces save≤874:=by unfold pieces;omega
 have hq:600*pieces save≤save.length+600:=by unfold pieces;omega
 refine loop_from (fun i=>((base,save,(pieces save:Int)),(pieces save:Int),((i:Nat):Int),(List.range i).map (pcAt base save))) (pieces save) rfl (fun i hi=>?_) ?_ (by omega)
 ·have h1:IntKind.i64.wrap ((i:Int)*600)=((600*i:Nat):Int):=by rw [wr64 (by omega)];omega
  have h2:IntKind.i64.wrap ((i:Int)+1)=((i+1:Nat):Int):=by rw [wr64 (by omega)];omega
  have h3:IntKind.i64.wrap (((i+1:Nat):Int)*600)=((600*(i+1):Nat):Int):=by rw [wr64 (by omega)];omega
  have h4:minI ((600*(i+1):Nat):Int) ((save.length:Nat):Int)=((min (600*(i+1)) save.length:Nat):Int):=by unfold minI;split <;> omega
  unfold o18_b0
  refine (cndT (dt (by show (i:Int) < (pieces save:Int);omega))).trans ?_
  dsimp only
  rw [h1,h2,h3,h4,gdT (dt (by omega)),show ((min (600*(i+1)) save.length:Nat):Int).toNat=min (600*(i+1)) save.length from rfl,show ((600*i:Nat):Int).toNat=600*i from rfl,o33_eq (by simp;omega),bdI,gdT (dt (by simp;omega)),List.range_succ,List.map_append]
  rfl
 ·unfold o18_b0
  refine (cndF (df (by show ¬ (pieces save:Int) < (pieces save:Int);omega))).trans ?_
  exact dnS _
def validP (p:PT):Bool:=decide (p.1≥1)&&(decide (p.1≤2305843009213693952)&&(decide (p.2.2.1≥1)&&(decide (p.2.2.1≤874)&&(decide (p.2.1≥0)&&(decide (p.2.1 < p.2.2.1)&&decide ((p.2.2.2.length:Int)≤600))))))
theorem o124_eq (b i c:Int) (d:List UInt8):o124 ((b,i),c,d)=some (validP (b,i,c,d)):=by
 unfold o124 validP
 dsimp only
 cases decide (b≥1) <;> cases decide (b≤2305843009213693952) <;> cases decide (c≥1) <;> cases decide (c≤874) <;> cases decide (i≥0) <;> cases decide (i < c) <;> rfl
theorem o123_eq (b i c:Int) {d:List UInt8} (h:d.length≤100000000):o123 ((b,i),c,d)=some ((b,i,c),d):=by
 unfold o123
 exact bdS (o33_eq h)
def hit (ps:List PT) (base have_:Int):Bool:=decide ((ps.length:Int) > 0)&&(base==(ps.getD 0 (0,0,0,[])).1&&(decide (have_≥0)&&decide (have_ < (ps.length:Int))))
def serve (ps:List PT) (base have_ steps:Int) (save:List UInt8):List PT×PT×Int :=
 cond (hit ps base have_) (ps,ps.getD have_.toNat (0,0,0,[]),0) (cond ((split steps save).1 != 0) (ps,(0,0,0,[]),(split steps save).1) ((split steps save).2,(split steps save).2.getD 0 (0,0,0,[]),0))
def serveE (x:List PT×PT×Int):=(((x.2.1.1,x.2.1.2.1),x.2.1.2.2.1,x.2.2),x.1,x.2.1.2.2.2)
theorem splitL_len (base:Int) (save:List UInt8):(splitL base save).length=pieces save:=by simp [splitL]
theorem pieces_pos (save:List UInt8):0 < pieces save:=by unfold pieces;omega
theorem pcAt_len (base:Int) (save:List UInt8) (i:Nat):(pcAt base save i).2.2.2.length≤600:=by
 simp only [pcAt,List.length_take,List.length_drop]
 omega
theorem splitL_data {base:Int} {save:List UInt8} {p:PT} (h:p∈splitL base save):p.2.2.2.length≤600:=by
 simp only [splitL,List.mem_map] at h
 obtain ⟨i,_,rfl⟩:=h
 exact pcAt_len base save i
theorem getD_data {ps:List PT} (hp:∀ p∈ps,p.2.2.2.length≤600) (i:Nat):(ps.getD i (0,0,0,[])).2.2.2.length≤600:=by
 by_cases h:i < ps.length
 ·rw [getD_of h];exact hp _ (List.getElem_mem h)
 ·rw [List.getD_eq_getElem?_getD,List.getElem?_eq_none (by omega)];simp
theorem o81_eq {ps:List PT} {base have_ steps:Int} {save:List UInt8} (hp:∀ p∈ps,p.2.2.2.length≤600):o81 (base,have_) steps save ps=some (serveE (serve ps base have_ steps save)):=by
 unfold o81 serve
 have d0:(0:Int).toNat=0:=rfl
 refine (bdS (t:=((steps,save),hit ps base have_,ps,base,have_)) ?_).trans ?_
 ·unfold hit
  dsimp only
  by_cases h:((ps.length:Nat):Int) > 0
  ·rw [cndT (dt h),dt h,gdT (dt (by omega)),d0]
   cases (base==(ps.getD 0 ((0:Int),(0:Int),(0:Int),([]:List UInt8))).1) <;> cases decide (have_≥0) <;> rfl
  ·rw [cndF (df h),df h];rfl
 by_cases hh:hit ps base have_=true
 ·refine (cndT hh).trans ?_
  rw [hh,cond_true]
  have hr:0≤have_∧have_ < (ps.length:Int):=by
   unfold hit at hh
   simp only [Bool.and_eq_true,decide_eq_true_eq] at hh
   exact ⟨hh.2.2.1,hh.2.2.2⟩
  refine (gdT (dt hr)).trans ?_
  exact bdS (o123_eq _ _ _ (Nat.le_trans (getD_data hp _) (by decide)))
 ·have hh:hit ps base have_=false:=by simpa using hh
  refine (cndF hh).trans ?_
  rw [hh,cond_false]
  refine (bdS (o18_eq steps save)).trans ?_
  have hs:(split steps save).1=0→(split steps save).2=splitL steps save:=by
   unfold split
   cases (decide (steps < 1) || decide (steps > 2305843009213693952)) with
   | true=>intro h;cases h
   | false =>
    cases decide ((save.length:Int) > 524288) with
    | true=>intro h;cases h
    | false=>exact fun _=>rfl
  by_cases hz:(split steps save).1=0
  ·refine (cndF (neq_f hz)).trans ?_
   rw [neq_f hz,cond_false,d0]
   have e:=hs hz
   have hpos:=pieces_pos save
   rw [e]
   refine (gdT (dt (by rw [splitL_len];omega))).trans ?_
   exact bdS (o123_eq _ _ _ (Nat.le_trans (getD_data (fun p hp=>splitL_data hp) _) (by decide)))
  ·refine (cndT (neq_t hz)).trans ?_
   rw [neq_t hz];rfl
def encP (p:PT):Int×List UInt8:=cond (validP p) (0,putB p.1 8++putB p.2.1 2++putB p.2.2.1 2++p.2.2.2) (1,[])
theorem validP_ok {p:PT} (h:validP p=true):(1≤p.1∧p.1≤2305843009213693952)∧(1≤p.2.2.1∧p.2.2.1≤874)∧(0≤p.2.1∧p.2.1 < p.2.2.1)∧p.2.2.2.length≤600:=by
 unfold validP at h
 simp only [Bool.and_eq_true,decide_eq_true_iff] at h
 omega
theorem four_bytes (i c:Int):[(u8 (IntKind.u8.wrap i)),(u8 (IntKind.u8.wrap (shrK .i64 i 8))),(u8 (IntKind.u8.wrap c)),(u8 (IntKind.u8.wrap (shrK .i64 c 8)))]=putB i 2++putB c 2:=by
 have e:∀ n:Int,putB n 2=[u8 (IntKind.u8.wrap n),u8 (IntKind.u8.wrap (shrK .i64 n 8))]:=fun n=>by
  have h0:byteAt n 0=u8 (IntKind.u8.wrap n):=by
   unfold byteAt
   rw [shr_i64 n 0 (by decide),Int.pow_zero,Int.ediv_one]
  have h1:byteAt n 1=u8 (IntKind.u8.wrap (shrK .i64 n 8)):=rfl
  rw [putB_succ,putB_succ,putB_zero,h0,h1];rfl
 rw [e,e];rfl
theorem o82_eq (b i c:Int) (d:List UInt8):o82 ((b,i),c,d)=some (encP (b,i,c,d)):=by
 unfold o82 encP
 refine (bdS (o124_eq b i c d)).trans ?_
 cases hv:validP (b,i,c,d) with
 | false=>rfl
 | true =>
  obtain ⟨-,-,-,hd⟩:=validP_ok hv
  dsimp only at hd
  refine (cndF rfl).trans ?_
  rw [cond_true]
  refine loop_from (fun k=>(((k:Nat):Int),((b,i),c,d),putB b k)) 8 rfl (fun k hk=>?_) ?_ (by omega)
  ·unfold o82_b0
   refine (cndT (dt (by show (k:Int) < 8;omega))).trans ((gdT (dt (by show (0:Int)≤IntKind.i64.wrap (8*(k:Int));rw [wr64 (by omega)];omega))).trans ((gdT (dt (by show ((putB b k).length+1)*1≤140737488355328;rw [putB_len];omega))).trans ?_))
   dsimp only
   rw [wr64 (by omega),wr64 (by omega),putB_succ]
   rfl
  ·unfold o82_b0
   refine (cndF (df (by show ¬ ((8:Nat):Int) < 8;decide))).trans ?_
   dsimp only
   rw [four_bytes,gdT (dt (by simp [putB_len])),gdT (dt (by simp [putB_len];omega)),dnS]
   simp only [List.append_assoc]
def rawP (p:List UInt8):PT:=(getI p 8,(natL (p.drop 8) 2:Int),(natL (p.drop 10) 2:Int),p.drop 12)
def decP (p:List UInt8):PT×Int:=cond (decide ((p.length:Int) < 12)) ((0,0,0,[]),4) (cond (validP (rawP p)) (rawP p,0) ((0,0,0,[]),4))
def decE (x:PT×Int):=(((x.1.1,x.1.2.1),x.1.2.2.1,x.2),x.1.2.2.2)
theorem ofInt_i64 (x:Int):BitVec.ofInt 64 (IntKind.i64.wrap x)=BitVec.ofInt 64 x:=by
 apply BitVec.eq_of_toNat_eq
 rw [BitVec.toNat_ofInt,BitVec.toNat_ofInt,IntKind.wrap_i64]
 congr 1
 have:((2 ^ 64:Nat):Int)=18446744073709551616:=by decide
 rw [this]
 omega
theorem lor_i64 (x y:Int):lorK .i64 (IntKind.i64.wrap x) (IntKind.i64.wrap y)=IntKind.i64.wrap (lorK .u64 x y):=by
 unfold lorK
 have e1:BitVec.ofInt IntKind.i64.bits (IntKind.i64.wrap x)=BitVec.ofInt IntKind.u64.bits x:=ofInt_i64 x
 have e2:BitVec.ofInt IntKind.i64.bits (IntKind.i64.wrap y)=BitVec.ofInt IntKind.u64.bits y:=ofInt_i64 y
 rw [e1,e2]
 have hlt:(BitVec.ofInt IntKind.u64.bits x ||| BitVec.ofInt IntKind.u64.bits y).toNat < 2 ^ 64:=BitVec.isLt _
 have:IntKind.u64.wrap (((BitVec.ofInt IntKind.u64.bits x ||| BitVec.ofInt IntKind.u64.bits y).toNat:Nat):Int)=(((BitVec.ofInt IntKind.u64.bits x ||| BitVec.ofInt IntKind.u64.bits y).toNat:Nat):Int):=wr_u64 (by omega)
 rw [this]
 rfl
theorem natL_two (q:List UInt8):((natL q 2:Nat):Int)=((q.getD 0 0).toNat:Int)+256*((q.getD 1 0).toNat:Int):=by
 simp only [natL,Nat.reducePow]
 omega
theorem two_i64 (a b:UInt8):IntKind.i64.wrap ((a.toNat:Int)+(shlK .i64 (b.toNat:Int) 8))=(a.toNat:Int)+256*(b.toNat:Int):=by
 have ha:=UInt8.toNat_lt a
 have hb:=UInt8.toNat_lt b
 have e:shlK .i64 (b.toNat:Int) 8=256*(b.toNat:Int):=by
  unfold shlK
  have:(b.toNat:Int)*2 ^ (min (8:Int).toNat IntKind.i64.bits)=256*(b.toNat:Int):=by
   rw [show min (8:Int).toNat IntKind.i64.bits=8 from rfl,show (2:Int) ^ 8=256 from rfl];omega
  rw [this]
  exact wr64 (by omega)
 rw [e]
 exact wr64 (by omega)
theorem getD_drop (q:List UInt8) (a i:Nat):(q.drop a).getD i 0=q.getD (a+i) 0:=by simp [List.getD_eq_getElem?_getD,List.getElem?_drop]
theorem o125_eq {p:List UInt8} (hp:p.length≤1000000):o125 p=some (decE (decP p)):=by
 unfold o125 decP
 by_cases h:((p.length:Nat):Int) < 12
 ·rw [cndT (dt h),dt h];rfl
 rw [cndF (df h),df h,cond_false]
 have d:(8:Int).toNat=8∧(9:Int).toNat=9∧(10:Int).toNat=10∧(11:Int).toNat=11∧(12:Int).toNat=12:=⟨rfl,rfl,rfl,rfl,rfl⟩
 obtain ⟨d8,d9,d10,d11,d12⟩:=d
 rw [gdT (dt (by omega)),gdT (dt (by omega)),gdT (dt (by omega)),gdT (dt (by omega)),gdT (dt (by omega)),d8,d9,d10,d11,d12,o33_eq (by simp;omega),bdI]
 have hb:∀ i,IntKind.i64.wrap ((p.getD i 0).toNat:Int)=((p.getD i 0).toNat:Int):=fun i=>wr64 (by have:=(p.getD i 0).toNat_lt;omega)
 rw [hb,hb,hb,hb,two_i64,two_i64]
 have e:(getI p 8,((p.getD 8 0).toNat:Int)+256*((p.getD 9 0).toNat:Int),((p.getD 10 0).toNat:Int)+256*((p.getD 11 0).toNat:Int),List.drop 12 p)=rawP p:=by
  unfold rawP
  rw [natL_two,natL_two,getD_drop,getD_drop,getD_drop,getD_drop]
 generalize ((p.getD 8 0).toNat:Int)+256*((p.getD 9 0).toNat:Int)=I at e ⊢
 generalize ((p.getD 10 0).toNat:Int)+256*((p.getD 11 0).toNat:Int)=C at e ⊢
 refine loop_from (fun k=>((p,((k:Nat):Int)),(IntKind.i64.wrap (getK p k),I,C),p.drop 12)) 8 rfl (fun k hk=>?_) ?_ (by omega)
 ·have hbk:=(p.getD k 0).toNat_lt
  unfold o125_b0
  refine (cndT (dt (by show (k:Int) < 8;omega))).trans ((gdT (dt (by show (0:Int)≤k∧(k:Int) < (p.length:Int);omega))).trans ((gdT (dt (by show (0:Int)≤IntKind.i64.wrap (8*(k:Int));rw [wr64 (by omega)];omega))).trans ?_))
  dsimp only
  rw [lor_i64,show IntKind.i64.wrap ((k:Int)+1)=(k:Int)+1 from wr64 (by omega),show IntKind.i64.wrap (8*(k:Int))=8*(k:Int) from wr64 (by omega),show (k:Int).toNat=k from rfl,IntWalk.u64_in _ (by omega)]
  rfl
 ·unfold o125_b0
  refine (cndF (df (by show ¬ ((8:Nat):Int) < 8;decide))).trans ?_
  dsimp only
  rw [getK_eq p 8 (by decide),show IntKind.i64.wrap ((natL p 8:Nat):Int)=getI p 8 from rfl,o124_eq,bdI,e]
  have e1:getI p 8=(rawP p).1:=rfl
  have e2:p.drop 12=(rawP p).2.2.2:=rfl
  have e3:I=(rawP p).2.1:=by rw [← e]
  have e4:C=(rawP p).2.2.1:=by rw [← e]
  rw [e1,e2,e3,e4]
  cases validP (rawP p) <;> rfl
structure Co where
 base:Int
 count:Int
 ps:List (List UInt8)
 ss:List ST
def Co.e (c:Co):(Int×Int)×List (List UInt8)×List ST:=((c.base,c.count),c.ps,c.ss)
def noCo:Co:=⟨0,0,[],[]⟩
def Co.want (c:Co):Int×Int:=(c.base,(c.ps.length:Int))
def Se.t (x:Se):ST:=(x.steps,x.cycle,x.fresh,x.in_)
def Co.misses (c:Co) (x:Se) (came:Bool):Bool:=!came || (x.steps != IntKind.i64.wrap (c.base+(c.ss.length:Int)) || (x.fresh || decide ((c.ss.length:Int)≥(c.ps.length:Int))))
def Co.note (c:Co) (x:Se) (came:Bool):Co:=cond ((c.ps.length:Int)==0) c (cond (c.misses x came) noCo { c with ss:=c.ss++[x.t] })
theorem o78_eq {c:Co} {x:Se} {came:Bool} (hx:x.in_.length≤1000000) (hc:c.ss.length≤1000000):o78 x.e came (c.base,c.count) c.ps c.ss=some (c.note x came).e:=by
 unfold o78 Co.note
 refine cnd_ext (c:=(c.ps.length:Int)==0) (F:=Co.e) rfl ?_
 refine (bdS (t:=((c.misses x came,c.base,c.count),c.ps,c.ss,x.e)) ?_).trans ?_
 ·unfold Co.misses
  show cnd (!came) _ (cnd (x.steps != IntKind.i64.wrap (c.base+(c.ss.length:Int))) _ (cnd x.fresh _ _))=_
  cases came <;> cases (x.steps != IntKind.i64.wrap (c.base+(c.ss.length:Int))) <;> cases hf:x.fresh <;> (simp only [Se.e,hf];rfl)
 ·refine cnd_ext (F:=Co.e) rfl ?_
  refine (bdS (o33_eq (l:=x.in_) (by omega))).trans ((gdT (dt ?_)).trans rfl)
  show (c.ss.length+1)*48≤140737488355328
  omega
def Co.fitsP (c:Co) (p:PT):Bool:=decide ((c.ps.length:Int) > 0)&&(p.1==c.base&&(p.2.2.1==c.count&&p.2.1==(c.ps.length:Int)))
def Co.take (c:Co) (p:PT):Co:=cond (validP p) (cond (c.fitsP p) { c with ps:=c.ps++[p.2.2.2] } (cond (p.2.1==0) ⟨p.1,p.2.2.1,[p.2.2.2],[]⟩ c)) c
theorem o126_eq {c:Co} (b i n:Int) (d:List UInt8) (hd:d.length≤1000000) (hc:c.ps.length≤1000000):o126 ((b,i),n,d) (c.base,c.count) c.ps c.ss=some (c.take (b,i,n,d)).e:=by
 unfold o126 Co.take
 refine (bdS (o124_eq b i n d)).trans ?_
 refine cndN_ext (c:=validP (b,i,n,d)) (F:=Co.e) ?_ rfl
 refine (bdS (t:=((c.fitsP (b,i,n,d),c.base,c.count),c.ps,c.ss,(b,i),n,d)) ?_).trans ?_
 ·unfold Co.fitsP
  show cnd (decide ((c.ps.length:Int) > 0)) (cnd (b==c.base) (cnd (n==c.count) _ _) _) _=_
  cases decide ((c.ps.length:Int) > 0) <;> cases (b==c.base) <;> cases (n==c.count) <;> rfl
 ·refine cnd_ext (F:=Co.e) ?_ ?_
  ·refine (bdS (o33_eq (l:=d) (by omega))).trans ((gdT (dt ?_)).trans rfl)
   show (c.ps.length+1)*24≤140737488355328
   omega
  ·refine cnd_ext (F:=Co.e) ?_ rfl
   exact bdS (o33_eq (l:=d) (by omega))
theorem o159_eq {k:Nat} (h:k≤100000000):o159 (k:Int)=some []:=by
 unfold o159
 have e0:IntKind.i64.wrap ((0:Int) - 0)=0:=rfl
 rw [cndF (df (by omega)),e0,show ((k:Int) - 0)=(k:Int) by omega,wr64 (by omega)]
 by_cases hk:(k:Int) > 0
 ·rw [cndT (dt hk),gdT (dt (by decide)),gdT (dt (by omega)),gdT (dt (by omega))]
  rfl
 ·rw [cndF (df hk)]
theorem flatten_take_len (l:List (List UInt8)) (i:Nat) (hl:∀ x∈l,x.length≤1000):(l.take i).flatten.length≤1000*i:=by
 induction l generalizing i with
 | nil=>simp
 | cons x l ih =>
  cases i with
  | zero=>simp
  | succ i =>
   have h1:=ih i (fun y hy=>hl y (List.mem_cons_of_mem _ hy))
   have h2:=hl x (List.mem_cons_self ..)
   simp only [List.take_succ_cons,List.flatten_cons,List.length_append]
   omega
theorem flatten_take_succ (l:List (List UInt8)) {i:Nat} (h:i < l.length):(l.take (i+1)).flatten=(l.take i).flatten++l.getD i []:=by
 rw [List.take_add_one,List.flatten_append,List.getElem?_eq_getElem h,getD_of h]
 simp
theorem o152_eq {l:List (List UInt8)} (hl:l.length≤2000) (hx:∀ x∈l,x.length≤1000):o152 l=some l.flatten:=by
 unfold o152
 refine loop_from (fun i=>((l,(((l.take i).flatten.length:Nat):Int)),l,(l.length:Int),((i:Nat):Int))) l.length rfl (fun i hi=>?_) ?_ (by omega)
 ·have h1:=flatten_take_len l i hx
  have h2:(l.getD i []).length≤1000:=by rw [getD_of hi];exact hx _ (List.getElem_mem hi)
  unfold o152_b1
  refine (cndT (dt (by show (i:Int) < (l.length:Int);omega))).trans ((gdT (dt (by show (0:Int)≤i∧(i:Int) < (l.length:Int);omega))).trans ?_)
  dsimp only
  rw [show (i:Int).toNat=i from rfl,show IntKind.i64.wrap ((((l.take i).flatten.length:Nat):Int)+(((l.getD i []).length:Nat):Int))=(((l.take (i+1)).flatten.length:Nat):Int) by
   rw [wr64 (by omega),flatten_take_succ l hi,List.length_append];omega]
  rw [cndF (df (by omega)),wr64 (by omega)]
  rfl
 ·have h1:=flatten_take_len l l.length hx
  unfold o152_b1
  refine (cndF (df (by show ¬ (l.length:Int) < (l.length:Int);omega))).trans ?_
  dsimp only
  rw [o159_eq (by omega),bdI]
  refine (congrArg dnO (loop_from (r:=l.flatten) (fun i=>((l,(l.length:Int)),((i:Nat):Int),(l.take i).flatten)) l.length rfl (fun i hi=>?_) ?_ (by omega))).trans (dnS _)
  ·have h3:=flatten_take_len l i hx
   have h2:(l.getD i []).length≤1000:=by rw [getD_of hi];exact hx _ (List.getElem_mem hi)
   unfold o152_b0
   refine (cndT (dt (by show (i:Int) < (l.length:Int);omega))).trans ((gdT (dt (by show (0:Int)≤i∧(i:Int) < (l.length:Int);omega))).trans ((gdT (dt ?_)).trans ?_))
   ·show ((l.take i).flatten.length+(l.getD i []).length)*1≤140737488355328
    omega
   ·dsimp only
    rw [show (i:Int).toNat=i from rfl,← flatten_take_succ l hi,wr64 (by omega)]
    rfl
  ·unfold o152_b0
   refine (cndF (df (by show ¬ (l.length:Int) < (l.length:Int);omega))).trans ?_
   dsimp only
   rw [List.take_length]
   exact dnS _
theorem o151_eq {l:List ST} (h:l.length≤1000000):o151 l=some l:=by
 unfold o151
 rw [nlO_eq fun e=>?_]
 ·rw [gdT (dt (by simp;omega))];rfl
 ·have:l=[]:=by simpa using e
  subst this
  rfl
def Co.ready (c:Co):Bool:=!((c.ps.length:Int)==0 || (c.ps.length:Int) != c.count)
theorem setD_same {α:Type} {l:List α} {i:Nat} {d:α} (h:i < l.length):l.set i (l.getD i d)=l:=by
 rw [getD_of h];exact List.set_getElem_self h
theorem o127_eq {c:Co} (hs:c.ss.length≤1000000) (hi:∀ x∈c.ss,x.2.2.2.length≤1000000) (hl:c.ps.length≤2000) (hx:∀ x∈c.ps,x.length≤1000) :
  o127 c.e=some (cond c.ready ((c.base,true),c.ps.flatten,c.ss) ((0,false),[],[])):=by
 unfold o127
 refine (bdS (t:=(!c.ready,c.e)) ?_).trans ?_
 ·unfold Co.ready
  show cnd ((c.ps.length:Int)==0) _ _=_
  rw [Bool.not_not]
  cases ((c.ps.length:Int)==0) <;> rfl
 refine cndN_ext (c:=c.ready) (F:=fun x=>x) ?_ rfl
 refine (bdS (o151_eq hs)).trans ?_
 refine loop_from (fun i=>(((c.ss.length:Int),((i:Nat):Int)),c.e,c.ss)) c.ss.length rfl (fun i hi'=>?_) ?_ (by omega)
 ·have h2:(c.ss.getD i (0,0,false,[])).2.2.2.length≤1000000:=by rw [getD_of hi'];exact hi _ (List.getElem_mem hi')
  unfold o127_b0
  refine (cndT (dt (by show (i:Int) < (c.ss.length:Int);omega))).trans ((gdT (dt (by show (0:Int)≤i∧(i:Int) < (c.ss.length:Int);omega))).trans ((bdS (o33_eq (Nat.le_trans h2 (by decide)))).trans ((gdT (dt (by show (0:Int)≤i∧(i:Int) < (c.ss.length:Int);omega))).trans ?_)))
  dsimp only
  rw [show (i:Int).toNat=i from rfl,wr64 (by omega)]
  have:=setD_same (l:=c.ss) (d:=((0:Int),(0:Int),false,([]:List UInt8))) hi'
  exact congrArg (fun z=>some (Ctl.go (((c.ss.length:Int),((i+1:Nat):Int)),c.e,z))) this
 ·unfold o127_b0
  refine (cndF (df (by show ¬ (c.ss.length:Int) < (c.ss.length:Int);omega))).trans ?_
  exact (congrArg dnO (bdS (o152_eq hl hx))).trans (dnS _)
def Nd.adopt (n:Nd) (s:Int):Nd×Int:=cond (n.next != 0 || n.role != 1) (n,8) (cond (decide (s < 1) || decide (s > 4611686018427387904)) (n,1) ({ n with role:=3,steps:=s },0))
theorem o128_eq (n:Nd) (s:Int):o128 s n.e=some ((n.adopt s).2,(n.adopt s).1.e):=by
 unfold o128 Nd.adopt
 refine (bdS (t:=(s,n.next != 0 || n.role != 1,n.e)) ?_).trans ?_
 ·show cnd (n.next != 0) _ _=_
  cases (n.next != 0) <;> rfl
 refine cnd_ext (F:=fun x:Nd×Int=>(x.2,x.1.e)) rfl ?_
 refine (bdS (t:=(s,decide (s < 1) || decide (s > 4611686018427387904),n.e)) ?_).trans ?_
 ·show cnd (decide (s < 1)) _ _=_
  cases decide (s < 1) <;> rfl
 exact cnd_ext (F:=fun x:Nd×Int=>(x.2,x.1.e)) rfl rfl
end Go.Proofs.YtpleflcfaecojaaGreat
