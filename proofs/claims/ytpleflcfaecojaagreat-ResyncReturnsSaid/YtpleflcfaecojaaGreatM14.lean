/-
What functions compute, printed by wip/h/py. Conditions: each theorem's own.
-/
import Derived.Test.YtpleflcfaecojaaGreatM13
namespace Go.Proofs.YtpleflcfaecojaaGreat
set_option linter.unusedVariables false
set_option linter.unusedSimpArgs false
set_option maxRecDepth 100000
open Go.RowKit
noncomputable section
def AU:BSh:= .cells 105 [.ifc 60 (.ptr 2 0),.ifc 60 (.ptr 3 0),.cst (.pointer none),.ptr 4 0,.ro .y true,.i .i64,.i .i64,.i .i64,.i .i64,.i .i64,.i .u8,.i .u8,.i .u8,.i .i64,.i .i64,.i .i64,.i .i64]
def p27v3:Sch:=⟨[(0,.v (.c (.ic .i64 (1)))),(1,.v (.c (.ptr 0 0))),(2,.v (.c (.ptr 10 0))),(3,.v (.c (.ptr 11 0)))],[.cells 30 [.ptr 1 0],AU,Aa,Aa,Ak,Ab,Ad,Aq,.row (.a .y) 33,Ac,Am,.cells 34 [.b,.b]]⟩
def r27v3:List Sch:=[⟨[(0,.tup [])],[.cells 30 [.ptr 1 0],AU,Aa,Aa,Ak,Ab,Ad,Br,.no,.no,Am,.cells 34 [.b,.b],.row (.a .y) 33,Ac]⟩]
def o27v3 (a0:Af) (a1:I3) (a2:I3) (a3:(I3)×Bool×I2) (a4:Ae) (a5:List (Int×Int×Int×Bt)) (a6:I2) (a7:List Bt) (a8:List (Int×I4)) (a9:As) (a10:B2):Option AR :=
 (bd (α:=Cl) (o28 a9.2 a10.2 a3 a4 a5 a6 a7 a8) (fun v2=>(some (((a0,a1),a2,v2.1.2),(v2.2.1.1,v2.2.1.2,a9),a10,v2.2.2))))
theorem e27v3 (t:BH):evF (stpT Tryz.prog T151 K151) Tryz.f27 p27v3 r27v3 (.r 2) t=(o27v3 t.1.1.1 t.1.1.2 t.1.2.1 t.1.2.2.1 t.1.2.2.2 t.2.1.1 t.2.1.2.1 t.2.1.2.2 t.2.2.1 t.2.2.2.1 t.2.2.2.2):=by kernel_rfl
def n27v3:FSp:=⟨p27v3,r27v3,fun t=>(o27v3 t.1.1.1 t.1.1.2 t.1.2.1 t.1.2.2.1 t.1.2.2.2 t.2.1.1 t.2.1.2.1 t.2.1.2.2 t.2.2.1 t.2.2.2.1 t.2.2.2.2)⟩
theorem fo27v3:FOk Tryz.prog 27 n27v3:=fk e27v3
def T152:Tbl:=(27,n27v3)::T151
theorem K152:TOk Tryz.prog T152:= .cons K151 fo27v3
def p26v15:Sch:=⟨[(0,.v (.c (.ptr 0 0))),(1,En)],[Ax,Aa,Aa,Ai,Ab,Ad,Al,.row (.a .y) 33,Ac,.cells 30 [.ptr 0 0],Am,.cells 34 [.b,.b]]⟩
def r26v15:List Sch:=[⟨[(0,.tup [])],[Ax,Aa,Aa,Ai,Ab,Ad,Br,.no,.no,.cells 30 [.ptr 0 0],Am,.cells 34 [.b,.b],.row (.a .y) 33,Ac]⟩]
def o26v15 (a0:Af) (a1:I3) (a2:I3) (a3:(I3)×Bool×I2) (a4:Ae) (a5:List (Int×Int×Int×Bt)) (a6:I2) (a7:List Bt) (a8:List (Int×I4)) (a9:As) (a10:B2):Option AR :=
 (bd (α:=AR) (o27v3 a0 a1 a2 a3 a4 a5 a6 a7 a8 a9 a10) (fun v1=>(some v1)))
def h26v15:HC:=(.s .d (.b (.u 3 (.v .d (.v .d (.v .d .d))))))
theorem e26v15 (t:BH):evF (stpT Tryz.prog T152 K152) Tryz.f26 p26v15 r26v15 h26v15 t=(o26v15 t.1.1.1 t.1.1.2 t.1.2.1 t.1.2.2.1 t.1.2.2.2 t.2.1.1 t.2.1.2.1 t.2.1.2.2 t.2.2.1 t.2.2.2.1 t.2.2.2.2):=by kernel_rfl
def n26v15:FSp:=⟨p26v15,r26v15,fun t=>(o26v15 t.1.1.1 t.1.1.2 t.1.2.1 t.1.2.2.1 t.1.2.2.2 t.2.1.1 t.2.1.2.1 t.2.1.2.2 t.2.2.1 t.2.2.2.1 t.2.2.2.2)⟩
theorem fo26v15:FOk Tryz.prog 26 n26v15:=fk e26v15
def T153:Tbl:=(26,n26v15)::T152
theorem K153:TOk Tryz.prog T153:= .cons K152 fo26v15
def p29v3:Sch:=⟨[(0,.v (.c (.ic .i64 (1)))),(1,.v (.c (.ptr 0 0)))],[.cells 30 [.ptr 1 0],AU,Aa,Aa,Ak,Ab,Ad,Aq,.row (.a .y) 33,Ac]⟩
def r29v3:List Sch:=[⟨[(0,CF)],[.cells 30 [.ptr 1 0],AU,Aa,Aa,Ak,Ab,Ad,Aq,.row (.a .y) 33,Ac,.row .y 5]⟩]
def o29v3 (a0:Af) (a1:I3) (a2:I3) (a3:(I3)×Bool×I2) (a4:Ae) (a5:List (Int×Int×Int×Bt)) (a6:I2) (a7:List Bt) (a8:List (Int×I4)):Option Bs :=
 (bd (α:=Bf) (o30 a3 a4 a5 a6 a7 a8) (fun v1=>(some ((((v1.1.1.1.1,v1.1.1.1.2.1,v1.1.1.1.2.2.1),a0),a1,a2,v1.1.1.2),(v1.1.2.1,v1.1.2.2,v1.2.1.1),v1.2.1.2,v1.2.2))))
theorem e29v3 (t:BI):evF (stpT Tryz.prog T153 K153) Tryz.f29 p29v3 r29v3 .d t=(o29v3 t.1.1.1 t.1.1.2 t.1.2.1 t.1.2.2 t.2.1.1 t.2.1.2 t.2.2.1 t.2.2.2.1 t.2.2.2.2):=by kernel_rfl
def n29v3:FSp:=⟨p29v3,r29v3,fun t=>(o29v3 t.1.1.1 t.1.1.2 t.1.2.1 t.1.2.2 t.2.1.1 t.2.1.2 t.2.2.1 t.2.2.2.1 t.2.2.2.2)⟩
theorem fo29v3:FOk Tryz.prog 29 n29v3:=fk e29v3
def T154:Tbl:=(29,n29v3)::T153
theorem K154:TOk Tryz.prog T154:= .cons K153 fo29v3
def o23v13_s0:Sch:=⟨[(0,.v (.c (.ptr 0 0))),(1,.v (.c (.ic .i64 (1)))),(3,.v (.c (.cap (.fn 29) (.ptr 9 0)))),(6,.v (.c (.ptr 10 0))),(8,.v (.c (.ptr 11 0))),(9,.v (.c (.ptr 12 0))),(15,.v (.c (.ic .i64 (1))))],[Ax,Aa,Aa,Ai,Ab,Ad,Al,.row (.a .y) 33,Ac,.cells 30 [.ptr 0 0],Aj,Am,.cells 34 [.b,.b]]⟩
def p23v13:Sch:=⟨[(0,.v (.c (.ptr 0 0))),(1,.v (.c (.ic .i64 (1)))),(2,AP),(3,.v (.c (.cap (.fn 29) (.ptr 9 0))))],[Ax,Aa,Aa,Ai,Ab,Ad,Al,.row (.a .y) 33,Ac,.cells 30 [.ptr 0 0]]⟩
def r23v13:List Sch:=[⟨[(0,Bq)],[Ax,Aa,Aa,Ai,Ab,Ad,Al,.row (.a .y) 33,Ac,.cells 30 [.ptr 0 0]]⟩]
def o23v13 (a0:Ao) (a1:Af) (a2:I3) (a3:I3) (a4:(I3)×Bool×I2) (a5:Ae) (a6:List (Int×Int×Int×Bt)) (a7:I2) (a8:List Bt) (a9:List (Int×I4)):Option Bu :=
 (bd (α:=CG) (bd (α:=Bs) (o29v3 a1 a2 a3 a4 a5 a6 a7 a8 a9) (fun v1=>(cnd (!v1.1.1.1.2.2) (some (((v1.1.1.2,v1.1.2.1,v1.1.2.2.1),v1.1.2.2.2,v1.2.1.1,v1.2.1.2.1),(v1.2.1.2.2,v1.2.2.1,v1.2.2.2.1),a0,((((0:Int),(0:Int)),(0:Int),([]:Bt)),((0:Int),(0:Int)),(0:Int),([]:Bt)),false,false)) (bd (α:=(Int×Bt)) (o69 (v1.1.1.1.1,v1.1.1.1.2.1,v1.2.2.2.2)) (fun v2=>(cnd (v2.1 != (0:Int)) (some (((v1.1.1.2,v1.1.2.1,v1.1.2.2.1),v1.1.2.2.2,v1.2.1.1,v1.2.1.2.1),(v1.2.1.2.2,v1.2.2.1,v1.2.2.2.1),a0,((((0:Int),(0:Int)),(0:Int),([]:Bt)),((0:Int),(0:Int)),(0:Int),([]:Bt)),false,false)) (bd (α:=((I2)×Int×Bt×Bool)) (o70 v2.2 (a0.2.1.2.2.2,a0.2.2.1.1) (2:Int) (2:Int) v1.1.1.2.1.2.2.2) (fun v4=>(some (((v1.1.1.2,v1.1.2.1,v1.1.2.2.1),v1.1.2.2.2,v1.2.1.1,v1.2.1.2.1),(v1.2.1.2.2,v1.2.2.1,v1.2.2.2.1),a0,((v4.1,v4.2.1,v4.2.2.1),((0:Int),(0:Int)),(0:Int),([]:Bt)),v4.2.2.2,false)))))))))) (fun v5=>(some (((((v5.2.2.2.1.1.1,v5.2.2.2.1.1.2.1,v5.2.2.2.1.1.2.2,v5.2.2.2.1.2.1.1),(v5.2.2.2.1.2.1.2,v5.2.2.2.1.2.2.1),v5.2.2.2.1.2.2.2,v5.2.2.2.2),v5.1.1.1),v5.1.1.2.1,v5.1.1.2.2,v5.1.2.1),v5.1.2.2,v5.2.1))))
def h23v13:HC:=(.s .d (.s (.s .d (.b (.u 3 (.v .d (.v (.s .d (.s .d (.j false [o23v13_s0] .d))) (.v .d .d)))))) .d))
theorem e23v13 (t:CH):evF (stpT Tryz.prog T154 K154) Tryz.f23 p23v13 r23v13 h23v13 t=(o23v13 t.1.1.1 t.1.1.2 t.1.2.1 t.1.2.2.1 t.1.2.2.2 t.2.1.1 t.2.1.2 t.2.2.1 t.2.2.2.1 t.2.2.2.2):=by kernel_rfl
def n23v13:FSp:=⟨p23v13,r23v13,fun t=>(o23v13 t.1.1.1 t.1.1.2 t.1.2.1 t.1.2.2.1 t.1.2.2.2 t.2.1.1 t.2.1.2 t.2.2.1 t.2.2.2.1 t.2.2.2.2)⟩
theorem fo23v13:FOk Tryz.prog 23 n23v13:=fk e23v13
def T155:Tbl:=(23,n23v13)::T154
theorem K155:TOk Tryz.prog T155:= .cons K154 fo23v13
def o31v3_s0:Sch:=⟨[(0,.v (.c (.ic .i64 (1)))),(1,.v (.c (.ptr 0 0))),(4,.v (.c (.ptr 12 0))),(5,.v (.c (.ptr 13 0))),(6,.v (.c (.ptr 14 0))),(8,.v (.c (.ptr 15 0)))],[.cells 30 [.ptr 1 0],AU,Aa,Aa,Ak,Ab,Ad,BF,.no,.no,Am,.cells 34 [.b,.b],.cells 34 [.b,.b],Ag,Aj,Et,.row (.a .y) 33,Ac,.row .y 5]⟩
def p31v3:Sch:=⟨[(0,.v (.c (.ic .i64 (1)))),(1,.v (.c (.ptr 0 0))),(2,.v (.c (.ptr 10 0))),(3,.v (.c (.ptr 11 0))),(4,.v (.c (.ptr 12 0))),(5,.v (.c (.ptr 13 0))),(6,.v (.c (.ptr 14 0)))],[.cells 30 [.ptr 1 0],AU,Aa,Aa,Ak,Ab,Ad,Aq,.row (.a .y) 33,Ac,Am,.cells 34 [.b,.b],.cells 34 [.b,.b],Ag,Aj]⟩
def r31v3:List Sch:=[⟨[(0,.tup [])],[.cells 30 [.ptr 1 0],AU,Aa,Aa,Ak,Ab,Ad,Bi,.no,.no,Am,.cells 34 [.b,.b],.cells 34 [.b,.b],Ag,Aj,.row (.a .y) 33,Ac]⟩]
def o31v3 (a0:Af) (a1:I3) (a2:I3) (a3:(I3)×Bool×I2) (a4:Ae) (a5:List (Int×Int×Int×Bt)) (a6:I2) (a7:List Bt) (a8:List (Int×I4)) (a9:As) (a10:B2) (a11:B2) (a12:Ah) (a13:Ao):Option BA :=
 (bd (α:=Cm) (o32 a9.2 a10.2 a3 a4 a5 a6 a7 a8) (fun v2=>(cnd (!v2.1.1.1.2.2.1) (some (((a0,a1,a2),(v2.1.1.2,v2.1.2.1),v2.1.2.2,v2.2.1.1),(a9,a10,a11),(a12,a13),v2.2.2)) (bd (α:=Eu) (cnd v2.1.1.1.2.1 (bd (α:=(Bt)) (o33 a0.1.1.1) (fun v5=>(bd (α:=(Int×I3)) (o179 v5 a2) (fun v6=>(some ((((a0,a1),v6.2,v2.1.1.2),v2.1.2,v2.2.1.1,a9),((a10,a11),a12,a13),((v2.1.1.1.1.1,v2.1.1.1.1.2,v2.1.1.1.2.1),v2.2.2.1),v2.2.2.2,v2.2.1.2)))))) (some ((((a0,a1),a2,v2.1.1.2),v2.1.2,v2.2.1.1,a9),((a10,a11),a12,a13),((v2.1.1.1.1.1,v2.1.1.1.1.2,v2.1.1.1.2.1),v2.2.2.1),v2.2.2.2,v2.2.1.2))) (fun v7=>(bd (α:=(AE×I3)) (o181 v7.2.2.1.1.2.1 v7.2.2.2.2 v7.1.1.2.1) (fun v9=>(some (((v7.1.1.1.1,v7.1.1.1.2,v9.2),(v7.1.1.2.2,v7.1.2.1.1),v7.1.2.1.2,v7.1.2.2.1),(v7.1.2.2.2,v7.2.1.1.1,v7.2.1.1.2.1,true),((v7.2.1.2.1.1,(v9.1.1,((lxorK .i64 v9.1.2.1.1 v7.2.1.2.2.1.1.2.2.2),v9.1.2.1.2),v9.1.2.2),v7.2.1.2.1.2.2),v7.2.1.2.2),v7.2.2.1.2,v7.2.2.2.1)))))))))
def h31v3:HC:=(.s (.r 4) (.s .d (.j false [o31v3_s0] (.s (.s .d (.c (.r 1) .d)) .d))))
theorem e31v3 (t:CI):evF (stpT Tryz.prog T155 K155) Tryz.f31 p31v3 r31v3 h31v3 t=(o31v3 t.1.1.1 t.1.1.2.1 t.1.1.2.2 t.1.2.1.1 t.1.2.1.2 t.1.2.2.1 t.1.2.2.2 t.2.1.1 t.2.1.2.1 t.2.1.2.2 t.2.2.1.1 t.2.2.1.2 t.2.2.2.1 t.2.2.2.2):=by kernel_rfl
def n31v3:FSp:=⟨p31v3,r31v3,fun t=>(o31v3 t.1.1.1 t.1.1.2.1 t.1.1.2.2 t.1.2.1.1 t.1.2.1.2 t.1.2.2.1 t.1.2.2.2 t.2.1.1 t.2.1.2.1 t.2.1.2.2 t.2.2.1.1 t.2.2.1.2 t.2.2.2.1 t.2.2.2.2)⟩
theorem fo31v3:FOk Tryz.prog 31 n31v3:=fk e31v3
def T156:Tbl:=(31,n31v3)::T155
theorem K156:TOk Tryz.prog T156:= .cons K155 fo31v3
def p26v16:Sch:=⟨[(0,.v (.c (.ptr 0 0))),(1,Ew)],[Ax,Aa,Aa,Ai,Ab,Ad,Al,.row (.a .y) 33,Ac,.cells 30 [.ptr 0 0],Am,.cells 34 [.b,.b],.cells 34 [.b,.b],Ag,Aj]⟩
def r26v16:List Sch:=[⟨[(0,.tup [])],[Ax,Aa,Aa,Ai,Ab,Ad,Bi,.no,.no,.cells 30 [.ptr 0 0],Am,.cells 34 [.b,.b],.cells 34 [.b,.b],Ag,Aj,.row (.a .y) 33,Ac]⟩]
def o26v16 (a0:Af) (a1:I3) (a2:I3) (a3:(I3)×Bool×I2) (a4:Ae) (a5:List (Int×Int×Int×Bt)) (a6:I2) (a7:List Bt) (a8:List (Int×I4)) (a9:As) (a10:B2) (a11:B2) (a12:Ah) (a13:Ao):Option BA :=
 (bd (α:=BA) (o31v3 a0 a1 a2 a3 a4 a5 a6 a7 a8 a9 a10 a11 a12 a13) (fun v1=>(some v1)))
def h26v16:HC:=(.s .d (.b (.u 3 (.v .d (.v .d (.v .d .d))))))
theorem e26v16 (t:CI):evF (stpT Tryz.prog T156 K156) Tryz.f26 p26v16 r26v16 h26v16 t=(o26v16 t.1.1.1 t.1.1.2.1 t.1.1.2.2 t.1.2.1.1 t.1.2.1.2 t.1.2.2.1 t.1.2.2.2 t.2.1.1 t.2.1.2.1 t.2.1.2.2 t.2.2.1.1 t.2.2.1.2 t.2.2.2.1 t.2.2.2.2):=by kernel_rfl
def n26v16:FSp:=⟨p26v16,r26v16,fun t=>(o26v16 t.1.1.1 t.1.1.2.1 t.1.1.2.2 t.1.2.1.1 t.1.2.1.2 t.1.2.2.1 t.1.2.2.2 t.2.1.1 t.2.1.2.1 t.2.1.2.2 t.2.2.1.1 t.2.2.1.2 t.2.2.2.1 t.2.2.2.2)⟩
theorem fo26v16:FOk Tryz.prog 26 n26v16:=fk e26v16
def T157:Tbl:=(26,n26v16)::T156
theorem K157:TOk Tryz.prog T157:= .cons K156 fo26v16
def p34v3:Sch:=⟨[(0,.v (.c (.ic .i64 (1)))),(1,.v (.c (.ptr 0 0))),(2,.v (.c (.ptr 10 0)))],[.cells 30 [.ptr 1 0],AU,Aa,Aa,Ak,Ab,Ad,Aq,.row (.a .y) 33,Ac,CJ]⟩
def r34v3:List Sch:=[⟨[(0,Ex)],[.cells 30 [.ptr 1 0],AU,Aa,Aa,Ak,Ab,Ad,Aq,.row (.a .y) 33,Ac,.no,.row .y 5]⟩]
def o34v3 (a0:Af) (a1:I3) (a2:I3) (a3:(I3)×Bool×I2) (a4:Ae) (a5:List (Int×Int×Int×Bt)) (a6:I2) (a7:List Bt) (a8:List (Int×I4)) (a9:Ah):Option Bs :=
 (bd (α:=Bf) (o35 a9.2.1 a3 a4 a5 a6 a7 a8) (fun v2=>(some ((((v2.1.1.1.1,v2.1.1.1.2.1,v2.1.1.1.2.2.1),a0),a1,a2,v2.1.1.2),(v2.1.2.1,v2.1.2.2,v2.2.1.1),v2.2.1.2,v2.2.2))))
theorem e34v3 (t:Bv):evF (stpT Tryz.prog T157 K157) Tryz.f34 p34v3 r34v3 (.s .d (.s (.r 2) .d)) t=(o34v3 t.1.1.1 t.1.1.2 t.1.2.1 t.1.2.2.1 t.1.2.2.2 t.2.1.1 t.2.1.2 t.2.2.1 t.2.2.2.1 t.2.2.2.2):=by kernel_rfl
def n34v3:FSp:=⟨p34v3,r34v3,fun t=>(o34v3 t.1.1.1 t.1.1.2 t.1.2.1 t.1.2.2.1 t.1.2.2.2 t.2.1.1 t.2.1.2 t.2.2.1 t.2.2.2.1 t.2.2.2.2)⟩
theorem fo34v3:FOk Tryz.prog 34 n34v3:=fk e34v3
def T158:Tbl:=(34,n34v3)::T157
theorem K158:TOk Tryz.prog T158:= .cons K157 fo34v3
def o23v14_s0:Sch:=⟨[(0,.v (.c (.ptr 0 0))),(1,.v (.c (.ic .i64 (2)))),(3,CK),(6,.v (.c (.ptr 11 0))),(8,.v (.c (.ptr 12 0))),(9,.v (.c (.ptr 13 0))),(15,.v (.c (.ic .i64 (1))))],[Ax,Aa,Aa,Ai,Ab,Ad,Al,.row (.a .y) 33,Ac,.cells 30 [.ptr 0 0],Ag,Aj,Am,.cells 34 [.b,.b]]⟩
def p23v14:Sch:=⟨[(0,.v (.c (.ptr 0 0))),(1,.v (.c (.ic .i64 (2)))),(2,AP),(3,CK)],[Ax,Aa,Aa,Ai,Ab,Ad,Al,.row (.a .y) 33,Ac,.cells 30 [.ptr 0 0],Ag]⟩
def r23v14:List Sch:=[⟨[(0,Bq)],[Ax,Aa,Aa,Ai,Ab,Ad,Al,.row (.a .y) 33,Ac,.cells 30 [.ptr 0 0],Ag]⟩]
def o23v14 (a0:Ao) (a1:Af) (a2:I3) (a3:I3) (a4:(I3)×Bool×I2) (a5:Ae) (a6:List (Int×Int×Int×Bt)) (a7:I2) (a8:List Bt) (a9:List (Int×I4)) (a10:Ah):Option BN :=
 (bd (α:=DD) (bd (α:=Bs) (o34v3 a1 a2 a3 a4 a5 a6 a7 a8 a9 a10) (fun v1=>(cnd (!v1.1.1.1.2.2) (some (((v1.1.1.2,v1.1.2.1,v1.1.2.2.1),v1.1.2.2.2,v1.2.1.1,v1.2.1.2.1),(v1.2.1.2.2,v1.2.2.1,v1.2.2.2.1),(a10,a0),((((0:Int),(0:Int)),(0:Int),([]:Bt)),((0:Int),(0:Int)),(0:Int),([]:Bt)),false,false)) (bd (α:=(Int×Bt)) (o69 (v1.1.1.1.1,v1.1.1.1.2.1,v1.2.2.2.2)) (fun v2=>(cnd (v2.1 != (0:Int)) (some (((v1.1.1.2,v1.1.2.1,v1.1.2.2.1),v1.1.2.2.2,v1.2.1.1,v1.2.1.2.1),(v1.2.1.2.2,v1.2.2.1,v1.2.2.2.1),(a10,a0),((((0:Int),(0:Int)),(0:Int),([]:Bt)),((0:Int),(0:Int)),(0:Int),([]:Bt)),false,false)) (bd (α:=((I2)×Int×Bt×Bool)) (o70 v2.2 (a0.2.2.1.2.1,a0.2.2.1.2.2,a0.2.2.2.1.1) (3:Int) (2:Int) v1.1.1.2.1.2.2.2) (fun v4=>(some (((v1.1.1.2,v1.1.2.1,v1.1.2.2.1),v1.1.2.2.2,v1.2.1.1,v1.2.1.2.1),(v1.2.1.2.2,v1.2.2.1,v1.2.2.2.1),(a10,a0),((v4.1,v4.2.1,v4.2.2.1),((0:Int),(0:Int)),(0:Int),([]:Bt)),v4.2.2.2,false)))))))))) Ey)
def h23v14:HC:=(.s .d (.s (.s .d (.b (.u 3 (.v .d (.v (.s .d (.s .d (.j false [o23v14_s0] .d))) (.v .d .d)))))) .d))
theorem e23v14 (t:Ez):evF (stpT Tryz.prog T158 K158) Tryz.f23 p23v14 r23v14 h23v14 t=(o23v14 t.1.1.1 t.1.1.2 t.1.2.1 t.1.2.2.1 t.1.2.2.2 t.2.1.1 t.2.1.2.1 t.2.1.2.2 t.2.2.1 t.2.2.2.1 t.2.2.2.2):=by kernel_rfl
def n23v14:FSp:=⟨p23v14,r23v14,fun t=>(o23v14 t.1.1.1 t.1.1.2 t.1.2.1 t.1.2.2.1 t.1.2.2.2 t.2.1.1 t.2.1.2.1 t.2.1.2.2 t.2.2.1 t.2.2.2.1 t.2.2.2.2)⟩
theorem fo23v14:FOk Tryz.prog 23 n23v14:=fk e23v14
def T159:Tbl:=(23,n23v14)::T158
theorem K159:TOk Tryz.prog T159:= .cons K158 fo23v14
def p36v3:Sch:=⟨[(0,.v (.c (.ic .i64 (1)))),(1,.v (.c (.ptr 0 0))),(2,.v (.c (.ptr 10 0))),(3,.v (.c (.ptr 11 0))),(4,.v (.c (.ptr 12 0)))],[.cells 30 [.ptr 1 0],AU,Aa,Aa,Ak,Ab,Ad,Aq,.row (.a .y) 33,Ac,Am,.cells 34 [.b,.b],Ag]⟩
def r36v3:List Sch:=[⟨[(0,.tup [])],[.cells 30 [.ptr 1 0],AU,Aa,Aa,Ak,Ab,Ad,Aq,.row (.a .y) 33,Ac,Am,.cells 34 [.b,.b],Ag]⟩]
def o36v3 (a0:Af) (a1:I3) (a2:I3) (a3:(I3)×Bool×I2) (a4:Ae) (a5:List (Int×Int×Int×Bt)) (a6:I2) (a7:List Bt) (a8:List (Int×I4)) (a9:As) (a10:B2) (a11:Ah):Option Bj :=
 (bd (α:=Cn) (o37 a9.2 a10.2 a3 a4 a5 a6 a7 a8) (fun v2=>(some (((a0,a1,a2),v2.1.2.1,v2.1.2.2,v2.2.1.1),(v2.2.1.2,v2.2.2),a9,a10,((a11.1.1.1,(a11.1.1.2.1.1,v2.1.1.1),a11.1.1.2.2),a11.1.2),a11.2))))
theorem e36v3 (t:Bj):evF (stpT Tryz.prog T159 K159) Tryz.f36 p36v3 r36v3 .d t=(o36v3 t.1.1.1 t.1.1.2.1 t.1.1.2.2 t.1.2.1 t.1.2.2.1 t.1.2.2.2 t.2.1.1 t.2.1.2.1 t.2.1.2.2 t.2.2.1 t.2.2.2.1 t.2.2.2.2):=by kernel_rfl
def n36v3:FSp:=⟨p36v3,r36v3,fun t=>(o36v3 t.1.1.1 t.1.1.2.1 t.1.1.2.2 t.1.2.1 t.1.2.2.1 t.1.2.2.2 t.2.1.1 t.2.1.2.1 t.2.1.2.2 t.2.2.1 t.2.2.2.1 t.2.2.2.2)⟩
theorem fo36v3:FOk Tryz.prog 36 n36v3:=fk e36v3
def T160:Tbl:=(36,n36v3)::T159
theorem K160:TOk Tryz.prog T160:= .cons K159 fo36v3
def p26v17:Sch:=⟨[(0,.v (.c (.ptr 0 0))),(1,EB)],[Ax,Aa,Aa,Ai,Ab,Ad,Al,.row (.a .y) 33,Ac,.cells 30 [.ptr 0 0],Am,.cells 34 [.b,.b],Ag]⟩
def r26v17:List Sch:=[⟨[(0,.tup [])],[Ax,Aa,Aa,Ai,Ab,Ad,Al,.row (.a .y) 33,Ac,.cells 30 [.ptr 0 0],Am,.cells 34 [.b,.b],Ag]⟩]
def o26v17 (a0:Af) (a1:I3) (a2:I3) (a3:(I3)×Bool×I2) (a4:Ae) (a5:List (Int×Int×Int×Bt)) (a6:I2) (a7:List Bt) (a8:List (Int×I4)) (a9:As) (a10:B2) (a11:Ah):Option Bj :=
 (bd (α:=Bj) (o36v3 a0 a1 a2 a3 a4 a5 a6 a7 a8 a9 a10 a11) (fun v1=>(some v1)))
def h26v17:HC:=(.s .d (.b (.u 3 (.v .d (.v .d (.v .d .d))))))
theorem e26v17 (t:Bj):evF (stpT Tryz.prog T160 K160) Tryz.f26 p26v17 r26v17 h26v17 t=(o26v17 t.1.1.1 t.1.1.2.1 t.1.1.2.2 t.1.2.1 t.1.2.2.1 t.1.2.2.2 t.2.1.1 t.2.1.2.1 t.2.1.2.2 t.2.2.1 t.2.2.2.1 t.2.2.2.2):=by kernel_rfl
def n26v17:FSp:=⟨p26v17,r26v17,fun t=>(o26v17 t.1.1.1 t.1.1.2.1 t.1.1.2.2 t.1.2.1 t.1.2.2.1 t.1.2.2.2 t.2.1.1 t.2.1.2.1 t.2.1.2.2 t.2.2.1 t.2.2.2.1 t.2.2.2.2)⟩
theorem fo26v17:FOk Tryz.prog 26 n26v17:=fk e26v17
def T161:Tbl:=(26,n26v17)::T160
theorem K161:TOk Tryz.prog T161:= .cons K160 fo26v17
def o38v3_s0:Sch:=⟨[(0,.v (.c (.ic .i64 (1)))),(1,.v (.c (.ptr 0 0))),(3,.v (.c (.ptr 10 0))),(5,.v (.c (.own 11)))],[.cells 30 [.ptr 1 0],AU,Aa,Aa,Ak,Ab,Ad,Aq,.row (.a .y) 33,Ac,AW,.row .y 5]⟩
def p38v3:Sch:=⟨[(0,.v (.c (.ic .i64 (1)))),(1,.v (.c (.ptr 0 0)))],[.cells 30 [.ptr 1 0],AU,Aa,Aa,Ak,Ab,Ad,Aq,.row (.a .y) 33,Ac]⟩
def r38v3:List Sch:=[⟨[(0,CF)],[.cells 30 [.ptr 1 0],AU,Aa,Aa,Ak,Ab,Ad,Aq,.row (.a .y) 33,Ac,.row .y 5]⟩]
def o38v3 (a0:Af) (a1:I3) (a2:I3) (a3:(I3)×Bool×I2) (a4:Ae) (a5:List (Int×Int×Int×Bt)) (a6:I2) (a7:List Bt) (a8:List (Int×I4)):Option Bs :=
 (bd (α:=EF) (cnd a3.2.1 (bd (α:=(Bt)) (o180 a2) (fun v1=>(some (((a0,a1),a2,a3,a4),(a5,a6,a7),a8,(((0:Int),(0:Int)),(0:Int),([]:Bt)),v1)))) (some (((a0,a1),a2,a3,a4),(a5,a6,a7),a8,(((0:Int),(0:Int)),(0:Int),([]:Bt)),([]:Bt)))) (fun v2=>(bd (α:=Bf) (o39 v2.2.2.2.2 v2.1.2.2.1 v2.1.2.2.2 v2.2.1.1 v2.2.1.2.1 v2.2.1.2.2 v2.2.2.1) (fun v3=>(some ((((v3.1.1.1.1,v3.1.1.1.2.1,v3.1.1.1.2.2.1),v2.1.1.1),v2.1.1.2,v2.1.2.1,v3.1.1.2),(v3.1.2.1,v3.1.2.2,v3.2.1.1),v3.2.1.2,v3.2.2))))))
theorem e38v3 (t:BI):evF (stpT Tryz.prog T161 K161) Tryz.f38 p38v3 r38v3 (.s .d (.s .d (.j false [o38v3_s0] .d))) t=(o38v3 t.1.1.1 t.1.1.2 t.1.2.1 t.1.2.2 t.2.1.1 t.2.1.2 t.2.2.1 t.2.2.2.1 t.2.2.2.2):=by kernel_rfl
def n38v3:FSp:=⟨p38v3,r38v3,fun t=>(o38v3 t.1.1.1 t.1.1.2 t.1.2.1 t.1.2.2 t.2.1.1 t.2.1.2 t.2.2.1 t.2.2.2.1 t.2.2.2.2)⟩
theorem fo38v3:FOk Tryz.prog 38 n38v3:=fk e38v3
def T162:Tbl:=(38,n38v3)::T161
theorem K162:TOk Tryz.prog T162:= .cons K161 fo38v3
def o23v15_s0:Sch:=⟨[(0,.v (.c (.ptr 0 0))),(1,.v (.c (.ic .i64 (3)))),(3,.v (.c (.cap (.fn 38) (.ptr 9 0)))),(6,.v (.c (.ptr 10 0))),(8,.v (.c (.ptr 11 0))),(9,.v (.c (.ptr 12 0))),(15,.v (.c (.ic .i64 (1))))],[Ax,Aa,Aa,Ai,Ab,Ad,Al,.row (.a .y) 33,Ac,.cells 30 [.ptr 0 0],Aj,Am,.cells 34 [.b,.b]]⟩
def p23v15:Sch:=⟨[(0,.v (.c (.ptr 0 0))),(1,.v (.c (.ic .i64 (3)))),(2,AP),(3,.v (.c (.cap (.fn 38) (.ptr 9 0))))],[Ax,Aa,Aa,Ai,Ab,Ad,Al,.row (.a .y) 33,Ac,.cells 30 [.ptr 0 0]]⟩
def r23v15:List Sch:=[⟨[(0,Bq)],[Ax,Aa,Aa,Ai,Ab,Ad,Al,.row (.a .y) 33,Ac,.cells 30 [.ptr 0 0]]⟩]
def o23v15 (a0:Ao) (a1:Af) (a2:I3) (a3:I3) (a4:(I3)×Bool×I2) (a5:Ae) (a6:List (Int×Int×Int×Bt)) (a7:I2) (a8:List Bt) (a9:List (Int×I4)):Option Bu :=
 (bd (α:=CG) (bd (α:=Bs) (o38v3 a1 a2 a3 a4 a5 a6 a7 a8 a9) (fun v1=>(cnd (!v1.1.1.1.2.2) (some (((v1.1.1.2,v1.1.2.1,v1.1.2.2.1),v1.1.2.2.2,v1.2.1.1,v1.2.1.2.1),(v1.2.1.2.2,v1.2.2.1,v1.2.2.2.1),a0,((((0:Int),(0:Int)),(0:Int),([]:Bt)),((0:Int),(0:Int)),(0:Int),([]:Bt)),false,false)) (bd (α:=(Int×Bt)) (o69 (v1.1.1.1.1,v1.1.1.1.2.1,v1.2.2.2.2)) (fun v2=>(cnd (v2.1 != (0:Int)) (some (((v1.1.1.2,v1.1.2.1,v1.1.2.2.1),v1.1.2.2.2,v1.2.1.1,v1.2.1.2.1),(v1.2.1.2.2,v1.2.2.1,v1.2.2.2.1),a0,((((0:Int),(0:Int)),(0:Int),([]:Bt)),((0:Int),(0:Int)),(0:Int),([]:Bt)),false,false)) (bd (α:=((I2)×Int×Bt×Bool)) (o70 v2.2 (a0.2.2.2.1.2,a0.2.2.2.2) (4:Int) (2:Int) v1.1.1.2.1.2.2.2) (fun v4=>(some (((v1.1.1.2,v1.1.2.1,v1.1.2.2.1),v1.1.2.2.2,v1.2.1.1,v1.2.1.2.1),(v1.2.1.2.2,v1.2.2.1,v1.2.2.2.1),a0,((v4.1,v4.2.1,v4.2.2.1),((0:Int),(0:Int)),(0:Int),([]:Bt)),v4.2.2.2,false)))))))))) (fun v5=>(some (((((v5.2.2.2.1.1.1,v5.2.2.2.1.1.2.1,v5.2.2.2.1.1.2.2,v5.2.2.2.1.2.1.1),(v5.2.2.2.1.2.1.2,v5.2.2.2.1.2.2.1),v5.2.2.2.1.2.2.2,v5.2.2.2.2),v5.1.1.1),v5.1.1.2.1,v5.1.1.2.2,v5.1.2.1),v5.1.2.2,v5.2.1))))
def h23v15:HC:=(.s .d (.s (.s .d (.b (.u 3 (.v .d (.v (.s .d (.s .d (.j false [o23v15_s0] .d))) (.v .d .d)))))) .d))
theorem e23v15 (t:CH):evF (stpT Tryz.prog T162 K162) Tryz.f23 p23v15 r23v15 h23v15 t=(o23v15 t.1.1.1 t.1.1.2 t.1.2.1 t.1.2.2.1 t.1.2.2.2 t.2.1.1 t.2.1.2 t.2.2.1 t.2.2.2.1 t.2.2.2.2):=by kernel_rfl
def n23v15:FSp:=⟨p23v15,r23v15,fun t=>(o23v15 t.1.1.1 t.1.1.2 t.1.2.1 t.1.2.2.1 t.1.2.2.2 t.2.1.1 t.2.1.2 t.2.2.1 t.2.2.2.1 t.2.2.2.2)⟩
theorem fo23v15:FOk Tryz.prog 23 n23v15:=fk e23v15
def T163:Tbl:=(23,n23v15)::T162
theorem K163:TOk Tryz.prog T163:= .cons K162 fo23v15
def o41v3_s0:Sch:=⟨[(0,.v (.c (.ptr 0 0))),(1,.v (.c (.ic .i64 (1)))),(46,.v (.c (.own 9))),(47,.v (.c (.i .i64))),(48,.v (.c (.i .i64)))],[Ax,Aa,Aa,Ai,Ab,Ad,CM,.no,.no,Ac,.row (.a .y) 33,Ac]⟩
def p41v3:Sch:=⟨[(0,.v (.c (.ptr 0 0))),(1,.v (.c (.ic .i64 (1)))),(2,Bl),(3,.v (.c (.b)))],[Ax,Aa,Aa,Ai,Ab,Ad,Al,.row (.a .y) 33,Ac]⟩
def r41v3:List Sch:=[⟨[(0,.tup [])],[Ax,Aa,Aa,Ai,Ab,Ad,AX,.no,.no,.row (.a .y) 33,Ac]⟩]
def o41v3_b0 (v7:CN) :=
 (cnd (decide (v7.1.1.2.1 < v7.1.1.1)) (gd (decide ((0:Int)≤v7.1.1.2.1∧v7.1.1.2.1 < ((v7.2.2.1.length:Nat):Int))) (bd (α:=(AE×I3)) (o181 (((List.getD v7.2.2.1 v7.1.1.2.1.toNat ((0:Int),((0:Int),(false,([]:Bt))))).2).1) ((((List.getD v7.2.2.1 v7.1.1.2.1.toNat ((0:Int),((0:Int),(false,([]:Bt))))).2).2).2) v7.1.2.2.1) (fun v9=>(some (Ctl.go (((v7.1.1.1,(IntKind.wrap .i64 (v7.1.1.2.1+(1:Int))),v7.1.1.2.2),v7.1.2.1,v9.2,v7.1.2.2.2),v7.2)))))) (dnO (some (((v7.1.1.2.2,v7.1.2.1),v7.1.2.2),(v7.2.1.1,v7.2.1.2.1),v7.2.1.2.2,v7.2.2.2))))
def o41v3 (a0:(I2)×Int×Bt) (a1:Bool) (a2:Af) (a3:I3) (a4:I3) (a5:(I3)×Bool×I2) (a6:Ae) (a7:List (Int×Int×Int×Bt)) (a8:I2) (a9:List Bt) (a10:List (Int×I4)):Option BI :=
 (bd (α:=Cr) (o83 a0 a1 a5 a6 a7 a8 a9 a10) (fun v2=>(cnd (!v2.1.1.1.2.1) (some (((a2,a3),a4,v2.1.1.2),v2.1.2,v2.2.1.1,v2.2.2.2)) (bd (α:=(Int×I3)) (o179 v2.2.1.2 a4) (fun v4=>(cnd (v4.1 != (0:Int)) (bd (α:=AO) (o22 v2.1.1.2 v2.1.2.1 v2.1.2.2 v2.2.1.1 v2.2.2.2.1 v2.2.2.2.2) (fun v5=>(some (((a2,a3),v4.2,v5.1.1.1),(v5.1.1.2,v5.1.2.1),v5.1.2.2,v5.2.2)))) (loopO (σ:=CN) fuelN o41v3_b0 (((((v2.2.2.1.length:Nat):Int),(0:Int),a2),a3,v4.2,v2.1.1.2),(v2.1.2.1,v2.1.2.2,v2.2.1.1),v2.2.2))))))))
def h41v3:HC:=(.s .d (.s (.r 5) (.s .d (.s .d (.s .d (.b (.l [o41v3_s0] .d)))))))
theorem e41v3 (t:EI):evF (stpT Tryz.prog T163 K163) Tryz.f41 p41v3 r41v3 h41v3 t=(o41v3 t.1.1.1 t.1.1.2 t.1.2.1 t.1.2.2.1 t.1.2.2.2 t.2.1.1 t.2.1.2.1 t.2.1.2.2 t.2.2.1 t.2.2.2.1 t.2.2.2.2):=by kernel_rfl
def n41v3:FSp:=⟨p41v3,r41v3,fun t=>(o41v3 t.1.1.1 t.1.1.2 t.1.2.1 t.1.2.2.1 t.1.2.2.2 t.2.1.1 t.2.1.2.1 t.2.1.2.2 t.2.2.1 t.2.2.2.1 t.2.2.2.2)⟩
theorem fo41v3:FOk Tryz.prog 41 n41v3:=fk e41v3
def T164:Tbl:=(41,n41v3)::T163
theorem K164:TOk Tryz.prog T164:= .cons K163 fo41v3
def p40v3:Sch:=⟨[(0,.v (.c (.ic .i64 (1)))),(1,.v (.c (.ptr 0 0))),(2,.v (.c (.ptr 10 0))),(3,.v (.c (.ptr 11 0)))],[.cells 30 [.ptr 1 0],AU,Aa,Aa,Ak,Ab,Ad,Aq,.row (.a .y) 33,Ac,Am,.cells 34 [.b,.b]]⟩
def r40v3:List Sch:=[⟨[(0,.tup [])],[.cells 30 [.ptr 1 0],AU,Aa,Aa,Ak,Ab,Ad,Br,.no,.no,Am,.cells 34 [.b,.b],.row (.a .y) 33,Ac]⟩]
def o40v3 (a0:Af) (a1:I3) (a2:I3) (a3:(I3)×Bool×I2) (a4:Ae) (a5:List (Int×Int×Int×Bt)) (a6:I2) (a7:List Bt) (a8:List (Int×I4)) (a9:As) (a10:B2):Option AR :=
 (bd (α:=BI) (o41v3 a9.2 a10.2 a0 a1 a2 a3 a4 a5 a6 a7 a8) (fun v2=>(some ((v2.1.1,v2.1.2.1,v2.1.2.2,v2.2.1.1),(v2.2.1.2,v2.2.2.1,a9),a10,v2.2.2.2))))
theorem e40v3 (t:BH):evF (stpT Tryz.prog T164 K164) Tryz.f40 p40v3 r40v3 (.r 2) t=(o40v3 t.1.1.1 t.1.1.2 t.1.2.1 t.1.2.2.1 t.1.2.2.2 t.2.1.1 t.2.1.2.1 t.2.1.2.2 t.2.2.1 t.2.2.2.1 t.2.2.2.2):=by kernel_rfl
def n40v3:FSp:=⟨p40v3,r40v3,fun t=>(o40v3 t.1.1.1 t.1.1.2 t.1.2.1 t.1.2.2.1 t.1.2.2.2 t.2.1.1 t.2.1.2.1 t.2.1.2.2 t.2.2.1 t.2.2.2.1 t.2.2.2.2)⟩
theorem fo40v3:FOk Tryz.prog 40 n40v3:=fk e40v3
def T165:Tbl:=(40,n40v3)::T164
theorem K165:TOk Tryz.prog T165:= .cons K164 fo40v3
def p26v18:Sch:=⟨[(0,.v (.c (.ptr 0 0))),(1,EJ)],[Ax,Aa,Aa,Ai,Ab,Ad,Al,.row (.a .y) 33,Ac,.cells 30 [.ptr 0 0],Am,.cells 34 [.b,.b]]⟩
def r26v18:List Sch:=[⟨[(0,.tup [])],[Ax,Aa,Aa,Ai,Ab,Ad,Br,.no,.no,.cells 30 [.ptr 0 0],Am,.cells 34 [.b,.b],.row (.a .y) 33,Ac]⟩]
def o26v18 (a0:Af) (a1:I3) (a2:I3) (a3:(I3)×Bool×I2) (a4:Ae) (a5:List (Int×Int×Int×Bt)) (a6:I2) (a7:List Bt) (a8:List (Int×I4)) (a9:As) (a10:B2):Option AR :=
 (bd (α:=AR) (o40v3 a0 a1 a2 a3 a4 a5 a6 a7 a8 a9 a10) (fun v1=>(some v1)))
def h26v18:HC:=(.s .d (.b (.u 3 (.v .d (.v .d (.v .d .d))))))
theorem e26v18 (t:BH):evF (stpT Tryz.prog T165 K165) Tryz.f26 p26v18 r26v18 h26v18 t=(o26v18 t.1.1.1 t.1.1.2 t.1.2.1 t.1.2.2.1 t.1.2.2.2 t.2.1.1 t.2.1.2.1 t.2.1.2.2 t.2.2.1 t.2.2.2.1 t.2.2.2.2):=by kernel_rfl
def n26v18:FSp:=⟨p26v18,r26v18,fun t=>(o26v18 t.1.1.1 t.1.1.2 t.1.2.1 t.1.2.2.1 t.1.2.2.2 t.2.1.1 t.2.1.2.1 t.2.1.2.2 t.2.2.1 t.2.2.2.1 t.2.2.2.2)⟩
theorem fo26v18:FOk Tryz.prog 26 n26v18:=fk e26v18
def T166:Tbl:=(26,n26v18)::T165
theorem K166:TOk Tryz.prog T166:= .cons K165 fo26v18
def HK:BSh:= .lent [.ifc 60 (.ptr 2 0),.ifc 60 (.ptr 3 0),.cst (.pointer none),.ptr 4 0,.ro .y false,.i .i64,.i .i64,.i .i64,.i .i64,.i .i64,.i .u8,.i .u8,.i .u8,.i .i64,.i .i64,.i .i64,.i .i64]
def p42v3:Sch:=⟨[(0,.v (.c (.ic .i64 (1)))),(1,.v (.c (.ptr 0 0))),(2,.v (.c (.ptr 8 0)))],[.lent [.ptr 1 0],HK,.lent [.i .u64,.i .i64,.i .i64],.lent [.i .u64,.i .i64,.i .i64],CO,AN,Bz,Be,Ag]⟩
def r42v3:List Sch:=[⟨[(0,.tup [])],[.no,.no,.no,.no,.no,.no,.no,.no,Ag]⟩]
def o42v3 (a0:Af) (a1:I3) (a2:I3) (a3:(I3)×Bool×I2) (a4:Ae) (a5:List (Int×Int×Int×Bt)) (a6:AA) (a7:Ah):Option Ah :=
 (bd (α:=Ae) (o43 a3 a4 a5 a6) (fun v1=>(bd (α:=Int) (o44 v1) (fun v4=>(bd (α:=Int) (o45 v1) (fun v5=>(some ((((a7.1.1.1.1,a7.1.1.1.2.1,v4),a7.1.1.2.1,a7.1.1.2.2.1,v5),a7.1.2),a7.2))))))))
theorem e42v3 (t:EK):evF (stpT Tryz.prog T166 K166) Tryz.f42 p42v3 r42v3 .d t=(o42v3 t.1.1.1 t.1.1.2 t.1.2.1 t.1.2.2 t.2.1.1 t.2.1.2 t.2.2.1 t.2.2.2):=by kernel_rfl
def n42v3:FSp:=⟨p42v3,r42v3,fun t=>(o42v3 t.1.1.1 t.1.1.2 t.1.2.1 t.1.2.2 t.2.1.1 t.2.1.2 t.2.2.1 t.2.2.2)⟩
theorem fo42v3:FOk Tryz.prog 42 n42v3:=fk e42v3
def T167:Tbl:=(42,n42v3)::T166
theorem K167:TOk Tryz.prog T167:= .cons K166 fo42v3
def p26v19:Sch:=⟨[(0,.v (.c (.ptr 0 0))),(1,EL)],[Ax,Aa,Aa,Ai,Ab,Ad,Al,.row (.a .y) 33,Ac,.cells 30 [.ptr 0 0],Ag]⟩
def r26v19:List Sch:=[⟨[(0,.tup [])],[Ax,Aa,Aa,Ai,Ab,Ad,Al,.row (.a .y) 33,Ac,.cells 30 [.ptr 0 0],Ag]⟩]
def o26v19 (a0:Af) (a1:I3) (a2:I3) (a3:(I3)×Bool×I2) (a4:Ae) (a5:List (Int×Int×Int×Bt)) (a6:I2) (a7:List Bt) (a8:List (Int×I4)) (a9:Ah):Option Bv :=
 (bd (α:=Ah) (o42v3 a0 a1 a2 a3 a4 a5 (a6,a7,a8) a9) (fun v1=>(some (((a0,a1),a2,a3,a4),(a5,a6),a7,a8,v1))))
def h26v19:HC:=(.s .d (.b (.u 3 (.v .d (.v .d (.v .d .d))))))
theorem e26v19 (t:Bv):evF (stpT Tryz.prog T167 K167) Tryz.f26 p26v19 r26v19 h26v19 t=(o26v19 t.1.1.1 t.1.1.2 t.1.2.1 t.1.2.2.1 t.1.2.2.2 t.2.1.1 t.2.1.2 t.2.2.1 t.2.2.2.1 t.2.2.2.2):=by kernel_rfl
def n26v19:FSp:=⟨p26v19,r26v19,fun t=>(o26v19 t.1.1.1 t.1.1.2 t.1.2.1 t.1.2.2.1 t.1.2.2.2 t.2.1.1 t.2.1.2 t.2.2.1 t.2.2.2.1 t.2.2.2.2)⟩
theorem fo26v19:FOk Tryz.prog 26 n26v19:=fk e26v19
def T168:Tbl:=(26,n26v19)::T167
theorem K168:TOk Tryz.prog T168:= .cons K167 fo26v19
def BP:BSh:= .cells 105 [.ifc 60 (.ptr 1 0),.ifc 60 (.ptr 2 0),.cst (.pointer none),.ptr 9 0,.ro .y true,.i .i64,.i .i64,.i .i64,.i .i64,.i .i64,.i .u8,.i .u8,.i .u8,.i .i64,.i .i64,.i .i64,.i .i64]
def DK:BSh:= .cells 105 [.ifc 60 (.ptr 1 0),.ifc 60 (.ptr 2 0),.ptr 19 0,.ptr 9 0,.ro .y true,.i .i64,.i .i64,.i .i64,.i .i64,.i .i64,.i .u8,.i .u8,.i .u8,.i .i64,.i .i64,.i .i64,.i .i64]
def BB:BSh:= .cells 137 [.i .i64,.ptr 20 0,.ptr 21 0,.ptr 22 0,.i .i64,.i .i64,.b,.i .i64,.i .i64]
def Fp:BSh:= .cells 105 [.ifc 60 (.ptr 1 0),.ifc 60 (.ptr 2 0),.ptr 19 0,.cst (.pointer none),.ro .y true,.i .i64,.i .i64,.i .i64,.i .i64,.i .i64,.i .u8,.i .u8,.i .u8,.i .i64,.i .i64,.i .i64,.i .i64]
def Fq:BSh:= .cells 105 [.ifc 60 (.ptr 1 0),.ifc 60 (.ptr 2 0),.ptr 19 0,.ptr 20 0,.ro .y true,.i .i64,.i .i64,.i .i64,.i .i64,.i .i64,.i .u8,.i .u8,.i .u8,.i .i64,.i .i64,.i .i64,.i .i64]
def Fs:BSh:= .cells 137 [.i .i64,.ptr 21 0,.ptr 22 0,.ptr 23 0,.i .i64,.i .i64,.b,.i .i64,.i .i64]
def Fu:BSh:= .cells 137 [.i .i64,.ptr 24 0,.ptr 25 0,.ptr 26 0,.i .i64,.i .i64,.b,.i .i64,.i .i64]
def Fv:BSh:= .cells 232 [.i .i64,.i .i64,.own 27,.own 28]
def Fw:BSh:= .cells 232 [.i .i64,.i .i64,.own 29,.own 30]
def Fx:BSh:= .cells 105 [.ifc 60 (.ptr 1 0),.ifc 60 (.ptr 2 0),.cst (.pointer none),.ptr 19 0,.ro .y true,.i .i64,.i .i64,.i .i64,.i .i64,.i .i64,.i .u8,.i .u8,.i .u8,.i .i64,.i .i64,.i .i64,.i .i64]
def HL:BSh:= .cells 105 [.ifc 60 (.ptr 1 0),.ifc 60 (.ptr 2 0),.ptr 18 0,.cst (.pointer none),.ro .y true,.i .i64,.i .i64,.i .i64,.i .i64,.i .i64,.i .u8,.i .u8,.i .u8,.i .i64,.i .i64,.i .i64,.i .i64]
def Fy:BSh:= .cells 137 [.i .i64,.ptr 19 0,.ptr 20 0,.ptr 21 0,.i .i64,.i .i64,.b,.i .i64,.i .i64]
def HM:BSh:= .cells 105 [.ifc 60 (.ptr 1 0),.ifc 60 (.ptr 2 0),.ptr 18 0,.ptr 19 0,.ro .y true,.i .i64,.i .i64,.i .i64,.i .i64,.i .i64,.i .u8,.i .u8,.i .u8,.i .i64,.i .i64,.i .i64,.i .i64]
def HN:BSh:= .cells 137 [.i .i64,.ptr 23 0,.ptr 24 0,.ptr 25 0,.i .i64,.i .i64,.b,.i .i64,.i .i64]
def HO:BSh:= .cells 232 [.i .i64,.i .i64,.own 26,.own 27]
def HP:BSh:= .cells 232 [.i .i64,.i .i64,.own 28,.own 29]
def HQ:BSh:= .cells 105 [.ifc 60 (.ptr 1 0),.ifc 60 (.ptr 2 0),.cst (.pointer none),.ptr 18 0,.ro .y true,.i .i64,.i .i64,.i .i64,.i .i64,.i .i64,.i .u8,.i .u8,.i .u8,.i .i64,.i .i64,.i .i64,.i .i64]
def Ba:SSh:= .v (.agg [.i .i64,.i .u8,.i .u8,.i .u8,.i .u8,.i .i64,.i .i64,.i .u8,.i .u8,.i .u8,.i .i64,.i .i64,.i .i64,.i .i64,.i .u8,.i .u8,.i .u8,.i .i64,.i .i64,.i .i64,.i .i64,.i .i64,.i .u8,.i .u8,.i .u8,.i .i64,.i .i64,.i .i64,.i .i64])
def HR:BSh:= .cells 105 [.ifc 60 (.ptr 1 0),.ifc 60 (.ptr 2 0),.cst (.pointer none),.ptr 15 0,.ro .y true,.i .i64,.i .i64,.i .i64,.i .i64,.i .i64,.i .u8,.i .u8,.i .u8,.i .i64,.i .i64,.i .i64,.i .i64]
def Cu:BSh:= .cells 137 [.i .i64,.ptr 16 0,.ptr 17 0,.ptr 18 0,.i .i64,.i .i64,.b,.i .i64,.i .i64]
def BJ:BSh:= .cells 232 [.i .i64,.i .i64,.own 19,.own 20]
def DL:BSh:= .cells 105 [.ifc 60 (.ptr 1 0),.ifc 60 (.ptr 2 0),.ptr 15 0,.cst (.pointer none),.ro .y true,.i .i64,.i .i64,.i .i64,.i .i64,.i .i64,.i .u8,.i .u8,.i .u8,.i .i64,.i .i64,.i .i64,.i .i64]
def Fz:BSh:= .cells 105 [.ifc 60 (.ptr 1 0),.ifc 60 (.ptr 2 0),.ptr 15 0,.ptr 16 0,.ro .y true,.i .i64,.i .i64,.i .i64,.i .i64,.i .i64,.i .u8,.i .u8,.i .u8,.i .i64,.i .i64,.i .i64,.i .i64]
def Da:BSh:= .cells 137 [.i .i64,.ptr 17 0,.ptr 18 0,.ptr 19 0,.i .i64,.i .i64,.b,.i .i64,.i .i64]
def FA:BSh:= .cells 232 [.i .i64,.i .i64,.own 25,.own 26]
abbrev At:Type:=((Ah×Af)×(I3)×(I3)×(I3)×Bool×I2)×(Ae×List (Int×Int×Int×Bt))×(I2)×List Bt×List (Int×I4)
abbrev AG:Type:=(((Ah×Af)×(I3)×I3)×(((I3)×Bool×I2)×(I3)×Bool×I2)×Ae×List (Int×Int×Int×Bt))×(((I2)×Ae)×(List (Int×Int×Int×Bt))×I2)×(List Bt×List (Int×I4))×List Bt×List (Int×I4)
abbrev Db:Type:=(((Bt×Bt)×Af×(I3)×I3)×(((I3)×Bool×I2)×Ae)×(List (Int×Int×Int×Bt))×(I2)×List Bt)×(((List (Int×I4))×Ao)×Ah×Ah×(I3)×Bool×I2)×(Ae×List (Int×Int×Int×Bt))×(I2)×List Bt×List (Int×I4)
abbrev Dc:Type:=((Bt×Bt×Af)×((I3)×I3)×((I3)×Bool×I2)×Ae)×((List (Int×Int×Int×Bt))×(I2)×List Bt)×((List (Int×I4))×Ao)×Ah×Ah
abbrev BQ:Type:=((Bt×Bt×Bool)×(Af×I3)×(I3)×(I3)×Bool×I2)×((Ae×List (Int×Int×Int×Bt))×(I2)×List Bt)×((List (Int×I4))×Ao)×Ah×Ah
def FB (v1:BQ):Option (Db ⊕ Dc) :=
 (cnd v1.1.1.2.2 (bd (α:=AV) o21 (fun v3=>(cnd v1.2.2.1.2.1.1.2.1.1 (bd (α:=AO) (o22 v3.1.1 v3.1.2.1 v3.1.2.2 v3.2.1 v3.2.2.1 v3.2.2.2) (fun v4=>(some (Sum.inl ((((v1.1.1.1,v1.1.1.2.1),v1.1.2.1.1,v1.1.2.1.2,v1.1.2.2.1),(v1.1.2.2.2,v1.2.1.1.1),v1.2.1.1.2,v1.2.1.2),(v1.2.2.1,v1.2.2.2.1,v1.2.2.2.2,v4.1.1.1),(v4.1.1.2,v4.1.2.1),v4.1.2.2,v4.2.2))))) (some (Sum.inl ((((v1.1.1.1,v1.1.1.2.1),v1.1.2.1.1,v1.1.2.1.2,v1.1.2.2.1),(v1.1.2.2.2,v1.2.1.1.1),v1.2.1.1.2,v1.2.1.2),(v1.2.2.1,v1.2.2.2.1,v1.2.2.2.2,v3.1.1),v3.1.2,v3.2)))))) (cnd v1.2.2.1.2.1.1.2.1.1 (bd (α:=Unit) o22v1 (fun v5=>(some (Sum.inr (((v1.1.1.1,v1.1.1.2.1,v1.1.2.1.1),(v1.1.2.1.2,v1.1.2.2.1),v1.1.2.2.2,v1.2.1.1.1),(v1.2.1.1.2,v1.2.1.2),v1.2.2))))) (some (Sum.inr (((v1.1.1.1,v1.1.1.2.1,v1.1.2.1.1),(v1.1.2.1.2,v1.1.2.2.1),v1.1.2.2.2,v1.2.1.1.1),(v1.2.1.1.2,v1.2.1.2),v1.2.2)))))
abbrev HS:Type:=(((Bt×Bt)×Bool×Af×I3)×((I3)×(I3)×Bool×I2)×Ae×(List (Int×Int×Int×Bt))×I2)×((List Bt×List (Int×I4))×((I3)×Bool×I2)×Ae×List (Int×Int×Int×Bt))×((I2)×List Bt×List (Int×I4))×Ao×Ah×Ah
abbrev AH:Type:=((Bt×Bt×Af)×((I3)×I3)×Ao×Ah)×(Ah×((I3)×Bool×I2)×Ae)×((List (Int×Int×Int×Bt))×I2)×List Bt×List (Int×I4)
abbrev Bw:Type:=(((Bt×Bt)×Af×(I3)×I3)×(Ao×Ah)×Ah×((I3)×Bool×I2)×(I3)×Bool×I2)×((Ae×List (Int×Int×Int×Bt))×(I2)×Ae×List (Int×Int×Int×Bt))×((I2)×List Bt)×(List (Int×I4))×List Bt×List (Int×I4)
abbrev Cv:Type:=((Bt×Bt×Bool)×(Af×I3)×(I3)×Ao)×((Ah×Ah)×((I3)×Bool×I2)×Ae)×((List (Int×Int×Int×Bt))×I2)×List Bt×List (Int×I4)
def DM (v14:Cv):Option (AH ⊕ Bw) :=
 (cnd v14.1.1.2.2 (bd (α:=AV) o21v1 (fun v16=>(cnd v14.1.2.2.2.1.1.2.1.2 (bd (α:=AO) (o22 v16.1.1 v16.1.2.1 v16.1.2.2 v16.2.1 v16.2.2.1 v16.2.2.2) (fun v17=>(some (Sum.inr ((((v14.1.1.1,v14.1.1.2.1),v14.1.2.1.1,v14.1.2.1.2,v14.1.2.2.1),(v14.1.2.2.2,v14.2.1.1.1),v14.2.1.1.2,v14.2.1.2.1,v17.1.1.1),((v14.2.1.2.2,v14.2.2.1.1),v14.2.2.1.2,v17.1.1.2,v17.1.2.1),(v17.1.2.2,v14.2.2.2.1),v14.2.2.2.2,v17.2.2))))) (some (Sum.inr ((((v14.1.1.1,v14.1.1.2.1),v14.1.2.1.1,v14.1.2.1.2,v14.1.2.2.1),(v14.1.2.2.2,v14.2.1.1.1),v14.2.1.1.2,v14.2.1.2.1,v16.1.1),((v14.2.1.2.2,v14.2.2.1.1),v14.2.2.1.2,v16.1.2),(v16.2.1,v14.2.2.2.1),v14.2.2.2.2,v16.2.2)))))) (cnd v14.1.2.2.2.1.1.2.1.2 (bd (α:=Unit) o22v1 (fun v18=>(some (Sum.inl (((v14.1.1.1,v14.1.1.2.1,v14.1.2.1.1),(v14.1.2.1.2,v14.1.2.2.1),v14.1.2.2.2,v14.2.1.1.1),(v14.2.1.1.2,v14.2.1.2),v14.2.2))))) (some (Sum.inl (((v14.1.1.1,v14.1.1.2.1,v14.1.2.1.1),(v14.1.2.1.2,v14.1.2.2.1),v14.1.2.2.2,v14.2.1.1.1),(v14.2.1.1.2,v14.2.1.2),v14.2.2)))))
abbrev DN:Type:=(((Bt×Bt)×Bool×Af×I3)×((I3)×(I3)×Bool×I2)×Ae×(List (Int×Int×Int×Bt))×I2)×((List Bt×List (Int×I4))×Ao×Ah×Ah)×(((I3)×Bool×I2)×Ae×List (Int×Int×Int×Bt))×(I2)×List Bt×List (Int×I4)
def FC (v19:DN):Option Bw :=
 (cnd v19.1.1.2.1 (bd (α:=AV) o21v1 (fun v21=>(some (((v19.1.1.1,v19.1.1.2.2.1,v19.1.1.2.2.2,v19.1.2.1.1),(v19.2.1.2.1,v19.2.1.2.2.1),v19.2.1.2.2.2,v19.2.2.1.1,v21.1.1),(v19.2.2.1.2,v19.2.2.2.1,v21.1.2),(v21.2.1,v19.2.2.2.2.1),v19.2.2.2.2.2,v21.2.2)))) (some (((v19.1.1.1,v19.1.1.2.2.1,v19.1.1.2.2.2,v19.1.2.1.1),(v19.2.1.2.1,v19.2.1.2.2.1),v19.2.1.2.2.2,v19.2.2.1.1,v19.1.2.1.2),(v19.2.2.1.2,v19.2.2.2.1,v19.1.2.2.1,v19.1.2.2.2.1),(v19.1.2.2.2.2,v19.2.2.2.2.1),v19.2.2.2.2.2,v19.2.1.1)))
def FD (v22:Bw):Option (AH ⊕ Bw) :=
 (cnd v22.1.2.1.1.1.1.2.1.2 (bd (α:=AO) (o22 v22.1.2.2.2.2 v22.2.1.2.2.1 v22.2.1.2.2.2 v22.2.2.1.1 v22.2.2.2.2.1 v22.2.2.2.2.2) (fun v23=>(some (Sum.inr ((v22.1.1,v22.1.2.1,v22.1.2.2.1,v22.1.2.2.2.1,v23.1.1.1),(v22.2.1.1,v22.2.1.2.1,v23.1.1.2,v23.1.2.1),(v23.1.2.2,v22.2.2.1.2),v22.2.2.2.1,v23.2.2))))) (some (Sum.inr v22)))
abbrev Dd:Type:=((Af×I3)×(I3)×Ah×Ah)×(((I3)×Bool×I2)×Ae×List (Int×Int×Int×Bt))×(I2)×List Bt×List (Int×I4)
def FE (v25:AH) (v48:Bv):Option (((Ah×Af)×(I3)×I3) ⊕ At ⊕ At ⊕ AG) :=
 (bd (α:=Int) (o20 v48.2.2.2.2.1.1.2.1.1 v48.2.2.2.2.1.1.2.1.2) (fun v49=>(bd (α:=Dd) (cnd (v49 != (0:Int)) (bd (α:=Dd) (sm (isZ (IntKind.wrap .i64 (v49 - (1:Int))) 0) (fun _=>(bd (α:=AE) (o19 v48.1.1.1.2 v48.2.2.2.2.1.2 (v48.1.1.1.1.1.2,v48.1.1.1.1.2.1,v48.1.1.1.1.2.2.1)) (fun v52=>(some ((((v48.1.1.1.1,v52),v48.1.1.2),v48.1.2.1,v25.1.2.2.2,v48.2.2.2.2.1,v48.2.2.2.2.2.1,((v49,v48.2.2.2.2.2.2.1.1.2),v48.2.2.2.2.2.2.1.2),v48.2.2.2.2.2.2.2),(v48.1.2.2.1,v48.1.2.2.2,v48.2.1.1),v48.2.1.2,v48.2.2.1,v48.2.2.2.1))))) (fun _=>(sm (isZ (IntKind.wrap .i64 (v49 - (1:Int))) 1) (fun _=>(bd (α:=AE) (o19 v48.1.1.1.2 v48.2.2.2.2.2.1 (v48.1.1.1.1.1.2,v48.1.1.1.1.2.1,v48.1.1.1.1.2.2.1)) (fun v53=>(some ((((v48.1.1.1.1,v53),v48.1.1.2),v48.1.2.1,v25.1.2.2.2,v48.2.2.2.2.1,v48.2.2.2.2.2.1,((v49,v48.2.2.2.2.2.2.1.1.2),v48.2.2.2.2.2.2.1.2),v48.2.2.2.2.2.2.2),(v48.1.2.2.1,v48.1.2.2.2,v48.2.1.1),v48.2.1.2,v48.2.2.1,v48.2.2.2.1))))) (fun _=>none)))) (fun v54=>(some v54))) (some ((v48.1.1,v48.1.2.1,v25.1.2.2.2,v48.2.2.2.2.1,v48.2.2.2.2.2.1,((v49,v48.2.2.2.2.2.2.1.1.2),v48.2.2.2.2.2.2.1.2),v48.2.2.2.2.2.2.2),(v48.1.2.2.1,v48.1.2.2.2,v48.2.1.1),v48.2.1.2,v48.2.2.1,v48.2.2.2.1))) (fun v55=>(some (Sum.inr (Sum.inr (Sum.inl ((((v55.1.2.2.2.1,v55.1.2.2.2.2.1,((v55.1.2.2.2.2.2.1.1.1,v55.1.1.1.2.1.1),v55.1.1.1.2.1.2),v55.1.1.1.2.2),v55.1.1.1),v55.1.1.2,v55.1.2.1,v55.2.1.1),v55.2.1.2,v55.2.2)))))))))
def De (v25:AH):Option (((Ah×Af)×(I3)×I3) ⊕ At ⊕ At ⊕ AG) :=
 (bd (α:=BM) (o23 v25.1.2.2.1 v25.1.1.2.2 v25.1.2.1.1 v25.1.2.1.2 v25.2.1.2.1 v25.2.1.2.2 v25.2.2.1.1 v25.2.2.1.2 v25.2.2.2.1 v25.2.2.2.2 (v25.1.1.1,v25.1.1.2.1)) (fun v40=>(bd (α:=AR) (o26 v40.1.1.2 v40.1.2.1 v40.1.2.2.1 v40.1.2.2.2 v40.2.1.1 v40.2.1.2.1 v40.2.1.2.2 v40.2.2.1 v40.2.2.2.1 ((v40.1.1.1.1.1,v40.1.1.1.1.2.1,v40.1.1.1.1.2.2.1),(v40.1.1.1.1.2.2.2,v40.1.1.1.2.1.1),v40.1.1.1.2.1.2,v40.1.1.1.2.2.1) v40.1.1.1.2.2.2) (fun v41=>(bd (α:=Bu) (o23v1 v25.1.2.2.1 v41.1.1.1 v41.1.1.2 v41.1.2.1 v41.1.2.2.1 v41.1.2.2.2 v41.2.1.1 v41.2.1.2.1 v41.2.2.2.1 v41.2.2.2.2) (fun v42=>(bd (α:=BA) (o26v1 v42.1.1.2 v42.1.2.1 v42.1.2.2.1 v42.1.2.2.2 v42.2.1.1 v42.2.1.2 v42.2.2.1 v42.2.2.2.1 v42.2.2.2.2 ((v42.1.1.1.1.1,v42.1.1.1.1.2.1,v42.1.1.1.1.2.2.1),(v42.1.1.1.1.2.2.2,v42.1.1.1.2.1.1),v42.1.1.1.2.1.2,v42.1.1.1.2.2.1) v42.1.1.1.2.2.2 (false,false) v25.2.1.1 v25.1.2.2.1) (fun v43=>(bd (α:=BN) (o23v2 v43.2.2.1.2 v43.1.1.1 v43.1.1.2.1 v43.1.1.2.2 v43.1.2.1.1 v43.1.2.1.2 v43.1.2.2.1 v43.1.2.2.2 v43.2.2.2.1 v43.2.2.2.2 v43.2.2.1.1) (fun v44=>(bd (α:=Bj) (o26v2 v44.1.1.2 v44.1.2.1 v44.1.2.2.1 v44.1.2.2.2 v44.2.1.1 v44.2.1.2.1 v44.2.1.2.2 v44.2.2.1 v44.2.2.2.1 ((v44.1.1.1.1.1,v44.1.1.1.1.2.1,v44.1.1.1.1.2.2.1),(v44.1.1.1.1.2.2.2,v44.1.1.1.2.1.1),v44.1.1.1.2.1.2,v44.1.1.1.2.2.1) v44.1.1.1.2.2.2 v44.2.2.2.2) (fun v45=>(bd (α:=Bu) (o23v3 v43.2.2.1.2 v45.1.1.1 v45.1.1.2.1 v45.1.1.2.2 v45.1.2.1 v45.1.2.2.1 v45.1.2.2.2 v45.2.1.1 v45.2.1.2.1 v45.2.1.2.2) (fun v46=>(bd (α:=AR) (o26v3 v46.1.1.2 v46.1.2.1 v46.1.2.2.1 v46.1.2.2.2 v46.2.1.1 v46.2.1.2 v46.2.2.1 v46.2.2.2.1 v46.2.2.2.2 ((v46.1.1.1.1.1,v46.1.1.1.1.2.1,v46.1.1.1.1.2.2.1),(v46.1.1.1.1.2.2.2,v46.1.1.1.2.1.1),v46.1.1.1.2.1.2,v46.1.1.1.2.2.1) v46.1.1.1.2.2.2) (fun v47=>(bd (α:=Bv) (o26v4 v47.1.1.1 v47.1.1.2 v47.1.2.1 v47.1.2.2.1 v47.1.2.2.2 v47.2.1.1 v47.2.1.2.1 v47.2.2.2.1 v47.2.2.2.2 v45.2.2.2.2) (FE v25))))))))))))))))))
abbrev FF:Type:=(((Af×I3)×(I3)×Ah)×(Ah×(I3)×Bool×I2)×((I3)×Bool×I2)×Ae)×(((List (Int×Int×Int×Bt))×I2)×Ae×List (Int×Int×Int×Bt))×((I2)×List Bt)×(List (Int×I4))×List Bt×List (Int×I4)
def Cw (v26:Bw):Option (((Ah×Af)×(I3)×I3) ⊕ At ⊕ At ⊕ AG) :=
 (bd (α:=EO) (o23v4 v26.1.2.1.1 v26.1.1.2.1 v26.1.1.2.2.1 v26.1.1.2.2.2 v26.1.2.2.2.1 v26.2.1.1.1 v26.2.1.1.2 v26.2.1.2.1 v26.2.2.1.2 v26.2.2.2.1 v26.1.2.2.2.2 v26.2.1.2.2.1 v26.2.1.2.2.2 v26.2.2.1.1 v26.2.2.2.2.1 v26.2.2.2.2.2 v26.1.1.1) (fun v56=>(bd (α:=CT) (o26v5 v56.1.1.1.2 v56.1.1.2.1 v56.1.1.2.2 v56.1.2.1.1 v56.1.2.1.2 v56.1.2.2.1 v56.1.2.2.2 v56.2.1.1.1 v56.2.1.1.2 v56.2.1.2.1 v56.2.1.2.2 v56.2.2.1.1 v56.2.2.1.2 v56.2.2.2.1 v56.2.2.2.2.1 ((v56.1.1.1.1.1.1,v56.1.1.1.1.1.2.1,v56.1.1.1.1.1.2.2.1),(v56.1.1.1.1.1.2.2.2,v56.1.1.1.1.2.1.1),v56.1.1.1.1.2.1.2,v56.1.1.1.1.2.2.1) v56.1.1.1.1.2.2.2) (fun v57=>(bd (α:=Cs) (o23v5 v26.1.2.1.1 v57.1.1.1.1 v57.1.1.1.2 v57.1.1.2.1 v57.1.1.2.2 v57.1.2.1.1 v57.1.2.1.2 v57.1.2.2.1 v57.2.2.1.2 v57.2.2.2.1 v57.1.2.2.2 v57.2.1.1.1 v57.2.1.1.2 v57.2.1.2.1 v57.2.2.2.2.1 v57.2.2.2.2.2) (fun v58=>(bd (α:=EW) (o26v6 v58.1.1.1.2 v58.1.1.2.1 v58.1.1.2.2 v58.1.2.1.1 v58.1.2.1.2 v58.1.2.2.1 v58.1.2.2.2 v58.2.1.1.1 v58.2.1.1.2 v58.2.1.2.1 v58.2.1.2.2 v58.2.2.1.1 v58.2.2.1.2 v58.2.2.2.1 v58.2.2.2.2 ((v58.1.1.1.1.1.1,v58.1.1.1.1.1.2.1,v58.1.1.1.1.1.2.2.1),(v58.1.1.1.1.1.2.2.2,v58.1.1.1.1.2.1.1),v58.1.1.1.1.2.1.2,v58.1.1.1.1.2.2.1) v58.1.1.1.1.2.2.2 (false,false) v26.1.2.2.1 v26.1.2.1.1) (fun v59=>(bd (α:=EY) (o23v6 v59.2.2.1.1 v59.1.1.1.1 v59.1.1.1.2 v59.1.1.2.1 v59.1.1.2.2.1 v59.1.1.2.2.2 v59.1.2.1.1 v59.1.2.1.2 v59.2.2.1.2 v59.2.2.2.1 v59.1.2.2.1 v59.1.2.2.2.1 v59.1.2.2.2.2 v59.2.1.1.1 v59.2.2.2.2.1 v59.2.2.2.2.2 v59.2.1.2.2.2) (fun v60=>(bd (α:=BG) (o26v7 v60.1.1.1.2 v60.1.1.2.1 v60.1.1.2.2 v60.1.2.1.1 v60.1.2.1.2 v60.1.2.2.1 v60.1.2.2.2 v60.2.1.1.1 v60.2.1.1.2 v60.2.1.2.1 v60.2.1.2.2 v60.2.2.1.1 v60.2.2.1.2 v60.2.2.2.1 v60.2.2.2.2.1 ((v60.1.1.1.1.1.1,v60.1.1.1.1.1.2.1,v60.1.1.1.1.1.2.2.1),(v60.1.1.1.1.1.2.2.2,v60.1.1.1.1.2.1.1),v60.1.1.1.1.2.1.2,v60.1.1.1.1.2.2.1) v60.1.1.1.1.2.2.2 v60.2.2.2.2.2) (fun v61=>(bd (α:=Cs) (o23v7 v59.2.2.1.1 v61.1.1.1.1 v61.1.1.1.2 v61.1.1.2.1 v61.1.1.2.2 v61.1.2.1.1 v61.1.2.1.2 v61.1.2.2.1 v61.1.2.2.2.1 v61.1.2.2.2.2 v61.2.1.1.1 v61.2.1.1.2 v61.2.1.2.1 v61.2.1.2.2 v61.2.2.1.1 v61.2.2.1.2) (fun v62=>(bd (α:=CT) (o26v8 v62.1.1.1.2 v62.1.1.2.1 v62.1.1.2.2 v62.1.2.1.1 v62.1.2.1.2 v62.1.2.2.1 v62.1.2.2.2 v62.2.1.1.1 v62.2.1.1.2 v62.2.1.2.1 v62.2.1.2.2 v62.2.2.1.1 v62.2.2.1.2 v62.2.2.2.1 v62.2.2.2.2 ((v62.1.1.1.1.1.1,v62.1.1.1.1.1.2.1,v62.1.1.1.1.1.2.2.1),(v62.1.1.1.1.1.2.2.2,v62.1.1.1.1.2.1.1),v62.1.1.1.1.2.1.2,v62.1.1.1.1.2.2.1) v62.1.1.1.1.2.2.2) (fun v63=>(bd (α:=Ct) (o26v9 v63.1.1.1.1 v63.1.1.1.2 v63.1.1.2.1 v63.1.1.2.2 v63.1.2.1.1 v63.1.2.1.2 v63.1.2.2.1 v63.2.2.1.2 v63.2.2.2.1 v63.1.2.2.2 v63.2.1.1.1 v63.2.1.1.2 v63.2.1.2.1 v63.2.2.2.2.1 v63.2.2.2.2.2 v61.2.2.2.2.2) (fun v64=>(bd (α:=Int) (o20 v64.2.2.2.2.1.1.2.1.1 v64.2.2.2.2.1.1.2.1.2) (fun v65=>(bd (α:=FF) (cnd (v65 != (0:Int)) (bd (α:=FF) (sm (isZ (IntKind.wrap .i64 (v65 - (1:Int))) 0) (fun _=>(bd (α:=AE) (o19 v64.1.1.1.1.2 v64.2.2.2.2.1.2 (v64.1.1.1.1.1.1.2,v64.1.1.1.1.1.2.1,v64.1.1.1.1.1.2.2.1)) (fun v68=>(some (((((v64.1.1.1.1.1,v68),v64.1.1.1.2),v64.1.1.2.1,v26.1.2.1.2),((v64.2.2.2.2.1,v64.2.2.2.2.2.1,((v65,v64.2.2.2.2.2.2.1.1.2),v64.2.2.2.2.2.2.1.2),v64.2.2.2.2.2.2.2),v64.1.1.2.2),v64.2.1.1.2,v64.1.2.1.1),((v64.1.2.1.2,v64.1.2.2.1),v64.2.1.2),(v64.2.2.1.1,v64.1.2.2.2),v64.2.1.1.1,v64.2.2.1.2,v64.2.2.2.1))))) (fun _=>(sm (isZ (IntKind.wrap .i64 (v65 - (1:Int))) 1) (fun _=>(bd (α:=AE) (o19 v64.1.1.1.1.2 v64.2.2.2.2.2.1 (v64.1.1.1.1.1.1.2,v64.1.1.1.1.1.2.1,v64.1.1.1.1.1.2.2.1)) (fun v69=>(some (((((v64.1.1.1.1.1,v69),v64.1.1.1.2),v64.1.1.2.1,v26.1.2.1.2),((v64.2.2.2.2.1,v64.2.2.2.2.2.1,((v65,v64.2.2.2.2.2.2.1.1.2),v64.2.2.2.2.2.2.1.2),v64.2.2.2.2.2.2.2),v64.1.1.2.2),v64.2.1.1.2,v64.1.2.1.1),((v64.1.2.1.2,v64.1.2.2.1),v64.2.1.2),(v64.2.2.1.1,v64.1.2.2.2),v64.2.1.1.1,v64.2.2.1.2,v64.2.2.2.1))))) (fun _=>none)))) (fun v70=>(some v70))) (some (((v64.1.1.1,v64.1.1.2.1,v26.1.2.1.2),((v64.2.2.2.2.1,v64.2.2.2.2.2.1,((v65,v64.2.2.2.2.2.2.1.1.2),v64.2.2.2.2.2.2.1.2),v64.2.2.2.2.2.2.2),v64.1.1.2.2),v64.2.1.1.2,v64.1.2.1.1),((v64.1.2.1.2,v64.1.2.2.1),v64.2.1.2),(v64.2.2.1.1,v64.1.2.2.2),v64.2.1.1.1,v64.2.2.1.2,v64.2.2.2.1))) (fun v71=>(some (Sum.inr (Sum.inr (Sum.inr (((((v71.1.2.1.1.1,v71.1.2.1.1.2.1,((v71.1.2.1.1.2.2.1.1.1,v71.1.1.1.1.2.1.1),v71.1.1.1.1.2.1.2),v71.1.1.1.1.2.2),v71.1.1.1.1),v71.1.1.1.2,v71.1.1.2.1),(v71.1.2.1.2,v71.1.2.2.1),v71.1.2.2.2,v71.2.1.1.1),((v71.2.1.1.2,v71.2.1.2.1),v71.2.1.2.2,v71.2.2.1.1),(v71.2.2.1.2,v71.2.2.2.1),v71.2.2.2.2)))))))))))))))))))))))))))
abbrev Bb:Type:=((Bt×Bt)×Af×I3)×((I3)×Ao)×Ah×Ah
abbrev BR:Type:=((Bt×Bt)×Bool×Af)×((I3)×I3)×Ao×Ah×Ah
def DO (v27:BR):Option (Bb ⊕ AH) :=
 (cnd v27.1.2.1 (bd (α:=AV) o21v1 (fun v29=>(cnd v27.2.2.1.1.1.2.1.2 (bd (α:=AO) (o22 v29.1.1 v29.1.2.1 v29.1.2.2 v29.2.1 v29.2.2.1 v29.2.2.2) (fun v30=>(some (Sum.inr (((v27.1.1.1,v27.1.1.2,v27.1.2.2),v27.2.1,v27.2.2.1,v27.2.2.2.1),(v27.2.2.2.2,v30.1.1),v30.1.2,v30.2.2))))) (some (Sum.inr (((v27.1.1.1,v27.1.1.2,v27.1.2.2),v27.2.1,v27.2.2.1,v27.2.2.2.1),(v27.2.2.2.2,v29.1.1,v29.1.2.1),(v29.1.2.2,v29.2.1),v29.2.2)))))) (cnd v27.2.2.1.1.1.2.1.2 (bd (α:=Unit) o22v1 (fun v31=>(some (Sum.inl ((v27.1.1,v27.1.2.2,v27.2.1.1),(v27.2.1.2,v27.2.2.1),v27.2.2.2))))) (some (Sum.inl ((v27.1.1,v27.1.2.2,v27.2.1.1),(v27.2.1.2,v27.2.2.1),v27.2.2.2)))))
def FG (v32:BQ):Option AH :=
 (cnd v32.1.1.2.2 (bd (α:=AV) o21v1 (fun v34=>(some (((v32.1.1.1,v32.1.1.2.1,v32.1.2.1.1),(v32.1.2.1.2,v32.1.2.2.1),v32.2.2.1.2,v32.2.2.2.1),(v32.2.2.2.2,v34.1.1,v34.1.2.1),(v34.1.2.2,v34.2.1),v34.2.2)))) (some (((v32.1.1.1,v32.1.1.2.1,v32.1.2.1.1),(v32.1.2.1.2,v32.1.2.2.1),v32.2.2.1.2,v32.2.2.2.1),(v32.2.2.2.2,v32.1.2.2.2,v32.2.1.1.1),(v32.2.1.1.2,v32.2.1.2.1),v32.2.1.2.2,v32.2.2.1.1)))
abbrev FH:Type:=(Af×I3)×(I3)×Ah×Ah
def FI (v38:Bb):Option (((Ah×Af)×(I3)×I3) ⊕ At ⊕ At ⊕ AG) :=
 (bd (α:=Fj) (o23v8 v38.2.1.2 v38.1.2.1 v38.1.2.2 v38.2.1.1 v38.1.1) (fun v72=>(bd (α:=CY) (o26v10 v72.1.2 v72.2.1 v72.2.2.1 (((0:Int),(0:Int),(0:Int)),(0:Int),(0:Int),(0:Int)) v72.1.1) (fun v73=>(bd (α:=CZ) (o23v9 v38.2.1.2 v73.1.1 v73.1.2 v73.2.1) (fun v74=>(bd (α:=Fl) (o26v11 v74.1.2 v74.2.1 v74.2.2 (((0:Int),(0:Int),(0:Int)),(0:Int),(0:Int),(0:Int)) v74.1.1 (false,false) v38.2.2.2 v38.2.1.2) (fun v75=>(bd (α:=Fm) (o23v10 v75.2.2.2 v75.1.1.1 v75.1.1.2 v75.1.2.1 v75.2.2.1) (fun v76=>(bd (α:=Fo) (o26v12 v76.1.2 v76.2.1 v76.2.2.1 (((0:Int),(0:Int),(0:Int)),(0:Int),(0:Int),(0:Int)) v76.1.1 v76.2.2.2) (fun v77=>(bd (α:=CZ) (o23v11 v75.2.2.2 v77.1.1 v77.1.2.1 v77.1.2.2) (fun v78=>(bd (α:=CY) (o26v13 v78.1.2 v78.2.1 v78.2.2 (((0:Int),(0:Int),(0:Int)),(0:Int),(0:Int),(0:Int)) v78.1.1) (fun v79=>(bd (α:=((Af×I3)×(I3)×Ah)) (o26v14 v79.1.1 v79.1.2 v79.2.1 v77.2.2.2) (fun v80=>(bd (α:=Int) (o20 v80.2.2.1.1.2.1.1 v80.2.2.1.1.2.1.2) (fun v81=>(bd (α:=FH) (cnd (v81 != (0:Int)) (bd (α:=FH) (sm (isZ (IntKind.wrap .i64 (v81 - (1:Int))) 0) (fun _=>(bd (α:=AE) (o19 v80.1.1.2 v80.2.2.1.2 (v80.1.1.1.1.2,v80.1.1.1.2.1,v80.1.1.1.2.2.1)) (fun v84=>(some (((v80.1.1.1,v84),v80.1.2),v80.2.1,v38.2.2.1,v80.2.2.1,v80.2.2.2.1,((v81,v80.2.2.2.2.1.1.2),v80.2.2.2.2.1.2),v80.2.2.2.2.2))))) (fun _=>(sm (isZ (IntKind.wrap .i64 (v81 - (1:Int))) 1) (fun _=>(bd (α:=AE) (o19 v80.1.1.2 v80.2.2.2.1 (v80.1.1.1.1.2,v80.1.1.1.2.1,v80.1.1.1.2.2.1)) (fun v85=>(some (((v80.1.1.1,v85),v80.1.2),v80.2.1,v38.2.2.1,v80.2.2.1,v80.2.2.2.1,((v81,v80.2.2.2.2.1.1.2),v80.2.2.2.2.1.2),v80.2.2.2.2.2))))) (fun _=>none)))) (fun v86=>(some v86))) (some (v80.1,v80.2.1,v38.2.2.1,v80.2.2.1,v80.2.2.2.1,((v81,v80.2.2.2.2.1.1.2),v80.2.2.2.2.1.2),v80.2.2.2.2.2))) (fun v87=>(some (Sum.inl (((v87.2.2.2.1,v87.2.2.2.2.1,((v87.2.2.2.2.2.1.1.1,v87.1.1.2.1.1),v87.1.1.2.1.2),v87.1.1.2.2),v87.1.1),v87.1.2,v87.2.1)))))))))))))))))))))))))
def FJ (v39:AH) (v96:Bv):Option (((Ah×Af)×(I3)×I3) ⊕ At ⊕ At ⊕ AG) :=
 (bd (α:=Int) (o20 v96.2.2.2.2.1.1.2.1.1 v96.2.2.2.2.1.1.2.1.2) (fun v97=>(bd (α:=Dd) (cnd (v97 != (0:Int)) (bd (α:=Dd) (sm (isZ (IntKind.wrap .i64 (v97 - (1:Int))) 0) (fun _=>(bd (α:=AE) (o19 v96.1.1.1.2 v96.2.2.2.2.1.2 (v96.1.1.1.1.1.2,v96.1.1.1.1.2.1,v96.1.1.1.1.2.2.1)) (fun v100=>(some ((((v96.1.1.1.1,v100),v96.1.1.2),v96.1.2.1,v39.1.2.2.2,v96.2.2.2.2.1,v96.2.2.2.2.2.1,((v97,v96.2.2.2.2.2.2.1.1.2),v96.2.2.2.2.2.2.1.2),v96.2.2.2.2.2.2.2),(v96.1.2.2.1,v96.1.2.2.2,v96.2.1.1),v96.2.1.2,v96.2.2.1,v96.2.2.2.1))))) (fun _=>(sm (isZ (IntKind.wrap .i64 (v97 - (1:Int))) 1) (fun _=>(bd (α:=AE) (o19 v96.1.1.1.2 v96.2.2.2.2.2.1 (v96.1.1.1.1.1.2,v96.1.1.1.1.2.1,v96.1.1.1.1.2.2.1)) (fun v101=>(some ((((v96.1.1.1.1,v101),v96.1.1.2),v96.1.2.1,v39.1.2.2.2,v96.2.2.2.2.1,v96.2.2.2.2.2.1,((v97,v96.2.2.2.2.2.2.1.1.2),v96.2.2.2.2.2.2.1.2),v96.2.2.2.2.2.2.2),(v96.1.2.2.1,v96.1.2.2.2,v96.2.1.1),v96.2.1.2,v96.2.2.1,v96.2.2.2.1))))) (fun _=>none)))) (fun v102=>(some v102))) (some ((v96.1.1,v96.1.2.1,v39.1.2.2.2,v96.2.2.2.2.1,v96.2.2.2.2.2.1,((v97,v96.2.2.2.2.2.2.1.1.2),v96.2.2.2.2.2.2.1.2),v96.2.2.2.2.2.2.2),(v96.1.2.2.1,v96.1.2.2.2,v96.2.1.1),v96.2.1.2,v96.2.2.1,v96.2.2.2.1))) (fun v103=>(some (Sum.inr (Sum.inl ((((v103.1.2.2.2.1,v103.1.2.2.2.2.1,((v103.1.2.2.2.2.2.1.1.1,v103.1.1.1.2.1.1),v103.1.1.1.2.1.2),v103.1.1.1.2.2),v103.1.1.1),v103.1.1.2,v103.1.2.1,v103.2.1.1),v103.2.1.2,v103.2.2))))))))
def Cg (v37:Bb ⊕ AH):Option (((Ah×Af)×(I3)×I3) ⊕ At ⊕ At ⊕ AG) :=
 (sm v37 FI (fun v39=>(bd (α:=BM) (o23v12 v39.1.2.2.1 v39.1.1.2.2 v39.1.2.1.1 v39.1.2.1.2 v39.2.1.2.1 v39.2.1.2.2 v39.2.2.1.1 v39.2.2.1.2 v39.2.2.2.1 v39.2.2.2.2 (v39.1.1.1,v39.1.1.2.1)) (fun v88=>(bd (α:=AR) (o26v15 v88.1.1.2 v88.1.2.1 v88.1.2.2.1 v88.1.2.2.2 v88.2.1.1 v88.2.1.2.1 v88.2.1.2.2 v88.2.2.1 v88.2.2.2.1 ((v88.1.1.1.1.1,v88.1.1.1.1.2.1,v88.1.1.1.1.2.2.1),(v88.1.1.1.1.2.2.2,v88.1.1.1.2.1.1),v88.1.1.1.2.1.2,v88.1.1.1.2.2.1) v88.1.1.1.2.2.2) (fun v89=>(bd (α:=Bu) (o23v13 v39.1.2.2.1 v89.1.1.1 v89.1.1.2 v89.1.2.1 v89.1.2.2.1 v89.1.2.2.2 v89.2.1.1 v89.2.1.2.1 v89.2.2.2.1 v89.2.2.2.2) (fun v90=>(bd (α:=BA) (o26v16 v90.1.1.2 v90.1.2.1 v90.1.2.2.1 v90.1.2.2.2 v90.2.1.1 v90.2.1.2 v90.2.2.1 v90.2.2.2.1 v90.2.2.2.2 ((v90.1.1.1.1.1,v90.1.1.1.1.2.1,v90.1.1.1.1.2.2.1),(v90.1.1.1.1.2.2.2,v90.1.1.1.2.1.1),v90.1.1.1.2.1.2,v90.1.1.1.2.2.1) v90.1.1.1.2.2.2 (false,false) v39.2.1.1 v39.1.2.2.1) (fun v91=>(bd (α:=BN) (o23v14 v91.2.2.1.2 v91.1.1.1 v91.1.1.2.1 v91.1.1.2.2 v91.1.2.1.1 v91.1.2.1.2 v91.1.2.2.1 v91.1.2.2.2 v91.2.2.2.1 v91.2.2.2.2 v91.2.2.1.1) (fun v92=>(bd (α:=Bj) (o26v17 v92.1.1.2 v92.1.2.1 v92.1.2.2.1 v92.1.2.2.2 v92.2.1.1 v92.2.1.2.1 v92.2.1.2.2 v92.2.2.1 v92.2.2.2.1 ((v92.1.1.1.1.1,v92.1.1.1.1.2.1,v92.1.1.1.1.2.2.1),(v92.1.1.1.1.2.2.2,v92.1.1.1.2.1.1),v92.1.1.1.2.1.2,v92.1.1.1.2.2.1) v92.1.1.1.2.2.2 v92.2.2.2.2) (fun v93=>(bd (α:=Bu) (o23v15 v91.2.2.1.2 v93.1.1.1 v93.1.1.2.1 v93.1.1.2.2 v93.1.2.1 v93.1.2.2.1 v93.1.2.2.2 v93.2.1.1 v93.2.1.2.1 v93.2.1.2.2) (fun v94=>(bd (α:=AR) (o26v18 v94.1.1.2 v94.1.2.1 v94.1.2.2.1 v94.1.2.2.2 v94.2.1.1 v94.2.1.2 v94.2.2.1 v94.2.2.2.1 v94.2.2.2.2 ((v94.1.1.1.1.1,v94.1.1.1.1.2.1,v94.1.1.1.1.2.2.1),(v94.1.1.1.1.2.2.2,v94.1.1.1.2.1.1),v94.1.1.1.2.1.2,v94.1.1.1.2.2.1) v94.1.1.1.2.2.2) (fun v95=>(bd (α:=Bv) (o26v19 v95.1.1.1 v95.1.1.2 v95.1.2.1 v95.1.2.2.1 v95.1.2.2.2 v95.2.1.1 v95.2.1.2.1 v95.2.2.2.1 v95.2.2.2.2 v93.2.2.2.2) (FJ v39))))))))))))))))))))
def HU:BSh:= .cells 105 [.ifc 60 (.ptr 1 0),.ifc 60 (.ptr 2 0),.ptr 15 0,.ptr 9 0,.ro .y true,.i .i64,.i .i64,.i .i64,.i .i64,.i .i64,.i .u8,.i .u8,.i .u8,.i .i64,.i .i64,.i .i64,.i .i64]
abbrev HV:Type:=(((Bt×Bt)×Ao×Af)×((I3)×I3)×((I3)×Bool×I2)×Ae×List (Int×Int×Int×Bt))×(((I2)×List Bt)×(List (Int×I4))×(I3)×Bool×I2)×(Ae×List (Int×Int×Int×Bt))×(I2)×List Bt×List (Int×I4)
def o9_s0:Sch:=⟨[(1,.v (.c (.ro .y true))),(2,.v (.c (.ro .y true))),(4,.v (.c (.ptr 15 0))),(7,.v (.c (.ptr 16 0))),(8,.v (.c (.ptr 17 0))),(9,.v (.c (.ptr 18 0))),(10,.v (.c (.ic .i64 (0)))),(31,.v (.c (.ic .i64 (0)))),(55,.v (.c (.b)))],[BP,Aa,Aa,.no,.no,.no,.no,.no,.no,Au,Ab,Ad,Ap,.row (.a .y) 33,Ac,.cells 30 [.ptr 0 0],Aj,Ag,Ag]⟩
def o9_s1:Sch:=⟨[(1,.v (.c (.ro .y true))),(2,.v (.c (.ro .y true))),(4,.v (.c (.ptr 15 0))),(7,.v (.c (.ptr 16 0))),(8,.v (.c (.ptr 17 0))),(9,.v (.c (.ptr 18 0))),(10,.v (.c (.ic .i64 (0)))),(31,.v (.c (.ic .i64 (0)))),(55,.v (.c (.b)))],[Aw,Aa,Aa,Ai,Ab,Ad,Al,.row (.a .y) 33,Ac,Au,Ab,Ad,Ap,.row (.a .y) 33,Ac,.cells 30 [.ptr 0 0],Aj,Ag,Ag]⟩
def o9_s2:Sch:=⟨[(1,.v (.c (.ro .y true))),(2,.v (.c (.ro .y true))),(4,.v (.c (.ptr 15 0))),(7,.v (.c (.ptr 16 0))),(8,.v (.c (.ptr 17 0))),(9,.v (.c (.ptr 18 0))),(10,.v (.c (.ic .i64 (0)))),(31,.v (.c (.ic .i64 (0))))],[DK,Aa,Aa,.no,.no,.no,.no,.no,.no,Au,Ab,Ad,Ap,.row (.a .y) 33,Ac,.cells 30 [.ptr 0 0],Aj,Ag,Ag,BB,Ab,Ad,Bo,.row (.a .y) 33,Ac]⟩
def o9_s3:Sch:=⟨[(1,.v (.c (.ro .y true))),(2,.v (.c (.ro .y true))),(4,.v (.c (.ptr 15 0))),(7,.v (.c (.ptr 16 0))),(8,.v (.c (.ptr 17 0))),(9,.v (.c (.ptr 18 0))),(31,.v (.c (.ic .i64 (0))))],[DK,Aa,Aa,.no,.no,.no,.no,.no,.no,Au,Ab,Ad,Ap,.row (.a .y) 33,Ac,.cells 30 [.ptr 0 0],Aj,Ag,Ag,BB,Ab,Ad,Bo,.row (.a .y) 33,Ac]⟩
def o9_s4:Sch:=⟨[(1,.v (.c (.ro .y true))),(2,.v (.c (.ro .y true))),(4,.v (.c (.ptr 15 0))),(7,.v (.c (.ptr 16 0))),(8,.v (.c (.ptr 17 0))),(9,.v (.c (.ptr 18 0))),(31,.v (.c (.ic .i64 (0))))],[BP,Aa,Aa,.no,.no,.no,.no,.no,.no,Au,Ab,Ad,Ap,.row (.a .y) 33,Ac,.cells 30 [.ptr 0 0],Aj,Ag,Ag]⟩
def o9_s5:Sch:=⟨[(1,.v (.c (.ro .y true))),(2,.v (.c (.ro .y true))),(4,.v (.c (.ptr 15 0))),(7,.v (.c (.ptr 16 0))),(8,.v (.c (.ptr 17 0))),(9,.v (.c (.ptr 18 0))),(10,.v (.c (.ic .i64 (1)))),(31,.v (.c (.ic .i64 (1)))),(55,.v (.c (.b)))],[Fp,Aa,Aa,.no,.no,.no,.no,.no,.no,.no,.no,.no,.no,.no,.no,.cells 30 [.ptr 0 0],Aj,Ag,Ag,BB,Ab,Ad,Bo,.row (.a .y) 33,Ac]⟩
def o9_s6:Sch:=⟨[(1,.v (.c (.ro .y true))),(2,.v (.c (.ro .y true))),(4,.v (.c (.ptr 15 0))),(7,.v (.c (.ptr 16 0))),(8,.v (.c (.ptr 17 0))),(9,.v (.c (.ptr 18 0))),(10,.v (.c (.ic .i64 (1)))),(31,.v (.c (.ic .i64 (1)))),(55,.v (.c (.b)))],[DK,Aa,Aa,.no,.no,.no,.no,.no,.no,Au,Ab,Ad,Ap,.row (.a .y) 33,Ac,.cells 30 [.ptr 0 0],Aj,Ag,Ag,BB,Ab,Ad,Bo,.row (.a .y) 33,Ac]⟩
def o9_s7:Sch:=⟨[(1,.v (.c (.ro .y true))),(2,.v (.c (.ro .y true))),(4,.v (.c (.ptr 15 0))),(7,.v (.c (.ptr 16 0))),(8,.v (.c (.ptr 17 0))),(9,.v (.c (.ptr 18 0))),(10,.v (.c (.ic .i64 (1)))),(31,.v (.c (.ic .i64 (1))))],[Fq,Aa,Aa,.no,.no,.no,.no,.no,.no,.no,.no,.no,.no,.no,.no,.cells 30 [.ptr 0 0],Aj,Ag,Ag,Fs,Fu,Ab,Ad,Fv,Ab,Ad,Fw,.row (.a .y) 33,Ac,.row (.a .y) 33,Ac]⟩
def o9_s8:Sch:=⟨[(1,.v (.c (.ro .y true))),(2,.v (.c (.ro .y true))),(4,.v (.c (.ptr 15 0))),(7,.v (.c (.ptr 16 0))),(8,.v (.c (.ptr 17 0))),(9,.v (.c (.ptr 18 0))),(31,.v (.c (.ic .i64 (1))))],[Fp,Aa,Aa,.no,.no,.no,.no,.no,.no,.no,.no,.no,.no,.no,.no,.cells 30 [.ptr 0 0],Aj,Ag,Ag,BB,Ab,Ad,Bo,.row (.a .y) 33,Ac]⟩
def o9_s9:Sch:=⟨[(1,.v (.c (.ro .y true))),(2,.v (.c (.ro .y true))),(4,.v (.c (.ptr 15 0))),(7,.v (.c (.ptr 16 0))),(8,.v (.c (.ptr 17 0))),(9,.v (.c (.ptr 18 0))),(31,.v (.c (.ic .i64 (1))))],[Fq,Aa,Aa,.no,.no,.no,.no,.no,.no,.no,.no,.no,.no,.no,.no,.cells 30 [.ptr 0 0],Aj,Ag,Ag,Fs,Fu,Ab,Ad,Fv,Ab,Ad,Fw,.row (.a .y) 33,Ac,.row (.a .y) 33,Ac]⟩
def o9_s10:Sch:=⟨[(1,.v (.c (.ro .y true))),(2,.v (.c (.ro .y true))),(4,.v (.c (.ptr 15 0))),(7,.v (.c (.ptr 16 0))),(8,.v (.c (.ptr 17 0))),(9,.v (.c (.ptr 18 0))),(10,.v (.c (.ic .i64 (1)))),(31,.v (.c (.ic .i64 (1)))),(55,.v (.c (.b)))],[Ar,Aa,Aa,.no,.no,.no,.no,.no,.no,.no,.no,.no,.no,.no,.no,.cells 30 [.ptr 0 0],Aj,Ag,Ag]⟩
def o9_s11:Sch:=⟨[(1,.v (.c (.ro .y true))),(2,.v (.c (.ro .y true))),(4,.v (.c (.ptr 15 0))),(7,.v (.c (.ptr 16 0))),(8,.v (.c (.ptr 17 0))),(9,.v (.c (.ptr 18 0))),(10,.v (.c (.ic .i64 (1)))),(31,.v (.c (.ic .i64 (1)))),(55,.v (.c (.b)))],[BP,Aa,Aa,.no,.no,.no,.no,.no,.no,Au,Ab,Ad,Ap,.row (.a .y) 33,Ac,.cells 30 [.ptr 0 0],Aj,Ag,Ag]⟩
def o9_s12:Sch:=⟨[(1,.v (.c (.ro .y true))),(2,.v (.c (.ro .y true))),(4,.v (.c (.ptr 15 0))),(7,.v (.c (.ptr 16 0))),(8,.v (.c (.ptr 17 0))),(9,.v (.c (.ptr 18 0))),(10,.v (.c (.ic .i64 (1)))),(31,.v (.c (.ic .i64 (1))))],[Fx,Aa,Aa,.no,.no,.no,.no,.no,.no,.no,.no,.no,.no,.no,.no,.cells 30 [.ptr 0 0],Aj,Ag,Ag,BB,Ab,Ad,Bo,.row (.a .y) 33,Ac]⟩
def o9_s13:Sch:=⟨[(1,.v (.c (.ro .y true))),(2,.v (.c (.ro .y true))),(4,.v (.c (.ptr 15 0))),(7,.v (.c (.ptr 16 0))),(8,.v (.c (.ptr 17 0))),(9,.v (.c (.ptr 18 0))),(31,.v (.c (.ic .i64 (1))))],[Ar,Aa,Aa,.no,.no,.no,.no,.no,.no,.no,.no,.no,.no,.no,.no,.cells 30 [.ptr 0 0],Aj,Ag,Ag]⟩
def o9_s14:Sch:=⟨[(1,.v (.c (.ro .y true))),(2,.v (.c (.ro .y true))),(4,.v (.c (.ptr 15 0))),(7,.v (.c (.ptr 16 0))),(8,.v (.c (.ptr 17 0))),(9,.v (.c (.ptr 18 0))),(31,.v (.c (.ic .i64 (1))))],[Fx,Aa,Aa,.no,.no,.no,.no,.no,.no,.no,.no,.no,.no,.no,.no,.cells 30 [.ptr 0 0],Aj,Ag,Ag,BB,Ab,Ad,Bo,.row (.a .y) 33,Ac]⟩
def o9_s15:Sch:=⟨[(4,.v (.c (.ptr 15 0))),(8,.v (.c (.ptr 16 0))),(9,.v (.c (.ptr 17 0)))],[HL,Aa,Aa,.no,.no,.no,.no,.no,.no,.no,.no,.no,.no,.no,.no,.cells 30 [.ptr 0 0],Ag,Ag,Fy,Ab,Ad,Ce,.row (.a .y) 33,Ac]⟩
def o9_s16:Sch:=⟨[(4,.v (.c (.ptr 15 0))),(8,.v (.c (.ptr 16 0))),(9,.v (.c (.ptr 17 0)))],[HM,Aa,Aa,.no,.no,.no,.no,.no,.no,.no,.no,.no,.no,.no,.no,.cells 30 [.ptr 0 0],Ag,Ag,BB,HN,Ab,Ad,HO,Ab,Ad,HP,.row (.a .y) 33,Ac,.row (.a .y) 33,Ac]⟩
def o9_s17:Sch:=⟨[(4,.v (.c (.ptr 15 0))),(8,.v (.c (.ptr 16 0))),(9,.v (.c (.ptr 17 0)))],[Ar,Aa,Aa,.no,.no,.no,.no,.no,.no,.no,.no,.no,.no,.no,.no,.cells 30 [.ptr 0 0],Ag,Ag]⟩
def o9_s18:Sch:=⟨[(4,.v (.c (.ptr 15 0))),(8,.v (.c (.ptr 16 0))),(9,.v (.c (.ptr 17 0)))],[HQ,Aa,Aa,.no,.no,.no,.no,.no,.no,.no,.no,.no,.no,.no,.no,.cells 30 [.ptr 0 0],Ag,Ag,Fy,Ab,Ad,Ce,.row (.a .y) 33,Ac]⟩
def p9:Sch:=⟨[(0,.v (.c (.ptr 0 0))),(1,.v (.c (.ro .y true))),(2,.v (.c (.ro .y true))),(3,AP)],[Aw,Aa,Aa,Ai,Ab,Ad,Al,.row (.a .y) 33,Ac,Au,Ab,Ad,Ap,.row (.a .y) 33,Ac]⟩
def r9:List Sch:=[⟨[(0,Ba)],[Ar,Aa,Aa,.no,.no,.no,.no,.no,.no,.no,.no,.no,.no,.no,.no]⟩,⟨[(0,Ba)],[HR,Aa,Aa,.no,.no,.no,.no,.no,.no,.no,.no,.no,.no,.no,.no,Cu,Ab,Ad,BJ,.row (.a .y) 33,Ac]⟩,⟨[(0,Ba)],[DL,Aa,Aa,.no,.no,.no,.no,.no,.no,.no,.no,.no,.no,.no,.no,Cu,Ab,Ad,BJ,.row (.a .y) 33,Ac]⟩,⟨[(0,Ba)],[Fz,Aa,Aa,.no,.no,.no,.no,.no,.no,.no,.no,.no,.no,.no,.no,Da,BB,Ab,Ad,Bo,Ab,Ad,FA,.row (.a .y) 33,Ac,.row (.a .y) 33,Ac]⟩]
def o9 (a0:Bt) (a1:Bt) (a2:Ao) (a3:Af) (a4:I3) (a5:I3) (a6:(I3)×Bool×I2) (a7:Ae) (a8:List (Int×Int×Int×Bt)) (a9:I2) (a10:List Bt) (a11:List (Int×I4)) (a12:(I3)×Bool×I2) (a13:Ae) (a14:List (Int×Int×Int×Bt)) (a15:I2) (a16:List Bt) (a17:List (Int×I4)):Option (((Ah×Af)×(I3)×I3) ⊕ At ⊕ At ⊕ AG) :=
 (bd (α:=Db ⊕ Dc) (cnd a2.1.1.1.1.1 (bd (α:=BQ) (cnd a2.1.1.1.2.1 (some (((a0,a1,true),(((a3.1.1,a3.1.2.1,a3.1.2.2.1,(IntKind.wrap .i64 (a3.1.2.2.2+(1:Int)))),a3.2),a4),a5,a12),((a13,a14),a15,a16),(a17,a2),((zTg,((0:Int),(0:Int),(0:Int)),((0:Int),(0:Int)),(0:Int),(0:Int)),zTg,(((0:Int),(0:Int)),(0:Int),(0:Int)),((0:Int),(0:Int)),(0:Int),(0:Int)),((((IntKind.wrap .i64 (a3.1.2.2.2+(1:Int))),(0:Int),(0:Int)),((1:Int),(1:Int)),(0:Int),(0:Int)),((0:Int),(0:Int),(0:Int)),((0:Int),(0:Int)),(0:Int),(0:Int)),zTg,(((0:Int),(0:Int)),(0:Int),(0:Int)),((0:Int),(0:Int)),(0:Int),(0:Int))) (some (((a0,a1,false),(((a3.1.1,a3.1.2.1,a3.1.2.2.1,(IntKind.wrap .i64 (a3.1.2.2.2+(1:Int)))),a3.2),a4),a5,a12),((a13,a14),a15,a16),(a17,a2),((zTg,((0:Int),(0:Int),(0:Int)),((0:Int),(0:Int)),(0:Int),(0:Int)),zTg,(((0:Int),(0:Int)),(0:Int),(0:Int)),((0:Int),(0:Int)),(0:Int),(0:Int)),((((IntKind.wrap .i64 (a3.1.2.2.2+(1:Int))),(0:Int),(0:Int)),((1:Int),(1:Int)),(0:Int),(0:Int)),((0:Int),(0:Int),(0:Int)),((0:Int),(0:Int)),(0:Int),(0:Int)),zTg,(((0:Int),(0:Int)),(0:Int),(0:Int)),((0:Int),(0:Int)),(0:Int),(0:Int)))) FB) (bd (α:=Db) (bd (α:=HS) (cnd a2.1.1.1.2.1 (some ((((a0,a1),false,((a3.1.1,a3.1.2.1,a3.1.2.2.1,(IntKind.wrap .i64 (a3.1.2.2.2+(1:Int)))),a3.2),a4),(a5,a6),a7,a8,a9),((a10,a11),a12,a13,a14),(a15,a16,a17),a2,((zTg,((0:Int),(0:Int),(0:Int)),((0:Int),(0:Int)),(0:Int),(0:Int)),zTg,(((0:Int),(0:Int)),(0:Int),(0:Int)),((0:Int),(0:Int)),(0:Int),(0:Int)),((((IntKind.wrap .i64 (a3.1.2.2.2+(1:Int))),(0:Int),(0:Int)),((1:Int),(1:Int)),(0:Int),(0:Int)),((0:Int),(0:Int),(0:Int)),((0:Int),(0:Int)),(0:Int),(0:Int)),zTg,(((0:Int),(0:Int)),(0:Int),(0:Int)),((0:Int),(0:Int)),(0:Int),(0:Int))) (some ((((a0,a1),false,((a3.1.1,a3.1.2.1,a3.1.2.2.1,(IntKind.wrap .i64 (a3.1.2.2.2+(1:Int)))),a3.2),a4),(a5,a6),a7,a8,a9),((a10,a11),a12,a13,a14),(a15,a16,a17),a2,((zTg,((0:Int),(0:Int),(0:Int)),((0:Int),(0:Int)),(0:Int),(0:Int)),zTg,(((0:Int),(0:Int)),(0:Int),(0:Int)),((0:Int),(0:Int)),(0:Int),(0:Int)),((((IntKind.wrap .i64 (a3.1.2.2.2+(1:Int))),(0:Int),(0:Int)),((1:Int),(1:Int)),(0:Int),(0:Int)),((0:Int),(0:Int),(0:Int)),((0:Int),(0:Int)),(0:Int),(0:Int)),zTg,(((0:Int),(0:Int)),(0:Int),(0:Int)),((0:Int),(0:Int)),(0:Int),(0:Int)))) (fun v6=>(cnd v6.1.1.2.1 (bd (α:=AV) o21 (fun v8=>(some (((v6.1.1.1,v6.1.1.2.2.1,v6.1.1.2.2.2,v6.1.2.1.1),(v6.2.1.2.1,v6.2.1.2.2.1),v6.2.1.2.2.2,v6.2.2.1.1,v6.2.2.1.2.1),((v6.2.2.1.2.2,v6.2.2.2.1),v6.2.2.2.2.1,v6.2.2.2.2.2,v8.1.1),v8.1.2,v8.2)))) (some (((v6.1.1.1,v6.1.1.2.2.1,v6.1.1.2.2.2,v6.1.2.1.1),(v6.2.1.2.1,v6.2.1.2.2.1),v6.2.1.2.2.2,v6.2.2.1.1,v6.2.2.1.2.1),((v6.2.2.1.2.2,v6.2.2.2.1),v6.2.2.2.2.1,v6.2.2.2.2.2,v6.1.2.1.2),(v6.1.2.2.1,v6.1.2.2.2.1),v6.1.2.2.2.2,v6.2.1.1))))) (fun v9=>(cnd v9.2.1.1.2.1.1.2.1.1 (bd (α:=AO) (o22 v9.2.1.2.2.2 v9.2.2.1.1 v9.2.2.1.2 v9.2.2.2.1 v9.2.2.2.2.1 v9.2.2.2.2.2) (fun v10=>(some (Sum.inl (v9.1,(v9.2.1.1,v9.2.1.2.1,v9.2.1.2.2.1,v10.1.1.1),(v10.1.1.2,v10.1.2.1),v10.1.2.2,v10.2.2))))) (some (Sum.inl v9)))))) (fun v11=>(sm v11 (fun v12=>(bd (α:=AH ⊕ Bw) (cnd v12.2.1.1.2.1.1.1.1.2 (bd (α:=Cv) (cnd v12.2.1.1.2.1.1.1.2.2 (some (((v12.1.1.1.1,v12.1.1.1.2,true),(v12.1.1.2.1,v12.1.1.2.2.1),v12.1.1.2.2.2,v12.2.1.1.2),((v12.2.1.2.1,v12.2.1.2.2.1),v12.2.1.2.2.2,v12.2.2.1.1),(v12.2.2.1.2,v12.2.2.2.1),v12.2.2.2.2)) (some (((v12.1.1.1.1,v12.1.1.1.2,false),(v12.1.1.2.1,v12.1.1.2.2.1),v12.1.1.2.2.2,v12.2.1.1.2),((v12.2.1.2.1,v12.2.1.2.2.1),v12.2.1.2.2.2,v12.2.2.1.1),(v12.2.2.1.2,v12.2.2.2.1),v12.2.2.2.2))) DM) (bd (α:=Bw) (bd (α:=DN) (cnd v12.2.1.1.2.1.1.1.2.2 (some (((v12.1.1.1,false,v12.1.1.2.1,v12.1.1.2.2.1),(v12.1.1.2.2.2,v12.1.2.1.1),v12.1.2.1.2,v12.1.2.2.1,v12.1.2.2.2.1),((v12.1.2.2.2.2,v12.2.1.1.1),v12.2.1.1.2,v12.2.1.2.1,v12.2.1.2.2.1),(v12.2.1.2.2.2,v12.2.2.1),v12.2.2.2)) (some (((v12.1.1.1,false,v12.1.1.2.1,v12.1.1.2.2.1),(v12.1.1.2.2.2,v12.1.2.1.1),v12.1.2.1.2,v12.1.2.2.1,v12.1.2.2.2.1),((v12.1.2.2.2.2,v12.2.1.1.1),v12.2.1.1.2,v12.2.1.2.1,v12.2.1.2.2.1),(v12.2.1.2.2.2,v12.2.2.1),v12.2.2.2))) FC) FD)) (fun v24=>(sm v24 De Cw)))) (fun v13=>(bd (α:=Bb ⊕ AH) (cnd v13.2.2.1.2.1.1.1.1.2 (bd (α:=BR) (cnd v13.2.2.1.2.1.1.1.2.2 (some (((v13.1.1.1,v13.1.1.2.1),true,v13.1.1.2.2),v13.1.2.1,v13.2.2.1.2,v13.2.2.2)) (some (((v13.1.1.1,v13.1.1.2.1),false,v13.1.1.2.2),v13.1.2.1,v13.2.2.1.2,v13.2.2.2))) DO) (bd (α:=AH) (bd (α:=BQ) (cnd v13.2.2.1.2.1.1.1.2.2 (some (((v13.1.1.1,v13.1.1.2.1,false),(v13.1.1.2.2,v13.1.2.1.1),v13.1.2.1.2,v13.1.2.2.1),((v13.1.2.2.2,v13.2.1.1),v13.2.1.2),v13.2.2)) (some (((v13.1.1.1,v13.1.1.2.1,false),(v13.1.1.2.2,v13.1.2.1.1),v13.1.2.1.2,v13.1.2.2.1),((v13.1.2.2.2,v13.2.1.1),v13.2.1.2),v13.2.2))) FG) (fun v35=>(cnd v35.1.2.2.1.1.1.2.1.2 (bd (α:=AO) (o22 v35.2.1.2.1 v35.2.1.2.2 v35.2.2.1.1 v35.2.2.1.2 v35.2.2.2.1 v35.2.2.2.2) (fun v36=>(some (Sum.inr (v35.1,(v35.2.1.1,v36.1.1),v36.1.2,v36.2.2))))) (some (Sum.inr v35)))))) Cg)))))
def h9:HC:=(.s .d (.s .d (.s .d (.s .d (.s (.s .d (.b (.u 3 (.v (.s .d (.s .d (.j false [o9_s3,o9_s4] (.s (.b (.s .d (.s .d (.on ⟨[(0,.v (.c (.ptr 0 0)))],[BP,Aa,Aa,.no,.no,.no,.no,.no,.no,Au,Ab,Ad,Ap,.row (.a .y) 33,Ac]⟩ (.s (.s (.j false [o9_s0] .d) (.c (.r 6) .d)) .d) (.j false [o9_s2] (.s (.s (.j false [o9_s1] .d) (.c (.r 6) .d)) .d)))))) .d)))) (.on ⟨[(1,.v (.c (.ro .y true)))],[HU,Aa,Aa,.no,.no,.no,.no,.no,.no,Au,Ab,Ad,Ap,.row (.a .y) 33,Ac,Cu,Ab,Ad,BJ,.row (.a .y) 33,Ac]⟩ (.v (.s .d (.s .d (.j false [o9_s8,o9_s9] (.s (.b (.s .d (.s .d (.on ⟨[(1,.v (.c (.ro .y true)))],[DL,Aa,Aa,.no,.no,.no,.no,.no,.no,.no,.no,.no,.no,.no,.no,Cu,Ab,Ad,BJ,.row (.a .y) 33,Ac]⟩ (.s (.s (.j false [o9_s5] .d) (.c (.r 6) .d)) .d) (.j false [o9_s7] (.s (.s (.j false [o9_s6] .d) (.c (.r 6) .d)) .d)))))) .d)))) (.v .d .d)) (.v (.s .d (.s .d (.j false [o9_s13,o9_s14] (.s (.b (.s .d (.s .d (.on ⟨[(1,.v (.c (.ro .y true)))],[Ar,Aa,Aa,.no,.no,.no,.no,.no,.no,.no,.no,.no,.no,.no,.no]⟩ (.s (.s (.j false [o9_s10] .d) (.c (.r 6) .d)) .d) (.j false [o9_s12] (.s (.s (.j false [o9_s11] .d) (.c (.r 6) .d)) .d)))))) .d)))) (.v .d .d))))))) (.on ⟨[(1,.v (.c (.ro .y true)))],[DL,Aa,Aa,.no,.no,.no,.no,.no,.no,.no,.no,.no,.no,.no,.no,Cu,Ab,Ad,BJ,.row (.a .y) 33,Ac]⟩ (.s .d (.s .d (.s .d (.s .d (.s .d (.s .d (.s .d (.s .d (.s .d (.s .d (.s .d (.s .d (.j false [o9_s15] (.s (.s .d (.c (.j false [o9_s15] .d) .d)) .d)))))))))))))) (.on ⟨[(1,.v (.c (.ro .y true)))],[Fz,Aa,Aa,.no,.no,.no,.no,.no,.no,.no,.no,.no,.no,.no,.no,Da,BB,Ab,Ad,Bo,Ab,Ad,FA,.row (.a .y) 33,Ac,.row (.a .y) 33,Ac]⟩ (.s .d (.s .d (.s .d (.s .d (.s .d (.s .d (.s .d (.s .d (.s .d (.s .d (.s .d (.s .d (.j false [o9_s16] (.s (.s .d (.c (.j false [o9_s16] .d) .d)) .d)))))))))))))) (.on ⟨[(1,.v (.c (.ro .y true)))],[Ar,Aa,Aa,.no,.no,.no,.no,.no,.no,.no,.no,.no,.no,.no,.no]⟩ (.s .d (.s .d (.s .d (.s .d (.s .d (.s .d (.s .d (.s .d (.s .d (.s .d (.s .d (.s .d (.j false [o9_s17] (.s (.s .d (.c (.j false [o9_s17] .d) .d)) .d)))))))))))))) (.s .d (.s .d (.s .d (.s .d (.s .d (.s .d (.s .d (.s .d (.s .d (.s .d (.s .d (.s .d (.j false [o9_s18] (.s (.s .d (.c (.j false [o9_s18] .d) .d)) .d))))))))))))))))))))))
theorem e9 (t:HV):evF (stpT Tryz.prog T168 K168) Tryz.f9 p9 r9 h9 t=(o9 t.1.1.1.1 t.1.1.1.2 t.1.1.2.1 t.1.1.2.2 t.1.2.1.1 t.1.2.1.2 t.1.2.2.1 t.1.2.2.2.1 t.1.2.2.2.2 t.2.1.1.1 t.2.1.1.2 t.2.1.2.1 t.2.1.2.2 t.2.2.1.1 t.2.2.1.2 t.2.2.2.1 t.2.2.2.2.1 t.2.2.2.2.2):=by kernel_rfl
def n9:FSp:=⟨p9,r9,fun t=>(o9 t.1.1.1.1 t.1.1.1.2 t.1.1.2.1 t.1.1.2.2 t.1.2.1.1 t.1.2.1.2 t.1.2.2.1 t.1.2.2.2.1 t.1.2.2.2.2 t.2.1.1.1 t.2.1.1.2 t.2.1.2.1 t.2.1.2.2 t.2.2.1.1 t.2.2.1.2 t.2.2.2.1 t.2.2.2.2.1 t.2.2.2.2.2)⟩
theorem fo9:FOk Tryz.prog 9 n9:=fk e9
def T169:Tbl:=(9,n9)::T168
theorem K169:TOk Tryz.prog T169:= .cons K168 fo9
def o17_s0:Sch:=⟨[(0,.v (.c (.i .i64))),(1,.v (.c (.i .i64))),(2,.v (.c (.i .i64)))],[]⟩
def p17:Sch:=⟨[(0,.v (.c (.i .i64))),(1,.v (.c (.i .i64))),(2,.v (.c (.i .i64)))],[]⟩
def r17:List Sch:=[⟨[(0,.v (.c (.b)))],[]⟩]
def o17 (a0:Int) (a1:Int) (a2:Int):Option Bool :=
 (bd (α:=(I3)) (cnd (decide (a0 < a1)) (some (a1,a0,a2)) (some (a0,a1,a2))) (fun v1=>(some (decide ((IntKind.wrap .u64 ((IntKind.wrap .u64 v1.1) - (IntKind.wrap .u64 v1.2.1)))≤(IntKind.wrap .u64 v1.2.2))))))
theorem e17 (t:I3):evF (stpT Tryz.prog T169 K169) Tryz.f17 p17 r17 (.s .d (.j false [o17_s0] .d)) t=(o17 t.1 t.2.1 t.2.2):=by kernel_rfl
def n17:FSp:=⟨p17,r17,fun t=>(o17 t.1 t.2.1 t.2.2)⟩
theorem fo17:FOk Tryz.prog 17 n17:=fk e17
def T170:Tbl:=(17,n17)::T169
theorem K170:TOk Tryz.prog T170:= .cons K169 fo17
end
structure Cp where
 number:Int
 next:Int
 cycle:Int
 asked:Bool
 wb:Int
 wh:Int
 nd:Nd
 ps:List PT
 co:Co
def Cp.h (c:Cp):(Int×Int×Int)×Bool×Int×Int:=((c.number,c.next,c.cycle),c.asked,c.wb,c.wh)
def Cp.cz (c:Cp):Int×Int:=(c.co.base,c.co.count)
structure Cp.ok (c:Cp):Prop where
 num:c.number=1∨c.number=2
 nnum:c.nd.number=c.number
 inp:c.nd.input.length≤1000
 hinp:c.nd.hd.input.length≤400
 sin:c.nd.se.in_.length≤2000
 data:∀ p∈c.ps,p.2.2.2.length≤600
 cps:c.co.ps.length≤874
 cpd:∀ x∈c.co.ps,x.length≤600
 css:c.co.ss.length≤874
 csd:∀ x∈c.co.ss,x.2.2.2.length≤2000
def newCp (k:Int):Cp:=⟨k,0,0,false,0,0,newNd k,[],noCo⟩
theorem o21_eq:o21=some (((newCp 1).h,(newCp 1).nd.e,(newCp 1).ps),(newCp 1).cz,(newCp 1).co.ps,(newCp 1).co.ss):=rfl
theorem o21v1_eq:o21v1=some (((newCp 2).h,(newCp 2).nd.e,(newCp 2).ps),(newCp 2).cz,(newCp 2).co.ps,(newCp 2).co.ss):=rfl
theorem newCp_ok {k:Int} (h:k=1∨k=2):(newCp k).ok:=⟨h,rfl,by simp [newCp,newNd],by simp [newCp,newNd,noHd],by simp [newCp,newNd,noSe],by simp [newCp],by simp [newCp,noCo],by simp [newCp,noCo],by simp [newCp,noCo],by simp [newCp,noCo]⟩
def Cp.reset (c:Cp):Cp:={ c with ps:=[],co:=noCo }
theorem reset_ok {c:Cp} (h:c.ok):c.reset.ok:=⟨h.num,h.nnum,h.inp,h.hinp,h.sin,by simp [Cp.reset],by simp [Cp.reset,noCo],by simp [Cp.reset,noCo],by simp [Cp.reset,noCo],by simp [Cp.reset,noCo]⟩
theorem o68_eq (c:Cp):o68 c.h c.nd.e c.ps c.cz c.co.ps c.co.ss=some (((c.reset.h,c.reset.nd.e),c.reset.ps,c.reset.cz),(c.co.ps,c.co.ss),c.reset.co.ps,c.reset.co.ss):=rfl
def Cp.drop (c:Cp):Cp:=({ c with next:=0,nd:=c.nd.drop }:Cp).reset
theorem o22_eq (c:Cp):o22 c.h c.nd.e c.ps c.cz c.co.ps c.co.ss=some (((c.drop.h,c.drop.nd.e),c.drop.ps,c.drop.cz),(c.co.ps,c.co.ss),c.drop.co.ps,c.drop.co.ss):=rfl
theorem drop_ok {c:Cp} (h:c.ok):c.drop.ok:=reset_ok (c:={ c with next:=0,nd:=c.nd.drop }) ⟨h.num,h.nnum,h.inp,h.hinp,h.sin,h.data,h.cps,h.cpd,h.css,h.csd⟩
theorem o71_eq (k:Int) (c:Cp) (x:(Int×Int)×List (List UInt8)×List ST):o71 k c.h c.nd.e c.ps x=some (cond (c.next != k) 8 0):=cnd_some _ _ _
theorem o46_eq (c:Cp) (x:(Int×Int)×List (List UInt8)×List ST):o46 c.h c.nd.e c.ps x=some (c.nd.role==1):=rfl
def Cp.w (c:Cp):Int×Int:=cond (c.nd.role==1) c.co.want (0,0)
def Cp.began (c:Cp) (cy:Int) (x:Nd×Frm×Int):Cp×Frm×Int:=cond (x.2.2==0) ({ c with next:=1,cycle:=cy,asked:=false,nd:=x.1 },x.2) ({ c with nd:=x.1 },x.2)
def Cp.hello (c:Cp) (cy:Int) (inp:List UInt8):Cp×Frm×Int:=cond (c.next != 0) (c,noFrm,8) (c.began cy (c.nd.hello cy inp c.w.1 c.w.2))
def cE {α:Type} (r:α) (c:Cp):=((r,c.h,c.nd.e),(c.ps,c.cz),c.co.ps,c.co.ss)
theorem o25_eq {c:Cp} {cy:Int} {inp:List UInt8} (hi:inp.length≤100000000):o25 cy inp c.h c.nd.e c.ps c.cz c.co.ps c.co.ss=some (cE ((((c.hello cy inp).2.1.label,(c.hello cy inp).2.1.from_),(c.hello cy inp).2.1.cycle,(c.hello cy inp).2.1.payload,(c.hello cy inp).2.2)) (c.hello cy inp).1):=by
 unfold o25 Cp.hello
 refine (bdS (o71_eq 0 c _)).trans ?_
 cases h0:(c.next != 0) with
 | true=>rfl
 | false =>
  rw [cond_false,cond_false]
  refine (cndF (by decide)).trans ?_
  refine (bdS (t:=(((cy,inp),c.h,c.nd.e,c.ps),(c.cz,c.co.ps),c.co.ss,((0,0),0,[]),c.w)) ?_).trans ?_
  ·refine (bdS (o46_eq c _)).trans ?_
   unfold Cp.w
   cases (c.nd.role==1) <;> rfl
  refine (bdS (o73_eq (n:=c.nd) (base:=c.w.1) (have_:=c.w.2) hi)).trans ?_
  generalize c.nd.hello cy inp c.w.1 c.w.2=x
  unfold Cp.began
  show bd (cnd (x.2.2==0) _ _) _=_
  cases (x.2.2==0) <;> rfl
def Cp.heard1 (c:Cp) (x:Nd×Hd×Bool×Int):Cp:=cond (x.1.role != c.nd.role) ({ c with next:=2,nd:=x.1 }:Cp).reset { c with next:=2,nd:=x.1 }
def Cp.heard2 (c:Cp) (x:Nd×Hd×Bool×Int):Cp:={ c with asked:=x.1.role==2&&(x.2.2.1&&x.2.1.role==1),wb:=x.2.1.base,wh:=x.2.1.have_ }
def Cp.heard (c:Cp) (x:Nd×Hd×Bool×Int):Cp×Int:=cond (x.2.2.2 != 0) ({ c with nd:=x.1 },x.2.2.2) ((c.heard1 x).heard2 x,0)
def Cp.hear (c:Cp) (f:Frm) (came:Bool):Cp×Int:=cond (c.next != 1) (c,8) (c.heard (c.nd.hear f came))
theorem cnd_and {α:Type} (a b c:Bool) (F:Bool→α):cnd a (cnd b (some (F c)) (some (F false))) (some (F false))=some (F (a&&(b&&c))):=by cases a <;> cases b <;> rfl
theorem o28_eq {c:Cp} {f:Frm} {came:Bool} (h:c.ok):o28 f.e came c.h c.nd.e c.ps c.cz c.co.ps c.co.ss=some (cE (c.hear f came).2 (c.hear f came).1):=by
 unfold o28 Cp.hear
 refine (bdS (o71_eq 1 c _)).trans ?_
 cases h0:(c.next != 1) with
 | true=>rfl
 | false =>
  rw [cond_false,cond_false]
  refine (cndF (by decide)).trans ?_
  refine (bdS (o44_eq c.nd)).trans ?_
  refine (bdS (o74_eq (n:=c.nd) (Nat.le_trans h.hinp (by decide)))).trans ?_
  generalize c.nd.hear f came=x
  unfold Cp.heard
  refine (cnd_ext (c:=x.2.2.2 != 0) (F:=fun z:Cp×Int=>cE z.2 z.1) (X:=({ c with nd:=x.1 },x.2.2.2)) (Y:=((c.heard1 x).heard2 x,0)) rfl ?_)
  refine (bdS (o44_eq x.1)).trans ?_
  refine (bdS (t:=(((x.2.2.1,x.1.role),(c.heard1 x).h,(c.heard1 x).nd.e,(c.heard1 x).ps),((c.heard1 x).cz,(x.2.1.role,x.2.1.steps),x.2.1.base,x.2.1.have_),(c.heard1 x).co.ps,(c.heard1 x).co.ss,x.2.1.input)) ?_).trans ?_
  ·refine cnd_ext (c:=x.1.role != c.nd.role) (F:=fun z:Cp=>(((x.2.2.1,x.1.role),z.h,z.nd.e,z.ps),(z.cz,(x.2.1.role,x.2.1.steps),x.2.1.base,x.2.1.have_),z.co.ps,z.co.ss,x.2.1.input)) ?_ rfl
   exact bdS (o68_eq { c with next:=2,nd:=x.1 })
  ·generalize c.heard1 x=d
   refine (bdS (cnd_and (x.1.role==2) x.2.2.1 (x.2.1.role==1) (fun b:Bool=>(((d.h.1,b,x.2.1.base,x.2.1.have_),d.nd.e,d.ps),d.cz,d.co.ps,d.co.ss)))).trans ?_
   rfl
def Cp.share (c:Cp):Cp×Frm×Bool×Int:=cond (c.next != 2) (c,noFrm,false,8) ({ c with next:=3,nd:=c.nd.share.1 },c.nd.share.2)
def fE (x:Cp×Frm×Bool×Int):=(((((x.2.1.label,x.2.1.from_),x.2.1.cycle,x.2.2.1,x.2.2.2),x.1.h),x.1.nd.e,x.1.ps),(x.1.cz,x.1.co.ps),x.1.co.ss,x.2.1.payload)
theorem o30_eq {c:Cp} (h:c.ok):o30 c.h c.nd.e c.ps c.cz c.co.ps c.co.ss=some (fE c.share):=by
 unfold o30 Cp.share
 refine (bdS (o71_eq 2 c _)).trans ?_
 cases h0:(c.next != 2) with
 | true=>rfl
 | false =>
  rw [cond_false,cond_false]
  refine (cndF (by decide)).trans ?_
  exact bdS (o75_eq (by rw [h.nnum];exact h.num))
def Cp.tell (c:Cp) (t:Tg):Cp×Frm×Bool×Int:=cond (c.next != 4) (c,noFrm,false,8) ({ c with next:=5,nd:=(c.nd.tell t).1 },(c.nd.tell t).2)
theorem o35_eq {c:Cp} {t:Tg}:o35 t.e c.h c.nd.e c.ps c.cz c.co.ps c.co.ss=some (fE (c.tell t)):=by
 unfold o35 Cp.tell
 refine (bdS (o71_eq 4 c _)).trans ?_
 cases h0:(c.next != 4) with
 | true=>rfl
 | false =>
  rw [cond_false,cond_false]
  refine (cndF (by decide)).trans ?_
  exact bdS (o79_eq c.nd t)
def Cp.judge (c:Cp) (f:Frm) (came:Bool):Cp×Int×Int:=cond (c.next != 5) (c,0,8) ({ c with next:=6,nd:=(c.nd.judge f came).1 },(c.nd.judge f came).2)
theorem o37_eq {c:Cp} {f:Frm} {came:Bool}:o37 f.e came c.h c.nd.e c.ps c.cz c.co.ps c.co.ss=some (cE (c.judge f came).2 (c.judge f came).1):=by
 unfold o37 Cp.judge
 refine (bdS (o71_eq 5 c _)).trans ?_
 cases h0:(c.next != 5) with
 | true=>rfl
 | false =>
  rw [cond_false,cond_false]
  refine (cndF (by decide)).trans ?_
  exact bdS (o80_eq c.nd f came)
theorem cnd_and4 {α:Type} (a b c d e:Bool) (F:Bool→α):cnd a (cnd b (cnd c (cnd d (some (F e)) (some (F false))) (some (F false))) (some (F false))) (some (F false))=some (F (a&&(b&&(c&&(d&&e))))):=by cases a <;> cases b <;> cases c <;> cases d <;> rfl
theorem cnd_and3 {α:Type} (a b c d:Bool) (F:Bool→α):cnd a (cnd b (cnd c (some (F d)) (some (F false))) (some (F false))) (some (F false))=some (F (a&&(b&&(c&&d)))):=by cases a <;> cases b <;> cases c <;> rfl
def Cp.setFits (c:Cp) (f:Frm) (came:Bool):Bool:=came&&(f.label==2&&(f.from_==IntKind.u8.wrap (IntKind.i64.wrap (3 - c.number))&&(f.cycle==c.cycle&&(getSet c.cycle f.payload).2==0)))
def Cp.noted (c:Cp) (f:Frm) (came:Bool):Cp:={ c with co:=c.co.note (getSet c.cycle f.payload).1 (c.setFits f came) }
def Cp.stepped (c:Cp) (x:Nd×Se×Bool×Int) (f:Frm) (came:Bool):Cp:=cond (x.1.role==1) ((cond (c.nd.role==1) { c with next:=4,nd:=x.1 } ({ c with next:=4,nd:=x.1 }:Cp).reset).noted f came) { c with next:=4,nd:=x.1 }
def Cp.step (c:Cp) (f:Frm) (came:Bool):Cp×Se×Bool×Int:=cond (c.next != 3) (c,noSe,false,8) (c.stepped (c.nd.step f came) f came,(c.nd.step f came).2)
def sE (x:Cp×Se×Bool×Int):=(((((x.2.1.steps,x.2.1.cycle),x.2.1.fresh,x.2.2.1,x.2.2.2),x.1.h),x.1.nd.e,x.1.ps),(x.1.cz,x.2.1.in_),x.1.co.ps,x.1.co.ss)
theorem o32_eq {c:Cp} {f:Frm} {came:Bool} (h:c.ok) (hf:f.payload.length≤1100):o32 f.e came c.h c.nd.e c.ps c.cz c.co.ps c.co.ss=some (sE (c.step f came)):=by
 unfold o32 Cp.step
 refine (bdS (o71_eq 3 c _)).trans ?_
 cases h0:(c.next != 3) with
 | true=>rfl
 | false =>
  rw [cond_false,cond_false]
  refine (cndF (by decide)).trans ?_
  refine (bdS (o46_eq { c with next:=4 } _)).trans ?_
  refine (bdS (o76_eq (n:=c.nd) (f:=f) (came:=came) (Nat.le_trans hf (by decide)) (Nat.le_trans h.sin (by decide)))).trans ?_
  generalize c.nd.step f came=x
  refine (bdS (t:=((fun z:Cp=>(((x.2.2.1,x.2.2.2),z.h,z.nd.e,z.ps),(z.cz,false,x.2.1.steps,x.2.1.cycle,x.2.1.fresh),x.2.1.in_,z.co.ps,z.co.ss)) (c.stepped x f came))) ?_).trans rfl
  refine (bdS (o46_eq { c with next:=4,nd:=x.1 } _)).trans ?_
  unfold Cp.stepped
  refine cnd_ext (c:=x.1.role==1) (F:=fun z:Cp=>(((x.2.2.1,x.2.2.2),z.h,z.nd.e,z.ps),(z.cz,false,x.2.1.steps,x.2.1.cycle,x.2.1.fresh),x.2.1.in_,z.co.ps,z.co.ss)) ?_ rfl
  refine (bdS (t:=((fun z:Cp=>(((came,x.2.2.1,x.2.2.2),z.h,z.nd.e,z.ps),(z.cz,((f.label,f.from_),f.cycle,f.payload),false),((x.2.1.steps,x.2.1.cycle,x.2.1.fresh),z.co.ps),z.co.ss,x.2.1.in_)) (cond (c.nd.role==1) { c with next:=4,nd:=x.1 } ({ c with next:=4,nd:=x.1 }:Cp).reset))) ?_).trans ?_
  ·exact cndN_ext (c:=c.nd.role==1) (F:=fun z:Cp=>(((came,x.2.2.1,x.2.2.2),z.h,z.nd.e,z.ps),(z.cz,((f.label,f.from_),f.cycle,f.payload),false),((x.2.1.steps,x.2.1.cycle,x.2.1.fresh),z.co.ps),z.co.ss,x.2.1.in_)) rfl (bdS (o68_eq { c with next:=4,nd:=x.1 }))
  have hs:(cond (c.nd.role==1) { c with next:=4,nd:=x.1 } ({ c with next:=4,nd:=x.1 }:Cp).reset).co.ss.length≤1000000:=by
   cases (c.nd.role==1) with
   | true=>exact Nat.le_trans h.css (by decide)
   | false=>exact Nat.zero_le _
  generalize (cond (c.nd.role==1) { c with next:=4,nd:=x.1 } ({ c with next:=4,nd:=x.1 }:Cp).reset)=d at hs
  refine (bdS (o77_eq (cycle:=d.cycle) (p:=f.payload) (Nat.le_trans hf (by decide)))).trans ?_
  refine (bdS (cnd_and4 came (f.label==2) (f.from_==IntKind.u8.wrap (IntKind.i64.wrap (3 - d.number))) (f.cycle==d.cycle) ((getSet d.cycle f.payload).2==0) (fun b:Bool=>(((x.2.2.1,x.2.2.2,b),(d.h,d.nd.e),d.ps,d.cz),(false,(x.2.1.steps,x.2.1.cycle,x.2.1.fresh),(getSet d.cycle f.payload).1.steps,(getSet d.cycle f.payload).1.cycle,(getSet d.cycle f.payload).1.fresh),(d.co.ps,d.co.ss),x.2.1.in_,(getSet d.cycle f.payload).1.in_)))).trans ?_
  refine (bdS (o78_eq (c:=d.co) (x:=(getSet d.cycle f.payload).1) (came:=d.setFits f came) (Nat.le_trans (getSet_len _ _) (Nat.le_trans hf (by decide))) hs)).trans ?_
  rfl
def Cp.served (c:Cp) (x:List PT×PT×Int):Cp×Frm×Bool×Int:=cond (x.2.2 != 0) ({ c with next:=7,ps:=x.1 },noFrm,false,x.2.2) ({ c with next:=7,ps:=x.1 },⟨4,IntKind.u8.wrap c.number,c.cycle,(encP x.2.1).2⟩,true,0)
def Cp.serve (c:Cp) (save:List UInt8):Cp×Frm×Bool×Int:=cond (c.next != 6) (c,noFrm,false,8) (cond c.asked (c.served (Go.Proofs.YtpleflcfaecojaaGreat.serve c.ps c.wb c.wh c.nd.steps save)) ({ c with next:=7 },noFrm,false,0))
theorem o39_eq {c:Cp} {save:List UInt8} (h:c.ok):o39 save c.h c.nd.e c.ps c.cz c.co.ps c.co.ss=some (fE (c.serve save)):=by
 unfold o39 Cp.serve
 refine (bdS (o71_eq 6 c _)).trans ?_
 cases h0:(c.next != 6) with
 | true=>rfl
 | false =>
  rw [cond_false,cond_false]
  refine (cndF (by decide)).trans ?_
  refine cndN_ext (c:=c.asked) (F:=fE) ?_ rfl
  refine (bdS (o45_eq c.nd)).trans ?_
  refine (bdS (o81_eq (base:=c.wb) (have_:=c.wh) h.data)).trans ?_
  generalize Go.Proofs.YtpleflcfaecojaaGreat.serve c.ps c.wb c.wh c.nd.steps save=x
  unfold Cp.served
  refine cnd_ext (c:=x.2.2 != 0) (F:=fE) rfl ?_
  exact bdS (o82_eq x.2.1.1 x.2.1.2.1 x.2.1.2.2.1 x.2.1.2.2.2)
abbrev JobT:Type:=Int×List UInt8×List ST
def noJob:JobT:=(0,[],[])
def Cp.pieceFits (c:Cp) (f:Frm) (came:Bool):Bool:=came&&(f.label==4&&(f.from_==IntKind.u8.wrap (IntKind.i64.wrap (3 - c.number))&&f.cycle==c.cycle))
def Cp.got (c:Cp) (f:Frm) (came:Bool):Cp:=cond (c.pieceFits f came) (cond ((decP f.payload).2==0) { c with next:=0,co:=c.co.take (decP f.payload).1 } { c with next:=0 }) { c with next:=0 }
def Cp.jobDone (c:Cp):Cp×JobT×Bool×Int :=
 cond ((c.nd.adopt (IntKind.i64.wrap (c.co.base+(c.co.ss.length:Int)))).2 != 0) ({ c with nd:=(c.nd.adopt (IntKind.i64.wrap (c.co.base+(c.co.ss.length:Int)))).1 },noJob,false,0)
  (({ c with nd:=(c.nd.adopt (IntKind.i64.wrap (c.co.base+(c.co.ss.length:Int)))).1 }:Cp).reset,(c.co.base,c.co.ps.flatten,c.co.ss),true,0)
def Cp.take (c:Cp) (f:Frm) (came:Bool):Cp×JobT×Bool×Int :=
 cond (c.next != 7) (c,noJob,false,8) (cond (c.nd.role==1) (cond (c.got f came).co.ready (c.got f came).jobDone (c.got f came,noJob,false,0)) ({ c with next:=0 },noJob,false,0))
def jE (x:Cp×JobT×Bool×Int):=((((x.2.1.1,x.2.2.1,x.2.2.2),x.1.h),x.1.nd.e,x.1.ps),(x.1.cz,x.2.1.2.1),x.2.1.2.2,x.1.co.ps,x.1.co.ss)
theorem take_bound {c:Co} (h:c.ps.length≤874) (p:PT):(c.take p).ps.length≤874:=by
 unfold Co.take
 cases hv:validP p with
 | false=>exact h
 | true =>
  obtain ⟨v1,v2,v3,v4⟩:=validP_ok hv
  rw [cond_true]
  cases hf:c.fitsP p with
  | true =>
   unfold Co.fitsP at hf
   simp only [Bool.and_eq_true,decide_eq_true_eq,beq_iff_eq] at hf
   show (c.ps++[p.2.2.2]).length≤874
   rw [List.length_append,List.length_singleton]
   omega
  | false =>
   rw [cond_false]
   cases (p.2.1==0) with
   | true=>exact (by decide:1≤874)
   | false=>exact h
theorem take_data {c:Co} (h:∀ x∈c.ps,x.length≤600) (p:PT):∀ x∈(c.take p).ps,x.length≤600:=by
 unfold Co.take
 cases hv:validP p with
 | false=>exact h
 | true =>
  obtain ⟨v1,v2,v3,v4⟩:=validP_ok hv
  rw [cond_true]
  cases hf:c.fitsP p with
  | true =>
   intro x hx
   rcases List.mem_append.1 hx with hx | hx
   ·exact h x hx
   ·rw [List.mem_singleton] at hx;subst hx;exact v4
  | false =>
   rw [cond_false]
   cases (p.2.1==0) with
   | true=>intro x hx;rw [show x=p.2.2.2 from List.mem_singleton.1 hx];exact v4
   | false=>exact h
theorem take_ss {c:Co} (p:PT):(c.take p).ss=c.ss∨(c.take p).ss=[]:=by
 unfold Co.take
 cases validP p <;> cases c.fitsP p <;> cases (p.2.1==0) <;> first | exact .inl rfl | exact .inr rfl
theorem got_ok {c:Cp} {f:Frm} {came:Bool} (h:c.ok):(c.got f came).ok:=by
 unfold Cp.got
 cases c.pieceFits f came with
 | false=>exact ⟨h.num,h.nnum,h.inp,h.hinp,h.sin,h.data,h.cps,h.cpd,h.css,h.csd⟩
 | true =>
  rw [cond_true]
  cases ((decP f.payload).2==0) with
  | false=>exact ⟨h.num,h.nnum,h.inp,h.hinp,h.sin,h.data,h.cps,h.cpd,h.css,h.csd⟩
  | true =>
   refine ⟨h.num,h.nnum,h.inp,h.hinp,h.sin,h.data,take_bound h.cps _,take_data h.cpd _,?_,?_⟩
   ·show (c.co.take (decP f.payload).1).ss.length≤874
    rcases take_ss (c:=c.co) (decP f.payload).1 with e | e
    ·rw [e];exact h.css
    ·rw [e];exact Nat.zero_le _
   ·show ∀ x∈(c.co.take (decP f.payload).1).ss,x.2.2.2.length≤2000
    rcases take_ss (c:=c.co) (decP f.payload).1 with e | e
    ·rw [e];exact h.csd
    ·rw [e];intro x hx;cases hx
theorem decP_len (p:List UInt8):(decP p).1.2.2.2.length≤p.length:=by
 unfold decP
 cases (decide ((p.length:Int) < 12)) with
 | true=>exact Nat.zero_le _
 | false =>
  rw [cond_false]
  cases validP (rawP p) with
  | true=>show (p.drop 12).length≤p.length;rw [List.length_drop];omega
  | false=>exact Nat.zero_le _
theorem o83_eq {c:Cp} {f:Frm} {came:Bool} (h:c.ok) (hf:f.payload.length≤1100):o83 f.e came c.h c.nd.e c.ps c.cz c.co.ps c.co.ss=some (jE (c.take f came)):=by
 unfold o83 Cp.take
 refine (bdS (o71_eq 7 c _)).trans ?_
 cases h0:(c.next != 7) with
 | true=>rfl
 | false =>
  rw [cond_false,cond_false]
  refine (cndF (by decide)).trans ?_
  refine (bdS (o46_eq { c with next:=0 } _)).trans ?_
  refine cndN_ext (c:=c.nd.role==1) (F:=jE) ?_ rfl
  refine (bdS (t:=((fun z:Cp=>((z.h,z.nd.e,z.ps),z.cz,z.co.ps,z.co.ss)) (c.got f came))) ?_).trans ?_
  ·refine (bdS (cnd_and3 came (f.label==4) (f.from_==IntKind.u8.wrap (IntKind.i64.wrap (3 - c.number))) (f.cycle==c.cycle) (fun b:Bool=>(((b,(c.number,0,c.cycle),c.asked,c.wb,c.wh),c.nd.e,c.ps),(c.cz,c.co.ps),c.co.ss,f.e)))).trans ?_
   unfold Cp.got Cp.pieceFits
   refine cnd_ext (c:=came&&(f.label==4&&(f.from_==IntKind.u8.wrap (IntKind.i64.wrap (3 - c.number))&&f.cycle==c.cycle))) (F:=fun z:Cp=>((z.h,z.nd.e,z.ps),z.cz,z.co.ps,z.co.ss)) ?_ rfl
   refine (bdS (o125_eq (p:=f.payload) (Nat.le_trans hf (by decide)))).trans ?_
   refine cnd_ext (c:=(decP f.payload).2==0) (F:=fun z:Cp=>((z.h,z.nd.e,z.ps),z.cz,z.co.ps,z.co.ss)) ?_ rfl
   exact bdS (o126_eq (c:=c.co) (decP f.payload).1.1 (decP f.payload).1.2.1 (decP f.payload).1.2.2.1 (decP f.payload).1.2.2.2 (Nat.le_trans (decP_len _) (Nat.le_trans hf (by decide))) (Nat.le_trans h.cps (by decide)))
  have hg:(c.got f came).ok:=got_ok h
  generalize c.got f came=d at hg
  refine (bdS (o127_eq (c:=d.co) (Nat.le_trans hg.css (by decide)) (fun x hx=>Nat.le_trans (hg.csd x hx) (by decide)) (Nat.le_trans hg.cps (by decide)) (fun x hx=>Nat.le_trans (hg.cpd x hx) (by decide)))).trans ?_
  cases hr:d.co.ready with
  | false=>rfl
  | true =>
   rw [cond_true,cond_true]
   unfold Cp.jobDone
   refine (bdS (t:=(((((d.nd.adopt (IntKind.i64.wrap (d.co.base+(d.co.ss.length:Int)))).2 != 0),d.h),(d.nd.adopt (IntKind.i64.wrap (d.co.base+(d.co.ss.length:Int)))).1.e,d.ps,d.cz),(d.co.base,d.co.ps),d.co.ss,d.co.ps.flatten,d.co.ss)) ((bdS (o128_eq d.nd (IntKind.i64.wrap (d.co.base+(d.co.ss.length:Int))))).trans rfl)).trans ?_
   generalize d.nd.adopt (IntKind.i64.wrap (d.co.base+(d.co.ss.length:Int)))=y
   refine cnd_ext (c:=y.2 != 0) (F:=jE) rfl ?_
   exact bdS (o68_eq { d with nd:=y.1 })
end Go.Proofs.YtpleflcfaecojaaGreat
