/-
What functions compute, printed by wip/h/py. Conditions: each theorem's own.
-/
import Derived.Test.YtpleflcfaecojaaGreatM12
namespace Go.Proofs.YtpleflcfaecojaaGreat
set_option linter.unusedVariables false
set_option linter.unusedSimpArgs false
set_option maxRecDepth 100000
open Go.RowKit
noncomputable section
def BK:BSh:= .cells 105 [.ifc 60 (.ptr 2 0),.ifc 60 (.ptr 3 0),.cst (.pointer none),.ptr 4 0,.ro .y true,.i .i64,.i .i64,.i .i64,.i .i64,.i .i64,.i .u8,.i .u8,.i .u8,.i .i64,.i .i64,.i .i64,.i .i64]
def Uz (e:Ag) (f:I3) (g:I3) (h:(I3)×Bool×I2) (i:Ae) (j:List (Int×Int×Int×Bt)) (k:I2) (l:List Bt) (m:List (Int×I4)) (c:Ar) (d:B2):Option Dn :=
 (bd (o28 c.2 d.2 h i j k l m) (fun b=>(some (((e,f),g,b.1.2),(b.2.1.1,b.2.1.2,c),d,b.2.2))))
def Anr:Tbl:=(27,⟨⟨[(0,.v (.c (.ic .i64 (1)))),(1,.v (.c (.ptr 0 0))),(2,.v (.c (.ptr 10 0))),(3,.v (.c (.ptr 11 0)))],[.cells 30 [.ptr 1 0],BK,Aa,Aa,Ap,Ab,Ad,Ax,.row (.a .y) 33,Ac,Al,.cells 34 [.b,.b]]⟩,[⟨[(0,.tup [])],[.cells 30 [.ptr 1 0],BK,Aa,Aa,Ap,Ab,Ad,Dm,.no,.no,Al,.cells 34 [.b,.b],.row (.a .y) 33,Ac]⟩],fun t=>(Uz t.1.1.1 t.1.1.2 t.1.2.1 t.1.2.2.1 t.1.2.2.2 t.2.1.1 t.2.1.2.1 t.2.1.2.2 t.2.2.1 t.2.2.2.1 t.2.2.2.2)⟩)::Anp
theorem AqV:TK Anr:=kc AqU Tryz.f27 (.r 2) fun t=>by kernel_rfl
def Kj (b:Ag) (c:I3) (d:I3) (e:(I3)×Bool×I2) (f:Ae) (g:List (Int×Int×Int×Bt)) (h:I2) (i:List Bt) (j:List (Int×I4)) (k:Ar) (l:B2):Option Dn :=
 (bd (Uz b c d e f g h i j k l) (fun m=>(some m)))
def Akh:HC:=(.s .d (.b (.u 3 (.v .d (.v .d (.v .d .d))))))
def Ans:Tbl:=(26,⟨⟨[(0,.v (.c (.ptr 0 0))),(1,Oy)],[AK,Aa,Aa,Ak,Ab,Ad,Am,.row (.a .y) 33,Ac,.cells 30 [.ptr 0 0],Al,.cells 34 [.b,.b]]⟩,[⟨[(0,.tup [])],[AK,Aa,Aa,Ak,Ab,Ad,Dm,.no,.no,.cells 30 [.ptr 0 0],Al,.cells 34 [.b,.b],.row (.a .y) 33,Ac]⟩],fun t=>(Kj t.1.1.1 t.1.1.2 t.1.2.1 t.1.2.2.1 t.1.2.2.2 t.2.1.1 t.2.1.2.1 t.2.1.2.2 t.2.2.1 t.2.2.2.1 t.2.2.2.2)⟩)::Anr
theorem AqW:TK Ans:=kc AqV Tryz.f26 Akh fun t=>by kernel_rfl
def UA (c:Ag) (d:I3) (e:I3) (f:(I3)×Bool×I2) (g:Ae) (h:List (Int×Int×Int×Bt)) (i:I2) (j:List Bt) (k:List (Int×I4)):Option Ey :=
 (bd (o30 f g h i j k) (fun b=>(some ((((b.1.1.1.1,b.1.1.1.2.1,b.1.1.1.2.2.1),c),d,e,b.1.1.2),(b.1.2.1,b.1.2.2,b.2.1.1),b.2.1.2,b.2.2))))
def Ant:Tbl:=(29,⟨⟨[(0,.v (.c (.ic .i64 (1)))),(1,.v (.c (.ptr 0 0)))],[.cells 30 [.ptr 1 0],BK,Aa,Aa,Ap,Ab,Ad,Ax,.row (.a .y) 33,Ac]⟩,[⟨[(0,GY)],[.cells 30 [.ptr 1 0],BK,Aa,Aa,Ap,Ab,Ad,Ax,.row (.a .y) 33,Ac,.row .y 5]⟩],fun t=>(UA t.1.1.1 t.1.1.2 t.1.2.1 t.1.2.2 t.2.1.1 t.2.1.2 t.2.2.1 t.2.2.2.1 t.2.2.2.2)⟩)::Ans
theorem AqX:TK Ant:=kc AqW Tryz.f29 .d fun t=>by kernel_rfl
def We:Sch:=⟨[(0,.v (.c (.ptr 0 0))),(1,.v (.c (.ic .i64 (1)))),(3,.v (.c (.cap (.fn 29) (.ptr 9 0)))),(6,.v (.c (.ptr 10 0))),(8,.v (.c (.ptr 11 0))),(9,.v (.c (.ptr 12 0))),(15,.v (.c (.ic .i64 (1))))],[AK,Aa,Aa,Ak,Ab,Ad,Am,.row (.a .y) 33,Ac,.cells 30 [.ptr 0 0],Ao,Al,.cells 34 [.b,.b]]⟩
def Kk (d:Aq) (g:Ag) (h:I3) (i:I3) (j:(I3)×Bool×I2) (k:Ae) (l:List (Int×Int×Int×Bt)) (m:I2) (n:List Bt) (o:List (Int×I4)):Option GZ :=
 (bd (α:=Ha) (bd (UA g h i j k l m n o) (fun b=>(cnd (!b.1.1.1.2.2) (some (((b.1.1.2,b.1.2.1,b.1.2.2.1),b.1.2.2.2,b.2.1.1,b.2.1.2.1),(b.2.1.2.2,b.2.2.1,b.2.2.2.1),d,((((0:Int),(0:Int)),(0:Int),([]:Bt)),((0:Int),(0:Int)),(0:Int),([]:Bt)),false,false)) (bd (o69 (b.1.1.1.1,b.1.1.1.2.1,b.2.2.2.2)) (fun f=>(cnd (f.1 != (0:Int)) (some (((b.1.1.2,b.1.2.1,b.1.2.2.1),b.1.2.2.2,b.2.1.1,b.2.1.2.1),(b.2.1.2.2,b.2.2.1,b.2.2.2.1),d,((((0:Int),(0:Int)),(0:Int),([]:Bt)),((0:Int),(0:Int)),(0:Int),([]:Bt)),false,false)) (bd (o70 f.2 (d.2.1.2.2.2,d.2.2.1.1) (2:Int) (2:Int) b.1.1.2.1.2.2.2) (fun e=>(some (((b.1.1.2,b.1.2.1,b.1.2.2.1),b.1.2.2.2,b.2.1.1,b.2.1.2.1),(b.2.1.2.2,b.2.2.1,b.2.2.2.1),d,((e.1,e.2.1,e.2.2.1),((0:Int),(0:Int)),(0:Int),([]:Bt)),e.2.2.2,false)))))))))) (fun c=>(some (((((c.2.2.2.1.1.1,c.2.2.2.1.1.2.1,c.2.2.2.1.1.2.2,c.2.2.2.1.2.1.1),(c.2.2.2.1.2.1.2,c.2.2.2.1.2.2.1),c.2.2.2.1.2.2.2,c.2.2.2.2),c.1.1.1),c.1.1.2.1,c.1.1.2.2,c.1.2.1),c.1.2.2,c.2.1))))
def Aki:HC:=(.s .d (.s (.s .d (.b (.u 3 (.v .d (.v (.s .d (.s .d (.j false [We] .d))) (.v .d .d)))))) .d))
def Anu:Tbl:=(23,⟨⟨[(0,.v (.c (.ptr 0 0))),(1,.v (.c (.ic .i64 (1)))),(2,Bo),(3,.v (.c (.cap (.fn 29) (.ptr 9 0))))],[AK,Aa,Aa,Ak,Ab,Ad,Am,.row (.a .y) 33,Ac,.cells 30 [.ptr 0 0]]⟩,[⟨[(0,Ch)],[AK,Aa,Aa,Ak,Ab,Ad,Am,.row (.a .y) 33,Ac,.cells 30 [.ptr 0 0]]⟩],fun t=>(Kk t.1.1.1 t.1.1.2 t.1.2.1 t.1.2.2.1 t.1.2.2.2 t.2.1.1 t.2.1.2 t.2.2.1 t.2.2.2.1 t.2.2.2.2)⟩)::Ant
theorem AqY:TK Anu:=kc AqX Tryz.f23 Aki fun t=>by kernel_rfl
def AaE:Sch:=⟨[(0,.v (.c (.ic .i64 (1)))),(1,.v (.c (.ptr 0 0))),(4,.v (.c (.ptr 12 0))),(5,.v (.c (.ptr 13 0))),(6,.v (.c (.ptr 14 0))),(8,.v (.c (.ptr 15 0)))],[.cells 30 [.ptr 1 0],BK,Aa,Aa,Ap,Ab,Ad,CK,.no,.no,Al,.cells 34 [.b,.b],.cells 34 [.b,.b],Af,Ao,OI,.row (.a .y) 33,Ac,.row .y 5]⟩
def UB (e:Ag) (h:I3) (i:I3) (m:(I3)×Bool×I2) (n:Ae) (o:List (Int×Int×Int×Bt)) (p:I2) (q:List Bt) (r:List (Int×I4)) (f:Ar) (g:B2) (j:B2) (k:Aj) (l:Aq):Option Hb :=
 (bd (o32 f.2 g.2 m n o p q r) (fun b=>(cnd (!b.1.1.1.2.2.1) (some (((e,h,i),(b.1.1.2,b.1.2.1),b.1.2.2,b.2.1.1),(f,g,j),(k,l),b.2.2)) (bd (α:=OJ) (cnd b.1.1.1.2.1 (bd (o33 e.1.1.1) (fun s=>(bd (o179 s i) (fun u=>(some ((((e,h),u.2,b.1.1.2),b.1.2,b.2.1.1,f),((g,j),k,l),((b.1.1.1.1.1,b.1.1.1.1.2,b.1.1.1.2.1),b.2.2.1),b.2.2.2,b.2.1.2)))))) (some ((((e,h),i,b.1.1.2),b.1.2,b.2.1.1,f),((g,j),k,l),((b.1.1.1.1.1,b.1.1.1.1.2,b.1.1.1.2.1),b.2.2.1),b.2.2.2,b.2.1.2))) (fun c=>(bd (o181 c.2.2.1.1.2.1 c.2.2.2.2 c.1.1.2.1) (fun d=>(some (((c.1.1.1.1,c.1.1.1.2,d.2),(c.1.1.2.2,c.1.2.1.1),c.1.2.1.2,c.1.2.2.1),(c.1.2.2.2,c.2.1.1.1,c.2.1.1.2.1,true),((c.2.1.2.1.1,(d.1.1,((lxorK .i64 d.1.2.1.1 c.2.1.2.2.1.1.2.2.2),d.1.2.1.2),d.1.2.2),c.2.1.2.1.2.2),c.2.1.2.2),c.2.2.1.2,c.2.2.2.1)))))))))
def Anv:HC:=(.s (.r 4) (.s .d (.j false [AaE] (.s (.s .d (.c (.r 1) .d)) .d))))
def Anw:Tbl:=(31,⟨⟨[(0,.v (.c (.ic .i64 (1)))),(1,.v (.c (.ptr 0 0))),(2,.v (.c (.ptr 10 0))),(3,.v (.c (.ptr 11 0))),(4,.v (.c (.ptr 12 0))),(5,.v (.c (.ptr 13 0))),(6,.v (.c (.ptr 14 0)))],[.cells 30 [.ptr 1 0],BK,Aa,Aa,Ap,Ab,Ad,Ax,.row (.a .y) 33,Ac,Al,.cells 34 [.b,.b],.cells 34 [.b,.b],Af,Ao]⟩,[⟨[(0,.tup [])],[.cells 30 [.ptr 1 0],BK,Aa,Aa,Ap,Ab,Ad,Bm,.no,.no,Al,.cells 34 [.b,.b],.cells 34 [.b,.b],Af,Ao,.row (.a .y) 33,Ac]⟩],fun t=>(UB t.1.1.1 t.1.1.2.1 t.1.1.2.2 t.1.2.1.1 t.1.2.1.2 t.1.2.2.1 t.1.2.2.2 t.2.1.1 t.2.1.2.1 t.2.1.2.2 t.2.2.1.1 t.2.2.1.2 t.2.2.2.1 t.2.2.2.2)⟩)::Anu
theorem AqZ:TK Anw:=kc AqY Tryz.f31 Anv fun t=>by kernel_rfl
def Kl (b:Ag) (c:I3) (d:I3) (e:(I3)×Bool×I2) (f:Ae) (g:List (Int×Int×Int×Bt)) (h:I2) (i:List Bt) (j:List (Int×I4)) (k:Ar) (l:B2) (m:B2) (n:Aj) (o:Aq):Option Hb :=
 (bd (UB b c d e f g h i j k l m n o) (fun p=>(some p)))
def Akj:HC:=(.s .d (.b (.u 3 (.v .d (.v .d (.v .d .d))))))
def Anx:Tbl:=(26,⟨⟨[(0,.v (.c (.ptr 0 0))),(1,OK)],[AK,Aa,Aa,Ak,Ab,Ad,Am,.row (.a .y) 33,Ac,.cells 30 [.ptr 0 0],Al,.cells 34 [.b,.b],.cells 34 [.b,.b],Af,Ao]⟩,[⟨[(0,.tup [])],[AK,Aa,Aa,Ak,Ab,Ad,Bm,.no,.no,.cells 30 [.ptr 0 0],Al,.cells 34 [.b,.b],.cells 34 [.b,.b],Af,Ao,.row (.a .y) 33,Ac]⟩],fun t=>(Kl t.1.1.1 t.1.1.2.1 t.1.1.2.2 t.1.2.1.1 t.1.2.1.2 t.1.2.2.1 t.1.2.2.2 t.2.1.1 t.2.1.2.1 t.2.1.2.2 t.2.2.1.1 t.2.2.1.2 t.2.2.2.1 t.2.2.2.2)⟩)::Anw
theorem Ara:TK Anx:=kc AqZ Tryz.f26 Akj fun t=>by kernel_rfl
def UC (c:Ag) (d:I3) (e:I3) (f:(I3)×Bool×I2) (g:Ae) (h:List (Int×Int×Int×Bt)) (i:I2) (j:List Bt) (k:List (Int×I4)) (l:Aj):Option Ey :=
 (bd (o35 l.2.1 f g h i j k) (fun b=>(some ((((b.1.1.1.1,b.1.1.1.2.1,b.1.1.1.2.2.1),c),d,e,b.1.1.2),(b.1.2.1,b.1.2.2,b.2.1.1),b.2.1.2,b.2.2))))
def Any:Tbl:=(34,⟨⟨[(0,.v (.c (.ic .i64 (1)))),(1,.v (.c (.ptr 0 0))),(2,.v (.c (.ptr 10 0)))],[.cells 30 [.ptr 1 0],BK,Aa,Aa,Ap,Ab,Ad,Ax,.row (.a .y) 33,Ac,Hc]⟩,[⟨[(0,ON)],[.cells 30 [.ptr 1 0],BK,Aa,Aa,Ap,Ab,Ad,Ax,.row (.a .y) 33,Ac,.no,.row .y 5]⟩],fun t=>(UC t.1.1.1 t.1.1.2 t.1.2.1 t.1.2.2.1 t.1.2.2.2 t.2.1.1 t.2.1.2 t.2.2.1 t.2.2.2.1 t.2.2.2.2)⟩)::Anx
theorem Arb:TK Any:=kc Ara Tryz.f34 (.s .d (.s (.r 2) .d)) fun t=>by kernel_rfl
def Wg:Sch:=⟨[(0,.v (.c (.ptr 0 0))),(1,.v (.c (.ic .i64 (2)))),(3,Hf),(6,.v (.c (.ptr 11 0))),(8,.v (.c (.ptr 12 0))),(9,.v (.c (.ptr 13 0))),(15,.v (.c (.ic .i64 (1))))],[AK,Aa,Aa,Ak,Ab,Ad,Am,.row (.a .y) 33,Ac,.cells 30 [.ptr 0 0],Af,Ao,Al,.cells 34 [.b,.b]]⟩
def Km (c:Aq) (g:Ag) (h:I3) (i:I3) (j:(I3)×Bool×I2) (k:Ae) (l:List (Int×Int×Int×Bt)) (m:I2) (n:List Bt) (o:List (Int×I4)) (d:Aj):Option JU :=
 (bd (α:=JV) (bd (UC g h i j k l m n o d) (fun b=>(cnd (!b.1.1.1.2.2) (some (((b.1.1.2,b.1.2.1,b.1.2.2.1),b.1.2.2.2,b.2.1.1,b.2.1.2.1),(b.2.1.2.2,b.2.2.1,b.2.2.2.1),(d,c),((((0:Int),(0:Int)),(0:Int),([]:Bt)),((0:Int),(0:Int)),(0:Int),([]:Bt)),false,false)) (bd (o69 (b.1.1.1.1,b.1.1.1.2.1,b.2.2.2.2)) (fun f=>(cnd (f.1 != (0:Int)) (some (((b.1.1.2,b.1.2.1,b.1.2.2.1),b.1.2.2.2,b.2.1.1,b.2.1.2.1),(b.2.1.2.2,b.2.2.1,b.2.2.2.1),(d,c),((((0:Int),(0:Int)),(0:Int),([]:Bt)),((0:Int),(0:Int)),(0:Int),([]:Bt)),false,false)) (bd (o70 f.2 (c.2.2.1.2.1,c.2.2.1.2.2,c.2.2.2.1.1) (3:Int) (2:Int) b.1.1.2.1.2.2.2) (fun e=>(some (((b.1.1.2,b.1.2.1,b.1.2.2.1),b.1.2.2.2,b.2.1.1,b.2.1.2.1),(b.2.1.2.2,b.2.2.1,b.2.2.2.1),(d,c),((e.1,e.2.1,e.2.2.1),((0:Int),(0:Int)),(0:Int),([]:Bt)),e.2.2.2,false)))))))))) OO)
def Akk:HC:=(.s .d (.s (.s .d (.b (.u 3 (.v .d (.v (.s .d (.s .d (.j false [Wg] .d))) (.v .d .d)))))) .d))
def Anz:Tbl:=(23,⟨⟨[(0,.v (.c (.ptr 0 0))),(1,.v (.c (.ic .i64 (2)))),(2,Bo),(3,Hf)],[AK,Aa,Aa,Ak,Ab,Ad,Am,.row (.a .y) 33,Ac,.cells 30 [.ptr 0 0],Af]⟩,[⟨[(0,Ch)],[AK,Aa,Aa,Ak,Ab,Ad,Am,.row (.a .y) 33,Ac,.cells 30 [.ptr 0 0],Af]⟩],fun t=>(Km t.1.1.1 t.1.1.2 t.1.2.1 t.1.2.2.1 t.1.2.2.2 t.2.1.1 t.2.1.2.1 t.2.1.2.2 t.2.2.1 t.2.2.2.1 t.2.2.2.2)⟩)::Any
theorem Arc:TK Anz:=kc Arb Tryz.f23 Akk fun t=>by kernel_rfl
def UD (f:Ag) (g:I3) (h:I3) (i:(I3)×Bool×I2) (j:Ae) (k:List (Int×Int×Int×Bt)) (l:I2) (m:List Bt) (n:List (Int×I4)) (d:Ar) (e:B2) (c:Aj):Option Hg :=
 (bd (o37 d.2 e.2 i j k l m n) (fun b=>(some (((f,g,h),b.1.2.1,b.1.2.2,b.2.1.1),(b.2.1.2,b.2.2),d,e,((c.1.1.1,(c.1.1.2.1.1,b.1.1.1),c.1.1.2.2),c.1.2),c.2))))
def AnA:Tbl:=(36,⟨⟨[(0,.v (.c (.ic .i64 (1)))),(1,.v (.c (.ptr 0 0))),(2,.v (.c (.ptr 10 0))),(3,.v (.c (.ptr 11 0))),(4,.v (.c (.ptr 12 0)))],[.cells 30 [.ptr 1 0],BK,Aa,Aa,Ap,Ab,Ad,Ax,.row (.a .y) 33,Ac,Al,.cells 34 [.b,.b],Af]⟩,[⟨[(0,.tup [])],[.cells 30 [.ptr 1 0],BK,Aa,Aa,Ap,Ab,Ad,Ax,.row (.a .y) 33,Ac,Al,.cells 34 [.b,.b],Af]⟩],fun t=>(UD t.1.1.1 t.1.1.2.1 t.1.1.2.2 t.1.2.1 t.1.2.2.1 t.1.2.2.2 t.2.1.1 t.2.1.2.1 t.2.1.2.2 t.2.2.1 t.2.2.2.1 t.2.2.2.2)⟩)::Anz
theorem Ard:TK AnA:=kc Arc Tryz.f36 .d fun t=>by kernel_rfl
def Kn (b:Ag) (c:I3) (d:I3) (e:(I3)×Bool×I2) (f:Ae) (g:List (Int×Int×Int×Bt)) (h:I2) (i:List Bt) (j:List (Int×I4)) (k:Ar) (l:B2) (m:Aj):Option Hg :=
 (bd (UD b c d e f g h i j k l m) (fun n=>(some n)))
def Akl:HC:=(.s .d (.b (.u 3 (.v .d (.v .d (.v .d .d))))))
def AnB:Tbl:=(26,⟨⟨[(0,.v (.c (.ptr 0 0))),(1,OS)],[AK,Aa,Aa,Ak,Ab,Ad,Am,.row (.a .y) 33,Ac,.cells 30 [.ptr 0 0],Al,.cells 34 [.b,.b],Af]⟩,[⟨[(0,.tup [])],[AK,Aa,Aa,Ak,Ab,Ad,Am,.row (.a .y) 33,Ac,.cells 30 [.ptr 0 0],Al,.cells 34 [.b,.b],Af]⟩],fun t=>(Kn t.1.1.1 t.1.1.2.1 t.1.1.2.2 t.1.2.1 t.1.2.2.1 t.1.2.2.2 t.2.1.1 t.2.1.2.1 t.2.1.2.2 t.2.2.1 t.2.2.2.1 t.2.2.2.2)⟩)::AnA
theorem Are:TK AnB:=kc Ard Tryz.f26 Akl fun t=>by kernel_rfl
def AaF:Sch:=⟨[(0,.v (.c (.ic .i64 (1)))),(1,.v (.c (.ptr 0 0))),(3,.v (.c (.ptr 10 0))),(5,.v (.c (.own 11)))],[.cells 30 [.ptr 1 0],BK,Aa,Aa,Ap,Ab,Ad,Ax,.row (.a .y) 33,Ac,Bi,.row .y 5]⟩
def UE (f:Ag) (g:I3) (d:I3) (e:(I3)×Bool×I2) (h:Ae) (i:List (Int×Int×Int×Bt)) (j:I2) (k:List Bt) (l:List (Int×I4)):Option Ey :=
 (bd (α:=OX) (cnd e.2.1 (bd (o180 d) (fun m=>(some (((f,g),d,e,h),(i,j,k),l,(((0:Int),(0:Int)),(0:Int),([]:Bt)),m)))) (some (((f,g),d,e,h),(i,j,k),l,(((0:Int),(0:Int)),(0:Int),([]:Bt)),([]:Bt)))) (fun b=>(bd (o39 b.2.2.2.2 b.1.2.2.1 b.1.2.2.2 b.2.1.1 b.2.1.2.1 b.2.1.2.2 b.2.2.1) (fun c=>(some ((((c.1.1.1.1,c.1.1.1.2.1,c.1.1.1.2.2.1),b.1.1.1),b.1.1.2,b.1.2.1,c.1.1.2),(c.1.2.1,c.1.2.2,c.2.1.1),c.2.1.2,c.2.2))))))
def AnC:Tbl:=(38,⟨⟨[(0,.v (.c (.ic .i64 (1)))),(1,.v (.c (.ptr 0 0)))],[.cells 30 [.ptr 1 0],BK,Aa,Aa,Ap,Ab,Ad,Ax,.row (.a .y) 33,Ac]⟩,[⟨[(0,GY)],[.cells 30 [.ptr 1 0],BK,Aa,Aa,Ap,Ab,Ad,Ax,.row (.a .y) 33,Ac,.row .y 5]⟩],fun t=>(UE t.1.1.1 t.1.1.2 t.1.2.1 t.1.2.2 t.2.1.1 t.2.1.2 t.2.2.1 t.2.2.2.1 t.2.2.2.2)⟩)::AnB
theorem Arf:TK AnC:=kc Are Tryz.f38 (.s .d (.s .d (.j false [AaF] .d))) fun t=>by kernel_rfl
def Wh:Sch:=⟨[(0,.v (.c (.ptr 0 0))),(1,.v (.c (.ic .i64 (3)))),(3,.v (.c (.cap (.fn 38) (.ptr 9 0)))),(6,.v (.c (.ptr 10 0))),(8,.v (.c (.ptr 11 0))),(9,.v (.c (.ptr 12 0))),(15,.v (.c (.ic .i64 (1))))],[AK,Aa,Aa,Ak,Ab,Ad,Am,.row (.a .y) 33,Ac,.cells 30 [.ptr 0 0],Ao,Al,.cells 34 [.b,.b]]⟩
def Ko (d:Aq) (g:Ag) (h:I3) (i:I3) (j:(I3)×Bool×I2) (k:Ae) (l:List (Int×Int×Int×Bt)) (m:I2) (n:List Bt) (o:List (Int×I4)):Option GZ :=
 (bd (α:=Ha) (bd (UE g h i j k l m n o) (fun b=>(cnd (!b.1.1.1.2.2) (some (((b.1.1.2,b.1.2.1,b.1.2.2.1),b.1.2.2.2,b.2.1.1,b.2.1.2.1),(b.2.1.2.2,b.2.2.1,b.2.2.2.1),d,((((0:Int),(0:Int)),(0:Int),([]:Bt)),((0:Int),(0:Int)),(0:Int),([]:Bt)),false,false)) (bd (o69 (b.1.1.1.1,b.1.1.1.2.1,b.2.2.2.2)) (fun f=>(cnd (f.1 != (0:Int)) (some (((b.1.1.2,b.1.2.1,b.1.2.2.1),b.1.2.2.2,b.2.1.1,b.2.1.2.1),(b.2.1.2.2,b.2.2.1,b.2.2.2.1),d,((((0:Int),(0:Int)),(0:Int),([]:Bt)),((0:Int),(0:Int)),(0:Int),([]:Bt)),false,false)) (bd (o70 f.2 (d.2.2.2.1.2,d.2.2.2.2) (4:Int) (2:Int) b.1.1.2.1.2.2.2) (fun e=>(some (((b.1.1.2,b.1.2.1,b.1.2.2.1),b.1.2.2.2,b.2.1.1,b.2.1.2.1),(b.2.1.2.2,b.2.2.1,b.2.2.2.1),d,((e.1,e.2.1,e.2.2.1),((0:Int),(0:Int)),(0:Int),([]:Bt)),e.2.2.2,false)))))))))) (fun c=>(some (((((c.2.2.2.1.1.1,c.2.2.2.1.1.2.1,c.2.2.2.1.1.2.2,c.2.2.2.1.2.1.1),(c.2.2.2.1.2.1.2,c.2.2.2.1.2.2.1),c.2.2.2.1.2.2.2,c.2.2.2.2),c.1.1.1),c.1.1.2.1,c.1.1.2.2,c.1.2.1),c.1.2.2,c.2.1))))
def Akm:HC:=(.s .d (.s (.s .d (.b (.u 3 (.v .d (.v (.s .d (.s .d (.j false [Wh] .d))) (.v .d .d)))))) .d))
def AnD:Tbl:=(23,⟨⟨[(0,.v (.c (.ptr 0 0))),(1,.v (.c (.ic .i64 (3)))),(2,Bo),(3,.v (.c (.cap (.fn 38) (.ptr 9 0))))],[AK,Aa,Aa,Ak,Ab,Ad,Am,.row (.a .y) 33,Ac,.cells 30 [.ptr 0 0]]⟩,[⟨[(0,Ch)],[AK,Aa,Aa,Ak,Ab,Ad,Am,.row (.a .y) 33,Ac,.cells 30 [.ptr 0 0]]⟩],fun t=>(Ko t.1.1.1 t.1.1.2 t.1.2.1 t.1.2.2.1 t.1.2.2.2 t.2.1.1 t.2.1.2 t.2.2.1 t.2.2.2.1 t.2.2.2.2)⟩)::AnC
theorem Arg:TK AnD:=kc Arf Tryz.f23 Akm fun t=>by kernel_rfl
def AaG:Sch:=⟨[(0,.v (.c (.ptr 0 0))),(1,.v (.c (.ic .i64 (1)))),(46,.v (.c (.own 9))),(47,.v (.c (.i .i64))),(48,.v (.c (.i .i64)))],[AK,Aa,Aa,Ak,Ab,Ad,Hl,.no,.no,Ac,.row (.a .y) 33,Ac]⟩
def Kp (b:Hm) :=
 (cnd (decide (b.1.1.2.1 < b.1.1.1)) (gd (decide ((0:Int)≤b.1.1.2.1∧b.1.1.2.1 < ((b.2.2.1.length:Nat):Int))) (bd (o181 (((List.getD b.2.2.1 b.1.1.2.1.toNat ((0:Int),((0:Int),(false,([]:Bt))))).2).1) ((((List.getD b.2.2.1 b.1.1.2.1.toNat ((0:Int),((0:Int),(false,([]:Bt))))).2).2).2) b.1.2.2.1) (fun c=>(some (Ctl.go (((b.1.1.1,(IntKind.wrap .i64 (b.1.1.2.1+(1:Int))),b.1.1.2.2),b.1.2.1,c.2,b.1.2.2.2),b.2)))))) (dnO (some (((b.1.1.2.2,b.1.2.1),b.1.2.2),(b.2.1.1,b.2.1.2.1),b.2.1.2.2,b.2.2.2))))
def UF (h:(I2)×Int×Bt) (i:Bool) (d:Ag) (e:I3) (g:I3) (j:(I3)×Bool×I2) (k:Ae) (l:List (Int×Int×Int×Bt)) (m:I2) (n:List Bt) (o:List (Int×I4)):Option OD :=
 (bd (o83 h i j k l m n o) (fun b=>(cnd (!b.1.1.1.2.1) (some (((d,e),g,b.1.1.2),b.1.2,b.2.1.1,b.2.2.2)) (bd (o179 b.2.1.2 g) (fun f=>(cnd (f.1 != (0:Int)) (bd (o22 b.1.1.2 b.1.2.1 b.1.2.2 b.2.1.1 b.2.2.2.1 b.2.2.2.2) (fun c=>(some (((d,e),f.2,c.1.1.1),(c.1.1.2,c.1.2.1),c.1.2.2,c.2.2)))) (loopO (σ:=Hm) fuelN Kp (((((b.2.2.1.length:Nat):Int),(0:Int),d),e,f.2,b.1.1.2),(b.1.2.1,b.1.2.2,b.2.1.1),b.2.2))))))))
def AnE:HC:=(.s .d (.s (.r 5) (.s .d (.s .d (.s .d (.b (.l [AaG] .d)))))))
def AnF:Tbl:=(41,⟨⟨[(0,.v (.c (.ptr 0 0))),(1,.v (.c (.ic .i64 (1)))),(2,BI),(3,.v (.c (.b)))],[AK,Aa,Aa,Ak,Ab,Ad,Am,.row (.a .y) 33,Ac]⟩,[⟨[(0,.tup [])],[AK,Aa,Aa,Ak,Ab,Ad,Be,.no,.no,.row (.a .y) 33,Ac]⟩],fun t=>(UF t.1.1.1 t.1.1.2 t.1.2.1 t.1.2.2.1 t.1.2.2.2 t.2.1.1 t.2.1.2.1 t.2.1.2.2 t.2.2.1 t.2.2.2.1 t.2.2.2.2)⟩)::AnD
theorem Arh:TK AnF:=kc Arg Tryz.f41 AnE fun t=>by kernel_rfl
def UG (e:Ag) (f:I3) (g:I3) (h:(I3)×Bool×I2) (i:Ae) (j:List (Int×Int×Int×Bt)) (k:I2) (l:List Bt) (m:List (Int×I4)) (c:Ar) (d:B2):Option Dn :=
 (bd (UF c.2 d.2 e f g h i j k l m) (fun b=>(some ((b.1.1,b.1.2.1,b.1.2.2,b.2.1.1),(b.2.1.2,b.2.2.1,c),d,b.2.2.2))))
def AnG:Tbl:=(40,⟨⟨[(0,.v (.c (.ic .i64 (1)))),(1,.v (.c (.ptr 0 0))),(2,.v (.c (.ptr 10 0))),(3,.v (.c (.ptr 11 0)))],[.cells 30 [.ptr 1 0],BK,Aa,Aa,Ap,Ab,Ad,Ax,.row (.a .y) 33,Ac,Al,.cells 34 [.b,.b]]⟩,[⟨[(0,.tup [])],[.cells 30 [.ptr 1 0],BK,Aa,Aa,Ap,Ab,Ad,Dm,.no,.no,Al,.cells 34 [.b,.b],.row (.a .y) 33,Ac]⟩],fun t=>(UG t.1.1.1 t.1.1.2 t.1.2.1 t.1.2.2.1 t.1.2.2.2 t.2.1.1 t.2.1.2.1 t.2.1.2.2 t.2.2.1 t.2.2.2.1 t.2.2.2.2)⟩)::AnF
theorem Ari:TK AnG:=kc Arh Tryz.f40 (.r 2) fun t=>by kernel_rfl
def Kq (b:Ag) (c:I3) (d:I3) (e:(I3)×Bool×I2) (f:Ae) (g:List (Int×Int×Int×Bt)) (h:I2) (i:List Bt) (j:List (Int×I4)) (k:Ar) (l:B2):Option Dn :=
 (bd (UG b c d e f g h i j k l) (fun m=>(some m)))
def Akn:HC:=(.s .d (.b (.u 3 (.v .d (.v .d (.v .d .d))))))
def AnH:Tbl:=(26,⟨⟨[(0,.v (.c (.ptr 0 0))),(1,Pg)],[AK,Aa,Aa,Ak,Ab,Ad,Am,.row (.a .y) 33,Ac,.cells 30 [.ptr 0 0],Al,.cells 34 [.b,.b]]⟩,[⟨[(0,.tup [])],[AK,Aa,Aa,Ak,Ab,Ad,Dm,.no,.no,.cells 30 [.ptr 0 0],Al,.cells 34 [.b,.b],.row (.a .y) 33,Ac]⟩],fun t=>(Kq t.1.1.1 t.1.1.2 t.1.2.1 t.1.2.2.1 t.1.2.2.2 t.2.1.1 t.2.1.2.1 t.2.1.2.2 t.2.2.1 t.2.2.2.1 t.2.2.2.2)⟩)::AnG
theorem Arj:TK AnH:=kc Ari Tryz.f26 Akn fun t=>by kernel_rfl
def AaH:BSh:= .lent [.ifc 60 (.ptr 2 0),.ifc 60 (.ptr 3 0),.cst (.pointer none),.ptr 4 0,.ro .y false,.i .i64,.i .i64,.i .i64,.i .i64,.i .i64,.i .u8,.i .u8,.i .u8,.i .i64,.i .i64,.i .i64,.i .i64]
def UH (j:Ag) (k:I3) (l:I3) (d:(I3)×Bool×I2) (e:Ae) (f:List (Int×Int×Int×Bt)) (g:AE) (b:Aj):Option Aj :=
 (bd (o43 d e f g) (fun c=>(bd (o44 c) (fun h=>(bd (o45 c) (fun i=>(some ((((b.1.1.1.1,b.1.1.1.2.1,h),b.1.1.2.1,b.1.1.2.2.1,i),b.1.2),b.2))))))))
def AnI:Tbl:=(42,⟨⟨[(0,.v (.c (.ic .i64 (1)))),(1,.v (.c (.ptr 0 0))),(2,.v (.c (.ptr 8 0)))],[.lent [.ptr 1 0],AaH,.lent [.i .u64,.i .i64,.i .i64],.lent [.i .u64,.i .i64,.i .i64],Hn,AG,AX,AP,Af]⟩,[⟨[(0,.tup [])],[.no,.no,.no,.no,.no,.no,.no,.no,Af]⟩],fun t=>(UH t.1.1.1 t.1.1.2 t.1.2.1 t.1.2.2 t.2.1.1 t.2.1.2 t.2.2.1 t.2.2.2)⟩)::AnH
theorem Ark:TK AnI:=kc Arj Tryz.f42 .d fun t=>by kernel_rfl
def Kr (b:Ag) (c:I3) (d:I3) (e:(I3)×Bool×I2) (f:Ae) (g:List (Int×Int×Int×Bt)) (h:I2) (i:List Bt) (j:List (Int×I4)) (k:Aj):Option He :=
 (bd (UH b c d e f g (h,i,j) k) (fun l=>(some (((b,c),d,e,f),(g,h),i,j,l))))
def Ako:HC:=(.s .d (.b (.u 3 (.v .d (.v .d (.v .d .d))))))
def AnJ:Tbl:=(26,⟨⟨[(0,.v (.c (.ptr 0 0))),(1,Pi)],[AK,Aa,Aa,Ak,Ab,Ad,Am,.row (.a .y) 33,Ac,.cells 30 [.ptr 0 0],Af]⟩,[⟨[(0,.tup [])],[AK,Aa,Aa,Ak,Ab,Ad,Am,.row (.a .y) 33,Ac,.cells 30 [.ptr 0 0],Af]⟩],fun t=>(Kr t.1.1.1 t.1.1.2 t.1.2.1 t.1.2.2.1 t.1.2.2.2 t.2.1.1 t.2.1.2 t.2.2.1 t.2.2.2.1 t.2.2.2.2)⟩)::AnI
theorem Arl:TK AnJ:=kc Ark Tryz.f26 Ako fun t=>by kernel_rfl
def DT:BSh:= .cells 105 [.ifc 60 (.ptr 1 0),.ifc 60 (.ptr 2 0),.cst (.pointer none),.ptr 9 0,.ro .y true,.i .i64,.i .i64,.i .i64,.i .i64,.i .i64,.i .u8,.i .u8,.i .u8,.i .i64,.i .i64,.i .i64,.i .i64]
def Ks:BSh:= .cells 105 [.ifc 60 (.ptr 1 0),.ifc 60 (.ptr 2 0),.ptr 19 0,.ptr 9 0,.ro .y true,.i .i64,.i .i64,.i .i64,.i .i64,.i .i64,.i .u8,.i .u8,.i .u8,.i .i64,.i .i64,.i .i64,.i .i64]
def Cy:BSh:= .cells 137 [.i .i64,.ptr 20 0,.ptr 21 0,.ptr 22 0,.i .i64,.i .i64,.b,.i .i64,.i .i64]
def PH:BSh:= .cells 105 [.ifc 60 (.ptr 1 0),.ifc 60 (.ptr 2 0),.ptr 19 0,.cst (.pointer none),.ro .y true,.i .i64,.i .i64,.i .i64,.i .i64,.i .i64,.i .u8,.i .u8,.i .u8,.i .i64,.i .i64,.i .i64,.i .i64]
def PI:BSh:= .cells 105 [.ifc 60 (.ptr 1 0),.ifc 60 (.ptr 2 0),.ptr 19 0,.ptr 20 0,.ro .y true,.i .i64,.i .i64,.i .i64,.i .i64,.i .i64,.i .u8,.i .u8,.i .u8,.i .i64,.i .i64,.i .i64,.i .i64]
def PJ:BSh:= .cells 137 [.i .i64,.ptr 21 0,.ptr 22 0,.ptr 23 0,.i .i64,.i .i64,.b,.i .i64,.i .i64]
def PK:BSh:= .cells 137 [.i .i64,.ptr 24 0,.ptr 25 0,.ptr 26 0,.i .i64,.i .i64,.b,.i .i64,.i .i64]
def PL:BSh:= .cells 232 [.i .i64,.i .i64,.own 27,.own 28]
def PM:BSh:= .cells 232 [.i .i64,.i .i64,.own 29,.own 30]
def PN:BSh:= .cells 105 [.ifc 60 (.ptr 1 0),.ifc 60 (.ptr 2 0),.cst (.pointer none),.ptr 19 0,.ro .y true,.i .i64,.i .i64,.i .i64,.i .i64,.i .i64,.i .u8,.i .u8,.i .u8,.i .i64,.i .i64,.i .i64,.i .i64]
def AaI:BSh:= .cells 105 [.ifc 60 (.ptr 1 0),.ifc 60 (.ptr 2 0),.ptr 18 0,.cst (.pointer none),.ro .y true,.i .i64,.i .i64,.i .i64,.i .i64,.i .i64,.i .u8,.i .u8,.i .u8,.i .i64,.i .i64,.i .i64,.i .i64]
def PO:BSh:= .cells 137 [.i .i64,.ptr 19 0,.ptr 20 0,.ptr 21 0,.i .i64,.i .i64,.b,.i .i64,.i .i64]
def AaJ:BSh:= .cells 105 [.ifc 60 (.ptr 1 0),.ifc 60 (.ptr 2 0),.ptr 18 0,.ptr 19 0,.ro .y true,.i .i64,.i .i64,.i .i64,.i .i64,.i .i64,.i .u8,.i .u8,.i .u8,.i .i64,.i .i64,.i .i64,.i .i64]
def AaK:BSh:= .cells 137 [.i .i64,.ptr 23 0,.ptr 24 0,.ptr 25 0,.i .i64,.i .i64,.b,.i .i64,.i .i64]
def AaL:BSh:= .cells 232 [.i .i64,.i .i64,.own 26,.own 27]
def AaM:BSh:= .cells 232 [.i .i64,.i .i64,.own 28,.own 29]
def AaN:BSh:= .cells 105 [.ifc 60 (.ptr 1 0),.ifc 60 (.ptr 2 0),.cst (.pointer none),.ptr 18 0,.ro .y true,.i .i64,.i .i64,.i .i64,.i .i64,.i .i64,.i .u8,.i .u8,.i .u8,.i .i64,.i .i64,.i .i64,.i .i64]
def BL:SSh:= .v (.agg [.i .i64,.i .u8,.i .u8,.i .u8,.i .u8,.i .i64,.i .i64,.i .u8,.i .u8,.i .u8,.i .i64,.i .i64,.i .i64,.i .i64,.i .u8,.i .u8,.i .u8,.i .i64,.i .i64,.i .i64,.i .i64,.i .i64,.i .u8,.i .u8,.i .u8,.i .i64,.i .i64,.i .i64,.i .i64])
def AaO:BSh:= .cells 105 [.ifc 60 (.ptr 1 0),.ifc 60 (.ptr 2 0),.cst (.pointer none),.ptr 15 0,.ro .y true,.i .i64,.i .i64,.i .i64,.i .i64,.i .i64,.i .u8,.i .u8,.i .u8,.i .i64,.i .i64,.i .i64,.i .i64]
def FG:BSh:= .cells 137 [.i .i64,.ptr 16 0,.ptr 17 0,.ptr 18 0,.i .i64,.i .i64,.b,.i .i64,.i .i64]
def Dp:BSh:= .cells 232 [.i .i64,.i .i64,.own 19,.own 20]
def Kt:BSh:= .cells 105 [.ifc 60 (.ptr 1 0),.ifc 60 (.ptr 2 0),.ptr 15 0,.cst (.pointer none),.ro .y true,.i .i64,.i .i64,.i .i64,.i .i64,.i .i64,.i .u8,.i .u8,.i .u8,.i .i64,.i .i64,.i .i64,.i .i64]
def PP:BSh:= .cells 105 [.ifc 60 (.ptr 1 0),.ifc 60 (.ptr 2 0),.ptr 15 0,.ptr 16 0,.ro .y true,.i .i64,.i .i64,.i .i64,.i .i64,.i .i64,.i .u8,.i .u8,.i .u8,.i .i64,.i .i64,.i .i64,.i .i64]
def Hs:BSh:= .cells 137 [.i .i64,.ptr 17 0,.ptr 18 0,.ptr 19 0,.i .i64,.i .i64,.b,.i .i64,.i .i64]
def PQ:BSh:= .cells 232 [.i .i64,.i .i64,.own 25,.own 26]
abbrev AO:Type:=((Aj×Ag)×(I3)×(I3)×(I3)×Bool×I2)×(Ae×List (Int×Int×Int×Bt))×(I2)×List Bt×List (Int×I4)
abbrev BB:Type:=(((Aj×Ag)×(I3)×I3)×(((I3)×Bool×I2)×(I3)×Bool×I2)×Ae×List (Int×Int×Int×Bt))×(((I2)×Ae)×(List (Int×Int×Int×Bt))×I2)×(List Bt×List (Int×I4))×List Bt×List (Int×I4)
abbrev Ht:Type:=(((Bt×Bt)×Ag×(I3)×I3)×(((I3)×Bool×I2)×Ae)×(List (Int×Int×Int×Bt))×(I2)×List Bt)×(((List (Int×I4))×Aq)×Aj×Aj×(I3)×Bool×I2)×(Ae×List (Int×Int×Int×Bt))×(I2)×List Bt×List (Int×I4)
abbrev Hu:Type:=((Bt×Bt×Ag)×((I3)×I3)×((I3)×Bool×I2)×Ae)×((List (Int×Int×Int×Bt))×(I2)×List Bt)×((List (Int×I4))×Aq)×Aj×Aj
abbrev DU:Type:=((Bt×Bt×Bool)×(Ag×I3)×(I3)×(I3)×Bool×I2)×((Ae×List (Int×Int×Int×Bt))×(I2)×List Bt)×((List (Int×I4))×Aq)×Aj×Aj
def PR (b:DU):Option (Ht ⊕ Hu) :=
 (cnd b.1.1.2.2 (bd (α:=BQ) o21 (fun c=>(cnd b.2.2.1.2.1.1.2.1.1 (bd (o22 c.1.1 c.1.2.1 c.1.2.2 c.2.1 c.2.2.1 c.2.2.2) (fun d=>(some (Sum.inl ((((b.1.1.1,b.1.1.2.1),b.1.2.1.1,b.1.2.1.2,b.1.2.2.1),(b.1.2.2.2,b.2.1.1.1),b.2.1.1.2,b.2.1.2),(b.2.2.1,b.2.2.2.1,b.2.2.2.2,d.1.1.1),(d.1.1.2,d.1.2.1),d.1.2.2,d.2.2))))) (some (Sum.inl ((((b.1.1.1,b.1.1.2.1),b.1.2.1.1,b.1.2.1.2,b.1.2.2.1),(b.1.2.2.2,b.2.1.1.1),b.2.1.1.2,b.2.1.2),(b.2.2.1,b.2.2.2.1,b.2.2.2.2,c.1.1),c.1.2,c.2)))))) (cnd b.2.2.1.2.1.1.2.1.1 (bd (α:=Unit) LN (fun e=>(some (Sum.inr (((b.1.1.1,b.1.1.2.1,b.1.2.1.1),(b.1.2.1.2,b.1.2.2.1),b.1.2.2.2,b.2.1.1.1),(b.2.1.1.2,b.2.1.2),b.2.2))))) (some (Sum.inr (((b.1.1.1,b.1.1.2.1,b.1.2.1.1),(b.1.2.1.2,b.1.2.2.1),b.1.2.2.2,b.2.1.1.1),(b.2.1.1.2,b.2.1.2),b.2.2)))))
abbrev AaP:Type:=(((Bt×Bt)×Bool×Ag×I3)×((I3)×(I3)×Bool×I2)×Ae×(List (Int×Int×Int×Bt))×I2)×((List Bt×List (Int×I4))×((I3)×Bool×I2)×Ae×List (Int×Int×Int×Bt))×((I2)×List Bt×List (Int×I4))×Aq×Aj×Aj
abbrev Bc:Type:=((Bt×Bt×Ag)×((I3)×I3)×Aq×Aj)×(Aj×((I3)×Bool×I2)×Ae)×((List (Int×Int×Int×Bt))×I2)×List Bt×List (Int×I4)
abbrev Ci:Type:=(((Bt×Bt)×Ag×(I3)×I3)×(Aq×Aj)×Aj×((I3)×Bool×I2)×(I3)×Bool×I2)×((Ae×List (Int×Int×Int×Bt))×(I2)×Ae×List (Int×Int×Int×Bt))×((I2)×List Bt)×(List (Int×I4))×List Bt×List (Int×I4)
abbrev FH:Type:=((Bt×Bt×Bool)×(Ag×I3)×(I3)×Aq)×((Aj×Aj)×((I3)×Bool×I2)×Ae)×((List (Int×Int×Int×Bt))×I2)×List Bt×List (Int×I4)
def Ku (b:FH):Option (Bc ⊕ Ci) :=
 (cnd b.1.1.2.2 (bd (α:=BQ) IH (fun c=>(cnd b.1.2.2.2.1.1.2.1.2 (bd (o22 c.1.1 c.1.2.1 c.1.2.2 c.2.1 c.2.2.1 c.2.2.2) (fun d=>(some (Sum.inr ((((b.1.1.1,b.1.1.2.1),b.1.2.1.1,b.1.2.1.2,b.1.2.2.1),(b.1.2.2.2,b.2.1.1.1),b.2.1.1.2,b.2.1.2.1,d.1.1.1),((b.2.1.2.2,b.2.2.1.1),b.2.2.1.2,d.1.1.2,d.1.2.1),(d.1.2.2,b.2.2.2.1),b.2.2.2.2,d.2.2))))) (some (Sum.inr ((((b.1.1.1,b.1.1.2.1),b.1.2.1.1,b.1.2.1.2,b.1.2.2.1),(b.1.2.2.2,b.2.1.1.1),b.2.1.1.2,b.2.1.2.1,c.1.1),((b.2.1.2.2,b.2.2.1.1),b.2.2.1.2,c.1.2),(c.2.1,b.2.2.2.1),b.2.2.2.2,c.2.2)))))) (cnd b.1.2.2.2.1.1.2.1.2 (bd (α:=Unit) LN (fun e=>(some (Sum.inl (((b.1.1.1,b.1.1.2.1,b.1.2.1.1),(b.1.2.1.2,b.1.2.2.1),b.1.2.2.2,b.2.1.1.1),(b.2.1.1.2,b.2.1.2),b.2.2))))) (some (Sum.inl (((b.1.1.1,b.1.1.2.1,b.1.2.1.1),(b.1.2.1.2,b.1.2.2.1),b.1.2.2.2,b.2.1.1.1),(b.2.1.1.2,b.2.1.2),b.2.2)))))
abbrev Kv:Type:=(((Bt×Bt)×Bool×Ag×I3)×((I3)×(I3)×Bool×I2)×Ae×(List (Int×Int×Int×Bt))×I2)×((List Bt×List (Int×I4))×Aq×Aj×Aj)×(((I3)×Bool×I2)×Ae×List (Int×Int×Int×Bt))×(I2)×List Bt×List (Int×I4)
def PS (b:Kv):Option Ci :=
 (cnd b.1.1.2.1 (bd (α:=BQ) IH (fun c=>(some (((b.1.1.1,b.1.1.2.2.1,b.1.1.2.2.2,b.1.2.1.1),(b.2.1.2.1,b.2.1.2.2.1),b.2.1.2.2.2,b.2.2.1.1,c.1.1),(b.2.2.1.2,b.2.2.2.1,c.1.2),(c.2.1,b.2.2.2.2.1),b.2.2.2.2.2,c.2.2)))) (some (((b.1.1.1,b.1.1.2.2.1,b.1.1.2.2.2,b.1.2.1.1),(b.2.1.2.1,b.2.1.2.2.1),b.2.1.2.2.2,b.2.2.1.1,b.1.2.1.2),(b.2.2.1.2,b.2.2.2.1,b.1.2.2.1,b.1.2.2.2.1),(b.1.2.2.2.2,b.2.2.2.2.1),b.2.2.2.2.2,b.2.1.1)))
def PU (b:Ci):Option (Bc ⊕ Ci) :=
 (cnd b.1.2.1.1.1.1.2.1.2 (bd (o22 b.1.2.2.2.2 b.2.1.2.2.1 b.2.1.2.2.2 b.2.2.1.1 b.2.2.2.2.1 b.2.2.2.2.2) (fun c=>(some (Sum.inr ((b.1.1,b.1.2.1,b.1.2.2.1,b.1.2.2.2.1,c.1.1.1),(b.2.1.1,b.2.1.2.1,c.1.1.2,c.1.2.1),(c.1.2.2,b.2.2.1.2),b.2.2.2.1,c.2.2))))) (some (Sum.inr b)))
abbrev Hv:Type:=((Ag×I3)×(I3)×Aj×Aj)×(((I3)×Bool×I2)×Ae×List (Int×Int×Int×Bt))×(I2)×List Bt×List (Int×I4)
def PV (e:Bc) (b:He):Option (((Aj×Ag)×(I3)×I3) ⊕ AO ⊕ AO ⊕ BB) :=
 (bd (o20 b.2.2.2.2.1.1.2.1.1 b.2.2.2.2.1.1.2.1.2) (fun d=>(bd (α:=Hv) (cnd (d != (0:Int)) (bd (α:=Hv) (sm (isZ (IntKind.wrap .i64 (d - (1:Int))) 0) (fun _=>(bd (o19 b.1.1.1.2 b.2.2.2.2.1.2 (b.1.1.1.1.1.2,b.1.1.1.1.2.1,b.1.1.1.1.2.2.1)) (fun f=>(some ((((b.1.1.1.1,f),b.1.1.2),b.1.2.1,e.1.2.2.2,b.2.2.2.2.1,b.2.2.2.2.2.1,((d,b.2.2.2.2.2.2.1.1.2),b.2.2.2.2.2.2.1.2),b.2.2.2.2.2.2.2),(b.1.2.2.1,b.1.2.2.2,b.2.1.1),b.2.1.2,b.2.2.1,b.2.2.2.1))))) (fun _=>(sm (isZ (IntKind.wrap .i64 (d - (1:Int))) 1) (fun _=>(bd (o19 b.1.1.1.2 b.2.2.2.2.2.1 (b.1.1.1.1.1.2,b.1.1.1.1.2.1,b.1.1.1.1.2.2.1)) (fun g=>(some ((((b.1.1.1.1,g),b.1.1.2),b.1.2.1,e.1.2.2.2,b.2.2.2.2.1,b.2.2.2.2.2.1,((d,b.2.2.2.2.2.2.1.1.2),b.2.2.2.2.2.2.1.2),b.2.2.2.2.2.2.2),(b.1.2.2.1,b.1.2.2.2,b.2.1.1),b.2.1.2,b.2.2.1,b.2.2.2.1))))) (fun _=>none)))) (fun h=>(some h))) (some ((b.1.1,b.1.2.1,e.1.2.2.2,b.2.2.2.2.1,b.2.2.2.2.2.1,((d,b.2.2.2.2.2.2.1.1.2),b.2.2.2.2.2.2.1.2),b.2.2.2.2.2.2.2),(b.1.2.2.1,b.1.2.2.2,b.2.1.1),b.2.1.2,b.2.2.1,b.2.2.2.1))) (fun c=>(some (Sum.inr (Sum.inr (Sum.inl ((((c.1.2.2.2.1,c.1.2.2.2.2.1,((c.1.2.2.2.2.2.1.1.1,c.1.1.1.2.1.1),c.1.1.1.2.1.2),c.1.1.1.2.2),c.1.1.1),c.1.1.2,c.1.2.1,c.2.1.1),c.2.1.2,c.2.2)))))))))
def Hw (f:Bc):Option (((Aj×Ag)×(I3)×I3) ⊕ AO ⊕ AO ⊕ BB) :=
 (bd (o23 f.1.2.2.1 f.1.1.2.2 f.1.2.1.1 f.1.2.1.2 f.2.1.2.1 f.2.1.2.2 f.2.2.1.1 f.2.2.1.2 f.2.2.2.1 f.2.2.2.2 (f.1.1.1,f.1.1.2.1)) (fun c=>(bd (o26 c.1.1.2 c.1.2.1 c.1.2.2.1 c.1.2.2.2 c.2.1.1 c.2.1.2.1 c.2.1.2.2 c.2.2.1 c.2.2.2.1 ((c.1.1.1.1.1,c.1.1.1.1.2.1,c.1.1.1.1.2.2.1),(c.1.1.1.1.2.2.2,c.1.1.1.2.1.1),c.1.1.1.2.1.2,c.1.1.1.2.2.1) c.1.1.1.2.2.2) (fun i=>(bd (OE f.1.2.2.1 i.1.1.1 i.1.1.2 i.1.2.1 i.1.2.2.1 i.1.2.2.2 i.2.1.1 i.2.1.2.1 i.2.2.2.1 i.2.2.2.2) (fun d=>(bd (OL d.1.1.2 d.1.2.1 d.1.2.2.1 d.1.2.2.2 d.2.1.1 d.2.1.2 d.2.2.1 d.2.2.2.1 d.2.2.2.2 ((d.1.1.1.1.1,d.1.1.1.1.2.1,d.1.1.1.1.2.2.1),(d.1.1.1.1.2.2.2,d.1.1.1.2.1.1),d.1.1.1.2.1.2,d.1.1.1.2.2.1) d.1.1.1.2.2.2 (false,false) f.2.1.1 f.1.2.2.1) (fun g=>(bd (OP g.2.2.1.2 g.1.1.1 g.1.1.2.1 g.1.1.2.2 g.1.2.1.1 g.1.2.1.2 g.1.2.2.1 g.1.2.2.2 g.2.2.2.1 g.2.2.2.2 g.2.2.1.1) (fun b=>(bd (OT b.1.1.2 b.1.2.1 b.1.2.2.1 b.1.2.2.2 b.2.1.1 b.2.1.2.1 b.2.1.2.2 b.2.2.1 b.2.2.2.1 ((b.1.1.1.1.1,b.1.1.1.1.2.1,b.1.1.1.1.2.2.1),(b.1.1.1.1.2.2.2,b.1.1.1.2.1.1),b.1.1.1.2.1.2,b.1.1.1.2.2.1) b.1.1.1.2.2.2 b.2.2.2.2) (fun h=>(bd (OY g.2.2.1.2 h.1.1.1 h.1.1.2.1 h.1.1.2.2 h.1.2.1 h.1.2.2.1 h.1.2.2.2 h.2.1.1 h.2.1.2.1 h.2.1.2.2) (fun e=>(bd (Ph e.1.1.2 e.1.2.1 e.1.2.2.1 e.1.2.2.2 e.2.1.1 e.2.1.2 e.2.2.1 e.2.2.2.1 e.2.2.2.2 ((e.1.1.1.1.1,e.1.1.1.1.2.1,e.1.1.1.1.2.2.1),(e.1.1.1.1.2.2.2,e.1.1.1.2.1.1),e.1.1.1.2.1.2,e.1.1.1.2.2.1) e.1.1.1.2.2.2) (fun j=>(bd (Pj j.1.1.1 j.1.1.2 j.1.2.1 j.1.2.2.1 j.1.2.2.2 j.2.1.1 j.2.1.2.1 j.2.2.2.1 j.2.2.2.2 h.2.2.2.2) (PV f))))))))))))))))))
abbrev PW:Type:=(((Ag×I3)×(I3)×Aj)×(Aj×(I3)×Bool×I2)×((I3)×Bool×I2)×Ae)×(((List (Int×Int×Int×Bt))×I2)×Ae×List (Int×Int×Int×Bt))×((I2)×List Bt)×(List (Int×I4))×List Bt×List (Int×I4)
def FI (d:Ci):Option (((Aj×Ag)×(I3)×I3) ⊕ AO ⊕ AO ⊕ BB) :=
 (bd (TS d.1.2.1.1 d.1.1.2.1 d.1.1.2.2.1 d.1.1.2.2.2 d.1.2.2.2.1 d.2.1.1.1 d.2.1.1.2 d.2.1.2.1 d.2.2.1.2 d.2.2.2.1 d.1.2.2.2.2 d.2.1.2.2.1 d.2.1.2.2.2 d.2.2.1.1 d.2.2.2.2.1 d.2.2.2.2.2 d.1.1.1) (fun e=>(bd (TV e.1.1.1.2 e.1.1.2.1 e.1.1.2.2 e.1.2.1.1 e.1.2.1.2 e.1.2.2.1 e.1.2.2.2 e.2.1.1.1 e.2.1.1.2 e.2.1.2.1 e.2.1.2.2 e.2.2.1.1 e.2.2.1.2 e.2.2.2.1 e.2.2.2.2.1 ((e.1.1.1.1.1.1,e.1.1.1.1.1.2.1,e.1.1.1.1.1.2.2.1),(e.1.1.1.1.1.2.2.2,e.1.1.1.1.2.1.1),e.1.1.1.1.2.1.2,e.1.1.1.1.2.2.1) e.1.1.1.1.2.2.2) (fun k=>(bd (TY d.1.2.1.1 k.1.1.1.1 k.1.1.1.2 k.1.1.2.1 k.1.1.2.2 k.1.2.1.1 k.1.2.1.2 k.1.2.2.1 k.2.2.1.2 k.2.2.2.1 k.1.2.2.2 k.2.1.1.1 k.2.1.1.2 k.2.1.2.1 k.2.2.2.2.1 k.2.2.2.2.2) (fun f=>(bd (Ub f.1.1.1.2 f.1.1.2.1 f.1.1.2.2 f.1.2.1.1 f.1.2.1.2 f.1.2.2.1 f.1.2.2.2 f.2.1.1.1 f.2.1.1.2 f.2.1.2.1 f.2.1.2.2 f.2.2.1.1 f.2.2.1.2 f.2.2.2.1 f.2.2.2.2 ((f.1.1.1.1.1.1,f.1.1.1.1.1.2.1,f.1.1.1.1.1.2.2.1),(f.1.1.1.1.1.2.2.2,f.1.1.1.1.2.1.1),f.1.1.1.1.2.1.2,f.1.1.1.1.2.2.1) f.1.1.1.1.2.2.2 (false,false) d.1.2.2.1 d.1.2.1.1) (fun i=>(bd (Ue i.2.2.1.1 i.1.1.1.1 i.1.1.1.2 i.1.1.2.1 i.1.1.2.2.1 i.1.1.2.2.2 i.1.2.1.1 i.1.2.1.2 i.2.2.1.2 i.2.2.2.1 i.1.2.2.1 i.1.2.2.2.1 i.1.2.2.2.2 i.2.1.1.1 i.2.2.2.2.1 i.2.2.2.2.2 i.2.1.2.2.2) (fun c=>(bd (Uh c.1.1.1.2 c.1.1.2.1 c.1.1.2.2 c.1.2.1.1 c.1.2.1.2 c.1.2.2.1 c.1.2.2.2 c.2.1.1.1 c.2.1.1.2 c.2.1.2.1 c.2.1.2.2 c.2.2.1.1 c.2.2.1.2 c.2.2.2.1 c.2.2.2.2.1 ((c.1.1.1.1.1.1,c.1.1.1.1.1.2.1,c.1.1.1.1.1.2.2.1),(c.1.1.1.1.1.2.2.2,c.1.1.1.1.2.1.1),c.1.1.1.1.2.1.2,c.1.1.1.1.2.2.1) c.1.1.1.1.2.2.2 c.2.2.2.2.2) (fun j=>(bd (Uk i.2.2.1.1 j.1.1.1.1 j.1.1.1.2 j.1.1.2.1 j.1.1.2.2 j.1.2.1.1 j.1.2.1.2 j.1.2.2.1 j.1.2.2.2.1 j.1.2.2.2.2 j.2.1.1.1 j.2.1.1.2 j.2.1.2.1 j.2.1.2.2 j.2.2.1.1 j.2.2.1.2) (fun g=>(bd (Uq g.1.1.1.2 g.1.1.2.1 g.1.1.2.2 g.1.2.1.1 g.1.2.1.2 g.1.2.2.1 g.1.2.2.2 g.2.1.1.1 g.2.1.1.2 g.2.1.2.1 g.2.1.2.2 g.2.2.1.1 g.2.2.1.2 g.2.2.2.1 g.2.2.2.2 ((g.1.1.1.1.1.1,g.1.1.1.1.1.2.1,g.1.1.1.1.1.2.2.1),(g.1.1.1.1.1.2.2.2,g.1.1.1.1.2.1.1),g.1.1.1.1.2.1.2,g.1.1.1.1.2.2.1) g.1.1.1.1.2.2.2) (fun l=>(bd (Ut l.1.1.1.1 l.1.1.1.2 l.1.1.2.1 l.1.1.2.2 l.1.2.1.1 l.1.2.1.2 l.1.2.2.1 l.2.2.1.2 l.2.2.2.1 l.1.2.2.2 l.2.1.1.1 l.2.1.1.2 l.2.1.2.1 l.2.2.2.2.1 l.2.2.2.2.2 j.2.2.2.2.2) (fun b=>(bd (o20 b.2.2.2.2.1.1.2.1.1 b.2.2.2.2.1.1.2.1.2) (fun m=>(bd (α:=PW) (cnd (m != (0:Int)) (bd (α:=PW) (sm (isZ (IntKind.wrap .i64 (m - (1:Int))) 0) (fun _=>(bd (o19 b.1.1.1.1.2 b.2.2.2.2.1.2 (b.1.1.1.1.1.1.2,b.1.1.1.1.1.2.1,b.1.1.1.1.1.2.2.1)) (fun n=>(some (((((b.1.1.1.1.1,n),b.1.1.1.2),b.1.1.2.1,d.1.2.1.2),((b.2.2.2.2.1,b.2.2.2.2.2.1,((m,b.2.2.2.2.2.2.1.1.2),b.2.2.2.2.2.2.1.2),b.2.2.2.2.2.2.2),b.1.1.2.2),b.2.1.1.2,b.1.2.1.1),((b.1.2.1.2,b.1.2.2.1),b.2.1.2),(b.2.2.1.1,b.1.2.2.2),b.2.1.1.1,b.2.2.1.2,b.2.2.2.1))))) (fun _=>(sm (isZ (IntKind.wrap .i64 (m - (1:Int))) 1) (fun _=>(bd (o19 b.1.1.1.1.2 b.2.2.2.2.2.1 (b.1.1.1.1.1.1.2,b.1.1.1.1.1.2.1,b.1.1.1.1.1.2.2.1)) (fun o=>(some (((((b.1.1.1.1.1,o),b.1.1.1.2),b.1.1.2.1,d.1.2.1.2),((b.2.2.2.2.1,b.2.2.2.2.2.1,((m,b.2.2.2.2.2.2.1.1.2),b.2.2.2.2.2.2.1.2),b.2.2.2.2.2.2.2),b.1.1.2.2),b.2.1.1.2,b.1.2.1.1),((b.1.2.1.2,b.1.2.2.1),b.2.1.2),(b.2.2.1.1,b.1.2.2.2),b.2.1.1.1,b.2.2.1.2,b.2.2.2.1))))) (fun _=>none)))) (fun p=>(some p))) (some (((b.1.1.1,b.1.1.2.1,d.1.2.1.2),((b.2.2.2.2.1,b.2.2.2.2.2.1,((m,b.2.2.2.2.2.2.1.1.2),b.2.2.2.2.2.2.1.2),b.2.2.2.2.2.2.2),b.1.1.2.2),b.2.1.1.2,b.1.2.1.1),((b.1.2.1.2,b.1.2.2.1),b.2.1.2),(b.2.2.1.1,b.1.2.2.2),b.2.1.1.1,b.2.2.1.2,b.2.2.2.1))) (fun h=>(some (Sum.inr (Sum.inr (Sum.inr (((((h.1.2.1.1.1,h.1.2.1.1.2.1,((h.1.2.1.1.2.2.1.1.1,h.1.1.1.1.2.1.1),h.1.1.1.1.2.1.2),h.1.1.1.1.2.2),h.1.1.1.1),h.1.1.1.2,h.1.1.2.1),(h.1.2.1.2,h.1.2.2.1),h.1.2.2.2,h.2.1.1.1),((h.2.1.1.2,h.2.1.2.1),h.2.1.2.2,h.2.2.1.1),(h.2.2.1.2,h.2.2.2.1),h.2.2.2.2)))))))))))))))))))))))))))
abbrev BM:Type:=((Bt×Bt)×Ag×I3)×((I3)×Aq)×Aj×Aj
abbrev DW:Type:=((Bt×Bt)×Bool×Ag)×((I3)×I3)×Aq×Aj×Aj
def Kw (b:DW):Option (BM ⊕ Bc) :=
 (cnd b.1.2.1 (bd (α:=BQ) IH (fun c=>(cnd b.2.2.1.1.1.2.1.2 (bd (o22 c.1.1 c.1.2.1 c.1.2.2 c.2.1 c.2.2.1 c.2.2.2) (fun d=>(some (Sum.inr (((b.1.1.1,b.1.1.2,b.1.2.2),b.2.1,b.2.2.1,b.2.2.2.1),(b.2.2.2.2,d.1.1),d.1.2,d.2.2))))) (some (Sum.inr (((b.1.1.1,b.1.1.2,b.1.2.2),b.2.1,b.2.2.1,b.2.2.2.1),(b.2.2.2.2,c.1.1,c.1.2.1),(c.1.2.2,c.2.1),c.2.2)))))) (cnd b.2.2.1.1.1.2.1.2 (bd (α:=Unit) LN (fun e=>(some (Sum.inl ((b.1.1,b.1.2.2,b.2.1.1),(b.2.1.2,b.2.2.1),b.2.2.2))))) (some (Sum.inl ((b.1.1,b.1.2.2,b.2.1.1),(b.2.1.2,b.2.2.1),b.2.2.2)))))
def PX (b:DU):Option Bc :=
 (cnd b.1.1.2.2 (bd (α:=BQ) IH (fun c=>(some (((b.1.1.1,b.1.1.2.1,b.1.2.1.1),(b.1.2.1.2,b.1.2.2.1),b.2.2.1.2,b.2.2.2.1),(b.2.2.2.2,c.1.1,c.1.2.1),(c.1.2.2,c.2.1),c.2.2)))) (some (((b.1.1.1,b.1.1.2.1,b.1.2.1.1),(b.1.2.1.2,b.1.2.2.1),b.2.2.1.2,b.2.2.2.1),(b.2.2.2.2,b.1.2.2.2,b.2.1.1.1),(b.2.1.1.2,b.2.1.2.1),b.2.1.2.2,b.2.2.1.1)))
abbrev PY:Type:=(Ag×I3)×(I3)×Aj×Aj
def PZ (c:BM):Option (((Aj×Ag)×(I3)×I3) ⊕ AO ⊕ AO ⊕ BB) :=
 (bd (AiE c.2.1.2 c.1.2.1 c.1.2.2 c.2.1.1 c.1.1) (fun h=>(bd (Aai h.1.2 h.2.1 h.2.2.1 (((0:Int),(0:Int),(0:Int)),(0:Int),(0:Int),(0:Int)) h.1.1) (fun l=>(bd (AiF c.2.1.2 l.1.1 l.1.2 l.2.1) (fun i=>(bd (Aal i.1.2 i.2.1 i.2.2 (((0:Int),(0:Int),(0:Int)),(0:Int),(0:Int),(0:Int)) i.1.1 (false,false) c.2.2.2 c.2.1.2) (fun e=>(bd (Aao e.2.2.2 e.1.1.1 e.1.1.2 e.1.2.1 e.2.2.1) (fun g=>(bd (Aar g.1.2 g.2.1 g.2.2.1 (((0:Int),(0:Int),(0:Int)),(0:Int),(0:Int),(0:Int)) g.1.1 g.2.2.2) (fun j=>(bd (Aas e.2.2.2 j.1.1 j.1.2.1 j.1.2.2) (fun k=>(bd (Aau k.1.2 k.2.1 k.2.2 (((0:Int),(0:Int),(0:Int)),(0:Int),(0:Int),(0:Int)) k.1.1) (fun m=>(bd (Aaw m.1.1 m.1.2 m.2.1 j.2.2.2) (fun b=>(bd (o20 b.2.2.1.1.2.1.1 b.2.2.1.1.2.1.2) (fun f=>(bd (α:=PY) (cnd (f != (0:Int)) (bd (α:=PY) (sm (isZ (IntKind.wrap .i64 (f - (1:Int))) 0) (fun _=>(bd (o19 b.1.1.2 b.2.2.1.2 (b.1.1.1.1.2,b.1.1.1.2.1,b.1.1.1.2.2.1)) (fun n=>(some (((b.1.1.1,n),b.1.2),b.2.1,c.2.2.1,b.2.2.1,b.2.2.2.1,((f,b.2.2.2.2.1.1.2),b.2.2.2.2.1.2),b.2.2.2.2.2))))) (fun _=>(sm (isZ (IntKind.wrap .i64 (f - (1:Int))) 1) (fun _=>(bd (o19 b.1.1.2 b.2.2.2.1 (b.1.1.1.1.2,b.1.1.1.2.1,b.1.1.1.2.2.1)) (fun o=>(some (((b.1.1.1,o),b.1.2),b.2.1,c.2.2.1,b.2.2.1,b.2.2.2.1,((f,b.2.2.2.2.1.1.2),b.2.2.2.2.1.2),b.2.2.2.2.2))))) (fun _=>none)))) (fun p=>(some p))) (some (b.1,b.2.1,c.2.2.1,b.2.2.1,b.2.2.2.1,((f,b.2.2.2.2.1.1.2),b.2.2.2.2.1.2),b.2.2.2.2.2))) (fun d=>(some (Sum.inl (((d.2.2.2.1,d.2.2.2.2.1,((d.2.2.2.2.2.1.1.1,d.1.1.2.1.1),d.1.1.2.1.2),d.1.1.2.2),d.1.1),d.1.2,d.2.1)))))))))))))))))))))))))
def Qa (e:Bc) (b:He):Option (((Aj×Ag)×(I3)×I3) ⊕ AO ⊕ AO ⊕ BB) :=
 (bd (o20 b.2.2.2.2.1.1.2.1.1 b.2.2.2.2.1.1.2.1.2) (fun d=>(bd (α:=Hv) (cnd (d != (0:Int)) (bd (α:=Hv) (sm (isZ (IntKind.wrap .i64 (d - (1:Int))) 0) (fun _=>(bd (o19 b.1.1.1.2 b.2.2.2.2.1.2 (b.1.1.1.1.1.2,b.1.1.1.1.2.1,b.1.1.1.1.2.2.1)) (fun f=>(some ((((b.1.1.1.1,f),b.1.1.2),b.1.2.1,e.1.2.2.2,b.2.2.2.2.1,b.2.2.2.2.2.1,((d,b.2.2.2.2.2.2.1.1.2),b.2.2.2.2.2.2.1.2),b.2.2.2.2.2.2.2),(b.1.2.2.1,b.1.2.2.2,b.2.1.1),b.2.1.2,b.2.2.1,b.2.2.2.1))))) (fun _=>(sm (isZ (IntKind.wrap .i64 (d - (1:Int))) 1) (fun _=>(bd (o19 b.1.1.1.2 b.2.2.2.2.2.1 (b.1.1.1.1.1.2,b.1.1.1.1.2.1,b.1.1.1.1.2.2.1)) (fun g=>(some ((((b.1.1.1.1,g),b.1.1.2),b.1.2.1,e.1.2.2.2,b.2.2.2.2.1,b.2.2.2.2.2.1,((d,b.2.2.2.2.2.2.1.1.2),b.2.2.2.2.2.2.1.2),b.2.2.2.2.2.2.2),(b.1.2.2.1,b.1.2.2.2,b.2.1.1),b.2.1.2,b.2.2.1,b.2.2.2.1))))) (fun _=>none)))) (fun h=>(some h))) (some ((b.1.1,b.1.2.1,e.1.2.2.2,b.2.2.2.2.1,b.2.2.2.2.2.1,((d,b.2.2.2.2.2.2.1.1.2),b.2.2.2.2.2.2.1.2),b.2.2.2.2.2.2.2),(b.1.2.2.1,b.1.2.2.2,b.2.1.1),b.2.1.2,b.2.2.1,b.2.2.2.1))) (fun c=>(some (Sum.inr (Sum.inl ((((c.1.2.2.2.1,c.1.2.2.2.2.1,((c.1.2.2.2.2.2.1.1.1,c.1.1.1.2.1.1),c.1.1.1.2.1.2),c.1.1.1.2.2),c.1.1.1),c.1.1.2,c.1.2.1,c.2.1.1),c.2.1.2,c.2.2))))))))
def EH (k:BM ⊕ Bc):Option (((Aj×Ag)×(I3)×I3) ⊕ AO ⊕ AO ⊕ BB) :=
 (sm k PZ (fun f=>(bd (Kf f.1.2.2.1 f.1.1.2.2 f.1.2.1.1 f.1.2.1.2 f.2.1.2.1 f.2.1.2.2 f.2.2.1.1 f.2.2.1.2 f.2.2.2.1 f.2.2.2.2 (f.1.1.1,f.1.1.2.1)) (fun c=>(bd (Kj c.1.1.2 c.1.2.1 c.1.2.2.1 c.1.2.2.2 c.2.1.1 c.2.1.2.1 c.2.1.2.2 c.2.2.1 c.2.2.2.1 ((c.1.1.1.1.1,c.1.1.1.1.2.1,c.1.1.1.1.2.2.1),(c.1.1.1.1.2.2.2,c.1.1.1.2.1.1),c.1.1.1.2.1.2,c.1.1.1.2.2.1) c.1.1.1.2.2.2) (fun i=>(bd (Kk f.1.2.2.1 i.1.1.1 i.1.1.2 i.1.2.1 i.1.2.2.1 i.1.2.2.2 i.2.1.1 i.2.1.2.1 i.2.2.2.1 i.2.2.2.2) (fun d=>(bd (Kl d.1.1.2 d.1.2.1 d.1.2.2.1 d.1.2.2.2 d.2.1.1 d.2.1.2 d.2.2.1 d.2.2.2.1 d.2.2.2.2 ((d.1.1.1.1.1,d.1.1.1.1.2.1,d.1.1.1.1.2.2.1),(d.1.1.1.1.2.2.2,d.1.1.1.2.1.1),d.1.1.1.2.1.2,d.1.1.1.2.2.1) d.1.1.1.2.2.2 (false,false) f.2.1.1 f.1.2.2.1) (fun g=>(bd (Km g.2.2.1.2 g.1.1.1 g.1.1.2.1 g.1.1.2.2 g.1.2.1.1 g.1.2.1.2 g.1.2.2.1 g.1.2.2.2 g.2.2.2.1 g.2.2.2.2 g.2.2.1.1) (fun b=>(bd (Kn b.1.1.2 b.1.2.1 b.1.2.2.1 b.1.2.2.2 b.2.1.1 b.2.1.2.1 b.2.1.2.2 b.2.2.1 b.2.2.2.1 ((b.1.1.1.1.1,b.1.1.1.1.2.1,b.1.1.1.1.2.2.1),(b.1.1.1.1.2.2.2,b.1.1.1.2.1.1),b.1.1.1.2.1.2,b.1.1.1.2.2.1) b.1.1.1.2.2.2 b.2.2.2.2) (fun h=>(bd (Ko g.2.2.1.2 h.1.1.1 h.1.1.2.1 h.1.1.2.2 h.1.2.1 h.1.2.2.1 h.1.2.2.2 h.2.1.1 h.2.1.2.1 h.2.1.2.2) (fun e=>(bd (Kq e.1.1.2 e.1.2.1 e.1.2.2.1 e.1.2.2.2 e.2.1.1 e.2.1.2 e.2.2.1 e.2.2.2.1 e.2.2.2.2 ((e.1.1.1.1.1,e.1.1.1.1.2.1,e.1.1.1.1.2.2.1),(e.1.1.1.1.2.2.2,e.1.1.1.2.1.1),e.1.1.1.2.1.2,e.1.1.1.2.2.1) e.1.1.1.2.2.2) (fun j=>(bd (Kr j.1.1.1 j.1.1.2 j.1.2.1 j.1.2.2.1 j.1.2.2.2 j.2.1.1 j.2.1.2.1 j.2.2.2.1 j.2.2.2.2 h.2.2.2.2) (Qa f))))))))))))))))))))
def AaQ:BSh:= .cells 105 [.ifc 60 (.ptr 1 0),.ifc 60 (.ptr 2 0),.ptr 15 0,.ptr 9 0,.ro .y true,.i .i64,.i .i64,.i .i64,.i .i64,.i .i64,.i .u8,.i .u8,.i .u8,.i .i64,.i .i64,.i .i64,.i .i64]
def AnK:Sch:=⟨[(1,.v (.c (.ro .y true))),(2,.v (.c (.ro .y true))),(4,.v (.c (.ptr 15 0))),(7,.v (.c (.ptr 16 0))),(8,.v (.c (.ptr 17 0))),(9,.v (.c (.ptr 18 0))),(10,.v (.c (.ic .i64 (0)))),(31,.v (.c (.ic .i64 (0)))),(55,.v (.c (.b)))],[DT,Aa,Aa,.no,.no,.no,.no,.no,.no,Au,Ab,Ad,At,.row (.a .y) 33,Ac,.cells 30 [.ptr 0 0],Ao,Af,Af]⟩
def AnL:Sch:=⟨[(1,.v (.c (.ro .y true))),(2,.v (.c (.ro .y true))),(4,.v (.c (.ptr 15 0))),(7,.v (.c (.ptr 16 0))),(8,.v (.c (.ptr 17 0))),(9,.v (.c (.ptr 18 0))),(10,.v (.c (.ic .i64 (0)))),(31,.v (.c (.ic .i64 (0)))),(55,.v (.c (.b)))],[AN,Aa,Aa,Ak,Ab,Ad,Am,.row (.a .y) 33,Ac,Au,Ab,Ad,At,.row (.a .y) 33,Ac,.cells 30 [.ptr 0 0],Ao,Af,Af]⟩
def AnM:Sch:=⟨[(1,.v (.c (.ro .y true))),(2,.v (.c (.ro .y true))),(4,.v (.c (.ptr 15 0))),(7,.v (.c (.ptr 16 0))),(8,.v (.c (.ptr 17 0))),(9,.v (.c (.ptr 18 0))),(10,.v (.c (.ic .i64 (0)))),(31,.v (.c (.ic .i64 (0))))],[Ks,Aa,Aa,.no,.no,.no,.no,.no,.no,Au,Ab,Ad,At,.row (.a .y) 33,Ac,.cells 30 [.ptr 0 0],Ao,Af,Af,Cy,Ab,Ad,Cb,.row (.a .y) 33,Ac]⟩
def AnN:Sch:=⟨[(1,.v (.c (.ro .y true))),(2,.v (.c (.ro .y true))),(4,.v (.c (.ptr 15 0))),(7,.v (.c (.ptr 16 0))),(8,.v (.c (.ptr 17 0))),(9,.v (.c (.ptr 18 0))),(31,.v (.c (.ic .i64 (0))))],[Ks,Aa,Aa,.no,.no,.no,.no,.no,.no,Au,Ab,Ad,At,.row (.a .y) 33,Ac,.cells 30 [.ptr 0 0],Ao,Af,Af,Cy,Ab,Ad,Cb,.row (.a .y) 33,Ac]⟩
def AnO:Sch:=⟨[(1,.v (.c (.ro .y true))),(2,.v (.c (.ro .y true))),(4,.v (.c (.ptr 15 0))),(7,.v (.c (.ptr 16 0))),(8,.v (.c (.ptr 17 0))),(9,.v (.c (.ptr 18 0))),(31,.v (.c (.ic .i64 (0))))],[DT,Aa,Aa,.no,.no,.no,.no,.no,.no,Au,Ab,Ad,At,.row (.a .y) 33,Ac,.cells 30 [.ptr 0 0],Ao,Af,Af]⟩
def AnP:Sch:=⟨[(1,.v (.c (.ro .y true))),(2,.v (.c (.ro .y true))),(4,.v (.c (.ptr 15 0))),(7,.v (.c (.ptr 16 0))),(8,.v (.c (.ptr 17 0))),(9,.v (.c (.ptr 18 0))),(10,.v (.c (.ic .i64 (1)))),(31,.v (.c (.ic .i64 (1)))),(55,.v (.c (.b)))],[PH,Aa,Aa,.no,.no,.no,.no,.no,.no,.no,.no,.no,.no,.no,.no,.cells 30 [.ptr 0 0],Ao,Af,Af,Cy,Ab,Ad,Cb,.row (.a .y) 33,Ac]⟩
def AnQ:Sch:=⟨[(1,.v (.c (.ro .y true))),(2,.v (.c (.ro .y true))),(4,.v (.c (.ptr 15 0))),(7,.v (.c (.ptr 16 0))),(8,.v (.c (.ptr 17 0))),(9,.v (.c (.ptr 18 0))),(10,.v (.c (.ic .i64 (1)))),(31,.v (.c (.ic .i64 (1)))),(55,.v (.c (.b)))],[Ks,Aa,Aa,.no,.no,.no,.no,.no,.no,Au,Ab,Ad,At,.row (.a .y) 33,Ac,.cells 30 [.ptr 0 0],Ao,Af,Af,Cy,Ab,Ad,Cb,.row (.a .y) 33,Ac]⟩
def AnR:Sch:=⟨[(1,.v (.c (.ro .y true))),(2,.v (.c (.ro .y true))),(4,.v (.c (.ptr 15 0))),(7,.v (.c (.ptr 16 0))),(8,.v (.c (.ptr 17 0))),(9,.v (.c (.ptr 18 0))),(10,.v (.c (.ic .i64 (1)))),(31,.v (.c (.ic .i64 (1))))],[PI,Aa,Aa,.no,.no,.no,.no,.no,.no,.no,.no,.no,.no,.no,.no,.cells 30 [.ptr 0 0],Ao,Af,Af,PJ,PK,Ab,Ad,PL,Ab,Ad,PM,.row (.a .y) 33,Ac,.row (.a .y) 33,Ac]⟩
def AnS:Sch:=⟨[(1,.v (.c (.ro .y true))),(2,.v (.c (.ro .y true))),(4,.v (.c (.ptr 15 0))),(7,.v (.c (.ptr 16 0))),(8,.v (.c (.ptr 17 0))),(9,.v (.c (.ptr 18 0))),(31,.v (.c (.ic .i64 (1))))],[PH,Aa,Aa,.no,.no,.no,.no,.no,.no,.no,.no,.no,.no,.no,.no,.cells 30 [.ptr 0 0],Ao,Af,Af,Cy,Ab,Ad,Cb,.row (.a .y) 33,Ac]⟩
def AnT:Sch:=⟨[(1,.v (.c (.ro .y true))),(2,.v (.c (.ro .y true))),(4,.v (.c (.ptr 15 0))),(7,.v (.c (.ptr 16 0))),(8,.v (.c (.ptr 17 0))),(9,.v (.c (.ptr 18 0))),(31,.v (.c (.ic .i64 (1))))],[PI,Aa,Aa,.no,.no,.no,.no,.no,.no,.no,.no,.no,.no,.no,.no,.cells 30 [.ptr 0 0],Ao,Af,Af,PJ,PK,Ab,Ad,PL,Ab,Ad,PM,.row (.a .y) 33,Ac,.row (.a .y) 33,Ac]⟩
def Akp:Sch:=⟨[(1,.v (.c (.ro .y true))),(2,.v (.c (.ro .y true))),(4,.v (.c (.ptr 15 0))),(7,.v (.c (.ptr 16 0))),(8,.v (.c (.ptr 17 0))),(9,.v (.c (.ptr 18 0))),(10,.v (.c (.ic .i64 (1)))),(31,.v (.c (.ic .i64 (1)))),(55,.v (.c (.b)))],[Aw,Aa,Aa,.no,.no,.no,.no,.no,.no,.no,.no,.no,.no,.no,.no,.cells 30 [.ptr 0 0],Ao,Af,Af]⟩
def Akq:Sch:=⟨[(1,.v (.c (.ro .y true))),(2,.v (.c (.ro .y true))),(4,.v (.c (.ptr 15 0))),(7,.v (.c (.ptr 16 0))),(8,.v (.c (.ptr 17 0))),(9,.v (.c (.ptr 18 0))),(10,.v (.c (.ic .i64 (1)))),(31,.v (.c (.ic .i64 (1)))),(55,.v (.c (.b)))],[DT,Aa,Aa,.no,.no,.no,.no,.no,.no,Au,Ab,Ad,At,.row (.a .y) 33,Ac,.cells 30 [.ptr 0 0],Ao,Af,Af]⟩
def Akr:Sch:=⟨[(1,.v (.c (.ro .y true))),(2,.v (.c (.ro .y true))),(4,.v (.c (.ptr 15 0))),(7,.v (.c (.ptr 16 0))),(8,.v (.c (.ptr 17 0))),(9,.v (.c (.ptr 18 0))),(10,.v (.c (.ic .i64 (1)))),(31,.v (.c (.ic .i64 (1))))],[PN,Aa,Aa,.no,.no,.no,.no,.no,.no,.no,.no,.no,.no,.no,.no,.cells 30 [.ptr 0 0],Ao,Af,Af,Cy,Ab,Ad,Cb,.row (.a .y) 33,Ac]⟩
def Aks:Sch:=⟨[(1,.v (.c (.ro .y true))),(2,.v (.c (.ro .y true))),(4,.v (.c (.ptr 15 0))),(7,.v (.c (.ptr 16 0))),(8,.v (.c (.ptr 17 0))),(9,.v (.c (.ptr 18 0))),(31,.v (.c (.ic .i64 (1))))],[Aw,Aa,Aa,.no,.no,.no,.no,.no,.no,.no,.no,.no,.no,.no,.no,.cells 30 [.ptr 0 0],Ao,Af,Af]⟩
def Akt:Sch:=⟨[(1,.v (.c (.ro .y true))),(2,.v (.c (.ro .y true))),(4,.v (.c (.ptr 15 0))),(7,.v (.c (.ptr 16 0))),(8,.v (.c (.ptr 17 0))),(9,.v (.c (.ptr 18 0))),(31,.v (.c (.ic .i64 (1))))],[PN,Aa,Aa,.no,.no,.no,.no,.no,.no,.no,.no,.no,.no,.no,.no,.cells 30 [.ptr 0 0],Ao,Af,Af,Cy,Ab,Ad,Cb,.row (.a .y) 33,Ac]⟩
def AaR:Sch:=⟨[(4,.v (.c (.ptr 15 0))),(8,.v (.c (.ptr 16 0))),(9,.v (.c (.ptr 17 0)))],[AaI,Aa,Aa,.no,.no,.no,.no,.no,.no,.no,.no,.no,.no,.no,.no,.cells 30 [.ptr 0 0],Af,Af,PO,Ab,Ad,ED,.row (.a .y) 33,Ac]⟩
def AaS:Sch:=⟨[(4,.v (.c (.ptr 15 0))),(8,.v (.c (.ptr 16 0))),(9,.v (.c (.ptr 17 0)))],[AaJ,Aa,Aa,.no,.no,.no,.no,.no,.no,.no,.no,.no,.no,.no,.no,.cells 30 [.ptr 0 0],Af,Af,Cy,AaK,Ab,Ad,AaL,Ab,Ad,AaM,.row (.a .y) 33,Ac,.row (.a .y) 33,Ac]⟩
def AaT:Sch:=⟨[(4,.v (.c (.ptr 15 0))),(8,.v (.c (.ptr 16 0))),(9,.v (.c (.ptr 17 0)))],[Aw,Aa,Aa,.no,.no,.no,.no,.no,.no,.no,.no,.no,.no,.no,.no,.cells 30 [.ptr 0 0],Af,Af]⟩
def AaU:Sch:=⟨[(4,.v (.c (.ptr 15 0))),(8,.v (.c (.ptr 16 0))),(9,.v (.c (.ptr 17 0)))],[AaN,Aa,Aa,.no,.no,.no,.no,.no,.no,.no,.no,.no,.no,.no,.no,.cells 30 [.ptr 0 0],Af,Af,PO,Ab,Ad,ED,.row (.a .y) 33,Ac]⟩
def o9 (j:Bt) (k:Bt) (h:Aq) (e:Ag) (l:I3) (m:I3) (w:(I3)×Bool×I2) (x:Ae) (y:List (Int×Int×Int×Bt)) (z:I2) (A:List Bt) (B:List (Int×I4)) (n:(I3)×Bool×I2) (o:Ae) (p:List (Int×Int×Int×Bt)) (q:I2) (r:List Bt) (s:List (Int×I4)):Option (((Aj×Ag)×(I3)×I3) ⊕ AO ⊕ AO ⊕ BB) :=
 (bd (α:=Ht ⊕ Hu) (cnd h.1.1.1.1.1 (bd (α:=DU) (cnd h.1.1.1.2.1 (some (((j,k,true),(((e.1.1,e.1.2.1,e.1.2.2.1,(IntKind.wrap .i64 (e.1.2.2.2+(1:Int)))),e.2),l),m,n),((o,p),q,r),(s,h),((zTg,((0:Int),(0:Int),(0:Int)),((0:Int),(0:Int)),(0:Int),(0:Int)),zTg,(((0:Int),(0:Int)),(0:Int),(0:Int)),((0:Int),(0:Int)),(0:Int),(0:Int)),((((IntKind.wrap .i64 (e.1.2.2.2+(1:Int))),(0:Int),(0:Int)),((1:Int),(1:Int)),(0:Int),(0:Int)),((0:Int),(0:Int),(0:Int)),((0:Int),(0:Int)),(0:Int),(0:Int)),zTg,(((0:Int),(0:Int)),(0:Int),(0:Int)),((0:Int),(0:Int)),(0:Int),(0:Int))) (some (((j,k,false),(((e.1.1,e.1.2.1,e.1.2.2.1,(IntKind.wrap .i64 (e.1.2.2.2+(1:Int)))),e.2),l),m,n),((o,p),q,r),(s,h),((zTg,((0:Int),(0:Int),(0:Int)),((0:Int),(0:Int)),(0:Int),(0:Int)),zTg,(((0:Int),(0:Int)),(0:Int),(0:Int)),((0:Int),(0:Int)),(0:Int),(0:Int)),((((IntKind.wrap .i64 (e.1.2.2.2+(1:Int))),(0:Int),(0:Int)),((1:Int),(1:Int)),(0:Int),(0:Int)),((0:Int),(0:Int),(0:Int)),((0:Int),(0:Int)),(0:Int),(0:Int)),zTg,(((0:Int),(0:Int)),(0:Int),(0:Int)),((0:Int),(0:Int)),(0:Int),(0:Int)))) PR) (bd (α:=Ht) (bd (α:=AaP) (cnd h.1.1.1.2.1 (some ((((j,k),false,((e.1.1,e.1.2.1,e.1.2.2.1,(IntKind.wrap .i64 (e.1.2.2.2+(1:Int)))),e.2),l),(m,w),x,y,z),((A,B),n,o,p),(q,r,s),h,((zTg,((0:Int),(0:Int),(0:Int)),((0:Int),(0:Int)),(0:Int),(0:Int)),zTg,(((0:Int),(0:Int)),(0:Int),(0:Int)),((0:Int),(0:Int)),(0:Int),(0:Int)),((((IntKind.wrap .i64 (e.1.2.2.2+(1:Int))),(0:Int),(0:Int)),((1:Int),(1:Int)),(0:Int),(0:Int)),((0:Int),(0:Int),(0:Int)),((0:Int),(0:Int)),(0:Int),(0:Int)),zTg,(((0:Int),(0:Int)),(0:Int),(0:Int)),((0:Int),(0:Int)),(0:Int),(0:Int))) (some ((((j,k),false,((e.1.1,e.1.2.1,e.1.2.2.1,(IntKind.wrap .i64 (e.1.2.2.2+(1:Int)))),e.2),l),(m,w),x,y,z),((A,B),n,o,p),(q,r,s),h,((zTg,((0:Int),(0:Int),(0:Int)),((0:Int),(0:Int)),(0:Int),(0:Int)),zTg,(((0:Int),(0:Int)),(0:Int),(0:Int)),((0:Int),(0:Int)),(0:Int),(0:Int)),((((IntKind.wrap .i64 (e.1.2.2.2+(1:Int))),(0:Int),(0:Int)),((1:Int),(1:Int)),(0:Int),(0:Int)),((0:Int),(0:Int),(0:Int)),((0:Int),(0:Int)),(0:Int),(0:Int)),zTg,(((0:Int),(0:Int)),(0:Int),(0:Int)),((0:Int),(0:Int)),(0:Int),(0:Int)))) (fun d=>(cnd d.1.1.2.1 (bd (α:=BQ) o21 (fun u=>(some (((d.1.1.1,d.1.1.2.2.1,d.1.1.2.2.2,d.1.2.1.1),(d.2.1.2.1,d.2.1.2.2.1),d.2.1.2.2.2,d.2.2.1.1,d.2.2.1.2.1),((d.2.2.1.2.2,d.2.2.2.1),d.2.2.2.2.1,d.2.2.2.2.2,u.1.1),u.1.2,u.2)))) (some (((d.1.1.1,d.1.1.2.2.1,d.1.1.2.2.2,d.1.2.1.1),(d.2.1.2.1,d.2.1.2.2.1),d.2.1.2.2.2,d.2.2.1.1,d.2.2.1.2.1),((d.2.2.1.2.2,d.2.2.2.1),d.2.2.2.2.1,d.2.2.2.2.2,d.1.2.1.2),(d.1.2.2.1,d.1.2.2.2.1),d.1.2.2.2.2,d.2.1.1))))) (fun f=>(cnd f.2.1.1.2.1.1.2.1.1 (bd (o22 f.2.1.2.2.2 f.2.2.1.1 f.2.2.1.2 f.2.2.2.1 f.2.2.2.2.1 f.2.2.2.2.2) (fun i=>(some (Sum.inl (f.1,(f.2.1.1,f.2.1.2.1,f.2.1.2.2.1,i.1.1.1),(i.1.1.2,i.1.2.1),i.1.2.2,i.2.2))))) (some (Sum.inl f)))))) (fun C=>(sm C (fun b=>(bd (α:=Bc ⊕ Ci) (cnd b.2.1.1.2.1.1.1.1.2 (bd (α:=FH) (cnd b.2.1.1.2.1.1.1.2.2 (some (((b.1.1.1.1,b.1.1.1.2,true),(b.1.1.2.1,b.1.1.2.2.1),b.1.1.2.2.2,b.2.1.1.2),((b.2.1.2.1,b.2.1.2.2.1),b.2.1.2.2.2,b.2.2.1.1),(b.2.2.1.2,b.2.2.2.1),b.2.2.2.2)) (some (((b.1.1.1.1,b.1.1.1.2,false),(b.1.1.2.1,b.1.1.2.2.1),b.1.1.2.2.2,b.2.1.1.2),((b.2.1.2.1,b.2.1.2.2.1),b.2.1.2.2.2,b.2.2.1.1),(b.2.2.1.2,b.2.2.2.1),b.2.2.2.2))) Ku) (bd (α:=Ci) (bd (α:=Kv) (cnd b.2.1.1.2.1.1.1.2.2 (some (((b.1.1.1,false,b.1.1.2.1,b.1.1.2.2.1),(b.1.1.2.2.2,b.1.2.1.1),b.1.2.1.2,b.1.2.2.1,b.1.2.2.2.1),((b.1.2.2.2.2,b.2.1.1.1),b.2.1.1.2,b.2.1.2.1,b.2.1.2.2.1),(b.2.1.2.2.2,b.2.2.1),b.2.2.2)) (some (((b.1.1.1,false,b.1.1.2.1,b.1.1.2.2.1),(b.1.1.2.2.2,b.1.2.1.1),b.1.2.1.2,b.1.2.2.1,b.1.2.2.2.1),((b.1.2.2.2.2,b.2.1.1.1),b.2.1.1.2,b.2.1.2.1,b.2.1.2.2.1),(b.2.1.2.2.2,b.2.2.1),b.2.2.2))) PS) PU)) (fun D=>(sm D Hw FI)))) (fun c=>(bd (α:=BM ⊕ Bc) (cnd c.2.2.1.2.1.1.1.1.2 (bd (α:=DW) (cnd c.2.2.1.2.1.1.1.2.2 (some (((c.1.1.1,c.1.1.2.1),true,c.1.1.2.2),c.1.2.1,c.2.2.1.2,c.2.2.2)) (some (((c.1.1.1,c.1.1.2.1),false,c.1.1.2.2),c.1.2.1,c.2.2.1.2,c.2.2.2))) Kw) (bd (α:=Bc) (bd (α:=DU) (cnd c.2.2.1.2.1.1.1.2.2 (some (((c.1.1.1,c.1.1.2.1,false),(c.1.1.2.2,c.1.2.1.1),c.1.2.1.2,c.1.2.2.1),((c.1.2.2.2,c.2.1.1),c.2.1.2),c.2.2)) (some (((c.1.1.1,c.1.1.2.1,false),(c.1.1.2.2,c.1.2.1.1),c.1.2.1.2,c.1.2.2.1),((c.1.2.2.2,c.2.1.1),c.2.1.2),c.2.2))) PX) (fun g=>(cnd g.1.2.2.1.1.1.2.1.2 (bd (o22 g.2.1.2.1 g.2.1.2.2 g.2.2.1.1 g.2.2.1.2 g.2.2.2.1 g.2.2.2.2) (fun v=>(some (Sum.inr (g.1,(g.2.1.1,v.1.1),v.1.2,v.2.2))))) (some (Sum.inr g)))))) EH)))))
def h9:HC:=(.s .d (.s .d (.s .d (.s .d (.s (.s .d (.b (.u 3 (.v (.s .d (.s .d (.j false [AnN,AnO] (.s (.b (.s .d (.s .d (.on ⟨[(0,.v (.c (.ptr 0 0)))],[DT,Aa,Aa,.no,.no,.no,.no,.no,.no,Au,Ab,Ad,At,.row (.a .y) 33,Ac]⟩ (.s (.s (.j false [AnK] .d) (.c (.r 6) .d)) .d) (.j false [AnM] (.s (.s (.j false [AnL] .d) (.c (.r 6) .d)) .d)))))) .d)))) (.on ⟨[(1,.v (.c (.ro .y true)))],[AaQ,Aa,Aa,.no,.no,.no,.no,.no,.no,Au,Ab,Ad,At,.row (.a .y) 33,Ac,FG,Ab,Ad,Dp,.row (.a .y) 33,Ac]⟩ (.v (.s .d (.s .d (.j false [AnS,AnT] (.s (.b (.s .d (.s .d (.on ⟨[(1,.v (.c (.ro .y true)))],[Kt,Aa,Aa,.no,.no,.no,.no,.no,.no,.no,.no,.no,.no,.no,.no,FG,Ab,Ad,Dp,.row (.a .y) 33,Ac]⟩ (.s (.s (.j false [AnP] .d) (.c (.r 6) .d)) .d) (.j false [AnR] (.s (.s (.j false [AnQ] .d) (.c (.r 6) .d)) .d)))))) .d)))) (.v .d .d)) (.v (.s .d (.s .d (.j false [Aks,Akt] (.s (.b (.s .d (.s .d (.on ⟨[(1,.v (.c (.ro .y true)))],[Aw,Aa,Aa,.no,.no,.no,.no,.no,.no,.no,.no,.no,.no,.no,.no]⟩ (.s (.s (.j false [Akp] .d) (.c (.r 6) .d)) .d) (.j false [Akr] (.s (.s (.j false [Akq] .d) (.c (.r 6) .d)) .d)))))) .d)))) (.v .d .d))))))) (.on ⟨[(1,.v (.c (.ro .y true)))],[Kt,Aa,Aa,.no,.no,.no,.no,.no,.no,.no,.no,.no,.no,.no,.no,FG,Ab,Ad,Dp,.row (.a .y) 33,Ac]⟩ (.s .d (.s .d (.s .d (.s .d (.s .d (.s .d (.s .d (.s .d (.s .d (.s .d (.s .d (.s .d (.j false [AaR] (.s (.s .d (.c (.j false [AaR] .d) .d)) .d)))))))))))))) (.on ⟨[(1,.v (.c (.ro .y true)))],[PP,Aa,Aa,.no,.no,.no,.no,.no,.no,.no,.no,.no,.no,.no,.no,Hs,Cy,Ab,Ad,Cb,Ab,Ad,PQ,.row (.a .y) 33,Ac,.row (.a .y) 33,Ac]⟩ (.s .d (.s .d (.s .d (.s .d (.s .d (.s .d (.s .d (.s .d (.s .d (.s .d (.s .d (.s .d (.j false [AaS] (.s (.s .d (.c (.j false [AaS] .d) .d)) .d)))))))))))))) (.on ⟨[(1,.v (.c (.ro .y true)))],[Aw,Aa,Aa,.no,.no,.no,.no,.no,.no,.no,.no,.no,.no,.no,.no]⟩ (.s .d (.s .d (.s .d (.s .d (.s .d (.s .d (.s .d (.s .d (.s .d (.s .d (.s .d (.s .d (.j false [AaT] (.s (.s .d (.c (.j false [AaT] .d) .d)) .d)))))))))))))) (.s .d (.s .d (.s .d (.s .d (.s .d (.s .d (.s .d (.s .d (.s .d (.s .d (.s .d (.s .d (.j false [AaU] (.s (.s .d (.c (.j false [AaU] .d) .d)) .d))))))))))))))))))))))
def AnU:Tbl:=(9,⟨⟨[(0,.v (.c (.ptr 0 0))),(1,.v (.c (.ro .y true))),(2,.v (.c (.ro .y true))),(3,Bo)],[AN,Aa,Aa,Ak,Ab,Ad,Am,.row (.a .y) 33,Ac,Au,Ab,Ad,At,.row (.a .y) 33,Ac]⟩,[⟨[(0,BL)],[Aw,Aa,Aa,.no,.no,.no,.no,.no,.no,.no,.no,.no,.no,.no,.no]⟩,⟨[(0,BL)],[AaO,Aa,Aa,.no,.no,.no,.no,.no,.no,.no,.no,.no,.no,.no,.no,FG,Ab,Ad,Dp,.row (.a .y) 33,Ac]⟩,⟨[(0,BL)],[Kt,Aa,Aa,.no,.no,.no,.no,.no,.no,.no,.no,.no,.no,.no,.no,FG,Ab,Ad,Dp,.row (.a .y) 33,Ac]⟩,⟨[(0,BL)],[PP,Aa,Aa,.no,.no,.no,.no,.no,.no,.no,.no,.no,.no,.no,.no,Hs,Cy,Ab,Ad,Cb,Ab,Ad,PQ,.row (.a .y) 33,Ac,.row (.a .y) 33,Ac]⟩],fun t=>(o9 t.1.1.1.1 t.1.1.1.2 t.1.1.2.1 t.1.1.2.2 t.1.2.1.1 t.1.2.1.2 t.1.2.2.1 t.1.2.2.2.1 t.1.2.2.2.2 t.2.1.1.1 t.2.1.1.2 t.2.1.2.1 t.2.1.2.2 t.2.2.1.1 t.2.2.1.2 t.2.2.2.1 t.2.2.2.2.1 t.2.2.2.2.2)⟩)::AnJ
theorem Arm:TK AnU:=kc Arl Tryz.f9 h9 fun t=>by kernel_rfl
def Aku:Sch:=⟨[(0,.v (.c (.i .i64))),(1,.v (.c (.i .i64))),(2,.v (.c (.i .i64)))],[]⟩
def o17 (b:Int) (c:Int) (e:Int):Option Bool :=
 (bd (α:=(I3)) (cnd (decide (b < c)) (some (c,b,e)) (some (b,c,e))) (fun d=>(some (decide ((IntKind.wrap .u64 ((IntKind.wrap .u64 d.1) - (IntKind.wrap .u64 d.2.1)))≤(IntKind.wrap .u64 d.2.2))))))
def AnV:Tbl:=(17,⟨⟨[(0,.v (.c (.i .i64))),(1,.v (.c (.i .i64))),(2,.v (.c (.i .i64)))],[]⟩,[⟨[(0,.v (.c (.b)))],[]⟩],fun t=>(o17 t.1 t.2.1 t.2.2)⟩)::AnU
theorem Arn:TK AnV:=kc Arm Tryz.f17 (.s .d (.j false [Aku] .d)) fun t=>by kernel_rfl
end
structure Cp where
 number:Int
 next:Int
 cycle:Int
 asked:Bool
 wb:Int
 wh:Int
 nd:Nd
 ps:List PT
 co:Co
def Cp.h (c:Cp):(Int×Int×Int)×Bool×Int×Int:=((c.number,c.next,c.cycle),c.asked,c.wb,c.wh)
def Cp.cz (c:Cp):Int×Int:=(c.co.base,c.co.count)
structure Cp.ok (c:Cp):Prop where
 num:c.number=1∨c.number=2
 nnum:c.nd.number=c.number
 inp:c.nd.input.length≤1000
 hinp:c.nd.hd.input.length≤400
 sin:c.nd.se.in_.length≤2000
 data:∀ p∈c.ps,p.2.2.2.length≤600
 cps:c.co.ps.length≤874
 cpd:∀ x∈c.co.ps,x.length≤600
 css:c.co.ss.length≤874
 csd:∀ x∈c.co.ss,x.2.2.2.length≤2000
def newCp (k:Int):Cp:=⟨k,0,0,false,0,0,newNd k,[],noCo⟩
theorem Akv:o21=some (((newCp 1).h,(newCp 1).nd.e,(newCp 1).ps),(newCp 1).cz,(newCp 1).co.ps,(newCp 1).co.ss):=rfl
theorem AaV:IH=some (((newCp 2).h,(newCp 2).nd.e,(newCp 2).ps),(newCp 2).cz,(newCp 2).co.ps,(newCp 2).co.ss):=rfl
theorem Qb {k:Int} (h:k=1∨k=2):(newCp k).ok:=⟨h,rfl,by simp [newCp,newNd],by simp [newCp,newNd,noHd],by simp [newCp,newNd,noSe],by simp [newCp],by simp [newCp,noCo],by simp [newCp,noCo],by simp [newCp,noCo],by simp [newCp,noCo]⟩
def Cp.reset (c:Cp):Cp:={ c with ps:=[],co:=noCo }
theorem Hx {c:Cp} (h:c.ok):c.reset.ok:=⟨h.num,h.nnum,h.inp,h.hinp,h.sin,by simp [Cp.reset],by simp [Cp.reset,noCo],by simp [Cp.reset,noCo],by simp [Cp.reset,noCo],by simp [Cp.reset,noCo]⟩
theorem SU (c:Cp):o68 c.h c.nd.e c.ps c.cz c.co.ps c.co.ss=some (((c.reset.h,c.reset.nd.e),c.reset.ps,c.reset.cz),(c.co.ps,c.co.ss),c.reset.co.ps,c.reset.co.ss):=rfl
def Cp.drop (c:Cp):Cp:=({ c with next:=0,nd:=c.nd.drop }:Cp).reset
theorem MQ (c:Cp):o22 c.h c.nd.e c.ps c.cz c.co.ps c.co.ss=some (((c.drop.h,c.drop.nd.e),c.drop.ps,c.drop.cz),(c.co.ps,c.co.ss),c.drop.co.ps,c.drop.co.ss):=rfl
theorem MR {c:Cp} (h:c.ok):c.drop.ok:=Hx (c:={ c with next:=0,nd:=c.nd.drop }) ⟨h.num,h.nnum,h.inp,h.hinp,h.sin,h.data,h.cps,h.cpd,h.css,h.csd⟩
theorem FJ (k:Int) (c:Cp) (x:(Int×Int)×List (List UInt8)×List ST):o71 k c.h c.nd.e c.ps x=some (cond (c.next != k) 8 0):=Pe _ _ _
theorem FK (c:Cp) (x:(Int×Int)×List (List UInt8)×List ST):o46 c.h c.nd.e c.ps x=some (c.nd.role==1):=rfl
def Cp.w (c:Cp):Int×Int:=cond (c.nd.role==1) c.co.want (0,0)
def Cp.began (c:Cp) (cy:Int) (x:Nd×Frm×Int):Cp×Frm×Int:=cond (x.2.2==0) ({ c with next:=1,cycle:=cy,asked:=false,nd:=x.1 },x.2) ({ c with nd:=x.1 },x.2)
def Cp.hello (c:Cp) (cy:Int) (inp:List UInt8):Cp×Frm×Int:=cond (c.next != 0) (c,noFrm,8) (c.began cy (c.nd.hello cy inp c.w.1 c.w.2))
def cE {α:Type} (r:α) (c:Cp):=((r,c.h,c.nd.e),(c.ps,c.cz),c.co.ps,c.co.ss)
theorem MS {c:Cp} {cy:Int} {inp:List UInt8} (hi:inp.length≤100000000):o25 cy inp c.h c.nd.e c.ps c.cz c.co.ps c.co.ss=some (cE ((((c.hello cy inp).2.1.label,(c.hello cy inp).2.1.from_),(c.hello cy inp).2.1.cycle,(c.hello cy inp).2.1.payload,(c.hello cy inp).2.2)) (c.hello cy inp).1):=by
 unfold o25 Cp.hello
 refine (bdS (FJ 0 c _)).trans ?_
 cases h0:(c.next != 0) with
 | true=>rfl
 | false =>
  rw [cond_false,cond_false]
  refine (cndF (by decide)).trans ?_
  refine (bdS (t:=(((cy,inp),c.h,c.nd.e,c.ps),(c.cz,c.co.ps),c.co.ss,((0,0),0,[]),c.w)) ?_).trans ?_
  ·refine (bdS (FK c _)).trans ?_
   unfold Cp.w
   cases (c.nd.role==1) <;> rfl
  refine (bdS (AjJ (n:=c.nd) (base:=c.w.1) (have_:=c.w.2) hi)).trans ?_
  generalize c.nd.hello cy inp c.w.1 c.w.2=x
  unfold Cp.began
  show bd (cnd (x.2.2==0) _ _) _=_
  cases (x.2.2==0) <;> rfl
def Cp.heard1 (c:Cp) (x:Nd×Hd×Bool×Int):Cp:=cond (x.1.role != c.nd.role) ({ c with next:=2,nd:=x.1 }:Cp).reset { c with next:=2,nd:=x.1 }
def Cp.heard2 (c:Cp) (x:Nd×Hd×Bool×Int):Cp:={ c with asked:=x.1.role==2&&(x.2.2.1&&x.2.1.role==1),wb:=x.2.1.base,wh:=x.2.1.have_ }
def Cp.heard (c:Cp) (x:Nd×Hd×Bool×Int):Cp×Int:=cond (x.2.2.2 != 0) ({ c with nd:=x.1 },x.2.2.2) ((c.heard1 x).heard2 x,0)
def Cp.hear (c:Cp) (f:Frm) (came:Bool):Cp×Int:=cond (c.next != 1) (c,8) (c.heard (c.nd.hear f came))
theorem AgI {α:Type} (a b c:Bool) (F:Bool→α):cnd a (cnd b (some (F c)) (some (F false))) (some (F false))=some (F (a&&(b&&c))):=by cases a <;> cases b <;> rfl
theorem MT {c:Cp} {f:Frm} {came:Bool} (h:c.ok):o28 f.e came c.h c.nd.e c.ps c.cz c.co.ps c.co.ss=some (cE (c.hear f came).2 (c.hear f came).1):=by
 unfold o28 Cp.hear
 refine (bdS (FJ 1 c _)).trans ?_
 cases h0:(c.next != 1) with
 | true=>rfl
 | false =>
  rw [cond_false,cond_false]
  refine (cndF (by decide)).trans ?_
  refine (bdS (Zt c.nd)).trans ?_
  refine (bdS (AjK (n:=c.nd) (Nat.le_trans h.hinp (by decide)))).trans ?_
  generalize c.nd.hear f came=x
  unfold Cp.heard
  refine (As (c:=x.2.2.2 != 0) (F:=fun z:Cp×Int=>cE z.2 z.1) (X:=({ c with nd:=x.1 },x.2.2.2)) (Y:=((c.heard1 x).heard2 x,0)) rfl ?_)
  refine (bdS (Zt x.1)).trans ?_
  refine (bdS (t:=(((x.2.2.1,x.1.role),(c.heard1 x).h,(c.heard1 x).nd.e,(c.heard1 x).ps),((c.heard1 x).cz,(x.2.1.role,x.2.1.steps),x.2.1.base,x.2.1.have_),(c.heard1 x).co.ps,(c.heard1 x).co.ss,x.2.1.input)) ?_).trans ?_
  ·refine As (c:=x.1.role != c.nd.role) (F:=fun z:Cp=>(((x.2.2.1,x.1.role),z.h,z.nd.e,z.ps),(z.cz,(x.2.1.role,x.2.1.steps),x.2.1.base,x.2.1.have_),z.co.ps,z.co.ss,x.2.1.input)) ?_ rfl
   exact bdS (SU { c with next:=2,nd:=x.1 })
  ·generalize c.heard1 x=d
   refine (bdS (AgI (x.1.role==2) x.2.2.1 (x.2.1.role==1) (fun b:Bool=>(((d.h.1,b,x.2.1.base,x.2.1.have_),d.nd.e,d.ps),d.cz,d.co.ps,d.co.ss)))).trans ?_
   rfl
def Cp.share (c:Cp):Cp×Frm×Bool×Int:=cond (c.next != 2) (c,noFrm,false,8) ({ c with next:=3,nd:=c.nd.share.1 },c.nd.share.2)
def fE (x:Cp×Frm×Bool×Int):=(((((x.2.1.label,x.2.1.from_),x.2.1.cycle,x.2.2.1,x.2.2.2),x.1.h),x.1.nd.e,x.1.ps),(x.1.cz,x.1.co.ps),x.1.co.ss,x.2.1.payload)
theorem MU {c:Cp} (h:c.ok):o30 c.h c.nd.e c.ps c.cz c.co.ps c.co.ss=some (fE c.share):=by
 unfold o30 Cp.share
 refine (bdS (FJ 2 c _)).trans ?_
 cases h0:(c.next != 2) with
 | true=>rfl
 | false =>
  rw [cond_false,cond_false]
  refine (cndF (by decide)).trans ?_
  exact bdS (AjL (by rw [h.nnum];exact h.num))
def Cp.tell (c:Cp) (t:Tg):Cp×Frm×Bool×Int:=cond (c.next != 4) (c,noFrm,false,8) ({ c with next:=5,nd:=(c.nd.tell t).1 },(c.nd.tell t).2)
theorem MV {c:Cp} {t:Tg}:o35 t.e c.h c.nd.e c.ps c.cz c.co.ps c.co.ss=some (fE (c.tell t)):=by
 unfold o35 Cp.tell
 refine (bdS (FJ 4 c _)).trans ?_
 cases h0:(c.next != 4) with
 | true=>rfl
 | false =>
  rw [cond_false,cond_false]
  refine (cndF (by decide)).trans ?_
  exact bdS (AjN c.nd t)
def Cp.judge (c:Cp) (f:Frm) (came:Bool):Cp×Int×Int:=cond (c.next != 5) (c,0,8) ({ c with next:=6,nd:=(c.nd.judge f came).1 },(c.nd.judge f came).2)
theorem MW {c:Cp} {f:Frm} {came:Bool}:o37 f.e came c.h c.nd.e c.ps c.cz c.co.ps c.co.ss=some (cE (c.judge f came).2 (c.judge f came).1):=by
 unfold o37 Cp.judge
 refine (bdS (FJ 5 c _)).trans ?_
 cases h0:(c.next != 5) with
 | true=>rfl
 | false =>
  rw [cond_false,cond_false]
  refine (cndF (by decide)).trans ?_
  exact bdS (AjO c.nd f came)
theorem AaW {α:Type} (a b c d e:Bool) (F:Bool→α):cnd a (cnd b (cnd c (cnd d (some (F e)) (some (F false))) (some (F false))) (some (F false))) (some (F false))=some (F (a&&(b&&(c&&(d&&e))))):=by cases a <;> cases b <;> cases c <;> cases d <;> rfl
theorem AaX {α:Type} (a b c d:Bool) (F:Bool→α):cnd a (cnd b (cnd c (some (F d)) (some (F false))) (some (F false))) (some (F false))=some (F (a&&(b&&(c&&d)))):=by cases a <;> cases b <;> cases c <;> rfl
def Cp.setFits (c:Cp) (f:Frm) (came:Bool):Bool:=came&&(f.label==2&&(f.from_==IntKind.u8.wrap (IntKind.i64.wrap (3 - c.number))&&(f.cycle==c.cycle&&(getSet c.cycle f.payload).2==0)))
def Cp.noted (c:Cp) (f:Frm) (came:Bool):Cp:={ c with co:=c.co.note (getSet c.cycle f.payload).1 (c.setFits f came) }
def Cp.stepped (c:Cp) (x:Nd×Se×Bool×Int) (f:Frm) (came:Bool):Cp:=cond (x.1.role==1) ((cond (c.nd.role==1) { c with next:=4,nd:=x.1 } ({ c with next:=4,nd:=x.1 }:Cp).reset).noted f came) { c with next:=4,nd:=x.1 }
def Cp.step (c:Cp) (f:Frm) (came:Bool):Cp×Se×Bool×Int:=cond (c.next != 3) (c,noSe,false,8) (c.stepped (c.nd.step f came) f came,(c.nd.step f came).2)
def sE (x:Cp×Se×Bool×Int):=(((((x.2.1.steps,x.2.1.cycle),x.2.1.fresh,x.2.2.1,x.2.2.2),x.1.h),x.1.nd.e,x.1.ps),(x.1.cz,x.2.1.in_),x.1.co.ps,x.1.co.ss)
theorem MX {c:Cp} {f:Frm} {came:Bool} (h:c.ok) (hf:f.payload.length≤1100):o32 f.e came c.h c.nd.e c.ps c.cz c.co.ps c.co.ss=some (sE (c.step f came)):=by
 unfold o32 Cp.step
 refine (bdS (FJ 3 c _)).trans ?_
 cases h0:(c.next != 3) with
 | true=>rfl
 | false =>
  rw [cond_false,cond_false]
  refine (cndF (by decide)).trans ?_
  refine (bdS (FK { c with next:=4 } _)).trans ?_
  refine (bdS (AjM (n:=c.nd) (f:=f) (came:=came) (Nat.le_trans hf (by decide)) (Nat.le_trans h.sin (by decide)))).trans ?_
  generalize c.nd.step f came=x
  refine (bdS (t:=((fun z:Cp=>(((x.2.2.1,x.2.2.2),z.h,z.nd.e,z.ps),(z.cz,false,x.2.1.steps,x.2.1.cycle,x.2.1.fresh),x.2.1.in_,z.co.ps,z.co.ss)) (c.stepped x f came))) ?_).trans rfl
  refine (bdS (FK { c with next:=4,nd:=x.1 } _)).trans ?_
  unfold Cp.stepped
  refine As (c:=x.1.role==1) (F:=fun z:Cp=>(((x.2.2.1,x.2.2.2),z.h,z.nd.e,z.ps),(z.cz,false,x.2.1.steps,x.2.1.cycle,x.2.1.fresh),x.2.1.in_,z.co.ps,z.co.ss)) ?_ rfl
  refine (bdS (t:=((fun z:Cp=>(((came,x.2.2.1,x.2.2.2),z.h,z.nd.e,z.ps),(z.cz,((f.label,f.from_),f.cycle,f.payload),false),((x.2.1.steps,x.2.1.cycle,x.2.1.fresh),z.co.ps),z.co.ss,x.2.1.in_)) (cond (c.nd.role==1) { c with next:=4,nd:=x.1 } ({ c with next:=4,nd:=x.1 }:Cp).reset))) ?_).trans ?_
  ·exact Bw (c:=c.nd.role==1) (F:=fun z:Cp=>(((came,x.2.2.1,x.2.2.2),z.h,z.nd.e,z.ps),(z.cz,((f.label,f.from_),f.cycle,f.payload),false),((x.2.1.steps,x.2.1.cycle,x.2.1.fresh),z.co.ps),z.co.ss,x.2.1.in_)) rfl (bdS (SU { c with next:=4,nd:=x.1 }))
  have hs:(cond (c.nd.role==1) { c with next:=4,nd:=x.1 } ({ c with next:=4,nd:=x.1 }:Cp).reset).co.ss.length≤1000000:=by
   cases (c.nd.role==1) with
   | true=>exact Nat.le_trans h.css (by decide)
   | false=>exact Nat.zero_le _
  generalize (cond (c.nd.role==1) { c with next:=4,nd:=x.1 } ({ c with next:=4,nd:=x.1 }:Cp).reset)=d at hs
  refine (bdS (Zs (cycle:=d.cycle) (p:=f.payload) (Nat.le_trans hf (by decide)))).trans ?_
  refine (bdS (AaW came (f.label==2) (f.from_==IntKind.u8.wrap (IntKind.i64.wrap (3 - d.number))) (f.cycle==d.cycle) ((getSet d.cycle f.payload).2==0) (fun b:Bool=>(((x.2.2.1,x.2.2.2,b),(d.h,d.nd.e),d.ps,d.cz),(false,(x.2.1.steps,x.2.1.cycle,x.2.1.fresh),(getSet d.cycle f.payload).1.steps,(getSet d.cycle f.payload).1.cycle,(getSet d.cycle f.payload).1.fresh),(d.co.ps,d.co.ss),x.2.1.in_,(getSet d.cycle f.payload).1.in_)))).trans ?_
  refine (bdS (Ake (c:=d.co) (x:=(getSet d.cycle f.payload).1) (came:=d.setFits f came) (Nat.le_trans (Fi _ _) (Nat.le_trans hf (by decide))) hs)).trans ?_
  rfl
def Cp.served (c:Cp) (x:List PT×PT×Int):Cp×Frm×Bool×Int:=cond (x.2.2 != 0) ({ c with next:=7,ps:=x.1 },noFrm,false,x.2.2) ({ c with next:=7,ps:=x.1 },⟨4,IntKind.u8.wrap c.number,c.cycle,(encP x.2.1).2⟩,true,0)
def Cp.serve (c:Cp) (save:List UInt8):Cp×Frm×Bool×Int:=cond (c.next != 6) (c,noFrm,false,8) (cond c.asked (c.served (Go.Proofs.YtpleflcfaecojaaGreat.serve c.ps c.wb c.wh c.nd.steps save)) ({ c with next:=7 },noFrm,false,0))
theorem MY {c:Cp} {save:List UInt8} (h:c.ok):o39 save c.h c.nd.e c.ps c.cz c.co.ps c.co.ss=some (fE (c.serve save)):=by
 unfold o39 Cp.serve
 refine (bdS (FJ 6 c _)).trans ?_
 cases h0:(c.next != 6) with
 | true=>rfl
 | false =>
  rw [cond_false,cond_false]
  refine (cndF (by decide)).trans ?_
  refine Bw (c:=c.asked) (F:=fE) ?_ rfl
  refine (bdS (AjI c.nd)).trans ?_
  refine (bdS (Akc (base:=c.wb) (have_:=c.wh) h.data)).trans ?_
  generalize Go.Proofs.YtpleflcfaecojaaGreat.serve c.ps c.wb c.wh c.nd.steps save=x
  unfold Cp.served
  refine As (c:=x.2.2 != 0) (F:=fE) rfl ?_
  exact bdS (Akd x.2.1.1 x.2.1.2.1 x.2.1.2.2.1 x.2.1.2.2.2)
abbrev JobT:Type:=Int×List UInt8×List ST
def noJob:JobT:=(0,[],[])
def Cp.pieceFits (c:Cp) (f:Frm) (came:Bool):Bool:=came&&(f.label==4&&(f.from_==IntKind.u8.wrap (IntKind.i64.wrap (3 - c.number))&&f.cycle==c.cycle))
def Cp.got (c:Cp) (f:Frm) (came:Bool):Cp:=cond (c.pieceFits f came) (cond ((decP f.payload).2==0) { c with next:=0,co:=c.co.take (decP f.payload).1 } { c with next:=0 }) { c with next:=0 }
def Cp.jobDone (c:Cp):Cp×JobT×Bool×Int :=
 cond ((c.nd.adopt (IntKind.i64.wrap (c.co.base+(c.co.ss.length:Int)))).2 != 0) ({ c with nd:=(c.nd.adopt (IntKind.i64.wrap (c.co.base+(c.co.ss.length:Int)))).1 },noJob,false,0)
  (({ c with nd:=(c.nd.adopt (IntKind.i64.wrap (c.co.base+(c.co.ss.length:Int)))).1 }:Cp).reset,(c.co.base,c.co.ps.flatten,c.co.ss),true,0)
def Cp.take (c:Cp) (f:Frm) (came:Bool):Cp×JobT×Bool×Int :=
 cond (c.next != 7) (c,noJob,false,8) (cond (c.nd.role==1) (cond (c.got f came).co.ready (c.got f came).jobDone (c.got f came,noJob,false,0)) ({ c with next:=0 },noJob,false,0))
def jE (x:Cp×JobT×Bool×Int):=((((x.2.1.1,x.2.2.1,x.2.2.2),x.1.h),x.1.nd.e,x.1.ps),(x.1.cz,x.2.1.2.1),x.2.1.2.2,x.1.co.ps,x.1.co.ss)
theorem SX {c:Co} (h:c.ps.length≤874) (p:PT):(c.take p).ps.length≤874:=by
 unfold Co.take
 cases hv:validP p with
 | false=>exact h
 | true =>
  obtain ⟨v1,v2,v3,v4⟩:=DD hv
  rw [cond_true]
  cases hf:c.fitsP p with
  | true =>
   unfold Co.fitsP at hf
   simp only [Bool.and_eq_true,decide_eq_true_eq,beq_iff_eq] at hf
   show (c.ps++[p.2.2.2]).length≤874
   rw [List.length_append,List.length_singleton]
   omega
  | false =>
   rw [cond_false]
   cases (p.2.1==0) with
   | true=>exact (by decide:1≤874)
   | false=>exact h
theorem Wi {c:Co} (h:∀ x∈c.ps,x.length≤600) (p:PT):∀ x∈(c.take p).ps,x.length≤600:=by
 unfold Co.take
 cases hv:validP p with
 | false=>exact h
 | true =>
  obtain ⟨v1,v2,v3,v4⟩:=DD hv
  rw [cond_true]
  cases hf:c.fitsP p with
  | true =>
   intro x hx
   rcases List.mem_append.1 hx with hx | hx
   ·exact h x hx
   ·rw [List.mem_singleton] at hx;subst hx;exact v4
  | false =>
   rw [cond_false]
   cases (p.2.1==0) with
   | true=>intro x hx;rw [show x=p.2.2.2 from List.mem_singleton.1 hx];exact v4
   | false=>exact h
theorem UI {c:Co} (p:PT):(c.take p).ss=c.ss∨(c.take p).ss=[]:=by
 unfold Co.take
 cases validP p <;> cases c.fitsP p <;> cases (p.2.1==0) <;> first | exact .inl rfl | exact .inr rfl
theorem Kx {c:Cp} {f:Frm} {came:Bool} (h:c.ok):(c.got f came).ok:=by
 unfold Cp.got
 cases c.pieceFits f came with
 | false=>exact ⟨h.num,h.nnum,h.inp,h.hinp,h.sin,h.data,h.cps,h.cpd,h.css,h.csd⟩
 | true =>
  rw [cond_true]
  cases ((decP f.payload).2==0) with
  | false=>exact ⟨h.num,h.nnum,h.inp,h.hinp,h.sin,h.data,h.cps,h.cpd,h.css,h.csd⟩
  | true =>
   refine ⟨h.num,h.nnum,h.inp,h.hinp,h.sin,h.data,SX h.cps _,Wi h.cpd _,?_,?_⟩
   ·show (c.co.take (decP f.payload).1).ss.length≤874
    rcases UI (c:=c.co) (decP f.payload).1 with e | e
    ·rw [e];exact h.css
    ·rw [e];exact Nat.zero_le _
   ·show ∀ x∈(c.co.take (decP f.payload).1).ss,x.2.2.2.length≤2000
    rcases UI (c:=c.co) (decP f.payload).1 with e | e
    ·rw [e];exact h.csd
    ·rw [e];intro x hx;cases hx
theorem AaY (p:List UInt8):(decP p).1.2.2.2.length≤p.length:=by
 unfold decP
 cases (decide ((p.length:Int) < 12)) with
 | true=>exact Nat.zero_le _
 | false =>
  rw [cond_false]
  cases validP (rawP p) with
  | true=>show (p.drop 12).length≤p.length;rw [List.length_drop];omega
  | false=>exact Nat.zero_le _
theorem MZ {c:Cp} {f:Frm} {came:Bool} (h:c.ok) (hf:f.payload.length≤1100):o83 f.e came c.h c.nd.e c.ps c.cz c.co.ps c.co.ss=some (jE (c.take f came)):=by
 unfold o83 Cp.take
 refine (bdS (FJ 7 c _)).trans ?_
 cases h0:(c.next != 7) with
 | true=>rfl
 | false =>
  rw [cond_false,cond_false]
  refine (cndF (by decide)).trans ?_
  refine (bdS (FK { c with next:=0 } _)).trans ?_
  refine Bw (c:=c.nd.role==1) (F:=jE) ?_ rfl
  refine (bdS (t:=((fun z:Cp=>((z.h,z.nd.e,z.ps),z.cz,z.co.ps,z.co.ss)) (c.got f came))) ?_).trans ?_
  ·refine (bdS (AaX came (f.label==4) (f.from_==IntKind.u8.wrap (IntKind.i64.wrap (3 - c.number))) (f.cycle==c.cycle) (fun b:Bool=>(((b,(c.number,0,c.cycle),c.asked,c.wb,c.wh),c.nd.e,c.ps),(c.cz,c.co.ps),c.co.ss,f.e)))).trans ?_
   unfold Cp.got Cp.pieceFits
   refine As (c:=came&&(f.label==4&&(f.from_==IntKind.u8.wrap (IntKind.i64.wrap (3 - c.number))&&f.cycle==c.cycle))) (F:=fun z:Cp=>((z.h,z.nd.e,z.ps),z.cz,z.co.ps,z.co.ss)) ?_ rfl
   refine (bdS (Agv (p:=f.payload) (Nat.le_trans hf (by decide)))).trans ?_
   refine As (c:=(decP f.payload).2==0) (F:=fun z:Cp=>((z.h,z.nd.e,z.ps),z.cz,z.co.ps,z.co.ss)) ?_ rfl
   exact bdS (Agw (c:=c.co) (decP f.payload).1.1 (decP f.payload).1.2.1 (decP f.payload).1.2.2.1 (decP f.payload).1.2.2.2 (Nat.le_trans (AaY _) (Nat.le_trans hf (by decide))) (Nat.le_trans h.cps (by decide)))
  have hg:(c.got f came).ok:=Kx h
  generalize c.got f came=d at hg
  refine (bdS (AgA (c:=d.co) (Nat.le_trans hg.css (by decide)) (fun x hx=>Nat.le_trans (hg.csd x hx) (by decide)) (Nat.le_trans hg.cps (by decide)) (fun x hx=>Nat.le_trans (hg.cpd x hx) (by decide)))).trans ?_
  cases hr:d.co.ready with
  | false=>rfl
  | true =>
   rw [cond_true,cond_true]
   unfold Cp.jobDone
   refine (bdS (t:=(((((d.nd.adopt (IntKind.i64.wrap (d.co.base+(d.co.ss.length:Int)))).2 != 0),d.h),(d.nd.adopt (IntKind.i64.wrap (d.co.base+(d.co.ss.length:Int)))).1.e,d.ps,d.cz),(d.co.base,d.co.ps),d.co.ss,d.co.ps.flatten,d.co.ss)) ((bdS (AgB d.nd (IntKind.i64.wrap (d.co.base+(d.co.ss.length:Int))))).trans rfl)).trans ?_
   generalize d.nd.adopt (IntKind.i64.wrap (d.co.base+(d.co.ss.length:Int)))=y
   refine As (c:=y.2 != 0) (F:=jE) rfl ?_
   exact bdS (SU { d with nd:=y.1 })
end Go.Proofs.YtpleflcfaecojaaGreat
