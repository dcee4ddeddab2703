/-
What functions compute, printed by wip/h/py. Conditions: each theorem's own.
-/
import Derived.Test.YtpleflcfaecojaaGreatM7
import Derived.Test.YtpleflcfaecojaaGreatProg
namespace Go.Proofs.YtpleflcfaecojaaGreat
set_option linter.unusedVariables false
set_option linter.unusedSimpArgs false
set_option maxRecDepth 100000
open Go.RowKit
abbrev T0:Tbl:=[]
theorem K0:TOk Tryz.prog T0:= .nil
def dCy:Bt×Bt×(B2)×(B2)×(B2)×(I2)×((Bool×I2)×(Bool×I2)×(Bool×I2)×Bool×I2)×(Bool×I2)×(Bool×I2)×(Bool×I2)×Bool×I2:=(([]:Bt),(([]:Bt),((false,false),((false,false),((false,false),(((0:Int),(0:Int)),(((false,((0:Int),(0:Int))),((false,((0:Int),(0:Int))),((false,((0:Int),(0:Int))),(false,((0:Int),(0:Int)))))),((false,((0:Int),(0:Int))),((false,((0:Int),(0:Int))),((false,((0:Int),(0:Int))),(false,((0:Int),(0:Int)))))))))))))
def zTg:(I3)×(I2)×I2:=(((0:Int),(0:Int),(0:Int)),((0:Int),(0:Int)),(0:Int),(0:Int))
theorem fk {P:Program} {S:Stp P} {f:FuncId} {fn:Func} {ps:Sch} {rs:List Sch} {h:HC} {r:HT ps.tr→Option (ALT rs)} (e:∀ t,evF S fn ps rs h t=r t) (hf:P.funcs[f]? = some fn:=by kernel_rfl) (hb:fn.body.isSome=true:=by kernel_rfl) (hn:Nat.ble ps.sl.length fn.ntmps=true:=by kernel_rfl):FOk P f ⟨ps,rs,r⟩:=FOk.run_eq (AiZ hf hb hn) e
abbrev TK:=TOk Tryz.prog
theorem kc {P:Program} {T:Tbl} (K:TOk P T) {f:FuncId} (fn:Func) (h:HC) {ps:Sch} {rs:List Sch} {r:HT ps.tr→Option (ALT rs)} (e:∀ t,evF (stpT P T K) fn ps rs h t=r t) (hf:P.funcs[f]? = some fn:=by kernel_rfl) (hb:fn.body.isSome=true:=by kernel_rfl) (hn:Nat.ble ps.sl.length fn.ntmps=true:=by kernel_rfl):TOk P ((f,⟨ps,rs,r⟩)::T):= .cons K (fk e hf hb hn)
noncomputable section
def o33 (b:Bt):Option (Bt) :=
 (nlO (List.isEmpty b) (some ([]:Bt)) (gd (decide ((([]:Bt).length+b.length)*1≤140737488355328)) (some (([]:Bt)++b))))
def T1:Tbl:=(33,⟨⟨[(0,.v (.c (.ro .y false)))],[]⟩,[⟨[(0,.v (.c (.own 0)))],[.row .y 5]⟩],fun t=>(o33 t)⟩)::T0
theorem K1:TK T1:=kc K0 Tryz.f33 .d fun t=>by kernel_rfl
def Oi:BSh:= .row (.p (.i .i64) (.p (.i .i64) (.p (.i .i64) (.a .y)))) 97
abbrev Oj:Type:=(Int×Bt×Int)×Int×Int×List (Int×Int×Int×Bt)
def Ajc:Sch:=⟨[(0,.v (.c (.i .i64))),(1,.v (.c (.ro .y false))),(15,.v (.c (.b)))],[]⟩
def Ajd:Sch:=⟨[(0,.v (.c (.i .i64))),(1,.v (.c (.ro .y false))),(6,.v (.c (.i .i64))),(7,.v (.c (.own 0))),(25,.v (.c (.i .i64))),(26,.v (.c (.i .i64)))],[Oi]⟩
def SH (b:Oj) :=
 (cnd (decide (b.2.2.1 < b.2.1)) (gd (decide ((0:Int)≤(IntKind.wrap .i64 (b.2.2.1*(600:Int)))∧(IntKind.wrap .i64 (b.2.2.1*(600:Int)))≤(minI (IntKind.wrap .i64 ((IntKind.wrap .i64 (b.2.2.1+(1:Int)))*(600:Int))) ((b.1.2.1.length:Nat):Int))∧(minI (IntKind.wrap .i64 ((IntKind.wrap .i64 (b.2.2.1+(1:Int)))*(600:Int))) ((b.1.2.1.length:Nat):Int))≤((b.1.2.1.length:Nat):Int))) (bd (o33 (List.take ((minI (IntKind.wrap .i64 ((IntKind.wrap .i64 (b.2.2.1+(1:Int)))*(600:Int))) ((b.1.2.1.length:Nat):Int)).toNat - (IntKind.wrap .i64 (b.2.2.1*(600:Int))).toNat) (List.drop (IntKind.wrap .i64 (b.2.2.1*(600:Int))).toNat b.1.2.1))) (fun c=>(gd (decide ((b.2.2.2.length+([(b.1.1,(b.2.2.1,(b.1.2.2,c)))]:List (Int×Int×Int×Bt)).length)*48≤140737488355328)) (some (Ctl.go (b.1,b.2.1,(IntKind.wrap .i64 (b.2.2.1+(1:Int))),(b.2.2.2++([(b.1.1,(b.2.2.1,(b.1.2.2,c)))]:List (Int×Int×Int×Bt)))))))))) (dnO (some ((0:Int),b.2.2.2))))
def o18 (c:Int) (d:Bt):Option (Int×List (Int×Int×Int×Bt)) :=
 (bd (α:=(Int×Bt×Bool)) (cnd (decide (c < (1:Int))) (some (c,d,true)) (some (c,d,(decide (c > (2305843009213693952:Int)))))) (fun b=>(cnd b.2.2 (some ((1:Int),([]:List (Int×Int×Int×Bt)))) (cnd (decide (((b.2.1.length:Nat):Int) > (524288:Int))) (some ((3:Int),([]:List (Int×Int×Int×Bt)))) (loopO (σ:=Oj) fuelN SH ((b.1,b.2.1,(maxI (IntKind.wrap .i64 (Int.tdiv (IntKind.wrap .i64 ((IntKind.wrap .i64 (((b.2.1.length:Nat):Int)+(600:Int))) - (1:Int))) (600:Int))) (1:Int))),(maxI (IntKind.wrap .i64 (Int.tdiv (IntKind.wrap .i64 ((IntKind.wrap .i64 (((b.2.1.length:Nat):Int)+(600:Int))) - (1:Int))) (600:Int))) (1:Int)),(0:Int),([]:List (Int×Int×Int×Bt))))))))
def h18:HC:=(.s .d (.s (.s (.j false [Ajc] .d) .d) (.s .d (.s .d (.s .d (.s (.s .d (.b (.l [Ajd] .d))) .d))))))
def T2:Tbl:=(18,⟨⟨[(0,.v (.c (.i .i64))),(1,.v (.c (.ro .y false)))],[]⟩,[⟨[(0,.tup [.c (.own 0),.c (.i .i64)])],[Oi]⟩],fun t=>(o18 t.1 t.2)⟩)::T1
theorem K2:TK T2:=kc K1 Tryz.f18 h18 fun t=>by kernel_rfl
def o63 (b:Int) (c:Int) (d:Int):Option Int :=
 (cnd (decide (c≥b)) (cnd (decide ((IntKind.wrap .u64 ((IntKind.wrap .u64 c) - (IntKind.wrap .u64 b)))≤(IntKind.wrap .u64 (maxI d (0:Int))))) (some c) (some (IntKind.wrap .i64 (b+(maxI d (0:Int)))))) (cnd (decide ((IntKind.wrap .u64 ((IntKind.wrap .u64 b) - (IntKind.wrap .u64 c)))≤(IntKind.wrap .u64 (maxI d (0:Int))))) (some c) (some (IntKind.wrap .i64 (b - (maxI d (0:Int)))))))
def T3:Tbl:=(63,⟨⟨[(0,.v (.c (.i .i64))),(1,.v (.c (.i .i64))),(2,.v (.c (.i .i64)))],[]⟩,[⟨[(0,.v (.c (.i .i64)))],[]⟩],fun t=>(o63 t.1 t.2.1 t.2.2)⟩)::T2
theorem K3:TK T3:=kc K2 Tryz.f63 .d fun t=>by kernel_rfl
def BP:SSh:= .v (.agg [.i .u8,.i .u8,.i .u8,.i .i64,.i .i64,.i .i64,.i .i64])
def GS:SSh:= .v (.agg [.i .i64,.i .i64,.i .i64,.i .i64])
abbrev BF:Type:=(I3)×(I2)×I2
def o19 (c:BF) (b:BF) (d:(I2)×I2):Option BF :=
 (bd (o63 c.2.1.1 b.2.1.1 d.1.1) (fun e=>(bd (o63 c.2.1.2 b.2.1.2 d.1.2) (fun f=>(bd (o63 c.2.2.1 b.2.2.1 d.2.1) (fun g=>(bd (o63 c.2.2.2 b.2.2.2 d.2.2) (fun h=>(some (b.1,(e,f),g,h))))))))))
def T4:Tbl:=(19,⟨⟨[(0,BP),(1,BP),(2,GS)],[]⟩,[⟨[(0,BP)],[]⟩],fun t=>(o19 t.1 t.2.1 t.2.2)⟩)::T3
theorem K4:TK T4:=kc K3 Tryz.f19 .d fun t=>by kernel_rfl
def Aje:Sch:=⟨[(5,.v (.c (.i .i64))),(9,.v (.c (.own 0))),(10,.v (.c (.i .i64))),(11,.v (.c (.i .i64))),(21,.v (.c (.b)))],[.row .y 5]⟩
def Ajf:Sch:=⟨[(9,.v (.c (.own 0))),(10,.v (.c (.i .i64))),(11,.v (.c (.i .i64)))],[.row .y 5]⟩
def GD (b:Int×Int×Bt) :=
 (cnd (decide (b.2.1 < b.1)) (gd (decide ((0:Int)≤b.2.1∧b.2.1 < ((b.2.2.length:Nat):Int))) (bd (α:=((I2)×I4)) (cnd (((UInt8.toNat (List.getD b.2.2 b.2.1.toNat (0:UInt8)):Nat):Int)==(4:Int)) (some ((b.2.1,b.1),b.2.1,true,b.2.2)) (some ((b.2.1,b.1),b.2.1,(((UInt8.toNat (List.getD b.2.2 b.2.1.toNat (0:UInt8)):Nat):Int)==(3:Int)),b.2.2))) (fun c=>(cnd c.2.2.1 (dnO (some (IntKind.wrap .i64 (c.1.1+(1:Int))))) (some (Ctl.go (c.1.2,(IntKind.wrap .i64 (c.2.1+(1:Int))),c.2.2.2))))))) (dnO (some (0:Int))))
def o20 (b:Int) (c:Int):Option Int :=
 (loopO (σ:=Int×Int×Bt) fuelN GD (((([(u8 b),(u8 c)]:Bt).length:Nat):Int),(0:Int),([(u8 b),(u8 c)]:Bt)))
def h20:HC:=(.s .d (.s (.s .d (.b (.l [Ajf] (.s .d (.s .d (.s (.b (.s .d (.s (.j false [Aje] .d) .d))) .d)))))) .d))
def T5:Tbl:=(20,⟨⟨[(0,.v (.c (.i .u8))),(1,.v (.c (.i .u8)))],[]⟩,[⟨[(0,.v (.c (.i .i64)))],[]⟩],fun t=>(o20 t.1 t.2)⟩)::T4
theorem K5:TK T5:=kc K4 Tryz.f20 h20 fun t=>by kernel_rfl
def AlN:Sch:=⟨[(0,.v (.c (.b)))],[]⟩
def o7:Option Bool :=
 (bd (o18 (3:Int) (List.replicate (601:Int).toNat (u8 (0:Int)))) (fun b=>(bd (o19 zTg (((0:Int),(0:Int),(0:Int)),((-700:Int),(0:Int)),(0:Int),(0:Int)) (((300:Int),(0:Int)),(0:Int),(0:Int))) (fun c=>(bd (α:=Bool) (cnd (((b.2.length:Nat):Int)==(2:Int)) (gd (decide ((0:Int)≤(1:Int)∧(1:Int) < ((b.2.length:Nat):Int))) (cnd (((List.getD b.2 ((1:Int).toNat) ((0:Int),((0:Int),((0:Int),([]:Bt))))).2).1==(1:Int)) (gd (decide ((0:Int)≤(1:Int)∧(1:Int) < ((b.2.length:Nat):Int))) (cnd ((((List.getD b.2 ((1:Int).toNat) ((0:Int),((0:Int),((0:Int),([]:Bt))))).2).2).1==(2:Int)) (gd (decide ((0:Int)≤(1:Int)∧(1:Int) < ((b.2.length:Nat):Int))) (cnd (((((((List.getD b.2 ((1:Int).toNat) ((0:Int),((0:Int),((0:Int),([]:Bt))))).2).2).2).length:Nat):Int)==(1:Int)) (cnd (b.1==(0:Int)) (cnd (c.2.1.1==(-300:Int)) (bd (o20 (2:Int) (3:Int)) (fun d=>(cnd (d==(2:Int)) (bd (o20 (1:Int) (2:Int)) (fun e=>(some (e==(0:Int))))) (some false)))) (some false)) (some false)) (some false))) (some false))) (some false))) (some false)) (fun f=>(some f)))))))
def h7:HC:=(.s .d (.s .d (.s .d (.s (.j false [AlN] .d) .d))))
def T6:Tbl:=(7,⟨⟨[],[]⟩,[⟨[(0,.v (.c (.b)))],[]⟩],fun t=>o7⟩)::T5
theorem K6:TK T6:=kc K5 Tryz.f7 h7 fun t=>by kernel_rfl
def Ajg:Sch:=⟨[(0,.v (.c (.i .i64))),(1,.v (.c (.i .i64))),(5,.v (.c (.own 0))),(6,.v (.c (.i .i64)))],[.row .y 5]⟩
def JE (b:(I2)×Int×Bt) :=
 (cnd (decide (b.2.1 < b.1.2)) (gd (decide ((0:Int)≤(IntKind.wrap .i64 ((8:Int)*b.2.1)))) (gd (decide ((b.2.2.length+([(u8 (IntKind.wrap .u8 (shrK .u64 (IntKind.wrap .u64 b.1.1) (IntKind.wrap .i64 ((8:Int)*b.2.1)))))]:Bt).length)*1≤140737488355328)) (some (Ctl.go (b.1,(IntKind.wrap .i64 (b.2.1+(1:Int))),(b.2.2++([(u8 (IntKind.wrap .u8 (shrK .u64 (IntKind.wrap .u64 b.1.1) (IntKind.wrap .i64 ((8:Int)*b.2.1)))))]:Bt))))))) (dnO (some b.2.2)))
def o85 (b:Int) (c:Int):Option (Bt) :=
 (loopO (σ:=(I2)×Int×Bt) fuelN JE ((b,c),(0:Int),([]:Bt)))
def h85:HC:=(.s .d (.s .d (.s (.s .d (.b (.l [Ajg] .d))) .d)))
def T7:Tbl:=(85,⟨⟨[(0,.v (.c (.i .i64))),(1,.v (.c (.i .i64)))],[]⟩,[⟨[(0,.v (.c (.own 0)))],[.row .y 5]⟩],fun t=>(o85 t.1 t.2)⟩)::T6
theorem K7:TK T7:=kc K6 Tryz.f85 h85 fun t=>by kernel_rfl
def FB:BSh:= .cells 56 [.i .u64,.i .i64,.i .i64]
def GT:SSh:= .v (.agg [.i .u64,.i .i64,.i .i64])
def Ajh:Sch:=⟨[(1,.v (.c (.ptr 0 0))),(3,.v (.c (.own 1))),(4,.v (.c (.i .i64)))],[FB,.row .y 5]⟩
def SI (b:Int×(I3)×Bt) :=
 (cnd (decide (b.1 < b.2.1.2.2)) (gd (decide ((0:Int)≤(IntKind.wrap .i64 ((Int.tmod b.1 (8:Int))*(8:Int))))) (gd (decide ((b.2.2.length+([(u8 (IntKind.wrap .u8 ((IntKind.wrap .u8 (shrK .u64 b.2.1.1 (IntKind.wrap .i64 ((Int.tmod b.1 (8:Int))*(8:Int)))))+(IntKind.wrap .u8 b.1))))]:Bt).length)*1≤140737488355328)) (some (Ctl.go ((IntKind.wrap .i64 (b.1+(1:Int))),b.2.1,(b.2.2++([(u8 (IntKind.wrap .u8 ((IntKind.wrap .u8 (shrK .u64 b.2.1.1 (IntKind.wrap .i64 ((Int.tmod b.1 (8:Int))*(8:Int)))))+(IntKind.wrap .u8 b.1))))]:Bt))))))) (dnO (some b.2.2)))
def o48 (b:I3):Option (Bt) :=
 (bd (o85 (IntKind.wrap .i64 b.1) (8:Int)) (fun c=>(bd (o85 b.2.1 (8:Int)) (fun d=>(gd (decide ((c.length+d.length)*1≤140737488355328)) (loopO (σ:=Int×(I3)×Bt) fuelN SI ((0:Int),b,(c++d))))))))
def h48:HC:=(.s .d (.s .d (.s .d (.s (.s .d (.b (.l [Ajh] .d))) .d))))
def T8:Tbl:=(48,⟨⟨[(0,GT)],[]⟩,[⟨[(0,.v (.c (.own 0)))],[.row .y 5]⟩],fun t=>(o48 t)⟩)::T7
theorem K8:TK T8:=kc K7 Tryz.f48 h48 fun t=>by kernel_rfl
def o180 (b:I3):Option (Bt) :=
 (bd (o48 b) (fun c=>(some c)))
def T9:Tbl:=(180,⟨⟨[(0,.v (.c (.ptr 0 0)))],[.lent [.i .u64,.i .i64,.i .i64]]⟩,[⟨[(0,.v (.c (.own 1)))],[.no,.row .y 5]⟩],fun t=>(o180 t)⟩)::T8
theorem K9:TK T9:=kc K8 Tryz.f180 .d fun t=>by kernel_rfl
def Aji:Sch:=⟨[(0,.v (.c (.ro .y false))),(1,.v (.c (.ro .y false))),(12,.v (.c (.i .i64))),(13,.v (.c (.i .i64)))],[]⟩
def SJ (b:(Bt×Bt)×I2) :=
 (cnd (decide (b.2.2 < b.2.1)) (gd (decide ((0:Int)≤b.2.2∧b.2.2 < ((b.1.1.length:Nat):Int))) (gd (decide ((0:Int)≤b.2.2∧b.2.2 < ((b.1.2.length:Nat):Int))) (cnd (((UInt8.toNat (List.getD b.1.1 b.2.2.toNat (0:UInt8)):Nat):Int) != ((UInt8.toNat (List.getD b.1.2 b.2.2.toNat (0:UInt8)):Nat):Int)) (dnO (some false)) (some (Ctl.go (b.1,b.2.1,(IntKind.wrap .i64 (b.2.2+(1:Int))))))))) (dnO (some true)))
def o47 (b:Bt) (c:Bt):Option Bool :=
 (cnd (((b.length:Nat):Int) != ((c.length:Nat):Int)) (some false) (loopO (σ:=(Bt×Bt)×I2) fuelN SJ ((b,c),((b.length:Nat):Int),(0:Int))))
def h47:HC:=(.s .d (.s .d (.s (.s .d (.b (.l [Aji] .d))) .d)))
def T10:Tbl:=(47,⟨⟨[(0,.v (.c (.ro .y false))),(1,.v (.c (.ro .y false)))],[]⟩,[⟨[(0,.v (.c (.b)))],[]⟩],fun t=>(o47 t.1 t.2)⟩)::T9
theorem K10:TK T10:=kc K9 Tryz.f47 h47 fun t=>by kernel_rfl
def GU:SSh:= .tup [.c (.ptr 0 0),.c (.ic .i64 (0))]
def Ab:BSh:= .cells 197 [.i .i64,.i .u8,.i .i64,.i .i64,.i .u8,.i .i64,.ro .y true,.i .u8,.i .i64,.i .i64,.i .i64,.ro .y true,.b,.b,.i .i64,.i .i64,.b,.ro .y true,.b,.i .i64,.i .u8,.i .u8,.i .u8,.i .i64,.i .i64,.i .i64,.i .i64]
abbrev Ae:Type:=(((I3)×I3)×(Bt×I2)×(I2)×Bt×Bool)×((Bool×I2)×(Bool×Bt)×Bool×Int)×(I3)×(I2)×I2
def o64:Option Ae :=
 (some (((((1:Int),(1:Int),(0:Int)),(0:Int),(0:Int),(0:Int)),(([]:Bt),(0:Int),(0:Int)),((0:Int),(0:Int)),([]:Bt),false),((false,(0:Int),(0:Int)),(false,([]:Bt)),false,(0:Int)),((0:Int),(0:Int),(0:Int)),((0:Int),(0:Int)),(0:Int),(0:Int)))
def T11:Tbl:=(64,⟨⟨[(0,.v (.c (.ic .i64 (1))))],[]⟩,[⟨[(0,GU)],[Ab]⟩],fun t=>o64⟩)::T10
theorem K11:TK T11:=kc K10 Tryz.f64 .d fun t=>by kernel_rfl
def Ad:BSh:= .cells 230 [.ro (.p (.i .i64) (.p (.i .i64) (.p (.i .i64) (.a .y)))) true]
def o65:Option (List (Int×Int×Int×Bt)) :=
 (some ([]:List (Int×Int×Int×Bt)))
def T12:Tbl:=(65,⟨⟨[],[]⟩,[⟨[(0,.v (.c (.ptr 0 0)))],[Ad]⟩],fun t=>o65⟩)::T11
theorem K12:TK T12:=kc K11 Tryz.f65 .d fun t=>by kernel_rfl
def Ew:BSh:= .cells 232 [.i .i64,.i .i64,.own 1,.own 2]
def Ac:BSh:= .row (.p (.i .i64) (.p (.i .i64) (.p .b (.a .y)))) 123
abbrev AE:Type:=(I2)×List Bt×List (Int×I4)
def o66:Option AE :=
 (some (((0:Int),(0:Int)),([]:List Bt),([]:List (Int×I4))))
def T13:Tbl:=(66,⟨⟨[],[]⟩,[⟨[(0,.v (.c (.ptr 0 0)))],[Ew,.row (.a .y) 33,Ac]⟩],fun t=>o66⟩)::T12
theorem K13:TK T13:=kc K12 Tryz.f66 .d fun t=>by kernel_rfl
def AQ:BSh:= .cells 137 [.i .i64,.ptr 1 0,.ptr 2 0,.ptr 3 0,.i .i64,.i .i64,.b,.i .i64,.i .i64]
def Bp:BSh:= .cells 232 [.i .i64,.i .i64,.own 4,.own 5]
abbrev BQ:Type:=(((I3)×Bool×I2)×Ae×List (Int×Int×Int×Bt))×(I2)×List Bt×List (Int×I4)
def o21:Option BQ :=
 (bd (α:=Ae) o64 (fun b=>(bd (α:=(List (Int×Int×Int×Bt))) o65 (fun c=>(bd (α:=AE) o66 (fun d=>(some (((((1:Int),(0:Int),(0:Int)),false,(0:Int),(0:Int)),b,c),d))))))))
def T14:Tbl:=(21,⟨⟨[(0,.v (.c (.ic .i64 (1))))],[]⟩,[⟨[(0,GU)],[AQ,Ab,Ad,Bp,.row (.a .y) 33,Ac]⟩],fun t=>o21⟩)::T13
theorem K14:TK T14:=kc K13 Tryz.f21 .d fun t=>by kernel_rfl
def AiD:Option Ae :=
 (some (((((2:Int),(1:Int),(0:Int)),(0:Int),(0:Int),(0:Int)),(([]:Bt),(0:Int),(0:Int)),((0:Int),(0:Int)),([]:Bt),false),((false,(0:Int),(0:Int)),(false,([]:Bt)),false,(0:Int)),((0:Int),(0:Int),(0:Int)),((0:Int),(0:Int)),(0:Int),(0:Int)))
def T15:Tbl:=(64,⟨⟨[(0,.v (.c (.ic .i64 (2))))],[]⟩,[⟨[(0,GU)],[Ab]⟩],fun t=>AiD⟩)::T14
theorem K15:TK T15:=kc K14 Tryz.f64 .d fun t=>by kernel_rfl
def IH:Option BQ :=
 (bd (α:=Ae) AiD (fun b=>(bd (α:=(List (Int×Int×Int×Bt))) o65 (fun c=>(bd (α:=AE) o66 (fun d=>(some (((((2:Int),(0:Int),(0:Int)),false,(0:Int),(0:Int)),b,c),d))))))))
def T16:Tbl:=(21,⟨⟨[(0,.v (.c (.ic .i64 (2))))],[]⟩,[⟨[(0,GU)],[AQ,Ab,Ad,Bp,.row (.a .y) 33,Ac]⟩],fun t=>IH⟩)::T15
theorem K16:TK T16:=kc K15 Tryz.f21 .d fun t=>by kernel_rfl
def Aa:BSh:= .cells 62 [.i .u64,.i .i64,.i .i64]
def JF:BSh:= .cells 25 [.i .i64,.i .i64,.i .i64,.i .i64]
def Yn:SSh:= .tup [.c (.cst (.pointer none)),.c (.ic .i64 (1))]
def Yo:SSh:= .tup [.c (.cst (.pointer none)),.c (.ic .i64 (3))]
def Yp:SSh:= .tup [.c (.ptr 2 0),.c (.ic .i64 (0))]
def Yq:BSh:= .cells 105 [.ifc 60 (.ptr 0 0),.ifc 60 (.ptr 1 0),.ptr 3 0,.ptr 4 0,.ro .y true,.i .i64,.i .i64,.i .i64,.i .i64,.i .i64,.i .u8,.i .u8,.i .u8,.i .i64,.i .i64,.i .i64,.i .i64]
def Ap:BSh:= .cells 137 [.i .i64,.ptr 5 0,.ptr 6 0,.ptr 7 0,.i .i64,.i .i64,.b,.i .i64,.i .i64]
def BA:BSh:= .cells 137 [.i .i64,.ptr 8 0,.ptr 9 0,.ptr 10 0,.i .i64,.i .i64,.b,.i .i64,.i .i64]
def BG:BSh:= .cells 232 [.i .i64,.i .i64,.own 11,.own 12]
def At:BSh:= .cells 232 [.i .i64,.i .i64,.own 13,.own 14]
abbrev Ag:Type:=((Bt×I2)×I3)×(I3)×(I2)×I2
abbrev Yr:Type:=(((I3)×(I3)×Ag)×(((I3)×Bool×I2)×(I3)×Bool×I2)×Ae×List (Int×Int×Int×Bt))×(((I2)×Ae)×(List (Int×Int×Int×Bt))×I2)×(List Bt×List (Int×I4))×List Bt×List (Int×I4)
abbrev Ys:Type:=(Bool×I3)×(I3)×(I2)×I2
def Ajj:Sch:=⟨[(0,.v (.c (.ifc 60 (.ptr 0 0)))),(1,.v (.c (.ifc 60 (.ptr 1 0)))),(5,.v (.c (.ptr 2 0))),(37,.v (.c (.b)))],[Aa,Aa,JF]⟩
def o12 (c:(I2)×I2) (e:I3) (f:I3):Option (((I3)×I3) ⊕ ((I3)×I3) ⊕ Yr) :=
 (bd (α:=Ys) (cnd (decide (c.1.1 < (0:Int))) (some ((true,e),f,c)) (cnd (decide (c.1.2 < (0:Int))) (some ((true,e),f,c)) (cnd (decide (c.2.1 < (0:Int))) (some ((true,e),f,c)) (some (((decide (c.2.2 < (0:Int))),e),f,c))))) (fun b=>(cnd b.1.1 (some (Sum.inl (b.1.2,b.2.1))) (bd (o180 b.1.2) (fun h=>(bd (o180 b.2.1) (fun i=>(bd (o47 h i) (fun j=>(cnd (!j) (some (Sum.inl (b.1.2,b.2.1))) (cnd (decide (((h.length:Nat):Int) > (524288:Int))) (some (Sum.inr (Sum.inl (b.1.2,b.2.1)))) (bd (o33 h) (fun k=>(bd (α:=BQ) o21 (fun g=>(bd (α:=BQ) IH (fun d=>(some (Sum.inr (Sum.inr (((b.1.2,b.2.1,((k,b.2.2.1),b.2.2.2.1,b.2.2.2.2,(0:Int)),((0:Int),(0:Int),(0:Int)),((0:Int),(0:Int)),(0:Int),(0:Int)),(g.1.1,d.1.1),g.1.2),((g.2.1,d.1.2.1),d.1.2.2,d.2.1),g.2.2,d.2.2)))))))))))))))))))))
def h12:HC:=(.s .d (.s (.s (.j false [Ajj] .d) .d) (.s .d (.s .d (.s .d (.s (.r 2) (.s (.s .d (.b (.u 3 (.v (.s .d (.s .d (.s (.b (.s .d (.r 6))) .d))) (.v (.s .d (.s .d (.s (.b (.s .d (.r 6))) .d))) (.v .d .d)))))) .d)))))))
def T17:Tbl:=(12,⟨⟨[(0,.v (.c (.ifc 60 (.ptr 0 0)))),(1,.v (.c (.ifc 60 (.ptr 1 0)))),(2,GS)],[Aa,Aa]⟩,[⟨[(0,Yn)],[Aa,Aa]⟩,⟨[(0,Yo)],[Aa,Aa]⟩,⟨[(0,Yp)],[Aa,Aa,Yq,Ap,BA,Ab,Ad,BG,Ab,Ad,At,.row (.a .y) 33,Ac,.row (.a .y) 33,Ac]⟩],fun t=>(o12 t.1 t.2.1 t.2.2)⟩)::T16
theorem K17:TK T17:=kc K16 Tryz.f12 h12 fun t=>by kernel_rfl
def Ok:BSh:= .cells 25 [.ic .i64 (0),.ic .i64 (0),.ic .i64 (0),.ic .i64 (0)]
def DN:BSh:= .cells 105 [.ifc 60 (.ptr 3 0),.ifc 60 (.ptr 4 0),.ptr 5 0,.ptr 6 0,.ro .y true,.i .i64,.i .i64,.i .i64,.i .i64,.i .i64,.i .u8,.i .u8,.i .u8,.i .i64,.i .i64,.i .i64,.i .i64]
def CJ:BSh:= .cells 137 [.i .i64,.ptr 7 0,.ptr 8 0,.ptr 9 0,.i .i64,.i .i64,.b,.i .i64,.i .i64]
def Au:BSh:= .cells 137 [.i .i64,.ptr 10 0,.ptr 11 0,.ptr 12 0,.i .i64,.i .i64,.b,.i .i64,.i .i64]
def Bm:BSh:= .cells 232 [.i .i64,.i .i64,.own 15,.own 16]
def Yt:SSh:= .v (.agg [.i .u64,.i .u16,.i .i64,.i .i64,.i .i64,.i .i64,.ro (.p (.a .y) (.p (.a .y) (.p (.p .b .b) (.p (.p .b .b) (.p (.p .b .b) (.p (.p (.i .i64) (.i .i64)) (.p (.p (.p .b (.p (.i .i64) (.i .u32))) (.p (.p .b (.p (.i .i64) (.i .u32))) (.p (.p .b (.p (.i .i64) (.i .u32))) (.p .b (.p (.i .i64) (.i .u32)))))) (.p (.p .b (.p (.i .i64) (.i .u32))) (.p (.p .b (.p (.i .i64) (.i .u32))) (.p (.p .b (.p (.i .i64) (.i .u32))) (.p .b (.p (.i .i64) (.i .u32))))))))))))) false])
def Yu:SSh:= .tup [.c (.cst (.pointer none)),.agg [.i .i64,.i .i64,.i .i64,.i .i64]]
def Yv:SSh:= .tup [.c (.ptr 0 0),.agg [.i .i64,.i .i64,.i .i64,.i .i64]]
def Dk:BSh:= .cells 105 [.ifc 60 (.ptr 1 0),.ifc 60 (.ptr 2 0),.ptr 3 0,.ptr 4 0,.ro .y true,.i .i64,.i .i64,.i .i64,.i .i64,.i .i64,.i .u8,.i .u8,.i .u8,.i .i64,.i .i64,.i .i64,.i .i64]
abbrev AW:Type:=(I3)×(I2)×Int×List (Bt×Bt×(B2)×(B2)×(B2)×(I2)×((Bool×I2)×(Bool×I2)×(Bool×I2)×Bool×I2)×(Bool×I2)×(Bool×I2)×(Bool×I2)×Bool×I2)
abbrev Ol:Type:=(((((I2)×I2)×Ag)×(I3)×I3)×(((I3)×Bool×I2)×(I3)×Bool×I2)×Ae×List (Int×Int×Int×Bt))×(((I2)×Ae)×(List (Int×Int×Int×Bt))×I2)×(List Bt×List (Int×I4))×List Bt×List (Int×I4)
def AlO:Sch:=⟨[(3,.v (.c (.ptr 0 0))),(5,.v (.c (.ptr 1 0))),(6,.v (.c (.cst (.pointer none))))],[Ok,JF]⟩
def AlP:Sch:=⟨[(3,.v (.c (.ptr 0 0))),(5,.v (.c (.ptr 1 0))),(6,.v (.c (.ptr 2 0)))],[Ok,JF,DN,Aa,Aa,CJ,Au,Ab,Ad,At,Ab,Ad,Bm,.row (.a .y) 33,Ac,.row (.a .y) 33,Ac]⟩
def o8 (b:AW):Option (((I2)×I2) ⊕ Ol) :=
 (bd (α:=((I2)×I2) ⊕ Ol) (bd (o12 (((landK .i64 b.1.2.2 (65535:Int)),(landK .i64 b.2.1.1 (65535:Int))),(landK .i64 b.2.1.2 (16777215:Int)),(landK .i64 b.2.2.1 (65535:Int))) (b.1.1,(0:Int),(Int.tmod (IntKind.wrap .i64 b.1.2.1) (1900:Int))) (b.1.1,(0:Int),(Int.tmod (IntKind.wrap .i64 b.1.2.1) (1900:Int)))) (fun d=>(sm d (fun i=>(some (Sum.inl (((landK .i64 b.1.2.2 (65535:Int)),(landK .i64 b.2.1.1 (65535:Int))),(landK .i64 b.2.1.2 (16777215:Int)),(landK .i64 b.2.2.1 (65535:Int)))))) (fun e=>(sm e (fun j=>(some (Sum.inl (((landK .i64 b.1.2.2 (65535:Int)),(landK .i64 b.2.1.1 (65535:Int))),(landK .i64 b.2.1.2 (16777215:Int)),(landK .i64 b.2.2.1 (65535:Int)))))) (fun c=>(some (Sum.inr (((((((landK .i64 b.1.2.2 (65535:Int)),(landK .i64 b.2.1.1 (65535:Int))),(landK .i64 b.2.1.2 (16777215:Int)),(landK .i64 b.2.2.1 (65535:Int))),c.1.1.2.2),c.1.1.1,c.1.1.2.1),c.1.2),c.2))))))))) (fun f=>(sm f (fun g=>(some (Sum.inl g))) (fun h=>(some (Sum.inr h))))))
def h8:HC:=(.s .d (.s .d (.s .d (.s .d (.s (.j false [AlO,AlP] .d) .d)))))
def T18:Tbl:=(8,⟨⟨[(0,Yt)],[]⟩,[⟨[(0,Yu)],[]⟩,⟨[(0,Yv)],[Dk,Aa,Aa,Ap,BA,Ab,Ad,BG,Ab,Ad,At,.row (.a .y) 33,Ac,.row (.a .y) 33,Ac]⟩],fun t=>(o8 t)⟩)::T17
theorem K18:TK T18:=kc K17 Tryz.f8 h8 fun t=>by kernel_rfl
def FC:BSh:= .lent [.ifc 60 (.ptr 1 0),.ifc 60 (.ptr 2 0),.ptr 3 0,.ptr 7 0,.ro .y false,.i .i64,.i .i64,.i .i64,.i .i64,.i .i64,.i .u8,.i .u8,.i .u8,.i .i64,.i .i64,.i .i64,.i .i64]
def BH:BSh:= .lent [.i .i64,.ptr 4 0,.ptr 5 0,.ptr 6 0,.i .i64,.i .i64,.b,.i .i64,.i .i64]
def AG:BSh:= .lent [.i .i64,.i .u8,.i .i64,.i .i64,.i .u8,.i .i64,.ro .y false,.i .u8,.i .i64,.i .i64,.i .i64,.ro .y false,.b,.b,.i .i64,.i .i64,.b,.ro .y false,.b,.i .i64,.i .u8,.i .u8,.i .u8,.i .i64,.i .i64,.i .i64,.i .i64]
def AX:BSh:= .lent [.ro (.p (.i .i64) (.p (.i .i64) (.p (.i .i64) (.a .y)))) false]
def AP:BSh:= .lent [.i .i64,.i .i64,.ro (.a .y) false,.ro (.p (.i .i64) (.p (.i .i64) (.p .b (.a .y)))) false]
def JG:BSh:= .lent [.i .i64,.ptr 8 0,.ptr 9 0,.ptr 10 0,.i .i64,.i .i64,.b,.i .i64,.i .i64]
def o15 (b:Ag) (c:I3) (d:I3) (e:(I3)×Bool×I2) (f:Ae) (g:List (Int×Int×Int×Bt)) (h:AE) (i:(I3)×Bool×I2) (j:Ae) (k:List (Int×Int×Int×Bt)) (l:AE):Option BF :=
 (some b.2)
def T19:Tbl:=(15,⟨⟨[(0,.v (.c (.ptr 0 0)))],[FC,.lent [.i .u64,.i .i64,.i .i64],.lent [.i .u64,.i .i64,.i .i64],BH,AG,AX,AP,JG,AG,AX,AP]⟩,[⟨[(0,BP)],[.no,.no,.no,.no,.no,.no,.no,.no,.no,.no,.no]⟩],fun t=>(o15 t.1.1.1 t.1.1.2 t.1.2.1 t.1.2.2.1 t.1.2.2.2 t.2.1.1 t.2.1.2.1 t.2.1.2.2 t.2.2.1 t.2.2.2.1 t.2.2.2.2)⟩)::T18
theorem K19:TK T19:=kc K18 Tryz.f15 .d fun t=>by kernel_rfl
def o10 (b:Bt) (c:Int):Option (Bt) :=
 (gd (decide ((0:Int)≤(minI ((b.length:Nat):Int) c)∧(minI ((b.length:Nat):Int) c)≤((b.length:Nat):Int))) (some (List.take (minI ((b.length:Nat):Int) c).toNat b)))
def T20:Tbl:=(10,⟨⟨[(0,.v (.c (.ro .y true))),(1,.v (.c (.i .i64)))],[]⟩,[⟨[(0,.v (.c (.ro .y true)))],[]⟩],fun t=>(o10 t.1 t.2)⟩)::T19
theorem K20:TK T20:=kc K19 Tryz.f10 .d fun t=>by kernel_rfl
def o105 (b:Ae):Option Ae :=
 (some ((((b.1.1.1.1,(1:Int),(0:Int)),b.1.1.2),b.1.2),b.2))
def T21:Tbl:=(105,⟨⟨[(0,.v (.c (.ptr 0 0)))],[Ab]⟩,[⟨[(0,.tup [])],[Ab]⟩],fun t=>(o105 t)⟩)::T20
theorem K21:TK T21:=kc K20 Tryz.f105 .d fun t=>by kernel_rfl
def o67 (c:Ae):Option Ae :=
 (bd (o105 c) (fun b=>(some (((b.1.1.1,b.1.1.2.1,(0:Int),b.1.1.2.2.2),b.1.2),b.2))))
def T22:Tbl:=(67,⟨⟨[(0,.v (.c (.ptr 0 0)))],[Ab]⟩,[⟨[(0,.tup [])],[Ab]⟩],fun t=>(o67 t)⟩)::T21
theorem K22:TK T22:=kc K21 Tryz.f67 .d fun t=>by kernel_rfl
def o106 (b:List (Int×Int×Int×Bt)):Option (List (Int×Int×Int×Bt)) :=
 (some ([]:List (Int×Int×Int×Bt)))
def T23:Tbl:=(106,⟨⟨[(0,.v (.c (.ptr 0 0)))],[Ad]⟩,[⟨[(0,.tup [])],[Ad]⟩],fun t=>(o106 t)⟩)::T22
theorem K23:TK T23:=kc K22 Tryz.f106 .d fun t=>by kernel_rfl
def JH:BSh:= .cells 232 [.i .i64,.i .i64,.own 3,.own 4]
abbrev Yw:Type:=((I2)×List Bt)×(List (Int×I4))×List Bt×List (Int×I4)
def o107 (d:I2) (b:List Bt) (c:List (Int×I4)):Option Yw :=
 (some ((((0:Int),(0:Int)),b),c,([]:List Bt),([]:List (Int×I4))))
def T24:Tbl:=(107,⟨⟨[(0,.v (.c (.ptr 0 0)))],[Ew,.row (.a .y) 33,Ac]⟩,[⟨[(0,.tup [])],[JH,.row (.a .y) 33,Ac,.row (.a .y) 33,Ac]⟩],fun t=>(o107 t.1 t.2.1 t.2.2)⟩)::T23
theorem K24:TK T24:=kc K23 Tryz.f107 .d fun t=>by kernel_rfl
def GV:BSh:= .cells 232 [.i .i64,.i .i64,.own 6,.own 7]
abbrev Om:Type:=((((I3)×Bool×I2)×Ae)×(List (Int×Int×Int×Bt))×I2)×(List Bt×List (Int×I4))×List Bt×List (Int×I4)
def o68 (c:(I3)×Bool×I2) (d:Ae) (e:List (Int×Int×Int×Bt)) (f:I2) (g:List Bt) (h:List (Int×I4)):Option Om :=
 (bd (o106 e) (fun i=>(bd (o107 f g h) (fun b=>(some (((c,d),i,b.1.1),(b.1.2,b.2.1),b.2.2))))))
def T25:Tbl:=(68,⟨⟨[(0,.v (.c (.ptr 0 0)))],[AQ,Ab,Ad,Bp,.row (.a .y) 33,Ac]⟩,[⟨[(0,.tup [])],[AQ,Ab,Ad,GV,.row (.a .y) 33,Ac,.row (.a .y) 33,Ac]⟩],fun t=>(o68 t.1.1 t.1.2.1 t.1.2.2 t.2.1 t.2.2.1 t.2.2.2)⟩)::T24
theorem K25:TK T25:=kc K24 Tryz.f68 .d fun t=>by kernel_rfl
def o22 (b:(I3)×Bool×I2) (c:Ae) (d:List (Int×Int×Int×Bt)) (e:I2) (f:List Bt) (g:List (Int×I4)):Option Om :=
 (bd (o67 c) (fun h=>(bd (o68 ((b.1.1,(0:Int),b.1.2.2),b.2) h d e f g) (fun i=>(some i)))))
def T26:Tbl:=(22,⟨⟨[(0,.v (.c (.ptr 0 0)))],[AQ,Ab,Ad,Bp,.row (.a .y) 33,Ac]⟩,[⟨[(0,.tup [])],[AQ,Ab,Ad,GV,.row (.a .y) 33,Ac,.row (.a .y) 33,Ac]⟩],fun t=>(o22 t.1.1 t.1.2.1 t.1.2.2 t.2.1 t.2.2.1 t.2.2.2)⟩)::T25
theorem K26:TK T26:=kc K25 Tryz.f22 .d fun t=>by kernel_rfl
def LN:Option Unit :=
 (some ())
def T27:Tbl:=(22,⟨⟨[(0,.v (.c (.cst (.pointer none))))],[]⟩,[⟨[(0,.tup [])],[]⟩],fun t=>LN⟩)::T26
theorem K27:TK T27:=kc K26 Tryz.f22 .d fun t=>by kernel_rfl
def JI:BSh:= .lent [.i .i64,.ptr 1 0,.ptr 2 0,.ptr 3 0,.i .i64,.i .i64,.b,.i .i64,.i .i64]
def o71 (b:Int) (c:(I3)×Bool×I2) (d:Ae) (e:List (Int×Int×Int×Bt)) (f:AE):Option Int :=
 (cnd (c.1.2.1 != b) (some (8:Int)) (some (0:Int)))
def T28:Tbl:=(71,⟨⟨[(0,.v (.c (.ptr 0 0))),(1,.v (.c (.i .i64)))],[JI,AG,AX,AP]⟩,[⟨[(0,.v (.c (.i .i64)))],[.no,.no,.no,.no]⟩],fun t=>(o71 t.1.1 t.1.2 t.2.1 t.2.2.1 t.2.2.2)⟩)::T27
theorem K28:TK T28:=kc K27 Tryz.f71 .d fun t=>by kernel_rfl
def o44 (b:Ae):Option Int :=
 (some b.1.1.1.2.1)
def T29:Tbl:=(44,⟨⟨[(0,.v (.c (.ptr 0 0)))],[AG]⟩,[⟨[(0,.v (.c (.i .u8)))],[.no]⟩],fun t=>(o44 t)⟩)::T28
theorem K29:TK T29:=kc K28 Tryz.f44 .d fun t=>by kernel_rfl
def o46 (d:(I3)×Bool×I2) (b:Ae) (e:List (Int×Int×Int×Bt)) (f:AE):Option Bool :=
 (bd (o44 b) (fun c=>(some (c==(1:Int)))))
def T30:Tbl:=(46,⟨⟨[(0,.v (.c (.ptr 0 0)))],[JI,AG,AX,AP]⟩,[⟨[(0,.v (.c (.b)))],[.no,.no,.no,.no]⟩],fun t=>(o46 t.1.1 t.1.2 t.2.1 t.2.2)⟩)::T29
theorem K30:TK T30:=kc K29 Tryz.f46 .d fun t=>by kernel_rfl
def o72 (b:AE):Option (I2) :=
 (some (b.1.1,((b.2.1.length:Nat):Int)))
def T31:Tbl:=(72,⟨⟨[(0,.v (.c (.ptr 0 0)))],[AP]⟩,[⟨[(0,.v (.agg [.i .i64,.i .i64]))],[.no]⟩],fun t=>(o72 t)⟩)::T30
theorem K31:TK T31:=kc K30 Tryz.f72 .d fun t=>by kernel_rfl
def o111 (b:Int) (c:Ae):Option Int :=
 (cnd (c.1.1.2.2.1 != b) (some (8:Int)) (some (0:Int)))
def T32:Tbl:=(111,⟨⟨[(0,.v (.c (.ptr 0 0))),(1,.v (.c (.i .u8)))],[AG]⟩,[⟨[(0,.v (.c (.i .i64)))],[.no]⟩],fun t=>(o111 t.1 t.2)⟩)::T31
theorem K32:TK T32:=kc K31 Tryz.f111 .d fun t=>by kernel_rfl
def AfC:Sch:=⟨[(0,.v (.c (.own 1))),(1,.v (.c (.i .i64))),(8,.v (.c (.i .i64))),(9,.v (.c (.i .i64)))],[.no,.row .y 5]⟩
def AfD (b:(I2)×Int×Bt) :=
 (cnd (decide (b.2.1 < b.1.2)) (gd (decide ((0:Int)≤(IntKind.wrap .i64 ((8:Int)*b.2.1)))) (gd (decide ((b.2.2.length+([(u8 (IntKind.wrap .u8 (shrK .i64 b.1.1 (IntKind.wrap .i64 ((8:Int)*b.2.1)))))]:Bt).length)*1≤140737488355328)) (some (Ctl.go (b.1,(IntKind.wrap .i64 (b.2.1+(1:Int))),(b.2.2++([(u8 (IntKind.wrap .u8 (shrK .i64 b.1.1 (IntKind.wrap .i64 ((8:Int)*b.2.1)))))]:Bt))))))) (dnO (some b.2.2)))
def o148 (b:Int) (c:Int) (d:Bt):Option (Bt) :=
 (loopO (σ:=(I2)×Int×Bt) fuelN AfD ((b,c),(0:Int),d))
def h148:HC:=(.s .d (.s (.s .d (.b (.l [AfC] .d))) .d))
def T33:Tbl:=(148,⟨⟨[(0,.v (.c (.own 0))),(1,.v (.c (.i .i64))),(2,.v (.c (.i .i64)))],[.row .y 5]⟩,[⟨[(0,.v (.c (.own 1)))],[.no,.row .y 5]⟩],fun t=>(o148 t.1 t.2.1 t.2.2)⟩)::T32
theorem K33:TK T33:=kc K32 Tryz.f148 h148 fun t=>by kernel_rfl
def Yx:BSh:= .cells 179 [.i .u8,.i .i64,.i .i64,.i .i64,.ro .y false]
def On:SSh:= .v (.agg [.i .u8,.i .i64,.i .i64,.i .i64,.ro .y false])
def AfE:Sch:=⟨[(1,.v (.c (.ptr 0 0))),(35,.v (.c (.b)))],[Yx]⟩
def o112 (b:(I2)×Int×Int×Bt):Option (Int×Bt) :=
 (bd (α:=(Bool×(I2)×Int×Int×Bt)) (cnd (decide (b.1.1 < (1:Int))) (some (true,b)) (cnd (decide (b.1.1 > (3:Int))) (some (true,b)) (cnd (decide (b.1.2 < (0:Int))) (some (true,b)) (cnd (decide (b.2.1 < (0:Int))) (some (true,b)) (cnd (decide (b.2.2.1 < (0:Int))) (some (true,b)) (some ((decide (b.2.2.1 > (65535:Int))),b))))))) (fun c=>(cnd c.1 (some ((1:Int),([]:Bt))) (cnd (decide (((c.2.2.2.2.length:Nat):Int) > (400:Int))) (some ((3:Int),([]:Bt))) (bd (o148 c.2.1.2 (8:Int) ([(u8 c.2.1.1)]:Bt)) (fun e=>(bd (o148 c.2.2.1 (8:Int) e) (fun f=>(bd (o148 c.2.2.2.1 (2:Int) f) (fun d=>(gd (decide ((d.length+c.2.2.2.2.length)*1≤140737488355328)) (some ((0:Int),(d++c.2.2.2.2))))))))))))))
def h112:HC:=(.s .d (.s (.s (.j false [AfE] .d) .d) (.s .d (.s .d (.s (.r 2) .d)))))
def T34:Tbl:=(112,⟨⟨[(0,On)],[]⟩,[⟨[(0,.tup [.c (.own 0),.c (.i .i64)])],[.row .y 5]⟩],fun t=>(o112 t)⟩)::T33
theorem K34:TK T34:=kc K33 Tryz.f112 h112 fun t=>by kernel_rfl
def Yy:BSh:= .lent [.i .i64,.i .u8,.i .i64,.i .i64,.i .u8,.i .i64,.ro .y false,.i .u8,.i .i64,.i .i64,.i .i64,.cst (.slice none 0 0),.b,.b,.i .i64,.i .i64,.b,.cst (.slice none 0 0),.b,.i .i64,.i .u8,.i .u8,.i .u8,.i .i64,.i .i64,.i .i64,.i .i64]
def Oo:SSh:= .v (.agg [.i .u8,.i .u8,.i .i64,.own 1])
abbrev Yz:Type:=(((I3)×I3)×(Bt×I2)×Int×Int×Bool)×((Bool×I2)×Bool×Bool×Int)×(I3)×(I2)×I2
def o113 (c:Int) (b:Yz) (d:Bt):Option ((I3)×Bt) :=
 (some ((c,(IntKind.wrap .u8 b.1.1.1.1),b.1.1.2.2.2),d))
def T35:Tbl:=(113,⟨⟨[(0,.v (.c (.ptr 0 0))),(1,.v (.c (.i .u8))),(2,.v (.c (.own 1)))],[Yy,.row .y 5]⟩,[⟨[(0,Oo)],[.no,.row .y 5]⟩],fun t=>(o113 t.1 t.2.1 t.2.2)⟩)::T34
theorem K35:TK T35:=kc K34 Tryz.f113 .d fun t=>by kernel_rfl
def YA:SSh:= .tup [.agg [.i .u8,.i .u8,.i .i64,.own 1],.c (.i .i64)]
def o73 (d:Int) (f:Bt) (g:I2) (b:Ae):Option (((I2)×I2)×Ae×Bt) :=
 (bd (o111 (0:Int) b) (fun h=>(cnd (h != (0:Int)) (some ((((0:Int),(0:Int)),(0:Int),h),b,([]:Bt))) (cnd (decide (d < (0:Int))) (some ((((0:Int),(0:Int)),(0:Int),(1:Int)),b,([]:Bt))) (bd (o112 (b.1.1.1.2,g.1,g.2,f)) (fun e=>(cnd (e.1 != (0:Int)) (some ((((0:Int),(0:Int)),(0:Int),e.1),b,([]:Bt))) (bd (o33 f) (fun i=>(bd (o113 (1:Int) (((b.1.1.1,b.1.1.2.1,(1:Int),d),(i,(0:Int),(0:Int)),(0:Int),(0:Int),false),((b.2.1.1.1,(0:Int),(0:Int)),false,false,(0:Int)),((0:Int),(0:Int),(0:Int)),((0:Int),(0:Int)),(0:Int),(0:Int)) e.2) (fun c=>(some (((c.1.1,c.1.2.1),c.1.2.2,(0:Int)),(((b.1.1.1,b.1.1.2.1,(1:Int),d),(i,(0:Int),(0:Int)),((0:Int),(0:Int)),([]:Bt),false),((b.2.1.1.1,(0:Int),(0:Int)),(false,([]:Bt)),false,(0:Int)),((0:Int),(0:Int),(0:Int)),((0:Int),(0:Int)),(0:Int),(0:Int)),c.2)))))))))))))
def T36:Tbl:=(73,⟨⟨[(0,.v (.c (.ptr 0 0))),(1,.v (.c (.i .i64))),(2,.v (.c (.ro .y false))),(3,.v (.agg [.i .i64,.i .i64]))],[Ab]⟩,[⟨[(0,YA)],[Ab,.row .y 5]⟩],fun t=>(o73 t.1.1 t.1.2 t.2.1 t.2.2)⟩)::T35
theorem K36:TK T36:=kc K35 Tryz.f73 (.s .d (.s .d (.s .d (.s (.r 1) .d)))) fun t=>by kernel_rfl
def Bi:BSh:= .cells 110 [.i .u8,.i .u8,.i .i64,.ro .y true]
def Oq:SSh:= .tup [.agg [.i .u8,.i .u8,.i .i64,.ro .y true],.c (.i .i64)]
abbrev YB:Type:=(((I2)×Int×Bt×Int)×((I3)×Bool×I2)×Ae)×((List (Int×Int×Int×Bt))×I2)×List Bt×List (Int×I4)
abbrev YC:Type:=((Int×Bt)×((I3)×Bool×I2)×Ae×List (Int×Int×Int×Bt))×((I2)×List Bt)×(List (Int×I4))×((I2)×Int×Bt)×I2
abbrev YD:Type:=((Int×(I3)×Bool×I2)×Ae×List (Int×Int×Int×Bt))×((I2)×List Bt)×(List (Int×I4))×((I2)×Int×Bt)×(I2)×Int×Bt
def Ajk:Sch:=⟨[(6,.v (.c (.ptr 6 0))),(10,.v (.c (.ptr 7 0))),(11,.v (.c (.i .i64)))],[AQ,Ab,Ad,Bp,.row (.a .y) 33,Ac,Bi,Bi]⟩
def Ajl:Sch:=⟨[(0,.v (.c (.ptr 0 0))),(1,.v (.c (.i .i64))),(2,.v (.c (.ro .y false))),(6,.v (.c (.ptr 6 0))),(9,.v (.c (.ptr 7 0)))],[AQ,Ab,Ad,Bp,.row (.a .y) 33,Ac,Bi,.cells 135 [.i .i64,.i .i64]]⟩
def o25 (k:Int) (l:Bt) (h:(I3)×Bool×I2) (i:Ae) (j:List (Int×Int×Int×Bt)) (e:I2) (f:List Bt) (g:List (Int×I4)):Option YB :=
 (bd (o71 (0:Int) h i j (e,f,g)) (fun m=>(cnd (m != (0:Int)) (some (((((0:Int),(0:Int)),(0:Int),([]:Bt),m),h,i),(j,e),f,g)) (bd (α:=YC) (bd (o46 h i j (e,f,g)) (fun n=>(cnd n (bd (o72 (e,f,g)) (fun o=>(some (((k,l),h,i,j),(e,f),g,(((0:Int),(0:Int)),(0:Int),([]:Bt)),o)))) (some (((k,l),h,i,j),(e,f),g,(((0:Int),(0:Int)),(0:Int),([]:Bt)),(0:Int),(0:Int)))))) (fun b=>(bd (α:=(((I2)×I2)×Ae×Bt)) (o73 b.1.1.1 b.1.1.2 b.2.2.2.2 b.1.2.2.1) (fun c=>(bd (α:=YD) (cnd (c.1.2.2==(0:Int)) (some (((c.1.2.2,(b.1.2.1.1.1,(1:Int),b.1.1.1),false,b.1.2.1.2.2),c.2.1,b.1.2.2.2),b.2.1,b.2.2.1,b.2.2.2.1,c.1.1,c.1.2.1,c.2.2)) (some (((c.1.2.2,b.1.2.1),c.2.1,b.1.2.2.2),b.2.1,b.2.2.1,b.2.2.2.1,c.1.1,c.1.2.1,c.2.2))) (fun d=>(some (((d.2.2.2.2.1,d.2.2.2.2.2.1,d.2.2.2.2.2.2,d.1.1.1),d.1.1.2,d.1.2.1),(d.1.2.2,d.2.1.1),d.2.1.2,d.2.2.1)))))))))))
def h25:HC:=(.s .d (.s .d (.s .d (.j false [Ajl] (.s .d (.s (.r 2) (.j false [Ajk] .d)))))))
def T37:Tbl:=(25,⟨⟨[(0,.v (.c (.ptr 0 0))),(1,.v (.c (.i .i64))),(2,.v (.c (.ro .y false)))],[AQ,Ab,Ad,Bp,.row (.a .y) 33,Ac]⟩,[⟨[(0,Oq)],[AQ,Ab,Ad,Bp,.row (.a .y) 33,Ac]⟩],fun t=>(o25 t.1.1.1 t.1.1.2 t.1.2.1 t.1.2.2 t.2.1.1 t.2.1.2 t.2.2.1 t.2.2.2)⟩)::T36
theorem K37:TK T37:=kc K36 Tryz.f25 h25 fun t=>by kernel_rfl
def DO:BSh:= .cells 105 [.ifc 60 (.ptr 3 0),.ifc 60 (.ptr 4 0),.ptr 5 0,.cst (.pointer none),.ro .y true,.i .i64,.i .i64,.i .i64,.i .i64,.i .i64,.i .u8,.i .u8,.i .u8,.i .i64,.i .i64,.i .i64,.i .i64]
def Bq:BSh:= .cells 137 [.i .i64,.ptr 6 0,.ptr 7 0,.ptr 8 0,.i .i64,.i .i64,.b,.i .i64,.i .i64]
def Be:BSh:= .cells 232 [.i .i64,.i .i64,.own 9,.own 10]
def DP:SSh:= .tup [.agg [.i .u8,.i .u8,.i .i64,.ro .y true],.c (.b)]
abbrev JJ:Type:=((((I2)×Int×Bt×Bool)×Ag)×(I3)×(I3)×(I3)×Bool×I2)×(Ae×List (Int×Int×Int×Bt))×(I2)×List Bt×List (Int×I4)
abbrev JK:Type:=((Bt×(Bt×Bt)×Ag)×(I3)×(I3)×(I3)×Bool×I2)×(Ae×(List (Int×Int×Int×Bt))×I2)×List Bt×(List (Int×I4))×(I2)×Int×Bt
def Ot (b:JK):Option JJ :=
 (bd (o25 b.1.1.2.2.1.2.2.2 b.1.1.1 b.1.2.2.2 b.2.1.1 b.2.1.2.1 b.2.1.2.2 b.2.2.1 b.2.2.2.1) (fun c=>(some ((((c.1.1.1,c.1.1.2.1,c.1.1.2.2.1,(c.1.1.2.2.2==(0:Int))),b.1.1.2.2),b.1.2.1,b.1.2.2.1,c.1.2.1),(c.1.2.2,c.2.1.1),c.2.1.2,c.2.2))))
def Ajm:Sch:=⟨[(0,.v (.c (.ic .i64 (0)))),(2,.v (.c (.ptr 1 0))),(4,.v (.c (.ptr 11 0))),(6,.v (.c (.ro .y false)))],[.lent [.ro .y false,.ro .y false],.cells 30 [.ptr 2 0],DO,Aa,Aa,Bq,Ab,Ad,Be,.row (.a .y) 33,Ac,Bi]⟩
def o24 (b:Bt×Bt) (c:Ag) (d:I3) (e:I3) (f:(I3)×Bool×I2) (g:Ae) (h:List (Int×Int×Int×Bt)) (i:I2) (j:List Bt) (k:List (Int×I4)):Option JJ :=
 (bd (α:=JK) (cnd (decide (((b.1.length:Nat):Int) > (400:Int))) (some (((([]:Bt),b,c),d,e,f),(g,h,i),j,k,((0:Int),(0:Int)),(0:Int),([]:Bt))) (some (((b.1,b,c),d,e,f),(g,h,i),j,k,((0:Int),(0:Int)),(0:Int),([]:Bt)))) Ot)
def h24:HC:=(.s .d (.s .d (.j false [Ajm] (.s .d (.s (.r 1) .d)))))
def T38:Tbl:=(24,⟨⟨[(0,.v (.c (.ic .i64 (0)))),(1,.v (.c (.ptr 0 0))),(2,.v (.c (.ptr 1 0)))],[.lent [.ro .y false,.ro .y false],.cells 30 [.ptr 2 0],DO,Aa,Aa,Bq,Ab,Ad,Be,.row (.a .y) 33,Ac]⟩,[⟨[(0,DP)],[.no,.cells 30 [.ptr 2 0],DO,Aa,Aa,Bq,Ab,Ad,Be,.row (.a .y) 33,Ac]⟩],fun t=>(o24 t.1.1.1 t.1.1.2 t.1.2.1 t.1.2.2.1 t.1.2.2.2 t.2.1.1 t.2.1.2 t.2.2.1 t.2.2.2.1 t.2.2.2.2)⟩)::T37
theorem K38:TK T38:=kc K37 Tryz.f24 h24 fun t=>by kernel_rfl
def AfF:Sch:=⟨[(0,.v (.c (.i .u32))),(9,.v (.c (.i .i64)))],[]⟩
def Mz (b:I2) :=
 (cnd (decide (b.2 < (8:Int))) (cnd ((landK .u32 b.1 (1:Int))==(1:Int)) (some (Ctl.go ((lxorK .u32 (shrK .u32 b.1 (1:Int)) (3988292384:Int)),(IntKind.wrap .i64 (b.2+(1:Int)))))) (some (Ctl.go ((shrK .u32 b.1 (1:Int)),(IntKind.wrap .i64 (b.2+(1:Int))))))) (dnO (some b.1)))
def o161 (b:Int) (c:Int):Option Int :=
 (loopO (σ:=I2) fuelN Mz ((lxorK .u32 b (IntKind.wrap .u32 c)),(0:Int)))
def h161:HC:=(.s .d (.s .d (.s (.s .d (.b (.l [AfF] .d))) .d)))
def T39:Tbl:=(161,⟨⟨[(0,.v (.c (.i .u32))),(1,.v (.c (.i .u8)))],[]⟩,[⟨[(0,.v (.c (.i .u32)))],[]⟩],fun t=>(o161 t.1 t.2)⟩)::T38
theorem K39:TK T39:=kc K38 Tryz.f161 h161 fun t=>by kernel_rfl
def AfG:Sch:=⟨[(5,.v (.c (.i .u32))),(10,.v (.c (.ro .y false))),(11,.v (.c (.i .i64))),(12,.v (.c (.i .i64)))],[]⟩
def MA (b:(Int×Bt)×I2) :=
 (cnd (decide (b.2.2 < b.2.1)) (gd (decide ((0:Int)≤b.2.2∧b.2.2 < ((b.1.2.length:Nat):Int))) (bd (o161 b.1.1 ((UInt8.toNat (List.getD b.1.2 b.2.2.toNat (0:UInt8)):Nat):Int)) (fun c=>(some (Ctl.go ((c,b.1.2),b.2.1,(IntKind.wrap .i64 (b.2.2+(1:Int))))))))) (dnO (some (lxorK .u32 (4294967295:Int) b.1.1))))
def o158 (c:Int) (b:Bt):Option Int :=
 (loopO (σ:=(Int×Bt)×I2) fuelN MA (((lxorK .u32 (4294967295:Int) c),b),((b.length:Nat):Int),(0:Int)))
def h158:HC:=(.s .d (.s .d (.s (.s .d (.b (.l [AfG] .d))) .d)))
def T40:Tbl:=(158,⟨⟨[(0,.v (.c (.i .u32))),(1,.v (.c (.ro .y false)))],[]⟩,[⟨[(0,.v (.c (.i .u32)))],[]⟩],fun t=>(o158 t.1 t.2)⟩)::T39
theorem K40:TK T40:=kc K39 Tryz.f158 h158 fun t=>by kernel_rfl
def o146 (b:Bt):Option Int :=
 (bd (o158 (0:Int) b) (fun c=>(some c)))
def T41:Tbl:=(146,⟨⟨[(0,.v (.c (.ro .y false)))],[]⟩,[⟨[(0,.v (.c (.i .u32)))],[]⟩],fun t=>(o146 t)⟩)::T40
theorem K41:TK T41:=kc K40 Tryz.f146 .d fun t=>by kernel_rfl
def o108 (c:Bt):Option (Bt) :=
 (bd (o146 c) (fun b=>(bd (o33 c) (fun d=>(gd (decide ((d.length+([(u8 (IntKind.wrap .u8 b)),(u8 (IntKind.wrap .u8 (shrK .u32 b (8:Int)))),(u8 (IntKind.wrap .u8 (shrK .u32 b (16:Int)))),(u8 (IntKind.wrap .u8 (shrK .u32 b (24:Int))))]:Bt).length)*1≤140737488355328)) (some (d++([(u8 (IntKind.wrap .u8 b)),(u8 (IntKind.wrap .u8 (shrK .u32 b (8:Int)))),(u8 (IntKind.wrap .u8 (shrK .u32 b (16:Int)))),(u8 (IntKind.wrap .u8 (shrK .u32 b (24:Int))))]:Bt))))))))
def T42:Tbl:=(108,⟨⟨[(0,.v (.c (.ro .y false)))],[]⟩,[⟨[(0,.v (.c (.own 0)))],[.row .y 5]⟩],fun t=>(o108 t)⟩)::T41
theorem K42:TK T42:=kc K41 Tryz.f108 .d fun t=>by kernel_rfl
def JL:BSh:= .cells 110 [.i .u8,.i .u8,.i .i64,.ro .y false]
def BI:SSh:= .v (.agg [.i .u8,.i .u8,.i .i64,.ro .y false])
def Ajn:Sch:=⟨[(1,.v (.c (.ptr 0 0))),(4,.v (.c (.own 1))),(16,.v (.c (.i .i64)))],[JL,.row .y 5]⟩
def SK (b:Int×((I2)×Int×Bt)×Bt) :=
 (cnd (decide (b.1 < (8:Int))) (gd (decide ((0:Int)≤(IntKind.wrap .i64 ((8:Int)*b.1)))) (gd (decide ((b.2.2.length+([(u8 (IntKind.wrap .u8 (shrK .i64 b.2.1.2.1 (IntKind.wrap .i64 ((8:Int)*b.1)))))]:Bt).length)*1≤140737488355328)) (some (Ctl.go ((IntKind.wrap .i64 (b.1+(1:Int))),b.2.1,(b.2.2++([(u8 (IntKind.wrap .u8 (shrK .i64 b.2.1.2.1 (IntKind.wrap .i64 ((8:Int)*b.1)))))]:Bt))))))) (dnO (gd (decide ((b.2.2.length+([(u8 (IntKind.wrap .u8 ((b.2.1.2.2.length:Nat):Int))),(u8 (IntKind.wrap .u8 (shrK .i64 ((b.2.1.2.2.length:Nat):Int) (8:Int))))]:Bt).length)*1≤140737488355328)) (gd (decide (((b.2.2++([(u8 (IntKind.wrap .u8 ((b.2.1.2.2.length:Nat):Int))),(u8 (IntKind.wrap .u8 (shrK .i64 ((b.2.1.2.2.length:Nat):Int) (8:Int))))]:Bt)).length+b.2.1.2.2.length)*1≤140737488355328)) (bd (o108 ((b.2.2++([(u8 (IntKind.wrap .u8 ((b.2.1.2.2.length:Nat):Int))),(u8 (IntKind.wrap .u8 (shrK .i64 ((b.2.1.2.2.length:Nat):Int) (8:Int))))]:Bt))++b.2.1.2.2)) (fun c=>(some ((0:Int),c))))))))
def o69 (b:(I2)×Int×Bt):Option (Int×Bt) :=
 (cnd (decide (((b.2.2.length:Nat):Int) > (1000:Int))) (some ((3:Int),([]:Bt))) (loopO (σ:=Int×((I2)×Int×Bt)×Bt) fuelN SK ((0:Int),b,([(u8 b.1.1),(u8 b.1.2)]:Bt))))
def h69:HC:=(.s .d (.s .d (.s .d (.s (.s .d (.b (.l [Ajn] .d))) .d))))
def T43:Tbl:=(69,⟨⟨[(0,BI)],[]⟩,[⟨[(0,.tup [.c (.own 0),.c (.i .i64)])],[.row .y 5]⟩],fun t=>(o69 t)⟩)::T42
theorem K43:TK T43:=kc K42 Tryz.f69 h69 fun t=>by kernel_rfl
abbrev YE:Type:=(Bt×I2)×Bool×(Bool×I2)×Bt
def AfH:Sch:=⟨[(0,.v (.c (.ro .y false))),(3,.v (.c (.ptr 0 0))),(6,.v (.c (.own 1))),(23,.v (.c (.b)))],[.cells 38 [.b,.i .i64,.i .u32],.row .y 5]⟩
def AfI:Sch:=⟨[(0,.v (.c (.ro .y false))),(3,.v (.c (.ptr 0 0))),(6,.v (.c (.own 1))),(8,.v (.c (.i .i64))),(25,.v (.c (.i .i64))),(48,.v (.c (.b)))],[.cells 38 [.b,.i .i64,.i .u32],.row .y 5]⟩
def AfJ:Sch:=⟨[(0,.v (.c (.ro .y false))),(3,.v (.c (.ptr 0 0))),(6,.v (.c (.own 1))),(25,.v (.c (.i .i64)))],[.cells 38 [.b,.i .i64,.i .u32],.row .y 5]⟩
def MB (b:(Bt×Int)×(Bool×I2)×Bt) :=
 (cnd (decide (b.1.2 < (32:Int))) (bd (α:=YE) (gd (decide ((0:Int)≤b.1.2)) (cnd ((landK .u32 (shrK .u32 b.2.1.2.2 b.1.2) (1:Int))==(1:Int)) (cnd (decide ((IntKind.wrap .i64 (b.2.1.2.1+b.1.2))≥(0:Int))) (some ((b.1.1,(IntKind.wrap .i64 (b.2.1.2.1+b.1.2)),b.1.2),(decide ((IntKind.wrap .i64 (b.2.1.2.1+b.1.2)) < (IntKind.wrap .i64 ((8:Int)*((b.1.1.length:Nat):Int))))),b.2)) (some ((b.1.1,(IntKind.wrap .i64 (b.2.1.2.1+b.1.2)),b.1.2),false,b.2))) (some ((b.1.1,(IntKind.wrap .i64 (b.2.1.2.1+b.1.2)),b.1.2),false,b.2)))) (fun c=>(cnd c.2.1 (gd (decide ((0:Int)≤(IntKind.wrap .i64 (Int.tdiv c.1.2.1 (8:Int)))∧(IntKind.wrap .i64 (Int.tdiv c.1.2.1 (8:Int))) < ((c.2.2.2.length:Nat):Int))) (gd (decide ((0:Int)≤(Int.tmod c.1.2.1 (8:Int)))) (gd (decide ((0:Int)≤(IntKind.wrap .i64 (Int.tdiv c.1.2.1 (8:Int)))∧(IntKind.wrap .i64 (Int.tdiv c.1.2.1 (8:Int))) < ((c.2.2.2.length:Nat):Int))) (some (Ctl.go ((c.1.1,(IntKind.wrap .i64 (c.1.2.2+(1:Int)))),c.2.2.1,(List.set c.2.2.2 ((IntKind.wrap .i64 (Int.tdiv c.1.2.1 (8:Int))).toNat) (u8 (lxorK .u8 ((UInt8.toNat (List.getD c.2.2.2 ((IntKind.wrap .i64 (Int.tdiv c.1.2.1 (8:Int))).toNat) (0:UInt8)):Nat):Int) (shlK .u8 (1:Int) (Int.tmod c.1.2.1 (8:Int)))))))))))) (some (Ctl.go ((c.1.1,(IntKind.wrap .i64 (c.1.2.2+(1:Int)))),c.2.2)))))) (dnO (some (true,b.2.2))))
def o109 (c:Bt) (b:Bool×I2):Option (Bool×Bt) :=
 (cnd b.1 (some (false,([]:Bt))) (bd (o33 c) (fun e=>(bd (α:=((Bt×Bool)×(Bool×I2)×Bt)) (cnd (decide (b.2.1 < (-31:Int))) (some ((c,true),b,e)) (some ((c,(decide (b.2.1≥(IntKind.wrap .i64 ((8:Int)*((c.length:Nat):Int)))))),b,e))) (fun d=>(cnd d.1.2 (some (true,d.2.2)) (loopO (σ:=(Bt×Int)×(Bool×I2)×Bt) fuelN MB ((d.1.1,(0:Int)),d.2))))))))
def h109:HC:=(.s .d (.s .d (.s .d (.s (.s (.j false [AfH] .d) .d) (.s (.s .d (.b (.l [AfJ] (.s .d (.s .d (.s (.b (.s .d (.s .d (.s (.j false [AfI] .d) .d)))) .d)))))) .d)))))
def T44:Tbl:=(109,⟨⟨[(0,.v (.c (.ro .y false))),(1,.v (.agg [.b,.i .i64,.i .u32]))],[]⟩,[⟨[(0,.tup [.c (.own 0),.c (.b)])],[.row .y 5]⟩],fun t=>(o109 t.1 t.2)⟩)::T43
theorem K44:TK T44:=kc K43 Tryz.f109 h109 fun t=>by kernel_rfl
def AfK:Sch:=⟨[(0,.v (.c (.ro .y false))),(4,.v (.c (.i .i64))),(54,.v (.c (.b)))],[]⟩
def o147 (b:Bt):Option (Int×Bt) :=
 (cnd (decide ((IntKind.wrap .i64 (((b.length:Nat):Int) - (4:Int))) < (0:Int))) (some ((4:Int),([]:Bt))) (gd (decide ((0:Int)≤(IntKind.wrap .i64 (((b.length:Nat):Int) - (4:Int)))∧(IntKind.wrap .i64 (((b.length:Nat):Int) - (4:Int)))≤((b.length:Nat):Int))) (bd (o146 (List.take (IntKind.wrap .i64 (((b.length:Nat):Int) - (4:Int))).toNat b)) (fun d=>(bd (α:=(Bt×Int×Bool)) (gd (decide ((0:Int)≤(IntKind.wrap .i64 (((b.length:Nat):Int) - (4:Int)))∧(IntKind.wrap .i64 (((b.length:Nat):Int) - (4:Int))) < ((b.length:Nat):Int))) (cnd (((UInt8.toNat (List.getD b (IntKind.wrap .i64 (((b.length:Nat):Int) - (4:Int))).toNat (0:UInt8)):Nat):Int) != (IntKind.wrap .u8 d)) (some (b,(IntKind.wrap .i64 (((b.length:Nat):Int) - (4:Int))),true)) (gd (decide ((0:Int)≤(IntKind.wrap .i64 ((IntKind.wrap .i64 (((b.length:Nat):Int) - (4:Int)))+(1:Int)))∧(IntKind.wrap .i64 ((IntKind.wrap .i64 (((b.length:Nat):Int) - (4:Int)))+(1:Int))) < ((b.length:Nat):Int))) (cnd (((UInt8.toNat (List.getD b (IntKind.wrap .i64 ((IntKind.wrap .i64 (((b.length:Nat):Int) - (4:Int)))+(1:Int))).toNat (0:UInt8)):Nat):Int) != (IntKind.wrap .u8 (shrK .u32 d (8:Int)))) (some (b,(IntKind.wrap .i64 (((b.length:Nat):Int) - (4:Int))),true)) (gd (decide ((0:Int)≤(IntKind.wrap .i64 ((IntKind.wrap .i64 (((b.length:Nat):Int) - (4:Int)))+(2:Int)))∧(IntKind.wrap .i64 ((IntKind.wrap .i64 (((b.length:Nat):Int) - (4:Int)))+(2:Int))) < ((b.length:Nat):Int))) (cnd (((UInt8.toNat (List.getD b (IntKind.wrap .i64 ((IntKind.wrap .i64 (((b.length:Nat):Int) - (4:Int)))+(2:Int))).toNat (0:UInt8)):Nat):Int) != (IntKind.wrap .u8 (shrK .u32 d (16:Int)))) (some (b,(IntKind.wrap .i64 (((b.length:Nat):Int) - (4:Int))),true)) (gd (decide ((0:Int)≤(IntKind.wrap .i64 ((IntKind.wrap .i64 (((b.length:Nat):Int) - (4:Int)))+(3:Int)))∧(IntKind.wrap .i64 ((IntKind.wrap .i64 (((b.length:Nat):Int) - (4:Int)))+(3:Int))) < ((b.length:Nat):Int))) (some (b,(IntKind.wrap .i64 (((b.length:Nat):Int) - (4:Int))),(((UInt8.toNat (List.getD b (IntKind.wrap .i64 ((IntKind.wrap .i64 (((b.length:Nat):Int) - (4:Int)))+(3:Int))).toNat (0:UInt8)):Nat):Int) != (IntKind.wrap .u8 (shrK .u32 d (24:Int))))))))))))) (fun c=>(cnd c.2.2 (some ((12:Int),([]:Bt))) (gd (decide ((0:Int)≤c.2.1∧c.2.1≤((c.1.length:Nat):Int))) (bd (o33 (List.take c.2.1.toNat c.1)) (fun e=>(some ((0:Int),e))))))))))))
def h147:HC:=(.s .d (.s .d (.s .d (.s .d (.s (.s (.j false [AfK] .d) .d) .d)))))
def T45:Tbl:=(147,⟨⟨[(0,.v (.c (.ro .y false)))],[]⟩,[⟨[(0,.tup [.c (.own 0),.c (.i .i64)])],[.row .y 5]⟩],fun t=>(o147 t)⟩)::T44
theorem K45:TK T45:=kc K44 Tryz.f147 h147 fun t=>by kernel_rfl
end
end Go.Proofs.YtpleflcfaecojaaGreat
