/-
The stages of a cycle, true false. Conditions: each lemma's own.
-/
import Derived.Test.YtpleflcfaecojaaGreatM17
namespace Go.Proofs.YtpleflcfaecojaaGreat
set_option linter.unusedVariables false
set_option linter.unusedSimpArgs false
set_option maxRecDepth 100000
open Go.RowKit
def Y0 (w:W):=((w.p.e,w.m1.e,w.m2.e),w.c1.h,w.c1.nd.e,w.c1.ps)
def Y1 (w:W):=(((w.p.e,w.m1.e),w.m2.e,w.c1.h,w.c1.nd.e),(w.c1.ps,w.c1.cz,w.f1.e,w.f2.e),(w.b1,w.b2),w.c1.co.ps,w.c1.co.ss)
def Y2 (w:W):=((w.f1.e,w.f2.e),(w.b1,w.b2),w.s1,w.s2)
def Y3 (w:W):=(((w.p.e,w.m1.e,w.m2.e),w.c1.h,w.c1.nd.e,w.c1.ps),(w.c1.cz,w.c1.co.ps,w.c1.co.ss),(w.f1.e,w.f2.e),(w.b1,w.b2),w.r.e)
theorem CP {x:Int} (h:x≤10000):x≤1000000:=by omega
theorem IX {w:W} {a b:Bool} (h:w.ok a b) {x:Cp×Frm×Bool} {ft:Ft} {lab:Int} (hx:x.1.ok):(w.clr.put1 true x ft lab).ok a b :=
 ⟨h.init,h.p1,h.p2,fun _=>hx,h.c2,Nat.zero_le _,DX _ _ _ _ _ _⟩
theorem WT {w:W} {a b x y:Bool} (h:w.ok a b):(w.hear x y).ok a b:=⟨h.init,h.p1,h.p2,fun e=>Ai (P:=Cp.ok) (Hy (h.c1 e)) (h.c1 e),fun e=>Ai (P:=Cp.ok) (Hy (h.c2 e)) (h.c2 e),h.f1,h.f2⟩
theorem Tm {w:W} {a b x y:Bool} (h:w.ok a b):(w.judge x y).ok a b:=⟨h.init,h.p1,h.p2,fun e=>Ai (P:=Cp.ok) (FL (h.c1 e)) (h.c1 e),fun e=>Ai (P:=Cp.ok) (FL (h.c2 e)) (h.c2 e),h.f1,h.f2⟩
theorem WU {w:W} {a b x y:Bool} (h:w.ok a b):(w.node x y).ok a b:=⟨h.init,h.p1,h.p2,h.c1,h.c2,h.f1,h.f2⟩
theorem WV {w:W} {a b x y:Bool} (h:w.ok a b):(w.take x y).ok a b:=by
 refine ⟨h.init,?_,?_,fun e=>Ai (P:=Cp.ok) (Hz (h.c1 e)) (h.c1 e),fun e=>Ai (P:=Cp.ok) (Hz (h.c2 e)) (h.c2 e),h.f1,h.f2⟩
 ·exact Ai (P:=fun z:Mc=>0≤z.pad∧z.pad≤10000) (by rw [Gk];exact h.p1) h.p1
 ·exact Ai (P:=fun z:Mc=>0≤z.pad∧z.pad≤10000) (by rw [Gk];exact h.p2) h.p2
theorem DF (m:Mc) {l:List ST} {i:Nat} (h:i < l.length):(runL m (l.take i)).stepM (l.getD i (0,0,false,[])).2.1 (l.getD i (0,0,false,[])).2.2.2=runL m (l.take (i+1)):=by
 unfold runL
 rw [List.take_succ_eq_append_getElem h,List.foldl_append,BX h]
 rfl
theorem Gl {α β:Type} {a a':Mc} {k:Int} {k':Nat} (h:a=a') (h2:k=(k':Int)+1) (F:Mc→Int→α):some (Ctl.go (ρ:=β) (F a k))=some (Ctl.go (F a' ((k'+1:Nat):Int))):=by
 subst h;subst h2;rfl
theorem Ale {w:W} (h:w.ok true false) (one two:List UInt8):o24 (one,two) w.p.e w.m1.e w.m2.e w.c1.h w.c1.nd.e w.c1.ps w.c1.cz w.c1.co.ps w.c1.co.ss=some ((((((Az w.c1 w.p.cycle one).2.1.label,(Az w.c1 w.p.cycle one).2.1.from_),(Az w.c1 w.p.cycle one).2.1.cycle,(Az w.c1 w.p.cycle one).2.1.payload,(Az w.c1 w.p.cycle one).2.2),w.p.e),w.m1.e,w.m2.e,(Az w.c1 w.p.cycle one).1.h),((Az w.c1 w.p.cycle one).1.nd.e,(Az w.c1 w.p.cycle one).1.ps),(Az w.c1 w.p.cycle one).1.cz,(Az w.c1 w.p.cycle one).1.co.ps,(Az w.c1 w.p.cycle one).1.co.ss):=by
 unfold o24
 refine (bdS (t:=(((inpC one,(one,two),w.p.e),w.m1.e,w.m2.e,w.c1.h),(w.c1.nd.e,w.c1.ps,w.c1.cz),w.c1.co.ps,w.c1.co.ss,((0:Int),(0:Int)),(0:Int),([]:List UInt8))) ?_).trans ?_
 ·unfold inpC;exact As (c:=decide (((one.length:Nat):Int) > 400)) (F:=fun z:List UInt8=>(((z,(one,two),w.p.e),w.m1.e,w.m2.e,w.c1.h),(w.c1.nd.e,w.c1.ps,w.c1.cz),w.c1.co.ps,w.c1.co.ss,((0:Int),(0:Int)),(0:Int),([]:List UInt8))) (X:=[]) (Y:=one) rfl rfl
 ·exact (bdS (MS (c:=w.c1) (cy:=w.p.cycle) (inp:=inpC one) (Nat.le_trans (CM one) (by decide)))).trans rfl
theorem Adw {w:W} (h:w.ok true false) (v:Ev) (one two:List UInt8):o23 v.e w.p.e w.m1.e w.m2.e w.c1.h w.c1.nd.e w.c1.ps w.c1.cz w.c1.co.ps w.c1.co.ss (one,two)=some (((((((0:Int),(0:Int)),(0:Int),([]:List UInt8),(w.ex0 true false v one two).f2.label),((w.ex0 true false v one two).f2.from_,(w.ex0 true false v one two).f2.cycle),(w.ex0 true false v one two).f2.payload,false,(w.ex0 true false v one two).b2),(w.ex0 true false v one two).p.e),(w.ex0 true false v one two).m1.e,(w.ex0 true false v one two).m2.e,(w.ex0 true false v one two).c1.h),((w.ex0 true false v one two).c1.nd.e,(w.ex0 true false v one two).c1.ps,(w.ex0 true false v one two).c1.cz),(w.ex0 true false v one two).c1.co.ps,(w.ex0 true false v one two).c1.co.ss,one,two):=by
 unfold o23
 refine (bdS (t:=((Y0 (w.clr.put1 true (Az w.c1 w.p.cycle one) v.f10 1)),((w.clr.put1 true (Az w.c1 w.p.cycle one) v.f10 1).c1.cz,(w.clr.put1 true (Az w.c1 w.p.cycle one) v.f10 1).c1.co.ps,(w.clr.put1 true (Az w.c1 w.p.cycle one) v.f10 1).c1.co.ss),((one,two),v.e),((((0:Int),(0:Int)),(0:Int),([]:List UInt8)),(w.clr.put1 true (Az w.c1 w.p.cycle one) v.f10 1).f2.e),false,(w.clr.put1 true (Az w.c1 w.p.cycle one) v.f10 1).b2)) ?_).trans rfl
 ·refine (bdS (Ale (w:=w) h one two)).trans ?_
  exact Ca (Az w.c1 w.p.cycle one).2.1 (Az w.c1 w.p.cycle one).2.2 v.f10 1 1 w.p.cycle (fun z:Frm×Bool=>(((w.clr.p.e,w.clr.m1.e,w.clr.m2.e),(Az w.c1 w.p.cycle one).1.h,(Az w.c1 w.p.cycle one).1.nd.e,(Az w.c1 w.p.cycle one).1.ps),((Az w.c1 w.p.cycle one).1.cz,(Az w.c1 w.p.cycle one).1.co.ps,(Az w.c1 w.p.cycle one).1.co.ss),((one,two),v.e),((((0:Int),(0:Int)),(0:Int),([]:List UInt8)),z.1.e),false,z.2))
theorem Alf {w:W} (h:w.ok true false):o29 w.p.e w.m1.e w.m2.e w.c1.h w.c1.nd.e w.c1.ps w.c1.cz w.c1.co.ps w.c1.co.ss=some ((((((AC w.c1).2.1.label,(AC w.c1).2.1.from_),(AC w.c1).2.1.cycle,(AC w.c1).2.2),w.p.e),w.m1.e,w.m2.e,(AC w.c1).1.h),((AC w.c1).1.nd.e,(AC w.c1).1.ps,(AC w.c1).1.cz),(AC w.c1).1.co.ps,(AC w.c1).1.co.ss,(AC w.c1).2.1.payload):=by
 unfold o29
 exact (bdS (MU (h.c1 rfl))).trans rfl
theorem QZ {w:W} (h:w.ok true false) (v:Ev):OE v.e w.p.e w.m1.e w.m2.e w.c1.h w.c1.nd.e w.c1.ps w.c1.cz w.c1.co.ps w.c1.co.ss=some (((((((0:Int),(0:Int)),(0:Int),([]:List UInt8),(w.ex1 true false v).f2.label),((w.ex1 true false v).f2.from_,(w.ex1 true false v).f2.cycle),(w.ex1 true false v).f2.payload,false,(w.ex1 true false v).b2),(w.ex1 true false v).p.e),(w.ex1 true false v).m1.e,(w.ex1 true false v).m2.e,(w.ex1 true false v).c1.h),((w.ex1 true false v).c1.nd.e,(w.ex1 true false v).c1.ps),(w.ex1 true false v).c1.cz,(w.ex1 true false v).c1.co.ps,(w.ex1 true false v).c1.co.ss):=by
 unfold OE
 refine (bdS (t:=((Y0 (w.clr.put1 true (AC w.c1) v.f11 2)),((w.clr.put1 true (AC w.c1) v.f11 2).c1.cz,(w.clr.put1 true (AC w.c1) v.f11 2).c1.co.ps,(w.clr.put1 true (AC w.c1) v.f11 2).c1.co.ss),v.e,((((0:Int),(0:Int)),(0:Int),([]:List UInt8)),(w.clr.put1 true (AC w.c1) v.f11 2).f2.e),false,(w.clr.put1 true (AC w.c1) v.f11 2).b2)) ?_).trans rfl
 ·refine (bdS (Alf (w:=w) h)).trans ?_
  exact Ca (AC w.c1).2.1 (AC w.c1).2.2 v.f11 2 1 w.p.cycle (fun z:Frm×Bool=>(((w.clr.p.e,w.clr.m1.e,w.clr.m2.e),(AC w.c1).1.h,(AC w.c1).1.nd.e,(AC w.c1).1.ps),((AC w.c1).1.cz,(AC w.c1).1.co.ps,(AC w.c1).1.co.ss),v.e,((((0:Int),(0:Int)),(0:Int),([]:List UInt8)),z.1.e),false,z.2))
theorem Alg {w:W} (h:w.ok true false):o34 w.p.e w.m1.e w.m2.e w.c1.h w.c1.nd.e w.c1.ps w.c1.cz w.c1.co.ps w.c1.co.ss w.r.e=some ((((((AA w.c1 w.r.t1).2.1.label,(AA w.c1 w.r.t1).2.1.from_),(AA w.c1 w.r.t1).2.1.cycle,(AA w.c1 w.r.t1).2.2),w.p.e),w.m1.e,w.m2.e,(AA w.c1 w.r.t1).1.h),((AA w.c1 w.r.t1).1.nd.e,(AA w.c1 w.r.t1).1.ps,(AA w.c1 w.r.t1).1.cz),(AA w.c1 w.r.t1).1.co.ps,(AA w.c1 w.r.t1).1.co.ss,(AA w.c1 w.r.t1).2.1.payload):=by
 unfold o34
 exact (bdS (MV (c:=w.c1) (t:=w.r.t1))).trans rfl
theorem Ra {w:W} (h:w.ok true false) (v:Ev):OP v.e w.p.e w.m1.e w.m2.e w.c1.h w.c1.nd.e w.c1.ps w.c1.cz w.c1.co.ps w.c1.co.ss w.r.e=some (((((((0:Int),(0:Int)),(0:Int),([]:List UInt8),(w.ex2 true false v).f2.label),((w.ex2 true false v).f2.from_,(w.ex2 true false v).f2.cycle),(w.ex2 true false v).f2.payload,false,(w.ex2 true false v).b2),(w.ex2 true false v).p.e),(w.ex2 true false v).m1.e,(w.ex2 true false v).m2.e,(w.ex2 true false v).c1.h),((w.ex2 true false v).c1.nd.e,(w.ex2 true false v).c1.ps,(w.ex2 true false v).c1.cz),(w.ex2 true false v).c1.co.ps,(w.ex2 true false v).c1.co.ss,(w.ex2 true false v).r.e):=by
 unfold OP
 refine (bdS (t:=((Y0 (w.clr.put1 true (AA w.c1 w.r.t1) v.f12 3)),((w.clr.put1 true (AA w.c1 w.r.t1) v.f12 3).c1.cz,(w.clr.put1 true (AA w.c1 w.r.t1) v.f12 3).c1.co.ps,(w.clr.put1 true (AA w.c1 w.r.t1) v.f12 3).c1.co.ss),((w.clr.put1 true (AA w.c1 w.r.t1) v.f12 3).r.e,v.e),((((0:Int),(0:Int)),(0:Int),([]:List UInt8)),(w.clr.put1 true (AA w.c1 w.r.t1) v.f12 3).f2.e),false,(w.clr.put1 true (AA w.c1 w.r.t1) v.f12 3).b2)) ?_).trans rfl
 ·refine (bdS (Alg (w:=w) h)).trans ?_
  exact Ca (AA w.c1 w.r.t1).2.1 (AA w.c1 w.r.t1).2.2 v.f12 3 1 w.p.cycle (fun z:Frm×Bool=>(((w.clr.p.e,w.clr.m1.e,w.clr.m2.e),(AA w.c1 w.r.t1).1.h,(AA w.c1 w.r.t1).1.nd.e,(AA w.c1 w.r.t1).1.ps),((AA w.c1 w.r.t1).1.cz,(AA w.c1 w.r.t1).1.co.ps,(AA w.c1 w.r.t1).1.co.ss),(w.clr.r.e,v.e),((((0:Int),(0:Int)),(0:Int),([]:List UInt8)),z.1.e),false,z.2))
theorem Alh {w:W} (h:w.ok true false):o38 w.p.e w.m1.e w.m2.e w.c1.h w.c1.nd.e w.c1.ps w.c1.cz w.c1.co.ps w.c1.co.ss=some ((((((AD w.c1 w.m1).2.1.label,(AD w.c1 w.m1).2.1.from_),(AD w.c1 w.m1).2.1.cycle,(AD w.c1 w.m1).2.2),w.p.e),w.m1.e,w.m2.e,(AD w.c1 w.m1).1.h),((AD w.c1 w.m1).1.nd.e,(AD w.c1 w.m1).1.ps,(AD w.c1 w.m1).1.cz),(AD w.c1 w.m1).1.co.ps,(AD w.c1 w.m1).1.co.ss,(AD w.c1 w.m1).2.1.payload):=by
 unfold o38
 refine (bdS (t:=(((w.p.e,w.m1.e),w.m2.e,w.c1.h,w.c1.nd.e),(w.c1.ps,w.c1.cz,w.c1.co.ps),w.c1.co.ss,(((0:Int),(0:Int)),(0:Int),([]:List UInt8)),cond w.c1.asked (saveB w.m1) [])) ?_).trans ?_
 ·exact As (c:=w.c1.asked) (F:=fun z:List UInt8=>(((w.p.e,w.m1.e),w.m2.e,w.c1.h,w.c1.nd.e),(w.c1.ps,w.c1.cz,w.c1.co.ps),w.c1.co.ss,(((0:Int),(0:Int)),(0:Int),([]:List UInt8)),z)) (X:=saveB w.m1) (Y:=[]) ((bdS (De h.p1.1 (CP h.p1.2))).trans rfl) rfl
 ·exact (bdS (MY (c:=w.c1) (save:=cond w.c1.asked (saveB w.m1) []) (h.c1 rfl))).trans rfl
theorem Rb {w:W} (h:w.ok true false) (v:Ev):OY v.e w.p.e w.m1.e w.m2.e w.c1.h w.c1.nd.e w.c1.ps w.c1.cz w.c1.co.ps w.c1.co.ss=some (((((((0:Int),(0:Int)),(0:Int),([]:List UInt8),(w.ex3 true false v).f2.label),((w.ex3 true false v).f2.from_,(w.ex3 true false v).f2.cycle),(w.ex3 true false v).f2.payload,false,(w.ex3 true false v).b2),(w.ex3 true false v).p.e),(w.ex3 true false v).m1.e,(w.ex3 true false v).m2.e,(w.ex3 true false v).c1.h),((w.ex3 true false v).c1.nd.e,(w.ex3 true false v).c1.ps),(w.ex3 true false v).c1.cz,(w.ex3 true false v).c1.co.ps,(w.ex3 true false v).c1.co.ss):=by
 unfold OY
 refine (bdS (t:=((Y0 (w.clr.put1 true (AD w.c1 w.m1) v.f13 4)),((w.clr.put1 true (AD w.c1 w.m1) v.f13 4).c1.cz,(w.clr.put1 true (AD w.c1 w.m1) v.f13 4).c1.co.ps,(w.clr.put1 true (AD w.c1 w.m1) v.f13 4).c1.co.ss),v.e,((((0:Int),(0:Int)),(0:Int),([]:List UInt8)),(w.clr.put1 true (AD w.c1 w.m1) v.f13 4).f2.e),false,(w.clr.put1 true (AD w.c1 w.m1) v.f13 4).b2)) ?_).trans rfl
 ·refine (bdS (Alh (w:=w) h)).trans ?_
  exact Ca (AD w.c1 w.m1).2.1 (AD w.c1 w.m1).2.2 v.f13 4 1 w.p.cycle (fun z:Frm×Bool=>(((w.clr.p.e,w.clr.m1.e,w.clr.m2.e),(AD w.c1 w.m1).1.h,(AD w.c1 w.m1).1.nd.e,(AD w.c1 w.m1).1.ps),((AD w.c1 w.m1).1.cz,(AD w.c1 w.m1).1.co.ps,(AD w.c1 w.m1).1.co.ss),v.e,((((0:Int),(0:Int)),(0:Int),([]:List UInt8)),z.1.e),false,z.2))
theorem Ali {w:W} (h:w.ok true false):o27 w.p.e w.m1.e w.m2.e w.c1.h w.c1.nd.e w.c1.ps w.c1.cz w.c1.co.ps w.c1.co.ss (w.f1.e,w.f2.e) (w.b1,w.b2)=some (Y1 (w.hear true false)):=by
 unfold o27
 exact (bdS (MT (c:=w.c1) (f:=w.f1) (came:=w.b1) (h.c1 rfl))).trans rfl
theorem Adx {w:W} (h:w.ok true false):o26 w.p.e w.m1.e w.m2.e w.c1.h w.c1.nd.e w.c1.ps w.c1.cz w.c1.co.ps w.c1.co.ss (w.f1.e,w.f2.e) (w.b1,w.b2)=some (Y1 (w.hear true false)):=by
 unfold o26
 exact (bdS (Ali h)).trans rfl
theorem Alj {w:W} (h:w.ok true false) (v:Ev):o31 w.p.e w.m1.e w.m2.e w.c1.h w.c1.nd.e w.c1.ps w.c1.cz w.c1.co.ps w.c1.co.ss (w.f1.e,w.f2.e) (w.b1,w.b2) (w.s1,w.s2) w.r.e v.e=some ((((w.step1 v (w.c1.step w.f1 w.b1)).p.e,(w.step1 v (w.c1.step w.f1 w.b1)).m1.e,(w.step1 v (w.c1.step w.f1 w.b1)).m2.e),((w.step1 v (w.c1.step w.f1 w.b1)).c1.h,(w.step1 v (w.c1.step w.f1 w.b1)).c1.nd.e),(w.step1 v (w.c1.step w.f1 w.b1)).c1.ps,(w.step1 v (w.c1.step w.f1 w.b1)).c1.cz),(Y2 (w.step1 v (w.c1.step w.f1 w.b1))),((w.step1 v (w.c1.step w.f1 w.b1)).r.e,v.e),(w.step1 v (w.c1.step w.f1 w.b1)).c1.co.ps,(w.step1 v (w.c1.step w.f1 w.b1)).c1.co.ss):=by
 unfold o31
 have hin:(w.c1.step w.f1 w.b1).2.1.in_.length≤2000:=Gj (h.c1 rfl) h.f1
 refine (bdS (MX (c:=w.c1) (f:=w.f1) (came:=w.b1) (h.c1 rfl) h.f1)).trans ?_
 generalize (w.c1.step w.f1 w.b1)=x at hin ⊢
 obtain ⟨c,se,has,er⟩:=x
 cases has with
 | false=>rfl
 | true =>
  refine (cndF rfl).trans ?_
  refine (bdS (t:=((((w.p.e,(cond se.fresh (w.m1.load w.p.init).1 w.m1).e),w.m2.e,c.h),(c.nd.e,c.ps),c.cz,w.f1.e,w.f2.e),(((w.b1,w.b2),w.s1,w.s2),w.r.e,v.e),((se.steps,se.cycle,se.fresh),c.co.ps),c.co.ss,se.in_)) ?_).trans ?_
  ·exact As (c:=se.fresh) (F:=fun z:Mc=>((((w.p.e,z.e),w.m2.e,c.h),(c.nd.e,c.ps),c.cz,w.f1.e,w.f2.e),(((w.b1,w.b2),w.s1,w.s2),w.r.e,v.e),((se.steps,se.cycle,se.fresh),c.co.ps),c.co.ss,se.in_)) (X:=(w.m1.load w.p.init).1) (Y:=w.m1) ((bdS (Bu (Nat.le_trans h.init (by decide)))).trans ((bdS (Eg (m:=w.m1) (p:=w.p.init) h.p1.1 (CP h.p1.2))).trans rfl)) rfl
  ·exact (bdS (Ef (cond se.fresh (w.m1.load w.p.init).1 w.m1) se.cycle (l:=se.in_) (Nat.le_trans hin (by decide)))).trans rfl
theorem Rc {w:W} (h:w.ok true false) (v:Ev):OL w.p.e w.m1.e w.m2.e w.c1.h w.c1.nd.e w.c1.ps w.c1.cz w.c1.co.ps w.c1.co.ss (w.f1.e,w.f2.e) (w.b1,w.b2) (w.s1,w.s2) w.r.e v.e=some ((((w.step true false v).p.e,(w.step true false v).m1.e,(w.step true false v).m2.e),((w.step true false v).c1.h,(w.step true false v).c1.nd.e),(w.step true false v).c1.ps,(w.step true false v).c1.cz),(Y2 (w.step true false v)),((w.step true false v).r.e,v.e),(w.step true false v).c1.co.ps,(w.step true false v).c1.co.ss):=by
 unfold OL
 exact (bdS (Alj h v)).trans rfl
theorem Alk {w:W} (h:w.ok true false):o36 w.p.e w.m1.e w.m2.e w.c1.h w.c1.nd.e w.c1.ps w.c1.cz w.c1.co.ps w.c1.co.ss (w.f1.e,w.f2.e) (w.b1,w.b2) w.r.e=some (Y3 (w.judge true false)):=by
 unfold o36
 exact (bdS (MW (c:=w.c1) (f:=w.f1) (came:=w.b1))).trans rfl
theorem Rd {w:W} (h:w.ok true false):OT w.p.e w.m1.e w.m2.e w.c1.h w.c1.nd.e w.c1.ps w.c1.cz w.c1.co.ps w.c1.co.ss (w.f1.e,w.f2.e) (w.b1,w.b2) w.r.e=some (Y3 (w.judge true false)):=by
 unfold OT
 exact (bdS (Alk h)).trans rfl
theorem All {w:W} (h:w.ok true false):o41 w.f1.e w.b1 w.p.e w.m1.e w.m2.e w.c1.h w.c1.nd.e w.c1.ps w.c1.cz w.c1.co.ps w.c1.co.ss=some (((w.p.e,(tookA w.m1 (w.c1.take w.f1 w.b1)).2.e),w.m2.e,(tookA w.m1 (w.c1.take w.f1 w.b1)).1.h),((tookA w.m1 (w.c1.take w.f1 w.b1)).1.nd.e,(tookA w.m1 (w.c1.take w.f1 w.b1)).1.ps),(tookA w.m1 (w.c1.take w.f1 w.b1)).1.cz,(tookA w.m1 (w.c1.take w.f1 w.b1)).1.co.ps,(tookA w.m1 (w.c1.take w.f1 w.b1)).1.co.ss):=by
 unfold o41
 have hj:=EI (h.c1 rfl) (f:=w.f1) (came:=w.b1)
 refine (bdS (MZ (c:=w.c1) (f:=w.f1) (came:=w.b1) (h.c1 rfl) h.f1)).trans ?_
 generalize (w.c1.take w.f1 w.b1)=x at hj ⊢
 obtain ⟨c,⟨jb,sn,l⟩,has,er⟩:=x
 cases has with
 | false=>rfl
 | true =>
  have hs:l.length≤874:=hj.sets
  have hi:∀ x∈l,x.2.2.2.length≤2000:=hj.ins
  refine (cndF rfl).trans ?_
  refine (bdS (Eg (m:=w.m1) (p:=sn) h.p1.1 (CP h.p1.2))).trans ?_
  refine As (c:=(w.m1.load sn).2 != 0) (F:=fun z:Cp×Mc=>(((w.p.e,z.2.e),w.m2.e,z.1.h),(z.1.nd.e,z.1.ps),z.1.cz,z.1.co.ps,z.1.co.ss)) (X:=(c.drop,(w.m1.load sn).1)) (Y:=(c,runL (w.m1.load sn).1 l)) ((bdS (MQ c)).trans rfl) ?_
  refine AJ (fun i=>(((((l.length:Nat):Int),((i:Nat):Int),w.p.e),(runL (w.m1.load sn).1 (l.take i)).e,w.m2.e,c.h),(c.nd.e,c.ps,c.cz),l,c.co.ps,c.co.ss)) l.length rfl (fun i hi'=>?_) ?_ (by omega)
  ·have hd:(l.getD i (0,0,false,[])).2.2.2.length≤100000000:=by rw [BX hi'];exact Nat.le_trans (hi _ (List.getElem_mem hi')) (by decide)
   unfold SR
   refine (cndT (dt (by show (i:Int) < (l.length:Int);omega))).trans ((gdT (dt (by show (0:Int)≤i∧(i:Int) < (l.length:Int);omega))).trans ((bdS (Ef (runL (w.m1.load sn).1 (l.take i)) (l.getD i (0,0,false,[])).2.1 (l:=(l.getD i (0,0,false,[])).2.2.2) hd)).trans ?_))
   exact Gl (DF _ hi') (AM (by omega)) (fun (m:Mc) (k:Int)=>(((((l.length:Nat):Int),k,w.p.e),m.e,w.m2.e,c.h),(c.nd.e,c.ps,c.cz),l,c.co.ps,c.co.ss))
  ·unfold SR
   refine (cndF (df (by show ¬ (l.length:Int) < (l.length:Int);omega))).trans ?_
   rw [List.take_length]
   exact dnS _
theorem Alm {w:W} (h:w.ok true false):o40 w.p.e w.m1.e w.m2.e w.c1.h w.c1.nd.e w.c1.ps w.c1.cz w.c1.co.ps w.c1.co.ss (w.f1.e,w.f2.e) (w.b1,w.b2)=some (Y1 (w.take true false)):=by
 unfold o40
 exact (bdS (All h)).trans rfl
theorem Re {w:W} (h:w.ok true false):Ph w.p.e w.m1.e w.m2.e w.c1.h w.c1.nd.e w.c1.ps w.c1.cz w.c1.co.ps w.c1.co.ss (w.f1.e,w.f2.e) (w.b1,w.b2)=some (Y1 (w.take true false)):=by
 unfold Ph
 exact (bdS (Alm h)).trans rfl
theorem Aln {w:W} (h:w.ok true false):o42 w.p.e w.m1.e w.m2.e w.c1.h w.c1.nd.e w.c1.ps (w.c1.cz,w.c1.co.ps,w.c1.co.ss) w.r.e=some (w.node true false).r.e:=by
 unfold o42
 exact (bdS (Nh (c:=w.c1) (h.c1 rfl) _)).trans rfl
theorem Rf {w:W} (h:w.ok true false):Pj w.p.e w.m1.e w.m2.e w.c1.h w.c1.nd.e w.c1.ps w.c1.cz w.c1.co.ps w.c1.co.ss w.r.e=some ((((w.node true false).p.e,(w.node true false).m1.e),(w.node true false).m2.e,(w.node true false).c1.h,(w.node true false).c1.nd.e),((w.node true false).c1.ps,(w.node true false).c1.cz),(w.node true false).c1.co.ps,(w.node true false).c1.co.ss,(w.node true false).r.e):=by
 unfold Pj
 exact (bdS (Aln h)).trans rfl
def Y4 (w:W):=((w.p.e,w.m1.e,w.m2.e),w.c2.h,w.c2.nd.e,w.c2.ps)
def Y5 (w:W):=(((w.p.e,w.m1.e),w.m2.e,w.c2.h,w.c2.nd.e),(w.c2.ps,w.c2.cz,w.f1.e,w.f2.e),(w.b1,w.b2),w.c2.co.ps,w.c2.co.ss)
def Y6 (w:W):=(((w.p.e,w.m1.e,w.m2.e),w.c2.h,w.c2.nd.e,w.c2.ps),(w.c2.cz,w.c2.co.ps,w.c2.co.ss),(w.f1.e,w.f2.e),(w.b1,w.b2),w.r.e)
theorem Ady {w:W} (h:w.ok false true) (one two:List UInt8):Uu (one,two) w.p.e w.m1.e w.m2.e w.c2.h w.c2.nd.e w.c2.ps w.c2.cz w.c2.co.ps w.c2.co.ss=some ((((((Az w.c2 w.p.cycle two).2.1.label,(Az w.c2 w.p.cycle two).2.1.from_),(Az w.c2 w.p.cycle two).2.1.cycle,(Az w.c2 w.p.cycle two).2.1.payload,(Az w.c2 w.p.cycle two).2.2),w.p.e),w.m1.e,w.m2.e,(Az w.c2 w.p.cycle two).1.h),((Az w.c2 w.p.cycle two).1.nd.e,(Az w.c2 w.p.cycle two).1.ps),(Az w.c2 w.p.cycle two).1.cz,(Az w.c2 w.p.cycle two).1.co.ps,(Az w.c2 w.p.cycle two).1.co.ss):=by
 unfold Uu
 refine (bdS (t:=(((inpC two,(one,two),w.p.e),w.m1.e,w.m2.e,w.c2.h),(w.c2.nd.e,w.c2.ps,w.c2.cz),w.c2.co.ps,w.c2.co.ss,((0:Int),(0:Int)),(0:Int),([]:List UInt8))) ?_).trans ?_
 ·unfold inpC;exact As (c:=decide (((two.length:Nat):Int) > 400)) (F:=fun z:List UInt8=>(((z,(one,two),w.p.e),w.m1.e,w.m2.e,w.c2.h),(w.c2.nd.e,w.c2.ps,w.c2.cz),w.c2.co.ps,w.c2.co.ss,((0:Int),(0:Int)),(0:Int),([]:List UInt8))) (X:=[]) (Y:=two) rfl rfl
 ·exact (bdS (MS (c:=w.c2) (cy:=w.p.cycle) (inp:=inpC two) (Nat.le_trans (CM two) (by decide)))).trans rfl
theorem Md {w:W} (h:w.ok false true) (v:Ev) (one two:List UInt8):Kf v.e w.p.e w.m1.e w.m2.e w.c2.h w.c2.nd.e w.c2.ps w.c2.cz w.c2.co.ps w.c2.co.ss (one,two)=some (((((((w.ex0 false true v one two).f1.label,(w.ex0 false true v one two).f1.from_),(w.ex0 false true v one two).f1.cycle,(w.ex0 false true v one two).f1.payload,(0:Int)),((0:Int),(0:Int)),([]:List UInt8),(w.ex0 false true v one two).b1,false),(w.ex0 false true v one two).p.e),(w.ex0 false true v one two).m1.e,(w.ex0 false true v one two).m2.e,(w.ex0 false true v one two).c2.h),((w.ex0 false true v one two).c2.nd.e,(w.ex0 false true v one two).c2.ps,(w.ex0 false true v one two).c2.cz),(w.ex0 false true v one two).c2.co.ps,(w.ex0 false true v one two).c2.co.ss,one,two):=by
 unfold Kf
 refine (bdS (t:=((Y4 (w.clr.put2 true (Az w.c2 w.p.cycle two) v.f20 1)),((w.clr.put2 true (Az w.c2 w.p.cycle two) v.f20 1).c2.cz,(w.clr.put2 true (Az w.c2 w.p.cycle two) v.f20 1).c2.co.ps,(w.clr.put2 true (Az w.c2 w.p.cycle two) v.f20 1).c2.co.ss),((one,two),v.e),((w.clr.put2 true (Az w.c2 w.p.cycle two) v.f20 1).f1.e,((0:Int),(0:Int)),(0:Int),([]:List UInt8)),(w.clr.put2 true (Az w.c2 w.p.cycle two) v.f20 1).b1,false)) ?_).trans rfl
 ·refine (bdS (Ady h one two)).trans ?_
  exact Ca (Az w.c2 w.p.cycle two).2.1 (Az w.c2 w.p.cycle two).2.2 v.f20 1 2 w.p.cycle (fun z:Frm×Bool=>(((w.p.e,w.m1.e,w.m2.e),(Az w.c2 w.p.cycle two).1.h,(Az w.c2 w.p.cycle two).1.nd.e,(Az w.c2 w.p.cycle two).1.ps),((Az w.c2 w.p.cycle two).1.cz,(Az w.c2 w.p.cycle two).1.co.ps,(Az w.c2 w.p.cycle two).1.co.ss),((one,two),v.e),(z.1.e,((0:Int),(0:Int)),(0:Int),([]:List UInt8)),z.2,false))
theorem Adz {w:W} (h:w.ok false true):UA w.p.e w.m1.e w.m2.e w.c2.h w.c2.nd.e w.c2.ps w.c2.cz w.c2.co.ps w.c2.co.ss=some ((((((AC w.c2).2.1.label,(AC w.c2).2.1.from_),(AC w.c2).2.1.cycle,(AC w.c2).2.2),w.p.e),w.m1.e,w.m2.e,(AC w.c2).1.h),((AC w.c2).1.nd.e,(AC w.c2).1.ps,(AC w.c2).1.cz),(AC w.c2).1.co.ps,(AC w.c2).1.co.ss,(AC w.c2).2.1.payload):=by
 unfold UA
 exact (bdS (MU (h.c2 rfl))).trans rfl
theorem Me {w:W} (h:w.ok false true) (v:Ev):Kk v.e w.p.e w.m1.e w.m2.e w.c2.h w.c2.nd.e w.c2.ps w.c2.cz w.c2.co.ps w.c2.co.ss=some (((((((w.ex1 false true v).f1.label,(w.ex1 false true v).f1.from_),(w.ex1 false true v).f1.cycle,(w.ex1 false true v).f1.payload,(0:Int)),((0:Int),(0:Int)),([]:List UInt8),(w.ex1 false true v).b1,false),(w.ex1 false true v).p.e),(w.ex1 false true v).m1.e,(w.ex1 false true v).m2.e,(w.ex1 false true v).c2.h),((w.ex1 false true v).c2.nd.e,(w.ex1 false true v).c2.ps),(w.ex1 false true v).c2.cz,(w.ex1 false true v).c2.co.ps,(w.ex1 false true v).c2.co.ss):=by
 unfold Kk
 refine (bdS (t:=((Y4 (w.clr.put2 true (AC w.c2) v.f21 2)),((w.clr.put2 true (AC w.c2) v.f21 2).c2.cz,(w.clr.put2 true (AC w.c2) v.f21 2).c2.co.ps,(w.clr.put2 true (AC w.c2) v.f21 2).c2.co.ss),v.e,((w.clr.put2 true (AC w.c2) v.f21 2).f1.e,((0:Int),(0:Int)),(0:Int),([]:List UInt8)),(w.clr.put2 true (AC w.c2) v.f21 2).b1,false)) ?_).trans rfl
 ·refine (bdS (Adz h)).trans ?_
  exact Ca (AC w.c2).2.1 (AC w.c2).2.2 v.f21 2 2 w.p.cycle (fun z:Frm×Bool=>(((w.p.e,w.m1.e,w.m2.e),(AC w.c2).1.h,(AC w.c2).1.nd.e,(AC w.c2).1.ps),((AC w.c2).1.cz,(AC w.c2).1.co.ps,(AC w.c2).1.co.ss),v.e,(z.1.e,((0:Int),(0:Int)),(0:Int),([]:List UInt8)),z.2,false))
theorem AdA {w:W} (h:w.ok false true):UC w.p.e w.m1.e w.m2.e w.c2.h w.c2.nd.e w.c2.ps w.c2.cz w.c2.co.ps w.c2.co.ss w.r.e=some ((((((AA w.c2 w.r.t2).2.1.label,(AA w.c2 w.r.t2).2.1.from_),(AA w.c2 w.r.t2).2.1.cycle,(AA w.c2 w.r.t2).2.2),w.p.e),w.m1.e,w.m2.e,(AA w.c2 w.r.t2).1.h),((AA w.c2 w.r.t2).1.nd.e,(AA w.c2 w.r.t2).1.ps,(AA w.c2 w.r.t2).1.cz),(AA w.c2 w.r.t2).1.co.ps,(AA w.c2 w.r.t2).1.co.ss,(AA w.c2 w.r.t2).2.1.payload):=by
 unfold UC
 exact (bdS (MV (c:=w.c2) (t:=w.r.t2))).trans rfl
theorem Mf {w:W} (h:w.ok false true) (v:Ev):Km v.e w.p.e w.m1.e w.m2.e w.c2.h w.c2.nd.e w.c2.ps w.c2.cz w.c2.co.ps w.c2.co.ss w.r.e=some (((((((w.ex2 false true v).f1.label,(w.ex2 false true v).f1.from_),(w.ex2 false true v).f1.cycle,(w.ex2 false true v).f1.payload,(0:Int)),((0:Int),(0:Int)),([]:List UInt8),(w.ex2 false true v).b1,false),(w.ex2 false true v).p.e),(w.ex2 false true v).m1.e,(w.ex2 false true v).m2.e,(w.ex2 false true v).c2.h),((w.ex2 false true v).c2.nd.e,(w.ex2 false true v).c2.ps,(w.ex2 false true v).c2.cz),(w.ex2 false true v).c2.co.ps,(w.ex2 false true v).c2.co.ss,(w.ex2 false true v).r.e):=by
 unfold Km
 refine (bdS (t:=((Y4 (w.clr.put2 true (AA w.c2 w.r.t2) v.f22 3)),((w.clr.put2 true (AA w.c2 w.r.t2) v.f22 3).c2.cz,(w.clr.put2 true (AA w.c2 w.r.t2) v.f22 3).c2.co.ps,(w.clr.put2 true (AA w.c2 w.r.t2) v.f22 3).c2.co.ss),((w.clr.put2 true (AA w.c2 w.r.t2) v.f22 3).r.e,v.e),((w.clr.put2 true (AA w.c2 w.r.t2) v.f22 3).f1.e,((0:Int),(0:Int)),(0:Int),([]:List UInt8)),(w.clr.put2 true (AA w.c2 w.r.t2) v.f22 3).b1,false)) ?_).trans rfl
 ·refine (bdS (AdA h)).trans ?_
  exact Ca (AA w.c2 w.r.t2).2.1 (AA w.c2 w.r.t2).2.2 v.f22 3 2 w.p.cycle (fun z:Frm×Bool=>(((w.p.e,w.m1.e,w.m2.e),(AA w.c2 w.r.t2).1.h,(AA w.c2 w.r.t2).1.nd.e,(AA w.c2 w.r.t2).1.ps),((AA w.c2 w.r.t2).1.cz,(AA w.c2 w.r.t2).1.co.ps,(AA w.c2 w.r.t2).1.co.ss),(w.r.e,v.e),(z.1.e,((0:Int),(0:Int)),(0:Int),([]:List UInt8)),z.2,false))
theorem AdB {w:W} (h:w.ok false true):UE w.p.e w.m1.e w.m2.e w.c2.h w.c2.nd.e w.c2.ps w.c2.cz w.c2.co.ps w.c2.co.ss=some ((((((AD w.c2 w.m2).2.1.label,(AD w.c2 w.m2).2.1.from_),(AD w.c2 w.m2).2.1.cycle,(AD w.c2 w.m2).2.2),w.p.e),w.m1.e,w.m2.e,(AD w.c2 w.m2).1.h),((AD w.c2 w.m2).1.nd.e,(AD w.c2 w.m2).1.ps,(AD w.c2 w.m2).1.cz),(AD w.c2 w.m2).1.co.ps,(AD w.c2 w.m2).1.co.ss,(AD w.c2 w.m2).2.1.payload):=by
 unfold UE
 refine (bdS (t:=(((w.p.e,w.m1.e),w.m2.e,w.c2.h,w.c2.nd.e),(w.c2.ps,w.c2.cz,w.c2.co.ps),w.c2.co.ss,(((0:Int),(0:Int)),(0:Int),([]:List UInt8)),cond w.c2.asked (saveB w.m2) [])) ?_).trans ?_
 ·exact As (c:=w.c2.asked) (F:=fun z:List UInt8=>(((w.p.e,w.m1.e),w.m2.e,w.c2.h,w.c2.nd.e),(w.c2.ps,w.c2.cz,w.c2.co.ps),w.c2.co.ss,(((0:Int),(0:Int)),(0:Int),([]:List UInt8)),z)) (X:=saveB w.m2) (Y:=[]) ((bdS (De h.p2.1 (CP h.p2.2))).trans rfl) rfl
 ·exact (bdS (MY (c:=w.c2) (save:=cond w.c2.asked (saveB w.m2) []) (h.c2 rfl))).trans rfl
theorem Mg {w:W} (h:w.ok false true) (v:Ev):Ko v.e w.p.e w.m1.e w.m2.e w.c2.h w.c2.nd.e w.c2.ps w.c2.cz w.c2.co.ps w.c2.co.ss=some (((((((w.ex3 false true v).f1.label,(w.ex3 false true v).f1.from_),(w.ex3 false true v).f1.cycle,(w.ex3 false true v).f1.payload,(0:Int)),((0:Int),(0:Int)),([]:List UInt8),(w.ex3 false true v).b1,false),(w.ex3 false true v).p.e),(w.ex3 false true v).m1.e,(w.ex3 false true v).m2.e,(w.ex3 false true v).c2.h),((w.ex3 false true v).c2.nd.e,(w.ex3 false true v).c2.ps),(w.ex3 false true v).c2.cz,(w.ex3 false true v).c2.co.ps,(w.ex3 false true v).c2.co.ss):=by
 unfold Ko
 refine (bdS (t:=((Y4 (w.clr.put2 true (AD w.c2 w.m2) v.f23 4)),((w.clr.put2 true (AD w.c2 w.m2) v.f23 4).c2.cz,(w.clr.put2 true (AD w.c2 w.m2) v.f23 4).c2.co.ps,(w.clr.put2 true (AD w.c2 w.m2) v.f23 4).c2.co.ss),v.e,((w.clr.put2 true (AD w.c2 w.m2) v.f23 4).f1.e,((0:Int),(0:Int)),(0:Int),([]:List UInt8)),(w.clr.put2 true (AD w.c2 w.m2) v.f23 4).b1,false)) ?_).trans rfl
 ·refine (bdS (AdB h)).trans ?_
  exact Ca (AD w.c2 w.m2).2.1 (AD w.c2 w.m2).2.2 v.f23 4 2 w.p.cycle (fun z:Frm×Bool=>(((w.p.e,w.m1.e,w.m2.e),(AD w.c2 w.m2).1.h,(AD w.c2 w.m2).1.nd.e,(AD w.c2 w.m2).1.ps),((AD w.c2 w.m2).1.cz,(AD w.c2 w.m2).1.co.ps,(AD w.c2 w.m2).1.co.ss),v.e,(z.1.e,((0:Int),(0:Int)),(0:Int),([]:List UInt8)),z.2,false))
theorem AdC {w:W} (h:w.ok false true):Uz w.p.e w.m1.e w.m2.e w.c2.h w.c2.nd.e w.c2.ps w.c2.cz w.c2.co.ps w.c2.co.ss (w.f1.e,w.f2.e) (w.b1,w.b2)=some (Y5 (w.hear false true)):=by
 unfold Uz
 exact (bdS (MT (c:=w.c2) (f:=w.f2) (came:=w.b2) (h.c2 rfl))).trans rfl
theorem Mh {w:W} (h:w.ok false true):Kj w.p.e w.m1.e w.m2.e w.c2.h w.c2.nd.e w.c2.ps w.c2.cz w.c2.co.ps w.c2.co.ss (w.f1.e,w.f2.e) (w.b1,w.b2)=some (Y5 (w.hear false true)):=by
 unfold Kj
 exact (bdS (AdC h)).trans rfl
theorem AdD {w:W} (h:w.ok false true) (v:Ev):UB w.p.e w.m1.e w.m2.e w.c2.h w.c2.nd.e w.c2.ps w.c2.cz w.c2.co.ps w.c2.co.ss (w.f1.e,w.f2.e) (w.b1,w.b2) (w.s1,w.s2) w.r.e v.e=some ((((w.step2 v (w.c2.step w.f2 w.b2)).p.e,(w.step2 v (w.c2.step w.f2 w.b2)).m1.e,(w.step2 v (w.c2.step w.f2 w.b2)).m2.e),((w.step2 v (w.c2.step w.f2 w.b2)).c2.h,(w.step2 v (w.c2.step w.f2 w.b2)).c2.nd.e),(w.step2 v (w.c2.step w.f2 w.b2)).c2.ps,(w.step2 v (w.c2.step w.f2 w.b2)).c2.cz),(Y2 (w.step2 v (w.c2.step w.f2 w.b2))),((w.step2 v (w.c2.step w.f2 w.b2)).r.e,v.e),(w.step2 v (w.c2.step w.f2 w.b2)).c2.co.ps,(w.step2 v (w.c2.step w.f2 w.b2)).c2.co.ss):=by
 unfold UB
 have hin:(w.c2.step w.f2 w.b2).2.1.in_.length≤2000:=Gj (h.c2 rfl) h.f2
 refine (bdS (MX (c:=w.c2) (f:=w.f2) (came:=w.b2) (h.c2 rfl) h.f2)).trans ?_
 generalize (w.c2.step w.f2 w.b2)=x at hin ⊢
 obtain ⟨c,se,has,er⟩:=x
 cases has with
 | false=>rfl
 | true =>
  refine (cndF rfl).trans ?_
  refine (bdS (t:=((((w.p.e,w.m1.e),(cond se.fresh (w.m2.load w.p.init).1 w.m2).e,c.h),(c.nd.e,c.ps),c.cz,w.f1.e,w.f2.e),(((w.b1,w.b2),w.s1,w.s2),w.r.e,v.e),((se.steps,se.cycle,se.fresh),c.co.ps),c.co.ss,se.in_)) ?_).trans ?_
  ·exact As (c:=se.fresh) (F:=fun z:Mc=>((((w.p.e,w.m1.e),z.e,c.h),(c.nd.e,c.ps),c.cz,w.f1.e,w.f2.e),(((w.b1,w.b2),w.s1,w.s2),w.r.e,v.e),((se.steps,se.cycle,se.fresh),c.co.ps),c.co.ss,se.in_)) (X:=(w.m2.load w.p.init).1) (Y:=w.m2) ((bdS (Bu (Nat.le_trans h.init (by decide)))).trans ((bdS (Eg (m:=w.m2) (p:=w.p.init) h.p2.1 (CP h.p2.2))).trans rfl)) rfl
  ·exact (bdS (Ef (cond se.fresh (w.m2.load w.p.init).1 w.m2) se.cycle (l:=se.in_) (Nat.le_trans hin (by decide)))).trans rfl
theorem Mi {w:W} (h:w.ok false true) (v:Ev):Kl w.p.e w.m1.e w.m2.e w.c2.h w.c2.nd.e w.c2.ps w.c2.cz w.c2.co.ps w.c2.co.ss (w.f1.e,w.f2.e) (w.b1,w.b2) (w.s1,w.s2) w.r.e v.e=some ((((w.step false true v).p.e,(w.step false true v).m1.e,(w.step false true v).m2.e),((w.step false true v).c2.h,(w.step false true v).c2.nd.e),(w.step false true v).c2.ps,(w.step false true v).c2.cz),(Y2 (w.step false true v)),((w.step false true v).r.e,v.e),(w.step false true v).c2.co.ps,(w.step false true v).c2.co.ss):=by
 unfold Kl
 exact (bdS (AdD h v)).trans rfl
theorem AdE {w:W} (h:w.ok false true):UD w.p.e w.m1.e w.m2.e w.c2.h w.c2.nd.e w.c2.ps w.c2.cz w.c2.co.ps w.c2.co.ss (w.f1.e,w.f2.e) (w.b1,w.b2) w.r.e=some (Y6 (w.judge false true)):=by
 unfold UD
 exact (bdS (MW (c:=w.c2) (f:=w.f2) (came:=w.b2))).trans rfl
theorem Mj {w:W} (h:w.ok false true):Kn w.p.e w.m1.e w.m2.e w.c2.h w.c2.nd.e w.c2.ps w.c2.cz w.c2.co.ps w.c2.co.ss (w.f1.e,w.f2.e) (w.b1,w.b2) w.r.e=some (Y6 (w.judge false true)):=by
 unfold Kn
 exact (bdS (AdE h)).trans rfl
theorem AdF {w:W} (h:w.ok false true):UF w.f2.e w.b2 w.p.e w.m1.e w.m2.e w.c2.h w.c2.nd.e w.c2.ps w.c2.cz w.c2.co.ps w.c2.co.ss=some (((w.p.e,w.m1.e),(tookA w.m2 (w.c2.take w.f2 w.b2)).2.e,(tookA w.m2 (w.c2.take w.f2 w.b2)).1.h),((tookA w.m2 (w.c2.take w.f2 w.b2)).1.nd.e,(tookA w.m2 (w.c2.take w.f2 w.b2)).1.ps),(tookA w.m2 (w.c2.take w.f2 w.b2)).1.cz,(tookA w.m2 (w.c2.take w.f2 w.b2)).1.co.ps,(tookA w.m2 (w.c2.take w.f2 w.b2)).1.co.ss):=by
 unfold UF
 have hj:=EI (h.c2 rfl) (f:=w.f2) (came:=w.b2)
 refine (bdS (MZ (c:=w.c2) (f:=w.f2) (came:=w.b2) (h.c2 rfl) h.f2)).trans ?_
 generalize (w.c2.take w.f2 w.b2)=x at hj ⊢
 obtain ⟨c,⟨jb,sn,l⟩,has,er⟩:=x
 cases has with
 | false=>rfl
 | true =>
  have hs:l.length≤874:=hj.sets
  have hi:∀ x∈l,x.2.2.2.length≤2000:=hj.ins
  refine (cndF rfl).trans ?_
  refine (bdS (Eg (m:=w.m2) (p:=sn) h.p2.1 (CP h.p2.2))).trans ?_
  refine As (c:=(w.m2.load sn).2 != 0) (F:=fun z:Cp×Mc=>(((w.p.e,w.m1.e),z.2.e,z.1.h),(z.1.nd.e,z.1.ps),z.1.cz,z.1.co.ps,z.1.co.ss)) (X:=(c.drop,(w.m2.load sn).1)) (Y:=(c,runL (w.m2.load sn).1 l)) ((bdS (MQ c)).trans rfl) ?_
  refine AJ (fun i=>(((((l.length:Nat):Int),((i:Nat):Int),w.p.e),w.m1.e,(runL (w.m2.load sn).1 (l.take i)).e,c.h),(c.nd.e,c.ps,c.cz),l,c.co.ps,c.co.ss)) l.length rfl (fun i hi'=>?_) ?_ (by omega)
  ·have hd:(l.getD i (0,0,false,[])).2.2.2.length≤100000000:=by rw [BX hi'];exact Nat.le_trans (hi _ (List.getElem_mem hi')) (by decide)
   unfold Kp
   refine (cndT (dt (by show (i:Int) < (l.length:Int);omega))).trans ((gdT (dt (by show (0:Int)≤i∧(i:Int) < (l.length:Int);omega))).trans ((bdS (Ef (runL (w.m2.load sn).1 (l.take i)) (l.getD i (0,0,false,[])).2.1 (l:=(l.getD i (0,0,false,[])).2.2.2) hd)).trans ?_))
   exact Gl (DF _ hi') (AM (by omega)) (fun (m:Mc) (k:Int)=>(((((l.length:Nat):Int),k,w.p.e),w.m1.e,m.e,c.h),(c.nd.e,c.ps,c.cz),l,c.co.ps,c.co.ss))
  ·unfold Kp
   refine (cndF (df (by show ¬ (l.length:Int) < (l.length:Int);omega))).trans ?_
   rw [List.take_length]
   exact dnS _
theorem AdG {w:W} (h:w.ok false true):UG w.p.e w.m1.e w.m2.e w.c2.h w.c2.nd.e w.c2.ps w.c2.cz w.c2.co.ps w.c2.co.ss (w.f1.e,w.f2.e) (w.b1,w.b2)=some (Y5 (w.take false true)):=by
 unfold UG
 exact (bdS (AdF h)).trans rfl
theorem Mk {w:W} (h:w.ok false true):Kq w.p.e w.m1.e w.m2.e w.c2.h w.c2.nd.e w.c2.ps w.c2.cz w.c2.co.ps w.c2.co.ss (w.f1.e,w.f2.e) (w.b1,w.b2)=some (Y5 (w.take false true)):=by
 unfold Kq
 exact (bdS (AdG h)).trans rfl
theorem AdH {w:W} (h:w.ok false true):UH w.p.e w.m1.e w.m2.e w.c2.h w.c2.nd.e w.c2.ps (w.c2.cz,w.c2.co.ps,w.c2.co.ss) w.r.e=some (w.node false true).r.e:=by
 unfold UH
 exact (bdS (Nh (c:=w.c2) (h.c2 rfl) _)).trans rfl
theorem Ml {w:W} (h:w.ok false true):Kr w.p.e w.m1.e w.m2.e w.c2.h w.c2.nd.e w.c2.ps w.c2.cz w.c2.co.ps w.c2.co.ss w.r.e=some ((((w.node false true).p.e,(w.node false true).m1.e),(w.node false true).m2.e,(w.node false true).c2.h,(w.node false true).c2.nd.e),((w.node false true).c2.ps,(w.node false true).c2.cz),(w.node false true).c2.co.ps,(w.node false true).c2.co.ss,(w.node false true).r.e):=by
 unfold Kr
 exact (bdS (AdH h)).trans rfl
def Y7 (w:W):=(((w.p.e,w.m1.e),w.m2.e,w.c1.h),(w.c1.nd.e,w.c1.ps),w.c1.cz,w.c1.co.ps,w.c1.co.ss)
def Y8 (w:W):=(((w.p.e,w.m1.e),w.m2.e,w.c1.h),(w.c1.nd.e,w.c1.ps),w.c1.cz,w.c1.co.ps)
def Y9 (w:W):=((((w.p.e,w.m1.e),w.m2.e,w.c1.h),(w.c1.nd.e,w.c1.ps),w.c1.cz,w.c2.h),((w.c2.nd.e,w.c2.ps),w.c2.cz,w.c2.co.ps),(w.c2.co.ss,w.f1.e,w.f2.e),(w.b1,w.b2),w.c1.co.ps,w.c1.co.ss)
def Y10 (w:W):=((((w.p.e,w.m1.e),w.m2.e,w.c1.h),(w.c1.nd.e,w.c1.ps),w.c1.cz,w.c1.co.ps),((w.c1.co.ss,w.c2.h),w.c2.nd.e,w.c2.ps),(w.c2.cz,w.f1.e,w.f2.e),(w.b1,w.b2),w.c2.co.ps,w.c2.co.ss)
def Y11 (w:W):=((((w.p.e,w.m1.e),w.m2.e,w.c1.h),(w.c1.nd.e,w.c1.ps),w.c1.cz,w.c2.h),((w.c2.nd.e,w.c2.ps),w.c2.cz,w.f1.e,w.f2.e),((w.b1,w.b2),w.c1.co.ps),w.c1.co.ss,w.c2.co.ps,w.c2.co.ss)
def Y12 (w:W):=(((w.p.e,w.m1.e),w.m2.e,w.c1.h,w.c1.nd.e),(w.c1.ps,w.c1.cz),w.c2.h,w.c2.nd.e,w.c2.ps)
def Y13 (w:W):=((w.c2.co.ps,w.c2.co.ss),(w.f1.e,w.f2.e),(w.b1,w.b2),w.s1,w.s2)
def Y14 (w:W):=((((w.p.e,w.m1.e),w.m2.e,w.c1.h),(w.c1.nd.e,w.c1.ps),w.c1.cz,w.c1.co.ps,w.c1.co.ss),((w.c2.h,w.c2.nd.e),w.c2.ps,w.c2.cz),(w.c2.co.ps,w.c2.co.ss),(w.f1.e,w.f2.e),(w.b1,w.b2),w.r.e)
theorem AdI {w:W} (h:w.ok true true) (one two:List UInt8):TQ (one,two) w.p.e w.m1.e w.m2.e w.c1.h w.c1.nd.e w.c1.ps w.c1.cz w.c1.co.ps w.c1.co.ss w.c2.h w.c2.nd.e w.c2.ps w.c2.cz w.c2.co.ps w.c2.co.ss=some (((((((Az w.c1 w.p.cycle one).2.1.label,(Az w.c1 w.p.cycle one).2.1.from_),(Az w.c1 w.p.cycle one).2.1.cycle,(Az w.c1 w.p.cycle one).2.1.payload,(Az w.c1 w.p.cycle one).2.2),w.p.e),w.m1.e,w.m2.e),((Az w.c1 w.p.cycle one).1.h,(Az w.c1 w.p.cycle one).1.nd.e),(Az w.c1 w.p.cycle one).1.ps,(Az w.c1 w.p.cycle one).1.cz),(((Az w.c1 w.p.cycle one).1.co.ps,(Az w.c1 w.p.cycle one).1.co.ss),w.c2.h,w.c2.nd.e),(w.c2.ps,w.c2.cz),w.c2.co.ps,w.c2.co.ss):=by
 unfold TQ
 refine (bdS (t:=((((inpC one,one,two),w.p.e,w.m1.e),(w.m2.e,w.c1.h),w.c1.nd.e,w.c1.ps,w.c1.cz),((w.c1.co.ps,w.c1.co.ss),w.c2.h,w.c2.nd.e),(w.c2.ps,w.c2.cz),w.c2.co.ps,w.c2.co.ss,((0:Int),(0:Int)),(0:Int),([]:List UInt8))) ?_).trans ?_
 ·unfold inpC;exact As (c:=decide (((one.length:Nat):Int) > 400)) (F:=fun z:List UInt8=>((((z,one,two),w.p.e,w.m1.e),(w.m2.e,w.c1.h),w.c1.nd.e,w.c1.ps,w.c1.cz),((w.c1.co.ps,w.c1.co.ss),w.c2.h,w.c2.nd.e),(w.c2.ps,w.c2.cz),w.c2.co.ps,w.c2.co.ss,((0:Int),(0:Int)),(0:Int),([]:List UInt8))) (X:=[]) (Y:=one) rfl rfl
 ·exact (bdS (MS (c:=w.c1) (cy:=w.p.cycle) (inp:=inpC one) (Nat.le_trans (CM one) (by decide)))).trans rfl
theorem AdJ {w:W} (h:w.ok true true) (one two:List UInt8):TR (one,two) w.p.e w.m1.e w.m2.e w.c1.h w.c1.nd.e w.c1.ps w.c1.cz w.c1.co.ps w.c1.co.ss w.c2.h w.c2.nd.e w.c2.ps w.c2.cz w.c2.co.ps w.c2.co.ss=some (((((((Az w.c2 w.p.cycle two).2.1.label,(Az w.c2 w.p.cycle two).2.1.from_),(Az w.c2 w.p.cycle two).2.1.cycle,(Az w.c2 w.p.cycle two).2.1.payload,(Az w.c2 w.p.cycle two).2.2),w.p.e),w.m1.e,w.m2.e),(w.c1.h,w.c1.nd.e),w.c1.ps,w.c1.cz),((w.c1.co.ps,w.c1.co.ss),(Az w.c2 w.p.cycle two).1.h,(Az w.c2 w.p.cycle two).1.nd.e),((Az w.c2 w.p.cycle two).1.ps,(Az w.c2 w.p.cycle two).1.cz),(Az w.c2 w.p.cycle two).1.co.ps,(Az w.c2 w.p.cycle two).1.co.ss):=by
 unfold TR
 refine (bdS (t:=((((inpC two,one,two),w.p.e,w.m1.e),(w.m2.e,w.c1.h),w.c1.nd.e,w.c1.ps,w.c1.cz),((w.c1.co.ps,w.c1.co.ss),w.c2.h,w.c2.nd.e),(w.c2.ps,w.c2.cz),w.c2.co.ps,w.c2.co.ss,((0:Int),(0:Int)),(0:Int),([]:List UInt8))) ?_).trans ?_
 ·unfold inpC;exact As (c:=decide (((two.length:Nat):Int) > 400)) (F:=fun z:List UInt8=>((((z,one,two),w.p.e,w.m1.e),(w.m2.e,w.c1.h),w.c1.nd.e,w.c1.ps,w.c1.cz),((w.c1.co.ps,w.c1.co.ss),w.c2.h,w.c2.nd.e),(w.c2.ps,w.c2.cz),w.c2.co.ps,w.c2.co.ss,((0:Int),(0:Int)),(0:Int),([]:List UInt8))) (X:=[]) (Y:=two) rfl rfl
 ·exact (bdS (MS (c:=w.c2) (cy:=w.p.cycle) (inp:=inpC two) (Nat.le_trans (CM two) (by decide)))).trans rfl
theorem Rg {w:W} (h:w.ok true true) (v:Ev) (one two:List UInt8):TS v.e w.p.e w.m1.e w.m2.e w.c1.h w.c1.nd.e w.c1.ps w.c1.cz w.c1.co.ps w.c1.co.ss w.c2.h w.c2.nd.e w.c2.ps w.c2.cz w.c2.co.ps w.c2.co.ss (one,two)=some ((((((((w.ex0 true true v one two).f1.label,(w.ex0 true true v one two).f1.from_),(w.ex0 true true v one two).f1.cycle,(w.ex0 true true v one two).f1.payload,(w.ex0 true true v one two).f2.label),((w.ex0 true true v one two).f2.from_,(w.ex0 true true v one two).f2.cycle),(w.ex0 true true v one two).f2.payload,(w.ex0 true true v one two).b1,(w.ex0 true true v one two).b2),(w.ex0 true true v one two).p.e),(w.ex0 true true v one two).m1.e,(w.ex0 true true v one two).m2.e),((w.ex0 true true v one two).c1.h,(w.ex0 true true v one two).c1.nd.e),(w.ex0 true true v one two).c1.ps,(w.ex0 true true v one two).c1.cz),(((w.ex0 true true v one two).c1.co.ps,(w.ex0 true true v one two).c1.co.ss),(w.ex0 true true v one two).c2.h,(w.ex0 true true v one two).c2.nd.e),((w.ex0 true true v one two).c2.ps,(w.ex0 true true v one two).c2.cz),(w.ex0 true true v one two).c2.co.ps,(w.ex0 true true v one two).c2.co.ss,one,two):=by
 unfold TS
 refine (bdS (t:=((Y7 (w.clr.put1 true (Az w.c1 w.p.cycle one) v.f10 1)),(((w.clr.put1 true (Az w.c1 w.p.cycle one) v.f10 1).c2.h,(w.clr.put1 true (Az w.c1 w.p.cycle one) v.f10 1).c2.nd.e),(w.clr.put1 true (Az w.c1 w.p.cycle one) v.f10 1).c2.ps,(w.clr.put1 true (Az w.c1 w.p.cycle one) v.f10 1).c2.cz,(w.clr.put1 true (Az w.c1 w.p.cycle one) v.f10 1).c2.co.ps),((w.clr.put1 true (Az w.c1 w.p.cycle one) v.f10 1).c2.co.ss,one,two),v.e,((((0:Int),(0:Int)),(0:Int),([]:List UInt8)),(w.clr.put1 true (Az w.c1 w.p.cycle one) v.f10 1).f2.e),false,(w.clr.put1 true (Az w.c1 w.p.cycle one) v.f10 1).b2)) ?_).trans ?_
 ·refine (bdS (AdI (w:=w) h one two)).trans ?_
  exact Ca (Az w.c1 w.p.cycle one).2.1 (Az w.c1 w.p.cycle one).2.2 v.f10 1 1 w.p.cycle (fun z:Frm×Bool=>((((w.clr.p.e,w.clr.m1.e),w.clr.m2.e,(Az w.c1 w.p.cycle one).1.h),((Az w.c1 w.p.cycle one).1.nd.e,(Az w.c1 w.p.cycle one).1.ps),(Az w.c1 w.p.cycle one).1.cz,(Az w.c1 w.p.cycle one).1.co.ps,(Az w.c1 w.p.cycle one).1.co.ss),((w.clr.c2.h,w.clr.c2.nd.e),w.clr.c2.ps,w.clr.c2.cz,w.clr.c2.co.ps),(w.clr.c2.co.ss,one,two),v.e,((((0:Int),(0:Int)),(0:Int),([]:List UInt8)),z.1.e),false,z.2))
 refine (bdS (t:=((Y7 ((w.clr.put1 true (Az w.c1 w.p.cycle one) v.f10 1).put2 true (Az w.c2 w.p.cycle two) v.f20 1)),((((w.clr.put1 true (Az w.c1 w.p.cycle one) v.f10 1).put2 true (Az w.c2 w.p.cycle two) v.f20 1).c2.h,((w.clr.put1 true (Az w.c1 w.p.cycle one) v.f10 1).put2 true (Az w.c2 w.p.cycle two) v.f20 1).c2.nd.e),((w.clr.put1 true (Az w.c1 w.p.cycle one) v.f10 1).put2 true (Az w.c2 w.p.cycle two) v.f20 1).c2.ps,((w.clr.put1 true (Az w.c1 w.p.cycle one) v.f10 1).put2 true (Az w.c2 w.p.cycle two) v.f20 1).c2.cz,((w.clr.put1 true (Az w.c1 w.p.cycle one) v.f10 1).put2 true (Az w.c2 w.p.cycle two) v.f20 1).c2.co.ps),(((w.clr.put1 true (Az w.c1 w.p.cycle one) v.f10 1).put2 true (Az w.c2 w.p.cycle two) v.f20 1).c2.co.ss,one,two),v.e,(((w.clr.put1 true (Az w.c1 w.p.cycle one) v.f10 1).put2 true (Az w.c2 w.p.cycle two) v.f20 1).f1.e,((w.clr.put1 true (Az w.c1 w.p.cycle one) v.f10 1).put2 true (Az w.c2 w.p.cycle two) v.f20 1).f2.e),((w.clr.put1 true (Az w.c1 w.p.cycle one) v.f10 1).put2 true (Az w.c2 w.p.cycle two) v.f20 1).b1,((w.clr.put1 true (Az w.c1 w.p.cycle one) v.f10 1).put2 true (Az w.c2 w.p.cycle two) v.f20 1).b2)) ?_).trans rfl
 ·refine (bdS (AdJ (w:=(w.clr.put1 true (Az w.c1 w.p.cycle one) v.f10 1)) (IX h (Nb (h.c1 rfl))) one two)).trans ?_
  exact Ca (Az w.c2 w.p.cycle two).2.1 (Az w.c2 w.p.cycle two).2.2 v.f20 1 2 w.p.cycle (fun z:Frm×Bool=>((Y7 (w.clr.put1 true (Az w.c1 w.p.cycle one) v.f10 1)),(((Az w.c2 w.p.cycle two).1.h,(Az w.c2 w.p.cycle two).1.nd.e),(Az w.c2 w.p.cycle two).1.ps,(Az w.c2 w.p.cycle two).1.cz,(Az w.c2 w.p.cycle two).1.co.ps),((Az w.c2 w.p.cycle two).1.co.ss,one,two),v.e,(z.1.e,(w.clr.put1 true (Az w.c1 w.p.cycle one) v.f10 1).f2.e),z.2,(w.clr.put1 true (Az w.c1 w.p.cycle one) v.f10 1).b2))
theorem AdK {w:W} (h:w.ok true true):TW w.p.e w.m1.e w.m2.e w.c1.h w.c1.nd.e w.c1.ps w.c1.cz w.c1.co.ps w.c1.co.ss w.c2.h w.c2.nd.e w.c2.ps w.c2.cz w.c2.co.ps w.c2.co.ss=some (((((((AC w.c1).2.1.label,(AC w.c1).2.1.from_),(AC w.c1).2.1.cycle,(AC w.c1).2.2),w.p.e),w.m1.e,w.m2.e),((AC w.c1).1.h,(AC w.c1).1.nd.e),(AC w.c1).1.ps,(AC w.c1).1.cz),(((AC w.c1).1.co.ps,(AC w.c1).1.co.ss),w.c2.h,w.c2.nd.e),(w.c2.ps,w.c2.cz),w.c2.co.ps,w.c2.co.ss,(AC w.c1).2.1.payload):=by
 unfold TW
 exact (bdS (MU (h.c1 rfl))).trans rfl
theorem AdL {w:W} (h:w.ok true true):TX w.p.e w.m1.e w.m2.e w.c1.h w.c1.nd.e w.c1.ps w.c1.cz w.c1.co.ps w.c1.co.ss w.c2.h w.c2.nd.e w.c2.ps w.c2.cz w.c2.co.ps w.c2.co.ss=some (((((((AC w.c2).2.1.label,(AC w.c2).2.1.from_),(AC w.c2).2.1.cycle,(AC w.c2).2.2),w.p.e),w.m1.e,w.m2.e),(w.c1.h,w.c1.nd.e),w.c1.ps,w.c1.cz),((w.c1.co.ps,w.c1.co.ss),(AC w.c2).1.h,(AC w.c2).1.nd.e),((AC w.c2).1.ps,(AC w.c2).1.cz),(AC w.c2).1.co.ps,(AC w.c2).1.co.ss,(AC w.c2).2.1.payload):=by
 unfold TX
 exact (bdS (MU (h.c2 rfl))).trans rfl
theorem Rh {w:W} (h:w.ok true true) (v:Ev):TY v.e w.p.e w.m1.e w.m2.e w.c1.h w.c1.nd.e w.c1.ps w.c1.cz w.c1.co.ps w.c1.co.ss w.c2.h w.c2.nd.e w.c2.ps w.c2.cz w.c2.co.ps w.c2.co.ss=some ((((((((w.ex1 true true v).f1.label,(w.ex1 true true v).f1.from_),(w.ex1 true true v).f1.cycle,(w.ex1 true true v).f1.payload,(w.ex1 true true v).f2.label),((w.ex1 true true v).f2.from_,(w.ex1 true true v).f2.cycle),(w.ex1 true true v).f2.payload,(w.ex1 true true v).b1,(w.ex1 true true v).b2),(w.ex1 true true v).p.e),(w.ex1 true true v).m1.e,(w.ex1 true true v).m2.e),((w.ex1 true true v).c1.h,(w.ex1 true true v).c1.nd.e),(w.ex1 true true v).c1.ps,(w.ex1 true true v).c1.cz),(((w.ex1 true true v).c1.co.ps,(w.ex1 true true v).c1.co.ss),(w.ex1 true true v).c2.h,(w.ex1 true true v).c2.nd.e),((w.ex1 true true v).c2.ps,(w.ex1 true true v).c2.cz),(w.ex1 true true v).c2.co.ps,(w.ex1 true true v).c2.co.ss):=by
 unfold TY
 refine (bdS (t:=((Y7 (w.clr.put1 true (AC w.c1) v.f11 2)),(((w.clr.put1 true (AC w.c1) v.f11 2).c2.h,(w.clr.put1 true (AC w.c1) v.f11 2).c2.nd.e),(w.clr.put1 true (AC w.c1) v.f11 2).c2.ps,(w.clr.put1 true (AC w.c1) v.f11 2).c2.cz),((w.clr.put1 true (AC w.c1) v.f11 2).c2.co.ps,(w.clr.put1 true (AC w.c1) v.f11 2).c2.co.ss),v.e,((((0:Int),(0:Int)),(0:Int),([]:List UInt8)),(w.clr.put1 true (AC w.c1) v.f11 2).f2.e),false,(w.clr.put1 true (AC w.c1) v.f11 2).b2)) ?_).trans ?_
 ·refine (bdS (AdK (w:=w) h)).trans ?_
  exact Ca (AC w.c1).2.1 (AC w.c1).2.2 v.f11 2 1 w.p.cycle (fun z:Frm×Bool=>((((w.clr.p.e,w.clr.m1.e),w.clr.m2.e,(AC w.c1).1.h),((AC w.c1).1.nd.e,(AC w.c1).1.ps),(AC w.c1).1.cz,(AC w.c1).1.co.ps,(AC w.c1).1.co.ss),((w.clr.c2.h,w.clr.c2.nd.e),w.clr.c2.ps,w.clr.c2.cz),(w.clr.c2.co.ps,w.clr.c2.co.ss),v.e,((((0:Int),(0:Int)),(0:Int),([]:List UInt8)),z.1.e),false,z.2))
 refine (bdS (t:=((Y7 ((w.clr.put1 true (AC w.c1) v.f11 2).put2 true (AC w.c2) v.f21 2)),((((w.clr.put1 true (AC w.c1) v.f11 2).put2 true (AC w.c2) v.f21 2).c2.h,((w.clr.put1 true (AC w.c1) v.f11 2).put2 true (AC w.c2) v.f21 2).c2.nd.e),((w.clr.put1 true (AC w.c1) v.f11 2).put2 true (AC w.c2) v.f21 2).c2.ps,((w.clr.put1 true (AC w.c1) v.f11 2).put2 true (AC w.c2) v.f21 2).c2.cz),(((w.clr.put1 true (AC w.c1) v.f11 2).put2 true (AC w.c2) v.f21 2).c2.co.ps,((w.clr.put1 true (AC w.c1) v.f11 2).put2 true (AC w.c2) v.f21 2).c2.co.ss),v.e,(((w.clr.put1 true (AC w.c1) v.f11 2).put2 true (AC w.c2) v.f21 2).f1.e,((w.clr.put1 true (AC w.c1) v.f11 2).put2 true (AC w.c2) v.f21 2).f2.e),((w.clr.put1 true (AC w.c1) v.f11 2).put2 true (AC w.c2) v.f21 2).b1,((w.clr.put1 true (AC w.c1) v.f11 2).put2 true (AC w.c2) v.f21 2).b2)) ?_).trans rfl
 ·refine (bdS (AdL (w:=(w.clr.put1 true (AC w.c1) v.f11 2)) (IX h (Nc (h.c1 rfl))))).trans ?_
  exact Ca (AC w.c2).2.1 (AC w.c2).2.2 v.f21 2 2 w.p.cycle (fun z:Frm×Bool=>((Y7 (w.clr.put1 true (AC w.c1) v.f11 2)),(((AC w.c2).1.h,(AC w.c2).1.nd.e),(AC w.c2).1.ps,(AC w.c2).1.cz),((AC w.c2).1.co.ps,(AC w.c2).1.co.ss),v.e,(z.1.e,(w.clr.put1 true (AC w.c1) v.f11 2).f2.e),z.2,(w.clr.put1 true (AC w.c1) v.f11 2).b2))
theorem AdM {w:W} (h:w.ok true true):Uc w.p.e w.m1.e w.m2.e w.c1.h w.c1.nd.e w.c1.ps w.c1.cz w.c1.co.ps w.c1.co.ss w.c2.h w.c2.nd.e w.c2.ps w.c2.cz w.c2.co.ps w.c2.co.ss w.r.e=some (((((((AA w.c1 w.r.t1).2.1.label,(AA w.c1 w.r.t1).2.1.from_),(AA w.c1 w.r.t1).2.1.cycle,(AA w.c1 w.r.t1).2.2),w.p.e),w.m1.e,w.m2.e),((AA w.c1 w.r.t1).1.h,(AA w.c1 w.r.t1).1.nd.e),(AA w.c1 w.r.t1).1.ps,(AA w.c1 w.r.t1).1.cz),(((AA w.c1 w.r.t1).1.co.ps,(AA w.c1 w.r.t1).1.co.ss),w.c2.h,w.c2.nd.e),(w.c2.ps,w.c2.cz),w.c2.co.ps,w.c2.co.ss,(AA w.c1 w.r.t1).2.1.payload):=by
 unfold Uc
 exact (bdS (MV (c:=w.c1) (t:=w.r.t1))).trans rfl
theorem AdN {w:W} (h:w.ok true true):Ud w.p.e w.m1.e w.m2.e w.c1.h w.c1.nd.e w.c1.ps w.c1.cz w.c1.co.ps w.c1.co.ss w.c2.h w.c2.nd.e w.c2.ps w.c2.cz w.c2.co.ps w.c2.co.ss w.r.e=some (((((((AA w.c2 w.r.t2).2.1.label,(AA w.c2 w.r.t2).2.1.from_),(AA w.c2 w.r.t2).2.1.cycle,(AA w.c2 w.r.t2).2.2),w.p.e),w.m1.e,w.m2.e),(w.c1.h,w.c1.nd.e),w.c1.ps,w.c1.cz),((w.c1.co.ps,w.c1.co.ss),(AA w.c2 w.r.t2).1.h,(AA w.c2 w.r.t2).1.nd.e),((AA w.c2 w.r.t2).1.ps,(AA w.c2 w.r.t2).1.cz),(AA w.c2 w.r.t2).1.co.ps,(AA w.c2 w.r.t2).1.co.ss,(AA w.c2 w.r.t2).2.1.payload):=by
 unfold Ud
 exact (bdS (MV (c:=w.c2) (t:=w.r.t2))).trans rfl
theorem Ri {w:W} (h:w.ok true true) (v:Ev):Ue v.e w.p.e w.m1.e w.m2.e w.c1.h w.c1.nd.e w.c1.ps w.c1.cz w.c1.co.ps w.c1.co.ss w.c2.h w.c2.nd.e w.c2.ps w.c2.cz w.c2.co.ps w.c2.co.ss w.r.e=some ((((((((w.ex2 true true v).f1.label,(w.ex2 true true v).f1.from_),(w.ex2 true true v).f1.cycle,(w.ex2 true true v).f1.payload,(w.ex2 true true v).f2.label),((w.ex2 true true v).f2.from_,(w.ex2 true true v).f2.cycle),(w.ex2 true true v).f2.payload,(w.ex2 true true v).b1,(w.ex2 true true v).b2),(w.ex2 true true v).p.e),(w.ex2 true true v).m1.e,(w.ex2 true true v).m2.e),((w.ex2 true true v).c1.h,(w.ex2 true true v).c1.nd.e),(w.ex2 true true v).c1.ps,(w.ex2 true true v).c1.cz),(((w.ex2 true true v).c1.co.ps,(w.ex2 true true v).c1.co.ss),(w.ex2 true true v).c2.h,(w.ex2 true true v).c2.nd.e),((w.ex2 true true v).c2.ps,(w.ex2 true true v).c2.cz),(w.ex2 true true v).c2.co.ps,(w.ex2 true true v).c2.co.ss,(w.ex2 true true v).r.e):=by
 unfold Ue
 refine (bdS (t:=((Y7 (w.clr.put1 true (AA w.c1 w.r.t1) v.f12 3)),(((w.clr.put1 true (AA w.c1 w.r.t1) v.f12 3).c2.h,(w.clr.put1 true (AA w.c1 w.r.t1) v.f12 3).c2.nd.e),(w.clr.put1 true (AA w.c1 w.r.t1) v.f12 3).c2.ps,(w.clr.put1 true (AA w.c1 w.r.t1) v.f12 3).c2.cz,(w.clr.put1 true (AA w.c1 w.r.t1) v.f12 3).c2.co.ps),((w.clr.put1 true (AA w.c1 w.r.t1) v.f12 3).c2.co.ss,(w.clr.put1 true (AA w.c1 w.r.t1) v.f12 3).r.e),v.e,((((0:Int),(0:Int)),(0:Int),([]:List UInt8)),(w.clr.put1 true (AA w.c1 w.r.t1) v.f12 3).f2.e),false,(w.clr.put1 true (AA w.c1 w.r.t1) v.f12 3).b2)) ?_).trans ?_
 ·refine (bdS (AdM (w:=w) h)).trans ?_
  exact Ca (AA w.c1 w.r.t1).2.1 (AA w.c1 w.r.t1).2.2 v.f12 3 1 w.p.cycle (fun z:Frm×Bool=>((((w.clr.p.e,w.clr.m1.e),w.clr.m2.e,(AA w.c1 w.r.t1).1.h),((AA w.c1 w.r.t1).1.nd.e,(AA w.c1 w.r.t1).1.ps),(AA w.c1 w.r.t1).1.cz,(AA w.c1 w.r.t1).1.co.ps,(AA w.c1 w.r.t1).1.co.ss),((w.clr.c2.h,w.clr.c2.nd.e),w.clr.c2.ps,w.clr.c2.cz,w.clr.c2.co.ps),(w.clr.c2.co.ss,w.clr.r.e),v.e,((((0:Int),(0:Int)),(0:Int),([]:List UInt8)),z.1.e),false,z.2))
 refine (bdS (t:=((Y7 ((w.clr.put1 true (AA w.c1 w.r.t1) v.f12 3).put2 true (AA w.c2 w.r.t2) v.f22 3)),((((w.clr.put1 true (AA w.c1 w.r.t1) v.f12 3).put2 true (AA w.c2 w.r.t2) v.f22 3).c2.h,((w.clr.put1 true (AA w.c1 w.r.t1) v.f12 3).put2 true (AA w.c2 w.r.t2) v.f22 3).c2.nd.e),((w.clr.put1 true (AA w.c1 w.r.t1) v.f12 3).put2 true (AA w.c2 w.r.t2) v.f22 3).c2.ps,((w.clr.put1 true (AA w.c1 w.r.t1) v.f12 3).put2 true (AA w.c2 w.r.t2) v.f22 3).c2.cz,((w.clr.put1 true (AA w.c1 w.r.t1) v.f12 3).put2 true (AA w.c2 w.r.t2) v.f22 3).c2.co.ps),(((w.clr.put1 true (AA w.c1 w.r.t1) v.f12 3).put2 true (AA w.c2 w.r.t2) v.f22 3).c2.co.ss,((w.clr.put1 true (AA w.c1 w.r.t1) v.f12 3).put2 true (AA w.c2 w.r.t2) v.f22 3).r.e),v.e,(((w.clr.put1 true (AA w.c1 w.r.t1) v.f12 3).put2 true (AA w.c2 w.r.t2) v.f22 3).f1.e,((w.clr.put1 true (AA w.c1 w.r.t1) v.f12 3).put2 true (AA w.c2 w.r.t2) v.f22 3).f2.e),((w.clr.put1 true (AA w.c1 w.r.t1) v.f12 3).put2 true (AA w.c2 w.r.t2) v.f22 3).b1,((w.clr.put1 true (AA w.c1 w.r.t1) v.f12 3).put2 true (AA w.c2 w.r.t2) v.f22 3).b2)) ?_).trans rfl
 ·refine (bdS (AdN (w:=(w.clr.put1 true (AA w.c1 w.r.t1) v.f12 3)) (IX h (Nf (h.c1 rfl))))).trans ?_
  exact Ca (AA w.c2 w.r.t2).2.1 (AA w.c2 w.r.t2).2.2 v.f22 3 2 w.p.cycle (fun z:Frm×Bool=>((Y7 (w.clr.put1 true (AA w.c1 w.r.t1) v.f12 3)),(((AA w.c2 w.r.t2).1.h,(AA w.c2 w.r.t2).1.nd.e),(AA w.c2 w.r.t2).1.ps,(AA w.c2 w.r.t2).1.cz,(AA w.c2 w.r.t2).1.co.ps),((AA w.c2 w.r.t2).1.co.ss,(w.clr.put1 true (AA w.c1 w.r.t1) v.f12 3).r.e),v.e,(z.1.e,(w.clr.put1 true (AA w.c1 w.r.t1) v.f12 3).f2.e),z.2,(w.clr.put1 true (AA w.c1 w.r.t1) v.f12 3).b2))
theorem AdO {w:W} (h:w.ok true true):Ui w.p.e w.m1.e w.m2.e w.c1.h w.c1.nd.e w.c1.ps w.c1.cz w.c1.co.ps w.c1.co.ss w.c2.h w.c2.nd.e w.c2.ps w.c2.cz w.c2.co.ps w.c2.co.ss=some (((((((AD w.c1 w.m1).2.1.label,(AD w.c1 w.m1).2.1.from_),(AD w.c1 w.m1).2.1.cycle,(AD w.c1 w.m1).2.2),w.p.e),w.m1.e,w.m2.e),((AD w.c1 w.m1).1.h,(AD w.c1 w.m1).1.nd.e),(AD w.c1 w.m1).1.ps,(AD w.c1 w.m1).1.cz),(((AD w.c1 w.m1).1.co.ps,(AD w.c1 w.m1).1.co.ss),w.c2.h,w.c2.nd.e),(w.c2.ps,w.c2.cz),w.c2.co.ps,w.c2.co.ss,(AD w.c1 w.m1).2.1.payload):=by
 unfold Ui
 refine (bdS (t:=((Y8 w),((w.c1.co.ss,w.c2.h),w.c2.nd.e,w.c2.ps),(w.c2.cz,w.c2.co.ps),w.c2.co.ss,(((0:Int),(0:Int)),(0:Int),([]:List UInt8)),cond w.c1.asked (saveB w.m1) [])) ?_).trans ?_
 ·exact As (c:=w.c1.asked) (F:=fun z:List UInt8=>((Y8 w),((w.c1.co.ss,w.c2.h),w.c2.nd.e,w.c2.ps),(w.c2.cz,w.c2.co.ps),w.c2.co.ss,(((0:Int),(0:Int)),(0:Int),([]:List UInt8)),z)) (X:=saveB w.m1) (Y:=[]) ((bdS (De h.p1.1 (CP h.p1.2))).trans rfl) rfl
 ·exact (bdS (MY (c:=w.c1) (save:=cond w.c1.asked (saveB w.m1) []) (h.c1 rfl))).trans rfl
theorem AdP {w:W} (h:w.ok true true):Uj w.p.e w.m1.e w.m2.e w.c1.h w.c1.nd.e w.c1.ps w.c1.cz w.c1.co.ps w.c1.co.ss w.c2.h w.c2.nd.e w.c2.ps w.c2.cz w.c2.co.ps w.c2.co.ss=some (((((((AD w.c2 w.m2).2.1.label,(AD w.c2 w.m2).2.1.from_),(AD w.c2 w.m2).2.1.cycle,(AD w.c2 w.m2).2.2),w.p.e),w.m1.e,w.m2.e),(w.c1.h,w.c1.nd.e),w.c1.ps,w.c1.cz),((w.c1.co.ps,w.c1.co.ss),(AD w.c2 w.m2).1.h,(AD w.c2 w.m2).1.nd.e),((AD w.c2 w.m2).1.ps,(AD w.c2 w.m2).1.cz),(AD w.c2 w.m2).1.co.ps,(AD w.c2 w.m2).1.co.ss,(AD w.c2 w.m2).2.1.payload):=by
 unfold Uj
 refine (bdS (t:=((Y8 w),((w.c1.co.ss,w.c2.h),w.c2.nd.e,w.c2.ps),(w.c2.cz,w.c2.co.ps),w.c2.co.ss,(((0:Int),(0:Int)),(0:Int),([]:List UInt8)),cond w.c2.asked (saveB w.m2) [])) ?_).trans ?_
 ·exact As (c:=w.c2.asked) (F:=fun z:List UInt8=>((Y8 w),((w.c1.co.ss,w.c2.h),w.c2.nd.e,w.c2.ps),(w.c2.cz,w.c2.co.ps),w.c2.co.ss,(((0:Int),(0:Int)),(0:Int),([]:List UInt8)),z)) (X:=saveB w.m2) (Y:=[]) ((bdS (De h.p2.1 (CP h.p2.2))).trans rfl) rfl
 ·exact (bdS (MY (c:=w.c2) (save:=cond w.c2.asked (saveB w.m2) []) (h.c2 rfl))).trans rfl
theorem Rj {w:W} (h:w.ok true true) (v:Ev):Uk v.e w.p.e w.m1.e w.m2.e w.c1.h w.c1.nd.e w.c1.ps w.c1.cz w.c1.co.ps w.c1.co.ss w.c2.h w.c2.nd.e w.c2.ps w.c2.cz w.c2.co.ps w.c2.co.ss=some ((((((((w.ex3 true true v).f1.label,(w.ex3 true true v).f1.from_),(w.ex3 true true v).f1.cycle,(w.ex3 true true v).f1.payload,(w.ex3 true true v).f2.label),((w.ex3 true true v).f2.from_,(w.ex3 true true v).f2.cycle),(w.ex3 true true v).f2.payload,(w.ex3 true true v).b1,(w.ex3 true true v).b2),(w.ex3 true true v).p.e),(w.ex3 true true v).m1.e,(w.ex3 true true v).m2.e),((w.ex3 true true v).c1.h,(w.ex3 true true v).c1.nd.e),(w.ex3 true true v).c1.ps,(w.ex3 true true v).c1.cz),(((w.ex3 true true v).c1.co.ps,(w.ex3 true true v).c1.co.ss),(w.ex3 true true v).c2.h,(w.ex3 true true v).c2.nd.e),((w.ex3 true true v).c2.ps,(w.ex3 true true v).c2.cz),(w.ex3 true true v).c2.co.ps,(w.ex3 true true v).c2.co.ss):=by
 unfold Uk
 refine (bdS (t:=((Y7 (w.clr.put1 true (AD w.c1 w.m1) v.f13 4)),(((w.clr.put1 true (AD w.c1 w.m1) v.f13 4).c2.h,(w.clr.put1 true (AD w.c1 w.m1) v.f13 4).c2.nd.e),(w.clr.put1 true (AD w.c1 w.m1) v.f13 4).c2.ps,(w.clr.put1 true (AD w.c1 w.m1) v.f13 4).c2.cz),((w.clr.put1 true (AD w.c1 w.m1) v.f13 4).c2.co.ps,(w.clr.put1 true (AD w.c1 w.m1) v.f13 4).c2.co.ss),v.e,((((0:Int),(0:Int)),(0:Int),([]:List UInt8)),(w.clr.put1 true (AD w.c1 w.m1) v.f13 4).f2.e),false,(w.clr.put1 true (AD w.c1 w.m1) v.f13 4).b2)) ?_).trans ?_
 ·refine (bdS (AdO (w:=w) h)).trans ?_
  exact Ca (AD w.c1 w.m1).2.1 (AD w.c1 w.m1).2.2 v.f13 4 1 w.p.cycle (fun z:Frm×Bool=>((((w.clr.p.e,w.clr.m1.e),w.clr.m2.e,(AD w.c1 w.m1).1.h),((AD w.c1 w.m1).1.nd.e,(AD w.c1 w.m1).1.ps),(AD w.c1 w.m1).1.cz,(AD w.c1 w.m1).1.co.ps,(AD w.c1 w.m1).1.co.ss),((w.clr.c2.h,w.clr.c2.nd.e),w.clr.c2.ps,w.clr.c2.cz),(w.clr.c2.co.ps,w.clr.c2.co.ss),v.e,((((0:Int),(0:Int)),(0:Int),([]:List UInt8)),z.1.e),false,z.2))
 refine (bdS (t:=((Y7 ((w.clr.put1 true (AD w.c1 w.m1) v.f13 4).put2 true (AD w.c2 w.m2) v.f23 4)),((((w.clr.put1 true (AD w.c1 w.m1) v.f13 4).put2 true (AD w.c2 w.m2) v.f23 4).c2.h,((w.clr.put1 true (AD w.c1 w.m1) v.f13 4).put2 true (AD w.c2 w.m2) v.f23 4).c2.nd.e),((w.clr.put1 true (AD w.c1 w.m1) v.f13 4).put2 true (AD w.c2 w.m2) v.f23 4).c2.ps,((w.clr.put1 true (AD w.c1 w.m1) v.f13 4).put2 true (AD w.c2 w.m2) v.f23 4).c2.cz),(((w.clr.put1 true (AD w.c1 w.m1) v.f13 4).put2 true (AD w.c2 w.m2) v.f23 4).c2.co.ps,((w.clr.put1 true (AD w.c1 w.m1) v.f13 4).put2 true (AD w.c2 w.m2) v.f23 4).c2.co.ss),v.e,(((w.clr.put1 true (AD w.c1 w.m1) v.f13 4).put2 true (AD w.c2 w.m2) v.f23 4).f1.e,((w.clr.put1 true (AD w.c1 w.m1) v.f13 4).put2 true (AD w.c2 w.m2) v.f23 4).f2.e),((w.clr.put1 true (AD w.c1 w.m1) v.f13 4).put2 true (AD w.c2 w.m2) v.f23 4).b1,((w.clr.put1 true (AD w.c1 w.m1) v.f13 4).put2 true (AD w.c2 w.m2) v.f23 4).b2)) ?_).trans rfl
 ·refine (bdS (AdP (w:=(w.clr.put1 true (AD w.c1 w.m1) v.f13 4)) (IX h (Ng (h.c1 rfl))))).trans ?_
  exact Ca (AD w.c2 w.m2).2.1 (AD w.c2 w.m2).2.2 v.f23 4 2 w.p.cycle (fun z:Frm×Bool=>((Y7 (w.clr.put1 true (AD w.c1 w.m1) v.f13 4)),(((AD w.c2 w.m2).1.h,(AD w.c2 w.m2).1.nd.e),(AD w.c2 w.m2).1.ps,(AD w.c2 w.m2).1.cz),((AD w.c2 w.m2).1.co.ps,(AD w.c2 w.m2).1.co.ss),v.e,(z.1.e,(w.clr.put1 true (AD w.c1 w.m1) v.f13 4).f2.e),z.2,(w.clr.put1 true (AD w.c1 w.m1) v.f13 4).b2))
theorem AdQ {w:W} (h:w.ok true true):TT w.p.e w.m1.e w.m2.e w.c1.h w.c1.nd.e w.c1.ps w.c1.cz w.c1.co.ps w.c1.co.ss w.c2.h w.c2.nd.e w.c2.ps w.c2.cz w.c2.co.ps w.c2.co.ss (w.f1.e,w.f2.e) (w.b1,w.b2)=some (Y9 (w.hear true false)):=by
 unfold TT
 exact (bdS (MT (c:=w.c1) (f:=w.f1) (came:=w.b1) (h.c1 rfl))).trans rfl
theorem AdR {w:W} (h:w.ok true true):TU w.p.e w.m1.e w.m2.e w.c1.h w.c1.nd.e w.c1.ps w.c1.cz w.c1.co.ps w.c1.co.ss w.c2.h w.c2.nd.e w.c2.ps w.c2.cz w.c2.co.ps w.c2.co.ss (w.f1.e,w.f2.e) (w.b1,w.b2)=some (Y10 (w.hear false true)):=by
 unfold TU
 exact (bdS (MT (c:=w.c2) (f:=w.f2) (came:=w.b2) (h.c2 rfl))).trans rfl
theorem Rk {w:W} (h:w.ok true true):TV w.p.e w.m1.e w.m2.e w.c1.h w.c1.nd.e w.c1.ps w.c1.cz w.c1.co.ps w.c1.co.ss w.c2.h w.c2.nd.e w.c2.ps w.c2.cz w.c2.co.ps w.c2.co.ss (w.f1.e,w.f2.e) (w.b1,w.b2)=some (Y11 (w.hear true true)):=by
 unfold TV
 exact (bdS (AdQ h)).trans ((bdS (AdR (w:=(w.hear true false)) (WT h))).trans rfl)
theorem AdS {w:W} (h:w.ok true true) (v:Ev):TZ w.p.e w.m1.e w.m2.e w.c1.h w.c1.nd.e w.c1.ps w.c1.cz w.c1.co.ps w.c1.co.ss w.c2.h w.c2.nd.e w.c2.ps w.c2.cz w.c2.co.ps w.c2.co.ss (w.f1.e,w.f2.e) (w.b1,w.b2) (w.s1,w.s2) w.r.e v.e=some ((Y12 (w.step1 v (w.c1.step w.f1 w.b1))),(((w.step1 v (w.c1.step w.f1 w.b1)).c2.cz,(w.step1 v (w.c1.step w.f1 w.b1)).c2.co.ps),(w.step1 v (w.c1.step w.f1 w.b1)).c2.co.ss,((w.step1 v (w.c1.step w.f1 w.b1)).f1.e,(w.step1 v (w.c1.step w.f1 w.b1)).f2.e),(w.step1 v (w.c1.step w.f1 w.b1)).b1,(w.step1 v (w.c1.step w.f1 w.b1)).b2),(((w.step1 v (w.c1.step w.f1 w.b1)).s1,(w.step1 v (w.c1.step w.f1 w.b1)).s2),(w.step1 v (w.c1.step w.f1 w.b1)).r.e),v.e,(w.step1 v (w.c1.step w.f1 w.b1)).c1.co.ps,(w.step1 v (w.c1.step w.f1 w.b1)).c1.co.ss):=by
 unfold TZ
 have hin:(w.c1.step w.f1 w.b1).2.1.in_.length≤2000:=Gj (h.c1 rfl) h.f1
 refine (bdS (MX (c:=w.c1) (f:=w.f1) (came:=w.b1) (h.c1 rfl) h.f1)).trans ?_
 generalize (w.c1.step w.f1 w.b1)=x at hin ⊢
 obtain ⟨c,se,has,er⟩:=x
 cases has with
 | false=>rfl
 | true =>
  refine (cndF rfl).trans ?_
  refine (bdS (t:=((((w.p.e,(cond se.fresh (w.m1.load w.p.init).1 w.m1).e),w.m2.e,c.h,c.nd.e),(c.ps,c.cz,w.c2.h),w.c2.nd.e,w.c2.ps,w.c2.cz),(Y13 w),(w.r.e,v.e,se.steps,se.cycle,se.fresh),c.co.ps,c.co.ss,se.in_)) ?_).trans ?_
  ·exact As (c:=se.fresh) (F:=fun z:Mc=>((((w.p.e,z.e),w.m2.e,c.h,c.nd.e),(c.ps,c.cz,w.c2.h),w.c2.nd.e,w.c2.ps,w.c2.cz),(Y13 w),(w.r.e,v.e,se.steps,se.cycle,se.fresh),c.co.ps,c.co.ss,se.in_)) (X:=(w.m1.load w.p.init).1) (Y:=w.m1) ((bdS (Bu (Nat.le_trans h.init (by decide)))).trans ((bdS (Eg (m:=w.m1) (p:=w.p.init) h.p1.1 (CP h.p1.2))).trans rfl)) rfl
  ·exact (bdS (Ef (cond se.fresh (w.m1.load w.p.init).1 w.m1) se.cycle (l:=se.in_) (Nat.le_trans hin (by decide)))).trans rfl
theorem AdT {w:W} (h:w.ok true true) (v:Ev):Ua w.p.e w.m1.e w.m2.e w.c1.h w.c1.nd.e w.c1.ps w.c1.cz w.c1.co.ps w.c1.co.ss w.c2.h w.c2.nd.e w.c2.ps w.c2.cz w.c2.co.ps w.c2.co.ss (w.f1.e,w.f2.e) (w.b1,w.b2) (w.s1,w.s2) w.r.e v.e=some (((((w.step2 v (w.c2.step w.f2 w.b2)).p.e,(w.step2 v (w.c2.step w.f2 w.b2)).m1.e),(w.step2 v (w.c2.step w.f2 w.b2)).m2.e,(w.step2 v (w.c2.step w.f2 w.b2)).c1.h,(w.step2 v (w.c2.step w.f2 w.b2)).c1.nd.e),((w.step2 v (w.c2.step w.f2 w.b2)).c1.ps,(w.step2 v (w.c2.step w.f2 w.b2)).c1.cz),(w.step2 v (w.c2.step w.f2 w.b2)).c1.co.ps,(w.step2 v (w.c2.step w.f2 w.b2)).c1.co.ss,(w.step2 v (w.c2.step w.f2 w.b2)).c2.h),(((w.step2 v (w.c2.step w.f2 w.b2)).c2.nd.e,(w.step2 v (w.c2.step w.f2 w.b2)).c2.ps),(w.step2 v (w.c2.step w.f2 w.b2)).c2.cz,((w.step2 v (w.c2.step w.f2 w.b2)).f1.e,(w.step2 v (w.c2.step w.f2 w.b2)).f2.e),(w.step2 v (w.c2.step w.f2 w.b2)).b1,(w.step2 v (w.c2.step w.f2 w.b2)).b2),(((w.step2 v (w.c2.step w.f2 w.b2)).s1,(w.step2 v (w.c2.step w.f2 w.b2)).s2),(w.step2 v (w.c2.step w.f2 w.b2)).r.e),v.e,(w.step2 v (w.c2.step w.f2 w.b2)).c2.co.ps,(w.step2 v (w.c2.step w.f2 w.b2)).c2.co.ss):=by
 unfold Ua
 have hin:(w.c2.step w.f2 w.b2).2.1.in_.length≤2000:=Gj (h.c2 rfl) h.f2
 refine (bdS (MX (c:=w.c2) (f:=w.f2) (came:=w.b2) (h.c2 rfl) h.f2)).trans ?_
 generalize (w.c2.step w.f2 w.b2)=x at hin ⊢
 obtain ⟨c,se,has,er⟩:=x
 cases has with
 | false=>rfl
 | true =>
  refine (cndF rfl).trans ?_
  refine (bdS (t:=((((w.p.e,w.m1.e),(cond se.fresh (w.m2.load w.p.init).1 w.m2).e,w.c1.h,w.c1.nd.e),(w.c1.ps,w.c1.cz,w.c1.co.ps),w.c1.co.ss,c.h,c.nd.e),((c.ps,c.cz),(w.f1.e,w.f2.e),(w.b1,w.b2),w.s1,w.s2),(w.r.e,v.e,se.steps,se.cycle,se.fresh),c.co.ps,c.co.ss,se.in_)) ?_).trans ?_
  ·exact As (c:=se.fresh) (F:=fun z:Mc=>((((w.p.e,w.m1.e),z.e,w.c1.h,w.c1.nd.e),(w.c1.ps,w.c1.cz,w.c1.co.ps),w.c1.co.ss,c.h,c.nd.e),((c.ps,c.cz),(w.f1.e,w.f2.e),(w.b1,w.b2),w.s1,w.s2),(w.r.e,v.e,se.steps,se.cycle,se.fresh),c.co.ps,c.co.ss,se.in_)) (X:=(w.m2.load w.p.init).1) (Y:=w.m2) ((bdS (Bu (Nat.le_trans h.init (by decide)))).trans ((bdS (Eg (m:=w.m2) (p:=w.p.init) h.p2.1 (CP h.p2.2))).trans rfl)) rfl
  ·exact (bdS (Ef (cond se.fresh (w.m2.load w.p.init).1 w.m2) se.cycle (l:=se.in_) (Nat.le_trans hin (by decide)))).trans rfl
theorem Rm {w:W} (h:w.ok true true) (v:Ev):Ub w.p.e w.m1.e w.m2.e w.c1.h w.c1.nd.e w.c1.ps w.c1.cz w.c1.co.ps w.c1.co.ss w.c2.h w.c2.nd.e w.c2.ps w.c2.cz w.c2.co.ps w.c2.co.ss (w.f1.e,w.f2.e) (w.b1,w.b2) (w.s1,w.s2) w.r.e v.e=some ((Y12 (w.step true true v)),(((w.step true true v).c2.cz,(w.step true true v).f1.e,(w.step true true v).f2.e),((w.step true true v).b1,(w.step true true v).b2),((w.step true true v).s1,(w.step true true v).s2),(w.step true true v).r.e),(v.e,(w.step true true v).c1.co.ps),(w.step true true v).c1.co.ss,(w.step true true v).c2.co.ps,(w.step true true v).c2.co.ss):=by
 unfold Ub
 exact (bdS (AdS h v)).trans ((bdS (AdT (w:=(w.step1 v (w.c1.step w.f1 w.b1))) (LX (a:=true) h (v:=v)) v)).trans rfl)
theorem AdU {w:W} (h:w.ok true true):Uf w.p.e w.m1.e w.m2.e w.c1.h w.c1.nd.e w.c1.ps w.c1.cz w.c1.co.ps w.c1.co.ss w.c2.h w.c2.nd.e w.c2.ps w.c2.cz w.c2.co.ps w.c2.co.ss (w.f1.e,w.f2.e) (w.b1,w.b2) w.r.e=some (Y14 (w.judge true false)):=by
 unfold Uf
 exact (bdS (MW (c:=w.c1) (f:=w.f1) (came:=w.b1))).trans rfl
theorem AdV {w:W} (h:w.ok true true):Ug w.p.e w.m1.e w.m2.e w.c1.h w.c1.nd.e w.c1.ps w.c1.cz w.c1.co.ps w.c1.co.ss w.c2.h w.c2.nd.e w.c2.ps w.c2.cz w.c2.co.ps w.c2.co.ss (w.f1.e,w.f2.e) (w.b1,w.b2) w.r.e=some (Y14 (w.judge false true)):=by
 unfold Ug
 exact (bdS (MW (c:=w.c2) (f:=w.f2) (came:=w.b2))).trans rfl
theorem Rn {w:W} (h:w.ok true true):Uh w.p.e w.m1.e w.m2.e w.c1.h w.c1.nd.e w.c1.ps w.c1.cz w.c1.co.ps w.c1.co.ss w.c2.h w.c2.nd.e w.c2.ps w.c2.cz w.c2.co.ps w.c2.co.ss (w.f1.e,w.f2.e) (w.b1,w.b2) w.r.e=some (Y14 (w.judge true true)):=by
 unfold Uh
 exact (bdS (AdU h)).trans ((bdS (AdV (w:=(w.judge true false)) (Tm h))).trans rfl)
theorem AdW {w:W} (h:w.ok true true):Ul w.f1.e w.b1 w.p.e w.m1.e w.m2.e w.c1.h w.c1.nd.e w.c1.ps w.c1.cz w.c1.co.ps w.c1.co.ss w.c2.h w.c2.nd.e w.c2.ps w.c2.cz w.c2.co.ps w.c2.co.ss=some (((w.p.e,(tookA w.m1 (w.c1.take w.f1 w.b1)).2.e,w.m2.e),((tookA w.m1 (w.c1.take w.f1 w.b1)).1.h,(tookA w.m1 (w.c1.take w.f1 w.b1)).1.nd.e),(tookA w.m1 (w.c1.take w.f1 w.b1)).1.ps,(tookA w.m1 (w.c1.take w.f1 w.b1)).1.cz),((w.c2.h,w.c2.nd.e),w.c2.ps,w.c2.cz),(w.c2.co.ps,w.c2.co.ss),(tookA w.m1 (w.c1.take w.f1 w.b1)).1.co.ps,(tookA w.m1 (w.c1.take w.f1 w.b1)).1.co.ss):=by
 unfold Ul
 have hj:=EI (h.c1 rfl) (f:=w.f1) (came:=w.b1)
 refine (bdS (MZ (c:=w.c1) (f:=w.f1) (came:=w.b1) (h.c1 rfl) h.f1)).trans ?_
 generalize (w.c1.take w.f1 w.b1)=x at hj ⊢
 obtain ⟨c,⟨jb,sn,l⟩,has,er⟩:=x
 cases has with
 | false=>rfl
 | true =>
  have hs:l.length≤874:=hj.sets
  have hi:∀ x∈l,x.2.2.2.length≤2000:=hj.ins
  refine (cndF rfl).trans ?_
  refine (bdS (Eg (m:=w.m1) (p:=sn) h.p1.1 (CP h.p1.2))).trans ?_
  refine As (c:=(w.m1.load sn).2 != 0) (F:=fun z:Cp×Mc=>(((w.p.e,z.2.e,w.m2.e),(z.1.h,z.1.nd.e),z.1.ps,z.1.cz),((w.c2.h,w.c2.nd.e),w.c2.ps,w.c2.cz),(w.c2.co.ps,w.c2.co.ss),z.1.co.ps,z.1.co.ss)) (X:=(c.drop,(w.m1.load sn).1)) (Y:=(c,runL (w.m1.load sn).1 l)) ((bdS (MQ c)).trans rfl) ?_
  refine AJ (fun i=>((((((l.length:Nat):Int),((i:Nat):Int)),w.p.e,(runL (w.m1.load sn).1 (l.take i)).e),(w.m2.e,c.h),c.nd.e,c.ps,c.cz),((w.c2.h,w.c2.nd.e),w.c2.ps,w.c2.cz),(w.c2.co.ps,w.c2.co.ss),l,c.co.ps,c.co.ss)) l.length rfl (fun i hi'=>?_) ?_ (by omega)
  ·have hd:(l.getD i (0,0,false,[])).2.2.2.length≤100000000:=by rw [BX hi'];exact Nat.le_trans (hi _ (List.getElem_mem hi')) (by decide)
   unfold Kd
   refine (cndT (dt (by show (i:Int) < (l.length:Int);omega))).trans ((gdT (dt (by show (0:Int)≤i∧(i:Int) < (l.length:Int);omega))).trans ((bdS (Ef (runL (w.m1.load sn).1 (l.take i)) (l.getD i (0,0,false,[])).2.1 (l:=(l.getD i (0,0,false,[])).2.2.2) hd)).trans ?_))
   exact Gl (DF _ hi') (AM (by omega)) (fun (m:Mc) (k:Int)=>((((((l.length:Nat):Int),k),w.p.e,m.e),(w.m2.e,c.h),c.nd.e,c.ps,c.cz),((w.c2.h,w.c2.nd.e),w.c2.ps,w.c2.cz),(w.c2.co.ps,w.c2.co.ss),l,c.co.ps,c.co.ss))
  ·unfold Kd
   refine (cndF (df (by show ¬ (l.length:Int) < (l.length:Int);omega))).trans ?_
   rw [List.take_length]
   exact dnS _
theorem AdX {w:W} (h:w.ok true true):Um w.p.e w.m1.e w.m2.e w.c1.h w.c1.nd.e w.c1.ps w.c1.cz w.c1.co.ps w.c1.co.ss w.c2.h w.c2.nd.e w.c2.ps w.c2.cz w.c2.co.ps w.c2.co.ss (w.f1.e,w.f2.e) (w.b1,w.b2)=some (Y9 (w.take true false)):=by
 unfold Um
 exact (bdS (AdW h)).trans rfl
theorem AdY {w:W} (h:w.ok true true):Uo w.f2.e w.b2 w.p.e w.m1.e w.m2.e w.c1.h w.c1.nd.e w.c1.ps w.c1.cz w.c1.co.ps w.c1.co.ss w.c2.h w.c2.nd.e w.c2.ps w.c2.cz w.c2.co.ps w.c2.co.ss=some (((w.p.e,w.m1.e,(tookA w.m2 (w.c2.take w.f2 w.b2)).2.e),(w.c1.h,w.c1.nd.e),w.c1.ps,w.c1.cz),((w.c1.co.ps,w.c1.co.ss),(tookA w.m2 (w.c2.take w.f2 w.b2)).1.h,(tookA w.m2 (w.c2.take w.f2 w.b2)).1.nd.e),((tookA w.m2 (w.c2.take w.f2 w.b2)).1.ps,(tookA w.m2 (w.c2.take w.f2 w.b2)).1.cz),(tookA w.m2 (w.c2.take w.f2 w.b2)).1.co.ps,(tookA w.m2 (w.c2.take w.f2 w.b2)).1.co.ss):=by
 unfold Uo
 have hj:=EI (h.c2 rfl) (f:=w.f2) (came:=w.b2)
 refine (bdS (MZ (c:=w.c2) (f:=w.f2) (came:=w.b2) (h.c2 rfl) h.f2)).trans ?_
 generalize (w.c2.take w.f2 w.b2)=x at hj ⊢
 obtain ⟨c,⟨jb,sn,l⟩,has,er⟩:=x
 cases has with
 | false=>rfl
 | true =>
  have hs:l.length≤874:=hj.sets
  have hi:∀ x∈l,x.2.2.2.length≤2000:=hj.ins
  refine (cndF rfl).trans ?_
  refine (bdS (Eg (m:=w.m2) (p:=sn) h.p2.1 (CP h.p2.2))).trans ?_
  refine As (c:=(w.m2.load sn).2 != 0) (F:=fun z:Cp×Mc=>(((w.p.e,w.m1.e,z.2.e),(w.c1.h,w.c1.nd.e),w.c1.ps,w.c1.cz),((w.c1.co.ps,w.c1.co.ss),z.1.h,z.1.nd.e),(z.1.ps,z.1.cz),z.1.co.ps,z.1.co.ss)) (X:=(c.drop,(w.m2.load sn).1)) (Y:=(c,runL (w.m2.load sn).1 l)) ((bdS (MQ c)).trans rfl) ?_
  refine AJ (fun i=>((((((l.length:Nat):Int),((i:Nat):Int)),w.p.e,w.m1.e),((runL (w.m2.load sn).1 (l.take i)).e,w.c1.h),w.c1.nd.e,w.c1.ps,w.c1.cz),((w.c1.co.ps,w.c1.co.ss),c.h,c.nd.e),(c.ps,c.cz),l,c.co.ps,c.co.ss)) l.length rfl (fun i hi'=>?_) ?_ (by omega)
  ·have hd:(l.getD i (0,0,false,[])).2.2.2.length≤100000000:=by rw [BX hi'];exact Nat.le_trans (hi _ (List.getElem_mem hi')) (by decide)
   unfold Ke
   refine (cndT (dt (by show (i:Int) < (l.length:Int);omega))).trans ((gdT (dt (by show (0:Int)≤i∧(i:Int) < (l.length:Int);omega))).trans ((bdS (Ef (runL (w.m2.load sn).1 (l.take i)) (l.getD i (0,0,false,[])).2.1 (l:=(l.getD i (0,0,false,[])).2.2.2) hd)).trans ?_))
   exact Gl (DF _ hi') (AM (by omega)) (fun (m:Mc) (k:Int)=>((((((l.length:Nat):Int),k),w.p.e,w.m1.e),(m.e,w.c1.h),w.c1.nd.e,w.c1.ps,w.c1.cz),((w.c1.co.ps,w.c1.co.ss),c.h,c.nd.e),(c.ps,c.cz),l,c.co.ps,c.co.ss))
  ·unfold Ke
   refine (cndF (df (by show ¬ (l.length:Int) < (l.length:Int);omega))).trans ?_
   rw [List.take_length]
   exact dnS _
theorem AdZ {w:W} (h:w.ok true true):Up w.p.e w.m1.e w.m2.e w.c1.h w.c1.nd.e w.c1.ps w.c1.cz w.c1.co.ps w.c1.co.ss w.c2.h w.c2.nd.e w.c2.ps w.c2.cz w.c2.co.ps w.c2.co.ss (w.f1.e,w.f2.e) (w.b1,w.b2)=some (Y10 (w.take false true)):=by
 unfold Up
 exact (bdS (AdY h)).trans rfl
theorem Ro {w:W} (h:w.ok true true):Uq w.p.e w.m1.e w.m2.e w.c1.h w.c1.nd.e w.c1.ps w.c1.cz w.c1.co.ps w.c1.co.ss w.c2.h w.c2.nd.e w.c2.ps w.c2.cz w.c2.co.ps w.c2.co.ss (w.f1.e,w.f2.e) (w.b1,w.b2)=some (Y11 (w.take true true)):=by
 unfold Uq
 exact (bdS (AdX h)).trans ((bdS (AdZ (w:=(w.take true false)) (WV h))).trans rfl)
theorem Aea {w:W} (h:w.ok true true):Ur w.p.e w.m1.e w.m2.e w.c1.h w.c1.nd.e w.c1.ps (w.c1.cz,w.c1.co.ps,w.c1.co.ss) w.c2.h w.c2.nd.e w.c2.ps (w.c2.cz,w.c2.co.ps,w.c2.co.ss) w.r.e=some (w.node true false).r.e:=by
 unfold Ur
 exact (bdS (Nh (c:=w.c1) (h.c1 rfl) _)).trans rfl
theorem Aeb {w:W} (h:w.ok true true):Us w.p.e w.m1.e w.m2.e w.c1.h w.c1.nd.e w.c1.ps (w.c1.cz,w.c1.co.ps,w.c1.co.ss) w.c2.h w.c2.nd.e w.c2.ps (w.c2.cz,w.c2.co.ps,w.c2.co.ss) w.r.e=some (w.node false true).r.e:=by
 unfold Us
 exact (bdS (Nh (c:=w.c2) (h.c2 rfl) _)).trans rfl
theorem Rp {w:W} (h:w.ok true true):Ut w.p.e w.m1.e w.m2.e w.c1.h w.c1.nd.e w.c1.ps w.c1.cz w.c1.co.ps w.c1.co.ss w.c2.h w.c2.nd.e w.c2.ps w.c2.cz w.c2.co.ps w.c2.co.ss w.r.e=some (((((w.node true true).p.e,(w.node true true).m1.e),(w.node true true).m2.e,(w.node true true).c1.h),((w.node true true).c1.nd.e,(w.node true true).c1.ps),(w.node true true).c1.cz,(w.node true true).c1.co.ps),(((w.node true true).c1.co.ss,(w.node true true).c2.h),(w.node true true).c2.nd.e,(w.node true true).c2.ps),((w.node true true).c2.cz,(w.node true true).c2.co.ps),(w.node true true).c2.co.ss,(w.node true true).r.e):=by
 unfold Ut
 exact (bdS (Aea h)).trans ((bdS (Aeb (w:=(w.node true false)) (WU h))).trans rfl)
end Go.Proofs.YtpleflcfaecojaaGreat
