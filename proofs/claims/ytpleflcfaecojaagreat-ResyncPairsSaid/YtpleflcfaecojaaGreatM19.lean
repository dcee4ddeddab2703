/-
A cycle of a pair. Conditions: each lemma's own.
-/
import Derived.Test.YtpleflcfaecojaaGreatM18
namespace Go.Proofs.YtpleflcfaecojaaGreat
set_option linter.unusedVariables false
set_option linter.unusedSimpArgs false
set_option maxRecDepth 100000
open Go.RowKit
theorem Cg (a b:Int):select a b=0∨select a b=1∨select a b=2:=by
 unfold select
 exact Ai (P:=fun z:Int=>z=0∨z=1∨z=2) (.inr (.inl rfl)) (Ai (P:=fun z:Int=>z=0∨z=1∨z=2) (.inr (.inr rfl)) (.inl rfl))
theorem FO {α:Type} (s:Int) (hs:s=0∨s=1∨s=2) (u t1 t2:Tg) (r1 r2 r3 r4:Int) (G:(Int×Int×Int)×(Int×Int)×Int×Int→α) :
  cnd (s != 0) (bd (sm (isZ (IntKind.i64.wrap (s - 1)) 0) (fun _=>bd (o19 u.e t1.e ((r1,r2),r3,r4)) (fun z=>some (G z))) (fun _=>sm (isZ (IntKind.i64.wrap (s - 1)) 1) (fun _=>bd (o19 u.e t2.e ((r1,r2),r3,r4)) (fun z=>some (G z))) (fun _=>none))) (fun v=>some v)) (some (G u.e))=some (G (cond (s != 0) (limit u (cond (s==1) t1 t2) r1 r2 r3 r4) u).e):=by
 rcases hs with rfl | rfl | rfl
 ·rfl
 ·refine (cndT rfl).trans ((bdS (t:=G (limit u t1 r1 r2 r3 r4).e) ?_).trans rfl)
  exact bdS (AaD u t1 r1 r2 r3 r4)
 ·refine (cndT rfl).trans ((bdS (t:=G (limit u t2 r1 r2 r3 r4).e) ?_).trans rfl)
  exact bdS (AaD u t2 r1 r2 r3 r4)
def wN (w:W) (v:Ev) (one two:List UInt8):W:=((((((((w.ex0 false false v one two).hear false false).ex1 false false v).step false false v).ex2 false false v).judge false false).ex3 false false v).take false false).node false false
def evA (a s r:Bool):Bool:=(a&&!s) || r
def evK (a s k:Bool) (c:Cp) (n:Int):Cp:=cond k (cond (a&&!s) c (newCp n)).drop (cond (a&&!s) c (newCp n))
theorem FP {a s k:Bool} {c:Cp} {n:Int} (hn:n=1∨n=2) (h:a=true→c.ok):(evK a s k c n).ok:=by
 have h1:(cond (a&&!s) c (newCp n)).ok:=BZ (P:=Cp.ok) (fun e=>h (by simp at e;exact e.1)) fun _=>Qb hn
 unfold evK
 exact Ai (P:=Cp.ok) (MR h1) h1
def start (p:Pr) (m1 m2:Mc) (c1 c2:Cp):W:=⟨{ p with cycle:=IntKind.i64.wrap (p.cycle+1) },m1,m2,c1,c2,⟨IntKind.i64.wrap (p.cycle+1),0,0,1,1,0,0,noTg,noTg,0,noTg⟩,noFrm,noFrm,false,false,false,false⟩
theorem HM {p:Pr} {m1 m2:Mc} {c1 c2:Cp} (hi:p.init.length≤1000000) (p1:0≤m1.pad∧m1.pad≤10000) (p2:0≤m2.pad∧m2.pad≤10000) (h1:c1.ok) (h2:c2.ok) (a b:Bool):(start p m1 m2 c1 c2).ok a b :=
 ⟨hi,p1,p2,fun _=>h1,fun _=>h2,Nat.zero_le _,Nat.zero_le _⟩
def cycW (a b:Bool) (p:Pr) (m1 m2:Mc) (c1 c2:Cp) (v:Ev) (one two:List UInt8):W:=(start p m1 m2 (evK a v.s1 v.k1 c1 1) (evK b v.s2 v.k2 c2 2)).all (evA a v.s1 v.r1) (evA b v.s2 v.r2) v one two
def resB (w:W):=((((((((w.r.cycle,w.r.role1,w.r.role2),(w.r.st1,w.r.st2),w.r.steps1,w.r.steps2),(w.r.t1.lat,w.r.t1.ver,w.r.t1.ph),(w.r.t1.bank,w.r.t1.speed),w.r.t1.alt,w.r.t1.vs),((w.r.t2.lat,w.r.t2.ver,w.r.t2.ph),(w.r.t2.bank,w.r.t2.speed),w.r.t2.alt,w.r.t2.vs),((w.r.src,w.p.use.lat),(w.p.use.ver,w.p.use.ph)),((w.p.use.bank,w.p.use.speed),w.p.use.alt,w.p.use.vs)),w.p.e),w.m1.e,w.m2.e),(w.c1.h,w.c2.h),w.c1.nd.e,w.c1.ps),((w.c1.cz,w.c2.nd.e),w.c2.ps,w.c2.cz),(w.c1.co.ps,w.c1.co.ss),w.c2.co.ps,w.c2.co.ss)
theorem Vc {w:W} (h0:w.ok true true) (v:Ev) (one two:List UInt8):FI ((((one,two),w.p.e,w.m1.e,w.m2.e),(v.e,(zTg,((0:Int),(0:Int),(0:Int)),((0:Int),(0:Int)),(0:Int),(0:Int)),zTg,(((0:Int),(0:Int)),(0:Int),(0:Int)),((0:Int),(0:Int)),(0:Int),(0:Int)),w.r.e,w.c1.h,w.c2.h),((w.c1.nd.e,w.c1.ps),w.c1.cz,w.c2.nd.e,w.c2.ps),(w.c2.cz,w.c1.co.ps),w.c1.co.ss,w.c2.co.ps,w.c2.co.ss)=some (Sum.inr (Sum.inr (Sum.inr (resB (w.all true true v one two))))):=by
 unfold FI
 have h1:=Iv h0 (v:=v) (one:=one) (two:=two)
 refine (bdS (Rg h0 v one two)).trans ?_
 have h2:=EJ h1
 refine (bdS (Rk h1)).trans ?_
 have h3:=Iw h2 (v:=v)
 refine (bdS (Rh h2 v)).trans ?_
 have h4:=EK h3 (v:=v)
 refine (bdS (Rm h3 v)).trans ?_
 have h5:=Ix h4 (v:=v)
 refine (bdS (Ri h4 v)).trans ?_
 have h6:=DE h5
 refine (bdS (Rn h5)).trans ?_
 have h7:=Iy h6 (v:=v)
 refine (bdS (Rj h6 v)).trans ?_
 have h8:=EL h7
 refine (bdS (Ro h7)).trans ?_
 have h9:=EM h8
 refine (bdS (Rp h8)).trans ?_
 generalize hq:(((((((((w.ex0 true true v one two).hear true true).ex1 true true v).step true true v).ex2 true true v).judge true true).ex3 true true v).take true true).node true true)=q
 have hall:w.all true true v one two=q.fin:=by rw [← hq];rfl
 rw [hall]
 refine (bdS (FF q.r.st1 q.r.st2)).trans ?_
 exact (bdS (FO (select q.r.st1 q.r.st2) (Cg _ _) q.p.use q.r.t1 q.r.t2 q.p.r1 q.p.r2 q.p.r3 q.p.r4 (fun z:(Int×Int×Int)×(Int×Int)×Int×Int=>(((((((q.p.init,q.p.r1,q.p.r2),q.p.r3,q.p.r4,q.p.cycle),z),q.m1.e),q.m2.e,(zTg,((0:Int),(0:Int),(0:Int)),((0:Int),(0:Int)),(0:Int),(0:Int)),zTg,(((0:Int),(0:Int)),(0:Int),(0:Int)),((0:Int),(0:Int)),(0:Int),(0:Int)),(((((q.r.cycle,q.r.role1,q.r.role2),(q.r.st1,q.r.st2),q.r.steps1,q.r.steps2),(q.r.t1.lat,q.r.t1.ver,q.r.t1.ph),(q.r.t1.bank,q.r.t1.speed),q.r.t1.alt,q.r.t1.vs),((q.r.t2.lat,q.r.t2.ver,q.r.t2.ph),(q.r.t2.bank,q.r.t2.speed),q.r.t2.alt,q.r.t2.vs),((select q.r.st1 q.r.st2,q.r.use.lat),(q.r.use.ver,q.r.use.ph)),((q.r.use.bank,q.r.use.speed),q.r.use.alt,q.r.use.vs)),q.c1.h),q.c2.h,q.c1.nd.e),((q.c1.ps,q.c1.cz),q.c2.nd.e,q.c2.ps),(q.c2.cz,q.c1.co.ps),q.c1.co.ss,q.c2.co.ps,q.c2.co.ss)))).trans rfl
def resO (w:W):=(((((((w.r.cycle,w.r.role1,w.r.role2),(w.r.st1,w.r.st2),w.r.steps1,w.r.steps2),(w.r.t1.lat,w.r.t1.ver,w.r.t1.ph),(w.r.t1.bank,w.r.t1.speed),w.r.t1.alt,w.r.t1.vs),((w.r.t2.lat,w.r.t2.ver,w.r.t2.ph),(w.r.t2.bank,w.r.t2.speed),w.r.t2.alt,w.r.t2.vs),((w.r.src,w.p.use.lat),(w.p.use.ver,w.p.use.ph)),((w.p.use.bank,w.p.use.speed),w.p.use.alt,w.p.use.vs)),w.p.e),w.m1.e,w.m2.e,w.c1.h),(w.c1.nd.e,w.c1.ps),w.c1.cz,w.c1.co.ps,w.c1.co.ss)
theorem Aec {w:W} (h0:w.ok true false) (v:Ev) (one two:List UInt8):Hw (((one,two,w.p.e),(w.m1.e,w.m2.e),v.e,(zTg,((0:Int),(0:Int),(0:Int)),((0:Int),(0:Int)),(0:Int),(0:Int)),zTg,(((0:Int),(0:Int)),(0:Int),(0:Int)),((0:Int),(0:Int)),(0:Int),(0:Int)),(w.r.e,w.c1.h,w.c1.nd.e),(w.c1.ps,w.c1.cz),w.c1.co.ps,w.c1.co.ss)=some (Sum.inr (Sum.inr (Sum.inl (resO (w.all true false v one two))))):=by
 unfold Hw
 have h1:=Iv h0 (v:=v) (one:=one) (two:=two)
 refine (bdS (Adw h0 v one two)).trans ?_
 have h2:=EJ h1
 refine (bdS (Adx h1)).trans ?_
 have h3:=Iw h2 (v:=v)
 refine (bdS (QZ h2 v)).trans ?_
 have h4:=EK h3 (v:=v)
 refine (bdS (Rc h3 v)).trans ?_
 have h5:=Ix h4 (v:=v)
 refine (bdS (Ra h4 v)).trans ?_
 have h6:=DE h5
 refine (bdS (Rd h5)).trans ?_
 have h7:=Iy h6 (v:=v)
 refine (bdS (Rb h6 v)).trans ?_
 have h8:=EL h7
 refine (bdS (Re h7)).trans ?_
 have h9:=EM h8
 refine (bdS (Rf h8)).trans ?_
 generalize hq:(((((((((w.ex0 true false v one two).hear true false).ex1 true false v).step true false v).ex2 true false v).judge true false).ex3 true false v).take true false).node true false)=q
 have hall:w.all true false v one two=q.fin:=by rw [← hq];rfl
 rw [hall]
 refine (bdS (FF q.r.st1 q.r.st2)).trans ?_
 exact (bdS (FO (select q.r.st1 q.r.st2) (Cg _ _) q.p.use q.r.t1 q.r.t2 q.p.r1 q.p.r2 q.p.r3 q.p.r4 (fun z:(Int×Int×Int)×(Int×Int)×Int×Int=>((((((q.p.init,q.p.r1,q.p.r2),q.p.r3,q.p.r4,q.p.cycle),z),q.m1.e),q.m2.e,((zTg,((0:Int),(0:Int),(0:Int)),((0:Int),(0:Int)),(0:Int),(0:Int)),zTg,(((0:Int),(0:Int)),(0:Int),(0:Int)),((0:Int),(0:Int)),(0:Int),(0:Int)),(((q.r.cycle,q.r.role1,q.r.role2),(q.r.st1,q.r.st2),q.r.steps1,q.r.steps2),(q.r.t1.lat,q.r.t1.ver,q.r.t1.ph),(q.r.t1.bank,q.r.t1.speed),q.r.t1.alt,q.r.t1.vs),((q.r.t2.lat,q.r.t2.ver,q.r.t2.ph),(q.r.t2.bank,q.r.t2.speed),q.r.t2.alt,q.r.t2.vs),((select q.r.st1 q.r.st2,q.r.use.lat),(q.r.use.ver,q.r.use.ph)),((q.r.use.bank,q.r.use.speed),q.r.use.alt,q.r.use.vs)),(q.c1.h,q.c1.nd.e,q.c1.ps),q.c1.cz,q.c1.co.ps,q.c1.co.ss)))).trans rfl
def resT (w:W):=(((((((w.r.cycle,w.r.role1,w.r.role2),(w.r.st1,w.r.st2),w.r.steps1,w.r.steps2),(w.r.t1.lat,w.r.t1.ver,w.r.t1.ph),(w.r.t1.bank,w.r.t1.speed),w.r.t1.alt,w.r.t1.vs),((w.r.t2.lat,w.r.t2.ver,w.r.t2.ph),(w.r.t2.bank,w.r.t2.speed),w.r.t2.alt,w.r.t2.vs),((w.r.src,w.p.use.lat),(w.p.use.ver,w.p.use.ph)),((w.p.use.bank,w.p.use.speed),w.p.use.alt,w.p.use.vs)),w.p.e),w.m1.e,w.m2.e,w.c2.h),(w.c2.nd.e,w.c2.ps),w.c2.cz,w.c2.co.ps,w.c2.co.ss)
theorem Aed {w:W} (h0:w.ok false true) (v:Ev) (one two:List UInt8):EH (Sum.inr (((one,two,w.p.e),(w.m1.e,w.m2.e),v.e,(zTg,((0:Int),(0:Int),(0:Int)),((0:Int),(0:Int)),(0:Int),(0:Int)),zTg,(((0:Int),(0:Int)),(0:Int),(0:Int)),((0:Int),(0:Int)),(0:Int),(0:Int)),(w.r.e,w.c2.h,w.c2.nd.e),(w.c2.ps,w.c2.cz),w.c2.co.ps,w.c2.co.ss))=some (Sum.inr (Sum.inl (resT (w.all false true v one two)))):=by
 unfold EH
 have h1:=Iv h0 (v:=v) (one:=one) (two:=two)
 refine (bdS (Md h0 v one two)).trans ?_
 have h2:=EJ h1
 refine (bdS (Mh h1)).trans ?_
 have h3:=Iw h2 (v:=v)
 refine (bdS (Me h2 v)).trans ?_
 have h4:=EK h3 (v:=v)
 refine (bdS (Mi h3 v)).trans ?_
 have h5:=Ix h4 (v:=v)
 refine (bdS (Mf h4 v)).trans ?_
 have h6:=DE h5
 refine (bdS (Mj h5)).trans ?_
 have h7:=Iy h6 (v:=v)
 refine (bdS (Mg h6 v)).trans ?_
 have h8:=EL h7
 refine (bdS (Mk h7)).trans ?_
 have h9:=EM h8
 refine (bdS (Ml h8)).trans ?_
 generalize hq:(((((((((w.ex0 false true v one two).hear false true).ex1 false true v).step false true v).ex2 false true v).judge false true).ex3 false true v).take false true).node false true)=q
 have hall:w.all false true v one two=q.fin:=by rw [← hq];rfl
 rw [hall]
 refine (bdS (FF q.r.st1 q.r.st2)).trans ?_
 exact (bdS (FO (select q.r.st1 q.r.st2) (Cg _ _) q.p.use q.r.t1 q.r.t2 q.p.r1 q.p.r2 q.p.r3 q.p.r4 (fun z:(Int×Int×Int)×(Int×Int)×Int×Int=>((((((q.p.init,q.p.r1,q.p.r2),q.p.r3,q.p.r4,q.p.cycle),z),q.m1.e),q.m2.e,((zTg,((0:Int),(0:Int),(0:Int)),((0:Int),(0:Int)),(0:Int),(0:Int)),zTg,(((0:Int),(0:Int)),(0:Int),(0:Int)),((0:Int),(0:Int)),(0:Int),(0:Int)),(((q.r.cycle,q.r.role1,q.r.role2),(q.r.st1,q.r.st2),q.r.steps1,q.r.steps2),(q.r.t1.lat,q.r.t1.ver,q.r.t1.ph),(q.r.t1.bank,q.r.t1.speed),q.r.t1.alt,q.r.t1.vs),((q.r.t2.lat,q.r.t2.ver,q.r.t2.ph),(q.r.t2.bank,q.r.t2.speed),q.r.t2.alt,q.r.t2.vs),((select q.r.st1 q.r.st2,q.r.use.lat),(q.r.use.ver,q.r.use.ph)),((q.r.use.bank,q.r.use.speed),q.r.use.alt,q.r.use.vs)),(q.c2.h,q.c2.nd.e,q.c2.ps),q.c2.cz,q.c2.co.ps,q.c2.co.ss)))).trans rfl
def resN (w:W):=((((((w.r.cycle,w.r.role1,w.r.role2),(w.r.st1,w.r.st2),w.r.steps1,w.r.steps2),(w.r.t1.lat,w.r.t1.ver,w.r.t1.ph),(w.r.t1.bank,w.r.t1.speed),w.r.t1.alt,w.r.t1.vs),((w.r.t2.lat,w.r.t2.ver,w.r.t2.ph),(w.r.t2.bank,w.r.t2.speed),w.r.t2.alt,w.r.t2.vs),((w.r.src,w.p.use.lat),(w.p.use.ver,w.p.use.ph)),((w.p.use.bank,w.p.use.speed),w.p.use.alt,w.p.use.vs)),w.p.e),w.m1.e,w.m2.e)
theorem Vd {w:W} (h0:w.ok false false) (v:Ev) (one two:List UInt8):EH (Sum.inl (((one,two),w.p.e,w.m1.e),(w.m2.e,v.e),((zTg,((0:Int),(0:Int),(0:Int)),((0:Int),(0:Int)),(0:Int),(0:Int)),zTg,(((0:Int),(0:Int)),(0:Int),(0:Int)),((0:Int),(0:Int)),(0:Int),(0:Int)),w.r.e))=some (Sum.inl (resN (w.all false false v one two))):=by
 unfold EH
 refine (bdS rfl).trans ?_
 refine (bdS rfl).trans ?_
 refine (bdS rfl).trans ?_
 refine (bdS rfl).trans ?_
 refine (bdS rfl).trans ?_
 refine (bdS rfl).trans ?_
 refine (bdS rfl).trans ?_
 refine (bdS rfl).trans ?_
 refine (bdS rfl).trans ?_
 refine (bdS (FF (wN w v one two).r.st1 (wN w v one two).r.st2)).trans ?_
 exact (bdS (FO (select (wN w v one two).r.st1 (wN w v one two).r.st2) (Cg _ _) (wN w v one two).p.use (wN w v one two).r.t1 (wN w v one two).r.t2 (wN w v one two).p.r1 (wN w v one two).p.r2 (wN w v one two).p.r3 (wN w v one two).p.r4 (fun z:(Int×Int×Int)×(Int×Int)×Int×Int=>((((((wN w v one two).p.init,(wN w v one two).p.r1,(wN w v one two).p.r2),(wN w v one two).p.r3,(wN w v one two).p.r4,(wN w v one two).p.cycle),z),(wN w v one two).m1.e),(wN w v one two).m2.e,((zTg,((0:Int),(0:Int),(0:Int)),((0:Int),(0:Int)),(0:Int),(0:Int)),zTg,(((0:Int),(0:Int)),(0:Int),(0:Int)),((0:Int),(0:Int)),(0:Int),(0:Int)),((((wN w v one two).r.cycle,(wN w v one two).r.role1,(wN w v one two).r.role2),((wN w v one two).r.st1,(wN w v one two).r.st2),(wN w v one two).r.steps1,(wN w v one two).r.steps2),((wN w v one two).r.t1.lat,(wN w v one two).r.t1.ver,(wN w v one two).r.t1.ph),((wN w v one two).r.t1.bank,(wN w v one two).r.t1.speed),(wN w v one two).r.t1.alt,(wN w v one two).r.t1.vs),(((wN w v one two).r.t2.lat,(wN w v one two).r.t2.ver,(wN w v one two).r.t2.ph),((wN w v one two).r.t2.bank,(wN w v one two).r.t2.speed),(wN w v one two).r.t2.alt,(wN w v one two).r.t2.vs),((select (wN w v one two).r.st1 (wN w v one two).r.st2,(wN w v one two).r.use.lat),((wN w v one two).r.use.ver,(wN w v one two).r.use.ph)),(((wN w v one two).r.use.bank,(wN w v one two).r.use.speed),(wN w v one two).r.use.alt,(wN w v one two).r.use.vs))))).trans rfl
theorem Rq {w:W} (h0:w.ok true true) (v:Ev) (one two:List UInt8):EN (Sum.inr ((((one,two),w.p.e,w.m1.e,w.m2.e),(v.e,(zTg,((0:Int),(0:Int),(0:Int)),((0:Int),(0:Int)),(0:Int),(0:Int)),zTg,(((0:Int),(0:Int)),(0:Int),(0:Int)),((0:Int),(0:Int)),(0:Int),(0:Int)),w.r.e,w.c1.h,w.c2.h),((w.c1.nd.e,w.c1.ps),w.c1.cz,w.c2.nd.e,w.c2.ps),(w.c2.cz,w.c1.co.ps),w.c1.co.ss,w.c2.co.ps,w.c2.co.ss))=some (Sum.inr (Sum.inr (Sum.inr (resB (w.all true true v one two))))):=by
 unfold EN
 have h1:=Iv h0 (v:=v) (one:=one) (two:=two)
 refine (bdS (Rg h0 v one two)).trans ?_
 have h2:=EJ h1
 refine (bdS (Rk h1)).trans ?_
 have h3:=Iw h2 (v:=v)
 refine (bdS (Rh h2 v)).trans ?_
 have h4:=EK h3 (v:=v)
 refine (bdS (Rm h3 v)).trans ?_
 have h5:=Ix h4 (v:=v)
 refine (bdS (Ri h4 v)).trans ?_
 have h6:=DE h5
 refine (bdS (Rn h5)).trans ?_
 have h7:=Iy h6 (v:=v)
 refine (bdS (Rj h6 v)).trans ?_
 have h8:=EL h7
 refine (bdS (Ro h7)).trans ?_
 have h9:=EM h8
 refine (bdS (Rp h8)).trans ?_
 generalize hq:(((((((((w.ex0 true true v one two).hear true true).ex1 true true v).step true true v).ex2 true true v).judge true true).ex3 true true v).take true true).node true true)=q
 have hall:w.all true true v one two=q.fin:=by rw [← hq];rfl
 rw [hall]
 refine (bdS (FF q.r.st1 q.r.st2)).trans ?_
 exact (bdS (FO (select q.r.st1 q.r.st2) (Cg _ _) q.p.use q.r.t1 q.r.t2 q.p.r1 q.p.r2 q.p.r3 q.p.r4 (fun z:(Int×Int×Int)×(Int×Int)×Int×Int=>(((((((q.p.init,q.p.r1,q.p.r2),q.p.r3,q.p.r4,q.p.cycle),z),q.m1.e),q.m2.e,(zTg,((0:Int),(0:Int),(0:Int)),((0:Int),(0:Int)),(0:Int),(0:Int)),zTg,(((0:Int),(0:Int)),(0:Int),(0:Int)),((0:Int),(0:Int)),(0:Int),(0:Int)),(((((q.r.cycle,q.r.role1,q.r.role2),(q.r.st1,q.r.st2),q.r.steps1,q.r.steps2),(q.r.t1.lat,q.r.t1.ver,q.r.t1.ph),(q.r.t1.bank,q.r.t1.speed),q.r.t1.alt,q.r.t1.vs),((q.r.t2.lat,q.r.t2.ver,q.r.t2.ph),(q.r.t2.bank,q.r.t2.speed),q.r.t2.alt,q.r.t2.vs),((select q.r.st1 q.r.st2,q.r.use.lat),(q.r.use.ver,q.r.use.ph)),((q.r.use.bank,q.r.use.speed),q.r.use.alt,q.r.use.vs)),q.c1.h),q.c2.h,q.c1.nd.e),((q.c1.ps,q.c1.cz),q.c2.nd.e,q.c2.ps),(q.c2.cz,q.c1.co.ps),q.c1.co.ss,q.c2.co.ps,q.c2.co.ss)))).trans rfl
theorem Ve {w:W} (h0:w.ok true false) (v:Ev) (one two:List UInt8):EN (Sum.inl (((one,two,w.p.e),(w.m1.e,w.m2.e),v.e,(zTg,((0:Int),(0:Int),(0:Int)),((0:Int),(0:Int)),(0:Int),(0:Int)),zTg,(((0:Int),(0:Int)),(0:Int),(0:Int)),((0:Int),(0:Int)),(0:Int),(0:Int)),(w.r.e,w.c1.h,w.c1.nd.e),(w.c1.ps,w.c1.cz),w.c1.co.ps,w.c1.co.ss))=some (Sum.inr (Sum.inl (resO (w.all true false v one two)))):=by
 unfold EN
 have h1:=Iv h0 (v:=v) (one:=one) (two:=two)
 refine (bdS (Adw h0 v one two)).trans ?_
 have h2:=EJ h1
 refine (bdS (Adx h1)).trans ?_
 have h3:=Iw h2 (v:=v)
 refine (bdS (QZ h2 v)).trans ?_
 have h4:=EK h3 (v:=v)
 refine (bdS (Rc h3 v)).trans ?_
 have h5:=Ix h4 (v:=v)
 refine (bdS (Ra h4 v)).trans ?_
 have h6:=DE h5
 refine (bdS (Rd h5)).trans ?_
 have h7:=Iy h6 (v:=v)
 refine (bdS (Rb h6 v)).trans ?_
 have h8:=EL h7
 refine (bdS (Re h7)).trans ?_
 have h9:=EM h8
 refine (bdS (Rf h8)).trans ?_
 generalize hq:(((((((((w.ex0 true false v one two).hear true false).ex1 true false v).step true false v).ex2 true false v).judge true false).ex3 true false v).take true false).node true false)=q
 have hall:w.all true false v one two=q.fin:=by rw [← hq];rfl
 rw [hall]
 refine (bdS (FF q.r.st1 q.r.st2)).trans ?_
 exact (bdS (FO (select q.r.st1 q.r.st2) (Cg _ _) q.p.use q.r.t1 q.r.t2 q.p.r1 q.p.r2 q.p.r3 q.p.r4 (fun z:(Int×Int×Int)×(Int×Int)×Int×Int=>((((((q.p.init,q.p.r1,q.p.r2),q.p.r3,q.p.r4,q.p.cycle),z),q.m1.e),q.m2.e,((zTg,((0:Int),(0:Int),(0:Int)),((0:Int),(0:Int)),(0:Int),(0:Int)),zTg,(((0:Int),(0:Int)),(0:Int),(0:Int)),((0:Int),(0:Int)),(0:Int),(0:Int)),(((q.r.cycle,q.r.role1,q.r.role2),(q.r.st1,q.r.st2),q.r.steps1,q.r.steps2),(q.r.t1.lat,q.r.t1.ver,q.r.t1.ph),(q.r.t1.bank,q.r.t1.speed),q.r.t1.alt,q.r.t1.vs),((q.r.t2.lat,q.r.t2.ver,q.r.t2.ph),(q.r.t2.bank,q.r.t2.speed),q.r.t2.alt,q.r.t2.vs),((select q.r.st1 q.r.st2,q.r.use.lat),(q.r.use.ver,q.r.use.ph)),((q.r.use.bank,q.r.use.speed),q.r.use.alt,q.r.use.vs)),(q.c1.h,q.c1.nd.e,q.c1.ps),q.c1.cz,q.c1.co.ps,q.c1.co.ss)))).trans rfl
theorem Vf {w:W} (h0:w.ok false true) (v:Ev) (one two:List UInt8):EO (Sum.inr (((one,two,w.p.e),(w.m1.e,w.m2.e),v.e,(zTg,((0:Int),(0:Int),(0:Int)),((0:Int),(0:Int)),(0:Int),(0:Int)),zTg,(((0:Int),(0:Int)),(0:Int),(0:Int)),((0:Int),(0:Int)),(0:Int),(0:Int)),(w.r.e,w.c2.h,w.c2.nd.e),(w.c2.ps,w.c2.cz),w.c2.co.ps,w.c2.co.ss))=some (Sum.inr (Sum.inr (Sum.inl (resT (w.all false true v one two))))):=by
 unfold EO
 have h1:=Iv h0 (v:=v) (one:=one) (two:=two)
 refine (bdS (Md h0 v one two)).trans ?_
 have h2:=EJ h1
 refine (bdS (Mh h1)).trans ?_
 have h3:=Iw h2 (v:=v)
 refine (bdS (Me h2 v)).trans ?_
 have h4:=EK h3 (v:=v)
 refine (bdS (Mi h3 v)).trans ?_
 have h5:=Ix h4 (v:=v)
 refine (bdS (Mf h4 v)).trans ?_
 have h6:=DE h5
 refine (bdS (Mj h5)).trans ?_
 have h7:=Iy h6 (v:=v)
 refine (bdS (Mg h6 v)).trans ?_
 have h8:=EL h7
 refine (bdS (Mk h7)).trans ?_
 have h9:=EM h8
 refine (bdS (Ml h8)).trans ?_
 generalize hq:(((((((((w.ex0 false true v one two).hear false true).ex1 false true v).step false true v).ex2 false true v).judge false true).ex3 false true v).take false true).node false true)=q
 have hall:w.all false true v one two=q.fin:=by rw [← hq];rfl
 rw [hall]
 refine (bdS (FF q.r.st1 q.r.st2)).trans ?_
 exact (bdS (FO (select q.r.st1 q.r.st2) (Cg _ _) q.p.use q.r.t1 q.r.t2 q.p.r1 q.p.r2 q.p.r3 q.p.r4 (fun z:(Int×Int×Int)×(Int×Int)×Int×Int=>((((((q.p.init,q.p.r1,q.p.r2),q.p.r3,q.p.r4,q.p.cycle),z),q.m1.e),q.m2.e,((zTg,((0:Int),(0:Int),(0:Int)),((0:Int),(0:Int)),(0:Int),(0:Int)),zTg,(((0:Int),(0:Int)),(0:Int),(0:Int)),((0:Int),(0:Int)),(0:Int),(0:Int)),(((q.r.cycle,q.r.role1,q.r.role2),(q.r.st1,q.r.st2),q.r.steps1,q.r.steps2),(q.r.t1.lat,q.r.t1.ver,q.r.t1.ph),(q.r.t1.bank,q.r.t1.speed),q.r.t1.alt,q.r.t1.vs),((q.r.t2.lat,q.r.t2.ver,q.r.t2.ph),(q.r.t2.bank,q.r.t2.speed),q.r.t2.alt,q.r.t2.vs),((select q.r.st1 q.r.st2,q.r.use.lat),(q.r.use.ver,q.r.use.ph)),((q.r.use.bank,q.r.use.speed),q.r.use.alt,q.r.use.vs)),(q.c2.h,q.c2.nd.e,q.c2.ps),q.c2.cz,q.c2.co.ps,q.c2.co.ss)))).trans rfl
theorem Rr {w:W} (h0:w.ok false false) (v:Ev) (one two:List UInt8):EO (Sum.inl (((one,two),w.p.e,w.m1.e),(w.m2.e,v.e),((zTg,((0:Int),(0:Int),(0:Int)),((0:Int),(0:Int)),(0:Int),(0:Int)),zTg,(((0:Int),(0:Int)),(0:Int),(0:Int)),((0:Int),(0:Int)),(0:Int),(0:Int)),w.r.e))=some (Sum.inl (resN (w.all false false v one two))):=by
 unfold EO
 refine (bdS rfl).trans ?_
 refine (bdS rfl).trans ?_
 refine (bdS rfl).trans ?_
 refine (bdS rfl).trans ?_
 refine (bdS rfl).trans ?_
 refine (bdS rfl).trans ?_
 refine (bdS rfl).trans ?_
 refine (bdS rfl).trans ?_
 refine (bdS rfl).trans ?_
 refine (bdS (FF (wN w v one two).r.st1 (wN w v one two).r.st2)).trans ?_
 exact (bdS (FO (select (wN w v one two).r.st1 (wN w v one two).r.st2) (Cg _ _) (wN w v one two).p.use (wN w v one two).r.t1 (wN w v one two).r.t2 (wN w v one two).p.r1 (wN w v one two).p.r2 (wN w v one two).p.r3 (wN w v one two).p.r4 (fun z:(Int×Int×Int)×(Int×Int)×Int×Int=>((((((wN w v one two).p.init,(wN w v one two).p.r1,(wN w v one two).p.r2),(wN w v one two).p.r3,(wN w v one two).p.r4,(wN w v one two).p.cycle),z),(wN w v one two).m1.e),(wN w v one two).m2.e,((zTg,((0:Int),(0:Int),(0:Int)),((0:Int),(0:Int)),(0:Int),(0:Int)),zTg,(((0:Int),(0:Int)),(0:Int),(0:Int)),((0:Int),(0:Int)),(0:Int),(0:Int)),((((wN w v one two).r.cycle,(wN w v one two).r.role1,(wN w v one two).r.role2),((wN w v one two).r.st1,(wN w v one two).r.st2),(wN w v one two).r.steps1,(wN w v one two).r.steps2),((wN w v one two).r.t1.lat,(wN w v one two).r.t1.ver,(wN w v one two).r.t1.ph),((wN w v one two).r.t1.bank,(wN w v one two).r.t1.speed),(wN w v one two).r.t1.alt,(wN w v one two).r.t1.vs),(((wN w v one two).r.t2.lat,(wN w v one two).r.t2.ver,(wN w v one two).r.t2.ph),((wN w v one two).r.t2.bank,(wN w v one two).r.t2.speed),(wN w v one two).r.t2.alt,(wN w v one two).r.t2.vs),((select (wN w v one two).r.st1 (wN w v one two).r.st2,(wN w v one two).r.use.lat),((wN w v one two).r.use.ver,(wN w v one two).r.use.ph)),(((wN w v one two).r.use.bank,(wN w v one two).r.use.speed),(wN w v one two).r.use.alt,(wN w v one two).r.use.vs))))).trans rfl
def ro9 (a b:Bool) (w:W):(((Aj×Ag)×(Int×Int×Int)×Int×Int×Int) ⊕ AO ⊕ AO ⊕ BB):=cond a (cond b (Sum.inr (Sum.inr (Sum.inr (resB w)))) (Sum.inr (Sum.inr (Sum.inl (resO w))))) (cond b (Sum.inr (Sum.inl (resT w))) (Sum.inl (resN w)))
def Apz (a b:Bool) (w:W):(((Aj×Ag)×(Int×Int×Int)×Int×Int×Int) ⊕ AO ⊕ AO ⊕ BB):=cond a (cond b (Sum.inr (Sum.inr (Sum.inr (resB w)))) (Sum.inr (Sum.inr (Sum.inl (resO w))))) (cond b (Sum.inr (Sum.inl (resT w))) (Sum.inl (resN w)))
def ApA (a b:Bool) (w:W):(((Aj×Ag)×(Int×Int×Int)×Int×Int×Int) ⊕ AO ⊕ AO ⊕ BB):=cond a (cond b (Sum.inr (Sum.inr (Sum.inr (resB w)))) (Sum.inr (Sum.inl (resO w)))) (cond b (Sum.inr (Sum.inr (Sum.inl (resT w)))) (Sum.inl (resN w)))
def ApB (a b:Bool) (w:W):(((Aj×Ag)×(Int×Int×Int)×Int×Int×Int) ⊕ AO ⊕ AO ⊕ BB):=cond a (cond b (Sum.inr (Sum.inr (Sum.inr (resB w)))) (Sum.inr (Sum.inl (resO w)))) (cond b (Sum.inr (Sum.inr (Sum.inl (resT w)))) (Sum.inl (resN w)))
theorem ApC {p:Pr} {m1 m2:Mc} {c1 c2:Cp} (hi:p.init.length≤1000000) (p1:0≤m1.pad∧m1.pad≤10000) (p2:0≤m2.pad∧m2.pad≤10000) (h1:c1.ok) (h2:c2.ok) (v:Ev) (one two:List UInt8) :
  o9 one two v.e p.e m1.e m2.e c1.h c1.nd.e c1.ps c1.cz c1.co.ps c1.co.ss c2.h c2.nd.e c2.ps c2.cz c2.co.ps c2.co.ss=some (ro9 (evA true v.s1 v.r1) (evA true v.s2 v.r2) (cycW true true p m1 m2 c1 c2 v one two)):=by
 unfold o9 cycW
 have hst:=HM hi p1 p2 (FP (a:=true) (s:=v.s1) (k:=v.k1) (c:=c1) (n:=1) (.inl rfl) (fun _=>h1)) (FP (a:=true) (s:=v.s2) (k:=v.k2) (c:=c2) (n:=2) (.inr rfl) (fun _=>h2))
 refine (bdS (t:=cond (evA true v.s1 v.r1) (Sum.inl ((((one,two),(start p m1 m2 (evK true v.s1 v.k1 c1 1) c2).p.e,(start p m1 m2 (evK true v.s1 v.k1 c1 1) c2).m1.e,(start p m1 m2 (evK true v.s1 v.k1 c1 1) c2).m2.e),((start p m1 m2 (evK true v.s1 v.k1 c1 1) c2).c2.h,(start p m1 m2 (evK true v.s1 v.k1 c1 1) c2).c2.nd.e),(start p m1 m2 (evK true v.s1 v.k1 c1 1) c2).c2.ps,(start p m1 m2 (evK true v.s1 v.k1 c1 1) c2).c2.cz,(start p m1 m2 (evK true v.s1 v.k1 c1 1) c2).c2.co.ps),(((start p m1 m2 (evK true v.s1 v.k1 c1 1) c2).c2.co.ss,v.e),((zTg,((0:Int),(0:Int),(0:Int)),((0:Int),(0:Int)),(0:Int),(0:Int)),zTg,(((0:Int),(0:Int)),(0:Int),(0:Int)),((0:Int),(0:Int)),(0:Int),(0:Int)),(start p m1 m2 (evK true v.s1 v.k1 c1 1) c2).r.e,(start p m1 m2 (evK true v.s1 v.k1 c1 1) c2).c1.h),((start p m1 m2 (evK true v.s1 v.k1 c1 1) c2).c1.nd.e,(start p m1 m2 (evK true v.s1 v.k1 c1 1) c2).c1.ps),(start p m1 m2 (evK true v.s1 v.k1 c1 1) c2).c1.cz,(start p m1 m2 (evK true v.s1 v.k1 c1 1) c2).c1.co.ps,(start p m1 m2 (evK true v.s1 v.k1 c1 1) c2).c1.co.ss)) (Sum.inr (((one,two,(start p m1 m2 (evK true v.s1 v.k1 c1 1) c2).p.e),((start p m1 m2 (evK true v.s1 v.k1 c1 1) c2).m1.e,(start p m1 m2 (evK true v.s1 v.k1 c1 1) c2).m2.e),(start p m1 m2 (evK true v.s1 v.k1 c1 1) c2).c2.h,(start p m1 m2 (evK true v.s1 v.k1 c1 1) c2).c2.nd.e),((start p m1 m2 (evK true v.s1 v.k1 c1 1) c2).c2.ps,(start p m1 m2 (evK true v.s1 v.k1 c1 1) c2).c2.cz,(start p m1 m2 (evK true v.s1 v.k1 c1 1) c2).c2.co.ps),((start p m1 m2 (evK true v.s1 v.k1 c1 1) c2).c2.co.ss,v.e),((zTg,((0:Int),(0:Int),(0:Int)),((0:Int),(0:Int)),(0:Int),(0:Int)),zTg,(((0:Int),(0:Int)),(0:Int),(0:Int)),((0:Int),(0:Int)),(0:Int),(0:Int)),(start p m1 m2 (evK true v.s1 v.k1 c1 1) c2).r.e))) ?_).trans ?_
 ·obtain ⟨s1,s2,r1,r2,k1,k2,w1,w2,f10,f11,f12,f13,f20,f21,f22,f23⟩:=v;cases s1 <;> cases r1 <;> cases k1 <;> rfl
 cases evA true v.s1 v.r1 with
 | true =>
  refine (bdS (t:=cond (evA true v.s2 v.r2) (Sum.inr ((((one,two),(start p m1 m2 (evK true v.s1 v.k1 c1 1) (evK true v.s2 v.k2 c2 2)).p.e,(start p m1 m2 (evK true v.s1 v.k1 c1 1) (evK true v.s2 v.k2 c2 2)).m1.e,(start p m1 m2 (evK true v.s1 v.k1 c1 1) (evK true v.s2 v.k2 c2 2)).m2.e),(v.e,(zTg,((0:Int),(0:Int),(0:Int)),((0:Int),(0:Int)),(0:Int),(0:Int)),zTg,(((0:Int),(0:Int)),(0:Int),(0:Int)),((0:Int),(0:Int)),(0:Int),(0:Int)),(start p m1 m2 (evK true v.s1 v.k1 c1 1) (evK true v.s2 v.k2 c2 2)).r.e,(start p m1 m2 (evK true v.s1 v.k1 c1 1) (evK true v.s2 v.k2 c2 2)).c1.h,(start p m1 m2 (evK true v.s1 v.k1 c1 1) (evK true v.s2 v.k2 c2 2)).c2.h),(((start p m1 m2 (evK true v.s1 v.k1 c1 1) (evK true v.s2 v.k2 c2 2)).c1.nd.e,(start p m1 m2 (evK true v.s1 v.k1 c1 1) (evK true v.s2 v.k2 c2 2)).c1.ps),(start p m1 m2 (evK true v.s1 v.k1 c1 1) (evK true v.s2 v.k2 c2 2)).c1.cz,(start p m1 m2 (evK true v.s1 v.k1 c1 1) (evK true v.s2 v.k2 c2 2)).c2.nd.e,(start p m1 m2 (evK true v.s1 v.k1 c1 1) (evK true v.s2 v.k2 c2 2)).c2.ps),((start p m1 m2 (evK true v.s1 v.k1 c1 1) (evK true v.s2 v.k2 c2 2)).c2.cz,(start p m1 m2 (evK true v.s1 v.k1 c1 1) (evK true v.s2 v.k2 c2 2)).c1.co.ps),(start p m1 m2 (evK true v.s1 v.k1 c1 1) (evK true v.s2 v.k2 c2 2)).c1.co.ss,(start p m1 m2 (evK true v.s1 v.k1 c1 1) (evK true v.s2 v.k2 c2 2)).c2.co.ps,(start p m1 m2 (evK true v.s1 v.k1 c1 1) (evK true v.s2 v.k2 c2 2)).c2.co.ss)) (Sum.inl (((one,two,(start p m1 m2 (evK true v.s1 v.k1 c1 1) (evK true v.s2 v.k2 c2 2)).p.e),((start p m1 m2 (evK true v.s1 v.k1 c1 1) (evK true v.s2 v.k2 c2 2)).m1.e,(start p m1 m2 (evK true v.s1 v.k1 c1 1) (evK true v.s2 v.k2 c2 2)).m2.e),v.e,(zTg,((0:Int),(0:Int),(0:Int)),((0:Int),(0:Int)),(0:Int),(0:Int)),zTg,(((0:Int),(0:Int)),(0:Int),(0:Int)),((0:Int),(0:Int)),(0:Int),(0:Int)),((start p m1 m2 (evK true v.s1 v.k1 c1 1) (evK true v.s2 v.k2 c2 2)).r.e,(start p m1 m2 (evK true v.s1 v.k1 c1 1) (evK true v.s2 v.k2 c2 2)).c1.h,(start p m1 m2 (evK true v.s1 v.k1 c1 1) (evK true v.s2 v.k2 c2 2)).c1.nd.e),((start p m1 m2 (evK true v.s1 v.k1 c1 1) (evK true v.s2 v.k2 c2 2)).c1.ps,(start p m1 m2 (evK true v.s1 v.k1 c1 1) (evK true v.s2 v.k2 c2 2)).c1.cz),(start p m1 m2 (evK true v.s1 v.k1 c1 1) (evK true v.s2 v.k2 c2 2)).c1.co.ps,(start p m1 m2 (evK true v.s1 v.k1 c1 1) (evK true v.s2 v.k2 c2 2)).c1.co.ss))) ?_).trans ?_
  ·obtain ⟨s1,s2,r1,r2,k1,k2,w1,w2,f10,f11,f12,f13,f20,f21,f22,f23⟩:=v;cases s2 <;> cases r2 <;> cases k2 <;> rfl
  cases evA true v.s2 v.r2 with
  | true=>exact Vc (w:=(start p m1 m2 (evK true v.s1 v.k1 c1 1) (evK true v.s2 v.k2 c2 2))) (hst true true) v one two
  | false=>exact Aec (w:=(start p m1 m2 (evK true v.s1 v.k1 c1 1) (evK true v.s2 v.k2 c2 2))) (hst true false) v one two
 | false =>
  refine (bdS (t:=cond (evA true v.s2 v.r2) (Sum.inr (((one,two,(start p m1 m2 (evK true v.s1 v.k1 c1 1) (evK true v.s2 v.k2 c2 2)).p.e),((start p m1 m2 (evK true v.s1 v.k1 c1 1) (evK true v.s2 v.k2 c2 2)).m1.e,(start p m1 m2 (evK true v.s1 v.k1 c1 1) (evK true v.s2 v.k2 c2 2)).m2.e),v.e,(zTg,((0:Int),(0:Int),(0:Int)),((0:Int),(0:Int)),(0:Int),(0:Int)),zTg,(((0:Int),(0:Int)),(0:Int),(0:Int)),((0:Int),(0:Int)),(0:Int),(0:Int)),((start p m1 m2 (evK true v.s1 v.k1 c1 1) (evK true v.s2 v.k2 c2 2)).r.e,(start p m1 m2 (evK true v.s1 v.k1 c1 1) (evK true v.s2 v.k2 c2 2)).c2.h,(start p m1 m2 (evK true v.s1 v.k1 c1 1) (evK true v.s2 v.k2 c2 2)).c2.nd.e),((start p m1 m2 (evK true v.s1 v.k1 c1 1) (evK true v.s2 v.k2 c2 2)).c2.ps,(start p m1 m2 (evK true v.s1 v.k1 c1 1) (evK true v.s2 v.k2 c2 2)).c2.cz),(start p m1 m2 (evK true v.s1 v.k1 c1 1) (evK true v.s2 v.k2 c2 2)).c2.co.ps,(start p m1 m2 (evK true v.s1 v.k1 c1 1) (evK true v.s2 v.k2 c2 2)).c2.co.ss)) (Sum.inl (((one,two),(start p m1 m2 (evK true v.s1 v.k1 c1 1) (evK true v.s2 v.k2 c2 2)).p.e,(start p m1 m2 (evK true v.s1 v.k1 c1 1) (evK true v.s2 v.k2 c2 2)).m1.e),((start p m1 m2 (evK true v.s1 v.k1 c1 1) (evK true v.s2 v.k2 c2 2)).m2.e,v.e),((zTg,((0:Int),(0:Int),(0:Int)),((0:Int),(0:Int)),(0:Int),(0:Int)),zTg,(((0:Int),(0:Int)),(0:Int),(0:Int)),((0:Int),(0:Int)),(0:Int),(0:Int)),(start p m1 m2 (evK true v.s1 v.k1 c1 1) (evK true v.s2 v.k2 c2 2)).r.e))) ?_).trans ?_
  ·obtain ⟨s1,s2,r1,r2,k1,k2,w1,w2,f10,f11,f12,f13,f20,f21,f22,f23⟩:=v;cases s2 <;> cases r2 <;> cases k2 <;> rfl
  cases evA true v.s2 v.r2 with
  | true=>exact Aed (w:=(start p m1 m2 (evK true v.s1 v.k1 c1 1) (evK true v.s2 v.k2 c2 2))) (hst false true) v one two
  | false=>exact Vd (w:=(start p m1 m2 (evK true v.s1 v.k1 c1 1) (evK true v.s2 v.k2 c2 2))) (hst false false) v one two
theorem Aik {p:Pr} {m1 m2:Mc} {c1 c2:Cp} (hi:p.init.length≤1000000) (p1:0≤m1.pad∧m1.pad≤10000) (p2:0≤m2.pad∧m2.pad≤10000) (v:Ev) (one two:List UInt8) :
  AgV one two v.e p.e m1.e m2.e=some (Apz (evA false v.s1 v.r1) (evA false v.s2 v.r2) (cycW false false p m1 m2 c1 c2 v one two)):=by
 unfold AgV cycW
 have hst:=HM hi p1 p2 (FP (a:=false) (s:=v.s1) (k:=v.k1) (c:=c1) (n:=1) (.inl rfl) (fun e=>by cases e)) (FP (a:=false) (s:=v.s2) (k:=v.k2) (c:=c2) (n:=2) (.inr rfl) (fun e=>by cases e))
 refine (bdS (t:=cond (evA false v.s1 v.r1) (Sum.inr (((one,two,(start p m1 m2 (evK false v.s1 v.k1 c1 1) c2).p.e),((start p m1 m2 (evK false v.s1 v.k1 c1 1) c2).m1.e,(start p m1 m2 (evK false v.s1 v.k1 c1 1) c2).m2.e),v.e,(zTg,((0:Int),(0:Int),(0:Int)),((0:Int),(0:Int)),(0:Int),(0:Int)),zTg,(((0:Int),(0:Int)),(0:Int),(0:Int)),((0:Int),(0:Int)),(0:Int),(0:Int)),((start p m1 m2 (evK false v.s1 v.k1 c1 1) c2).r.e,(start p m1 m2 (evK false v.s1 v.k1 c1 1) c2).c1.h,(start p m1 m2 (evK false v.s1 v.k1 c1 1) c2).c1.nd.e),((start p m1 m2 (evK false v.s1 v.k1 c1 1) c2).c1.ps,(start p m1 m2 (evK false v.s1 v.k1 c1 1) c2).c1.cz),(start p m1 m2 (evK false v.s1 v.k1 c1 1) c2).c1.co.ps,(start p m1 m2 (evK false v.s1 v.k1 c1 1) c2).c1.co.ss)) (Sum.inl (((one,two),(start p m1 m2 (evK false v.s1 v.k1 c1 1) c2).p.e,(start p m1 m2 (evK false v.s1 v.k1 c1 1) c2).m1.e),((start p m1 m2 (evK false v.s1 v.k1 c1 1) c2).m2.e,v.e),((zTg,((0:Int),(0:Int),(0:Int)),((0:Int),(0:Int)),(0:Int),(0:Int)),zTg,(((0:Int),(0:Int)),(0:Int),(0:Int)),((0:Int),(0:Int)),(0:Int),(0:Int)),(start p m1 m2 (evK false v.s1 v.k1 c1 1) c2).r.e))) ?_).trans ?_
 ·obtain ⟨s1,s2,r1,r2,k1,k2,w1,w2,f10,f11,f12,f13,f20,f21,f22,f23⟩:=v;cases s1 <;> cases r1 <;> cases k1 <;> rfl
 cases evA false v.s1 v.r1 with
 | true =>
  refine (bdS (t:=cond (evA false v.s2 v.r2) (Sum.inl ((((one,two),(start p m1 m2 (evK false v.s1 v.k1 c1 1) (evK false v.s2 v.k2 c2 2)).p.e,(start p m1 m2 (evK false v.s1 v.k1 c1 1) (evK false v.s2 v.k2 c2 2)).m1.e,(start p m1 m2 (evK false v.s1 v.k1 c1 1) (evK false v.s2 v.k2 c2 2)).m2.e),(v.e,(zTg,((0:Int),(0:Int),(0:Int)),((0:Int),(0:Int)),(0:Int),(0:Int)),zTg,(((0:Int),(0:Int)),(0:Int),(0:Int)),((0:Int),(0:Int)),(0:Int),(0:Int)),(start p m1 m2 (evK false v.s1 v.k1 c1 1) (evK false v.s2 v.k2 c2 2)).r.e,(start p m1 m2 (evK false v.s1 v.k1 c1 1) (evK false v.s2 v.k2 c2 2)).c1.h,(start p m1 m2 (evK false v.s1 v.k1 c1 1) (evK false v.s2 v.k2 c2 2)).c2.h),(((start p m1 m2 (evK false v.s1 v.k1 c1 1) (evK false v.s2 v.k2 c2 2)).c1.nd.e,(start p m1 m2 (evK false v.s1 v.k1 c1 1) (evK false v.s2 v.k2 c2 2)).c1.ps),(start p m1 m2 (evK false v.s1 v.k1 c1 1) (evK false v.s2 v.k2 c2 2)).c1.cz,(start p m1 m2 (evK false v.s1 v.k1 c1 1) (evK false v.s2 v.k2 c2 2)).c2.nd.e,(start p m1 m2 (evK false v.s1 v.k1 c1 1) (evK false v.s2 v.k2 c2 2)).c2.ps),((start p m1 m2 (evK false v.s1 v.k1 c1 1) (evK false v.s2 v.k2 c2 2)).c2.cz,(start p m1 m2 (evK false v.s1 v.k1 c1 1) (evK false v.s2 v.k2 c2 2)).c1.co.ps),(start p m1 m2 (evK false v.s1 v.k1 c1 1) (evK false v.s2 v.k2 c2 2)).c1.co.ss,(start p m1 m2 (evK false v.s1 v.k1 c1 1) (evK false v.s2 v.k2 c2 2)).c2.co.ps,(start p m1 m2 (evK false v.s1 v.k1 c1 1) (evK false v.s2 v.k2 c2 2)).c2.co.ss)) (Sum.inr (((one,two,(start p m1 m2 (evK false v.s1 v.k1 c1 1) (evK false v.s2 v.k2 c2 2)).p.e),((start p m1 m2 (evK false v.s1 v.k1 c1 1) (evK false v.s2 v.k2 c2 2)).m1.e,(start p m1 m2 (evK false v.s1 v.k1 c1 1) (evK false v.s2 v.k2 c2 2)).m2.e),v.e,(zTg,((0:Int),(0:Int),(0:Int)),((0:Int),(0:Int)),(0:Int),(0:Int)),zTg,(((0:Int),(0:Int)),(0:Int),(0:Int)),((0:Int),(0:Int)),(0:Int),(0:Int)),((start p m1 m2 (evK false v.s1 v.k1 c1 1) (evK false v.s2 v.k2 c2 2)).r.e,(start p m1 m2 (evK false v.s1 v.k1 c1 1) (evK false v.s2 v.k2 c2 2)).c1.h,(start p m1 m2 (evK false v.s1 v.k1 c1 1) (evK false v.s2 v.k2 c2 2)).c1.nd.e),((start p m1 m2 (evK false v.s1 v.k1 c1 1) (evK false v.s2 v.k2 c2 2)).c1.ps,(start p m1 m2 (evK false v.s1 v.k1 c1 1) (evK false v.s2 v.k2 c2 2)).c1.cz),(start p m1 m2 (evK false v.s1 v.k1 c1 1) (evK false v.s2 v.k2 c2 2)).c1.co.ps,(start p m1 m2 (evK false v.s1 v.k1 c1 1) (evK false v.s2 v.k2 c2 2)).c1.co.ss))) ?_).trans ?_
  ·obtain ⟨s1,s2,r1,r2,k1,k2,w1,w2,f10,f11,f12,f13,f20,f21,f22,f23⟩:=v;cases s2 <;> cases r2 <;> cases k2 <;> rfl
  cases evA false v.s2 v.r2 with
  | true=>exact Vc (w:=(start p m1 m2 (evK false v.s1 v.k1 c1 1) (evK false v.s2 v.k2 c2 2))) (hst true true) v one two
  | false=>exact Aec (w:=(start p m1 m2 (evK false v.s1 v.k1 c1 1) (evK false v.s2 v.k2 c2 2))) (hst true false) v one two
 | false =>
  refine (bdS (t:=cond (evA false v.s2 v.r2) (Sum.inr (((one,two,(start p m1 m2 (evK false v.s1 v.k1 c1 1) (evK false v.s2 v.k2 c2 2)).p.e),((start p m1 m2 (evK false v.s1 v.k1 c1 1) (evK false v.s2 v.k2 c2 2)).m1.e,(start p m1 m2 (evK false v.s1 v.k1 c1 1) (evK false v.s2 v.k2 c2 2)).m2.e),v.e,(zTg,((0:Int),(0:Int),(0:Int)),((0:Int),(0:Int)),(0:Int),(0:Int)),zTg,(((0:Int),(0:Int)),(0:Int),(0:Int)),((0:Int),(0:Int)),(0:Int),(0:Int)),((start p m1 m2 (evK false v.s1 v.k1 c1 1) (evK false v.s2 v.k2 c2 2)).r.e,(start p m1 m2 (evK false v.s1 v.k1 c1 1) (evK false v.s2 v.k2 c2 2)).c2.h,(start p m1 m2 (evK false v.s1 v.k1 c1 1) (evK false v.s2 v.k2 c2 2)).c2.nd.e),((start p m1 m2 (evK false v.s1 v.k1 c1 1) (evK false v.s2 v.k2 c2 2)).c2.ps,(start p m1 m2 (evK false v.s1 v.k1 c1 1) (evK false v.s2 v.k2 c2 2)).c2.cz),(start p m1 m2 (evK false v.s1 v.k1 c1 1) (evK false v.s2 v.k2 c2 2)).c2.co.ps,(start p m1 m2 (evK false v.s1 v.k1 c1 1) (evK false v.s2 v.k2 c2 2)).c2.co.ss)) (Sum.inl (((one,two),(start p m1 m2 (evK false v.s1 v.k1 c1 1) (evK false v.s2 v.k2 c2 2)).p.e,(start p m1 m2 (evK false v.s1 v.k1 c1 1) (evK false v.s2 v.k2 c2 2)).m1.e),((start p m1 m2 (evK false v.s1 v.k1 c1 1) (evK false v.s2 v.k2 c2 2)).m2.e,v.e),((zTg,((0:Int),(0:Int),(0:Int)),((0:Int),(0:Int)),(0:Int),(0:Int)),zTg,(((0:Int),(0:Int)),(0:Int),(0:Int)),((0:Int),(0:Int)),(0:Int),(0:Int)),(start p m1 m2 (evK false v.s1 v.k1 c1 1) (evK false v.s2 v.k2 c2 2)).r.e))) ?_).trans ?_
  ·obtain ⟨s1,s2,r1,r2,k1,k2,w1,w2,f10,f11,f12,f13,f20,f21,f22,f23⟩:=v;cases s2 <;> cases r2 <;> cases k2 <;> rfl
  cases evA false v.s2 v.r2 with
  | true=>exact Aed (w:=(start p m1 m2 (evK false v.s1 v.k1 c1 1) (evK false v.s2 v.k2 c2 2))) (hst false true) v one two
  | false=>exact Vd (w:=(start p m1 m2 (evK false v.s1 v.k1 c1 1) (evK false v.s2 v.k2 c2 2))) (hst false false) v one two
theorem Ail {p:Pr} {m1 m2:Mc} {c1 c2:Cp} (hi:p.init.length≤1000000) (p1:0≤m1.pad∧m1.pad≤10000) (p2:0≤m2.pad∧m2.pad≤10000) (h2:c2.ok) (v:Ev) (one two:List UInt8) :
  Ahg one two v.e p.e m1.e m2.e c2.h c2.nd.e c2.ps c2.cz c2.co.ps c2.co.ss=some (ApA (evA false v.s1 v.r1) (evA true v.s2 v.r2) (cycW false true p m1 m2 c1 c2 v one two)):=by
 unfold Ahg cycW
 have hst:=HM hi p1 p2 (FP (a:=false) (s:=v.s1) (k:=v.k1) (c:=c1) (n:=1) (.inl rfl) (fun e=>by cases e)) (FP (a:=true) (s:=v.s2) (k:=v.k2) (c:=c2) (n:=2) (.inr rfl) (fun _=>h2))
 refine (bdS (t:=cond (evA false v.s1 v.r1) (Sum.inl ((((one,two),(start p m1 m2 (evK false v.s1 v.k1 c1 1) c2).p.e,(start p m1 m2 (evK false v.s1 v.k1 c1 1) c2).m1.e,(start p m1 m2 (evK false v.s1 v.k1 c1 1) c2).m2.e),((start p m1 m2 (evK false v.s1 v.k1 c1 1) c2).c2.h,(start p m1 m2 (evK false v.s1 v.k1 c1 1) c2).c2.nd.e),(start p m1 m2 (evK false v.s1 v.k1 c1 1) c2).c2.ps,(start p m1 m2 (evK false v.s1 v.k1 c1 1) c2).c2.cz,(start p m1 m2 (evK false v.s1 v.k1 c1 1) c2).c2.co.ps),(((start p m1 m2 (evK false v.s1 v.k1 c1 1) c2).c2.co.ss,v.e),((zTg,((0:Int),(0:Int),(0:Int)),((0:Int),(0:Int)),(0:Int),(0:Int)),zTg,(((0:Int),(0:Int)),(0:Int),(0:Int)),((0:Int),(0:Int)),(0:Int),(0:Int)),(start p m1 m2 (evK false v.s1 v.k1 c1 1) c2).r.e,(start p m1 m2 (evK false v.s1 v.k1 c1 1) c2).c1.h),((start p m1 m2 (evK false v.s1 v.k1 c1 1) c2).c1.nd.e,(start p m1 m2 (evK false v.s1 v.k1 c1 1) c2).c1.ps),(start p m1 m2 (evK false v.s1 v.k1 c1 1) c2).c1.cz,(start p m1 m2 (evK false v.s1 v.k1 c1 1) c2).c1.co.ps,(start p m1 m2 (evK false v.s1 v.k1 c1 1) c2).c1.co.ss)) (Sum.inr (((one,two,(start p m1 m2 (evK false v.s1 v.k1 c1 1) c2).p.e),((start p m1 m2 (evK false v.s1 v.k1 c1 1) c2).m1.e,(start p m1 m2 (evK false v.s1 v.k1 c1 1) c2).m2.e),(start p m1 m2 (evK false v.s1 v.k1 c1 1) c2).c2.h,(start p m1 m2 (evK false v.s1 v.k1 c1 1) c2).c2.nd.e),((start p m1 m2 (evK false v.s1 v.k1 c1 1) c2).c2.ps,(start p m1 m2 (evK false v.s1 v.k1 c1 1) c2).c2.cz,(start p m1 m2 (evK false v.s1 v.k1 c1 1) c2).c2.co.ps),((start p m1 m2 (evK false v.s1 v.k1 c1 1) c2).c2.co.ss,v.e),((zTg,((0:Int),(0:Int),(0:Int)),((0:Int),(0:Int)),(0:Int),(0:Int)),zTg,(((0:Int),(0:Int)),(0:Int),(0:Int)),((0:Int),(0:Int)),(0:Int),(0:Int)),(start p m1 m2 (evK false v.s1 v.k1 c1 1) c2).r.e))) ?_).trans ?_
 ·obtain ⟨s1,s2,r1,r2,k1,k2,w1,w2,f10,f11,f12,f13,f20,f21,f22,f23⟩:=v;cases s1 <;> cases r1 <;> cases k1 <;> rfl
 cases evA false v.s1 v.r1 with
 | true =>
  refine (bdS (t:=cond (evA true v.s2 v.r2) (Sum.inr ((((one,two),(start p m1 m2 (evK false v.s1 v.k1 c1 1) (evK true v.s2 v.k2 c2 2)).p.e,(start p m1 m2 (evK false v.s1 v.k1 c1 1) (evK true v.s2 v.k2 c2 2)).m1.e,(start p m1 m2 (evK false v.s1 v.k1 c1 1) (evK true v.s2 v.k2 c2 2)).m2.e),(v.e,(zTg,((0:Int),(0:Int),(0:Int)),((0:Int),(0:Int)),(0:Int),(0:Int)),zTg,(((0:Int),(0:Int)),(0:Int),(0:Int)),((0:Int),(0:Int)),(0:Int),(0:Int)),(start p m1 m2 (evK false v.s1 v.k1 c1 1) (evK true v.s2 v.k2 c2 2)).r.e,(start p m1 m2 (evK false v.s1 v.k1 c1 1) (evK true v.s2 v.k2 c2 2)).c1.h,(start p m1 m2 (evK false v.s1 v.k1 c1 1) (evK true v.s2 v.k2 c2 2)).c2.h),(((start p m1 m2 (evK false v.s1 v.k1 c1 1) (evK true v.s2 v.k2 c2 2)).c1.nd.e,(start p m1 m2 (evK false v.s1 v.k1 c1 1) (evK true v.s2 v.k2 c2 2)).c1.ps),(start p m1 m2 (evK false v.s1 v.k1 c1 1) (evK true v.s2 v.k2 c2 2)).c1.cz,(start p m1 m2 (evK false v.s1 v.k1 c1 1) (evK true v.s2 v.k2 c2 2)).c2.nd.e,(start p m1 m2 (evK false v.s1 v.k1 c1 1) (evK true v.s2 v.k2 c2 2)).c2.ps),((start p m1 m2 (evK false v.s1 v.k1 c1 1) (evK true v.s2 v.k2 c2 2)).c2.cz,(start p m1 m2 (evK false v.s1 v.k1 c1 1) (evK true v.s2 v.k2 c2 2)).c1.co.ps),(start p m1 m2 (evK false v.s1 v.k1 c1 1) (evK true v.s2 v.k2 c2 2)).c1.co.ss,(start p m1 m2 (evK false v.s1 v.k1 c1 1) (evK true v.s2 v.k2 c2 2)).c2.co.ps,(start p m1 m2 (evK false v.s1 v.k1 c1 1) (evK true v.s2 v.k2 c2 2)).c2.co.ss)) (Sum.inl (((one,two,(start p m1 m2 (evK false v.s1 v.k1 c1 1) (evK true v.s2 v.k2 c2 2)).p.e),((start p m1 m2 (evK false v.s1 v.k1 c1 1) (evK true v.s2 v.k2 c2 2)).m1.e,(start p m1 m2 (evK false v.s1 v.k1 c1 1) (evK true v.s2 v.k2 c2 2)).m2.e),v.e,(zTg,((0:Int),(0:Int),(0:Int)),((0:Int),(0:Int)),(0:Int),(0:Int)),zTg,(((0:Int),(0:Int)),(0:Int),(0:Int)),((0:Int),(0:Int)),(0:Int),(0:Int)),((start p m1 m2 (evK false v.s1 v.k1 c1 1) (evK true v.s2 v.k2 c2 2)).r.e,(start p m1 m2 (evK false v.s1 v.k1 c1 1) (evK true v.s2 v.k2 c2 2)).c1.h,(start p m1 m2 (evK false v.s1 v.k1 c1 1) (evK true v.s2 v.k2 c2 2)).c1.nd.e),((start p m1 m2 (evK false v.s1 v.k1 c1 1) (evK true v.s2 v.k2 c2 2)).c1.ps,(start p m1 m2 (evK false v.s1 v.k1 c1 1) (evK true v.s2 v.k2 c2 2)).c1.cz),(start p m1 m2 (evK false v.s1 v.k1 c1 1) (evK true v.s2 v.k2 c2 2)).c1.co.ps,(start p m1 m2 (evK false v.s1 v.k1 c1 1) (evK true v.s2 v.k2 c2 2)).c1.co.ss))) ?_).trans ?_
  ·obtain ⟨s1,s2,r1,r2,k1,k2,w1,w2,f10,f11,f12,f13,f20,f21,f22,f23⟩:=v;cases s2 <;> cases r2 <;> cases k2 <;> rfl
  cases evA true v.s2 v.r2 with
  | true=>exact Rq (w:=(start p m1 m2 (evK false v.s1 v.k1 c1 1) (evK true v.s2 v.k2 c2 2))) (hst true true) v one two
  | false=>exact Ve (w:=(start p m1 m2 (evK false v.s1 v.k1 c1 1) (evK true v.s2 v.k2 c2 2))) (hst true false) v one two
 | false =>
  refine (bdS (t:=cond (evA true v.s2 v.r2) (Sum.inr (((one,two,(start p m1 m2 (evK false v.s1 v.k1 c1 1) (evK true v.s2 v.k2 c2 2)).p.e),((start p m1 m2 (evK false v.s1 v.k1 c1 1) (evK true v.s2 v.k2 c2 2)).m1.e,(start p m1 m2 (evK false v.s1 v.k1 c1 1) (evK true v.s2 v.k2 c2 2)).m2.e),v.e,(zTg,((0:Int),(0:Int),(0:Int)),((0:Int),(0:Int)),(0:Int),(0:Int)),zTg,(((0:Int),(0:Int)),(0:Int),(0:Int)),((0:Int),(0:Int)),(0:Int),(0:Int)),((start p m1 m2 (evK false v.s1 v.k1 c1 1) (evK true v.s2 v.k2 c2 2)).r.e,(start p m1 m2 (evK false v.s1 v.k1 c1 1) (evK true v.s2 v.k2 c2 2)).c2.h,(start p m1 m2 (evK false v.s1 v.k1 c1 1) (evK true v.s2 v.k2 c2 2)).c2.nd.e),((start p m1 m2 (evK false v.s1 v.k1 c1 1) (evK true v.s2 v.k2 c2 2)).c2.ps,(start p m1 m2 (evK false v.s1 v.k1 c1 1) (evK true v.s2 v.k2 c2 2)).c2.cz),(start p m1 m2 (evK false v.s1 v.k1 c1 1) (evK true v.s2 v.k2 c2 2)).c2.co.ps,(start p m1 m2 (evK false v.s1 v.k1 c1 1) (evK true v.s2 v.k2 c2 2)).c2.co.ss)) (Sum.inl (((one,two),(start p m1 m2 (evK false v.s1 v.k1 c1 1) (evK true v.s2 v.k2 c2 2)).p.e,(start p m1 m2 (evK false v.s1 v.k1 c1 1) (evK true v.s2 v.k2 c2 2)).m1.e),((start p m1 m2 (evK false v.s1 v.k1 c1 1) (evK true v.s2 v.k2 c2 2)).m2.e,v.e),((zTg,((0:Int),(0:Int),(0:Int)),((0:Int),(0:Int)),(0:Int),(0:Int)),zTg,(((0:Int),(0:Int)),(0:Int),(0:Int)),((0:Int),(0:Int)),(0:Int),(0:Int)),(start p m1 m2 (evK false v.s1 v.k1 c1 1) (evK true v.s2 v.k2 c2 2)).r.e))) ?_).trans ?_
  ·obtain ⟨s1,s2,r1,r2,k1,k2,w1,w2,f10,f11,f12,f13,f20,f21,f22,f23⟩:=v;cases s2 <;> cases r2 <;> cases k2 <;> rfl
  cases evA true v.s2 v.r2 with
  | true=>exact Vf (w:=(start p m1 m2 (evK false v.s1 v.k1 c1 1) (evK true v.s2 v.k2 c2 2))) (hst false true) v one two
  | false=>exact Rr (w:=(start p m1 m2 (evK false v.s1 v.k1 c1 1) (evK true v.s2 v.k2 c2 2))) (hst false false) v one two
theorem Aim {p:Pr} {m1 m2:Mc} {c1 c2:Cp} (hi:p.init.length≤1000000) (p1:0≤m1.pad∧m1.pad≤10000) (p2:0≤m2.pad∧m2.pad≤10000) (h1:c1.ok) (v:Ev) (one two:List UInt8) :
  Ahr one two v.e p.e m1.e m2.e c1.h c1.nd.e c1.ps c1.cz c1.co.ps c1.co.ss=some (ApB (evA true v.s1 v.r1) (evA false v.s2 v.r2) (cycW true false p m1 m2 c1 c2 v one two)):=by
 unfold Ahr cycW
 have hst:=HM hi p1 p2 (FP (a:=true) (s:=v.s1) (k:=v.k1) (c:=c1) (n:=1) (.inl rfl) (fun _=>h1)) (FP (a:=false) (s:=v.s2) (k:=v.k2) (c:=c2) (n:=2) (.inr rfl) (fun e=>by cases e))
 refine (bdS (t:=cond (evA true v.s1 v.r1) (Sum.inr (((one,two,(start p m1 m2 (evK true v.s1 v.k1 c1 1) c2).p.e),((start p m1 m2 (evK true v.s1 v.k1 c1 1) c2).m1.e,(start p m1 m2 (evK true v.s1 v.k1 c1 1) c2).m2.e),v.e,(zTg,((0:Int),(0:Int),(0:Int)),((0:Int),(0:Int)),(0:Int),(0:Int)),zTg,(((0:Int),(0:Int)),(0:Int),(0:Int)),((0:Int),(0:Int)),(0:Int),(0:Int)),((start p m1 m2 (evK true v.s1 v.k1 c1 1) c2).r.e,(start p m1 m2 (evK true v.s1 v.k1 c1 1) c2).c1.h,(start p m1 m2 (evK true v.s1 v.k1 c1 1) c2).c1.nd.e),((start p m1 m2 (evK true v.s1 v.k1 c1 1) c2).c1.ps,(start p m1 m2 (evK true v.s1 v.k1 c1 1) c2).c1.cz),(start p m1 m2 (evK true v.s1 v.k1 c1 1) c2).c1.co.ps,(start p m1 m2 (evK true v.s1 v.k1 c1 1) c2).c1.co.ss)) (Sum.inl (((one,two),(start p m1 m2 (evK true v.s1 v.k1 c1 1) c2).p.e,(start p m1 m2 (evK true v.s1 v.k1 c1 1) c2).m1.e),((start p m1 m2 (evK true v.s1 v.k1 c1 1) c2).m2.e,v.e),((zTg,((0:Int),(0:Int),(0:Int)),((0:Int),(0:Int)),(0:Int),(0:Int)),zTg,(((0:Int),(0:Int)),(0:Int),(0:Int)),((0:Int),(0:Int)),(0:Int),(0:Int)),(start p m1 m2 (evK true v.s1 v.k1 c1 1) c2).r.e))) ?_).trans ?_
 ·obtain ⟨s1,s2,r1,r2,k1,k2,w1,w2,f10,f11,f12,f13,f20,f21,f22,f23⟩:=v;cases s1 <;> cases r1 <;> cases k1 <;> rfl
 cases evA true v.s1 v.r1 with
 | true =>
  refine (bdS (t:=cond (evA false v.s2 v.r2) (Sum.inr ((((one,two),(start p m1 m2 (evK true v.s1 v.k1 c1 1) (evK false v.s2 v.k2 c2 2)).p.e,(start p m1 m2 (evK true v.s1 v.k1 c1 1) (evK false v.s2 v.k2 c2 2)).m1.e,(start p m1 m2 (evK true v.s1 v.k1 c1 1) (evK false v.s2 v.k2 c2 2)).m2.e),(v.e,(zTg,((0:Int),(0:Int),(0:Int)),((0:Int),(0:Int)),(0:Int),(0:Int)),zTg,(((0:Int),(0:Int)),(0:Int),(0:Int)),((0:Int),(0:Int)),(0:Int),(0:Int)),(start p m1 m2 (evK true v.s1 v.k1 c1 1) (evK false v.s2 v.k2 c2 2)).r.e,(start p m1 m2 (evK true v.s1 v.k1 c1 1) (evK false v.s2 v.k2 c2 2)).c1.h,(start p m1 m2 (evK true v.s1 v.k1 c1 1) (evK false v.s2 v.k2 c2 2)).c2.h),(((start p m1 m2 (evK true v.s1 v.k1 c1 1) (evK false v.s2 v.k2 c2 2)).c1.nd.e,(start p m1 m2 (evK true v.s1 v.k1 c1 1) (evK false v.s2 v.k2 c2 2)).c1.ps),(start p m1 m2 (evK true v.s1 v.k1 c1 1) (evK false v.s2 v.k2 c2 2)).c1.cz,(start p m1 m2 (evK true v.s1 v.k1 c1 1) (evK false v.s2 v.k2 c2 2)).c2.nd.e,(start p m1 m2 (evK true v.s1 v.k1 c1 1) (evK false v.s2 v.k2 c2 2)).c2.ps),((start p m1 m2 (evK true v.s1 v.k1 c1 1) (evK false v.s2 v.k2 c2 2)).c2.cz,(start p m1 m2 (evK true v.s1 v.k1 c1 1) (evK false v.s2 v.k2 c2 2)).c1.co.ps),(start p m1 m2 (evK true v.s1 v.k1 c1 1) (evK false v.s2 v.k2 c2 2)).c1.co.ss,(start p m1 m2 (evK true v.s1 v.k1 c1 1) (evK false v.s2 v.k2 c2 2)).c2.co.ps,(start p m1 m2 (evK true v.s1 v.k1 c1 1) (evK false v.s2 v.k2 c2 2)).c2.co.ss)) (Sum.inl (((one,two,(start p m1 m2 (evK true v.s1 v.k1 c1 1) (evK false v.s2 v.k2 c2 2)).p.e),((start p m1 m2 (evK true v.s1 v.k1 c1 1) (evK false v.s2 v.k2 c2 2)).m1.e,(start p m1 m2 (evK true v.s1 v.k1 c1 1) (evK false v.s2 v.k2 c2 2)).m2.e),v.e,(zTg,((0:Int),(0:Int),(0:Int)),((0:Int),(0:Int)),(0:Int),(0:Int)),zTg,(((0:Int),(0:Int)),(0:Int),(0:Int)),((0:Int),(0:Int)),(0:Int),(0:Int)),((start p m1 m2 (evK true v.s1 v.k1 c1 1) (evK false v.s2 v.k2 c2 2)).r.e,(start p m1 m2 (evK true v.s1 v.k1 c1 1) (evK false v.s2 v.k2 c2 2)).c1.h,(start p m1 m2 (evK true v.s1 v.k1 c1 1) (evK false v.s2 v.k2 c2 2)).c1.nd.e),((start p m1 m2 (evK true v.s1 v.k1 c1 1) (evK false v.s2 v.k2 c2 2)).c1.ps,(start p m1 m2 (evK true v.s1 v.k1 c1 1) (evK false v.s2 v.k2 c2 2)).c1.cz),(start p m1 m2 (evK true v.s1 v.k1 c1 1) (evK false v.s2 v.k2 c2 2)).c1.co.ps,(start p m1 m2 (evK true v.s1 v.k1 c1 1) (evK false v.s2 v.k2 c2 2)).c1.co.ss))) ?_).trans ?_
  ·obtain ⟨s1,s2,r1,r2,k1,k2,w1,w2,f10,f11,f12,f13,f20,f21,f22,f23⟩:=v;cases s2 <;> cases r2 <;> cases k2 <;> rfl
  cases evA false v.s2 v.r2 with
  | true=>exact Rq (w:=(start p m1 m2 (evK true v.s1 v.k1 c1 1) (evK false v.s2 v.k2 c2 2))) (hst true true) v one two
  | false=>exact Ve (w:=(start p m1 m2 (evK true v.s1 v.k1 c1 1) (evK false v.s2 v.k2 c2 2))) (hst true false) v one two
 | false =>
  refine (bdS (t:=cond (evA false v.s2 v.r2) (Sum.inr (((one,two,(start p m1 m2 (evK true v.s1 v.k1 c1 1) (evK false v.s2 v.k2 c2 2)).p.e),((start p m1 m2 (evK true v.s1 v.k1 c1 1) (evK false v.s2 v.k2 c2 2)).m1.e,(start p m1 m2 (evK true v.s1 v.k1 c1 1) (evK false v.s2 v.k2 c2 2)).m2.e),v.e,(zTg,((0:Int),(0:Int),(0:Int)),((0:Int),(0:Int)),(0:Int),(0:Int)),zTg,(((0:Int),(0:Int)),(0:Int),(0:Int)),((0:Int),(0:Int)),(0:Int),(0:Int)),((start p m1 m2 (evK true v.s1 v.k1 c1 1) (evK false v.s2 v.k2 c2 2)).r.e,(start p m1 m2 (evK true v.s1 v.k1 c1 1) (evK false v.s2 v.k2 c2 2)).c2.h,(start p m1 m2 (evK true v.s1 v.k1 c1 1) (evK false v.s2 v.k2 c2 2)).c2.nd.e),((start p m1 m2 (evK true v.s1 v.k1 c1 1) (evK false v.s2 v.k2 c2 2)).c2.ps,(start p m1 m2 (evK true v.s1 v.k1 c1 1) (evK false v.s2 v.k2 c2 2)).c2.cz),(start p m1 m2 (evK true v.s1 v.k1 c1 1) (evK false v.s2 v.k2 c2 2)).c2.co.ps,(start p m1 m2 (evK true v.s1 v.k1 c1 1) (evK false v.s2 v.k2 c2 2)).c2.co.ss)) (Sum.inl (((one,two),(start p m1 m2 (evK true v.s1 v.k1 c1 1) (evK false v.s2 v.k2 c2 2)).p.e,(start p m1 m2 (evK true v.s1 v.k1 c1 1) (evK false v.s2 v.k2 c2 2)).m1.e),((start p m1 m2 (evK true v.s1 v.k1 c1 1) (evK false v.s2 v.k2 c2 2)).m2.e,v.e),((zTg,((0:Int),(0:Int),(0:Int)),((0:Int),(0:Int)),(0:Int),(0:Int)),zTg,(((0:Int),(0:Int)),(0:Int),(0:Int)),((0:Int),(0:Int)),(0:Int),(0:Int)),(start p m1 m2 (evK true v.s1 v.k1 c1 1) (evK false v.s2 v.k2 c2 2)).r.e))) ?_).trans ?_
  ·obtain ⟨s1,s2,r1,r2,k1,k2,w1,w2,f10,f11,f12,f13,f20,f21,f22,f23⟩:=v;cases s2 <;> cases r2 <;> cases k2 <;> rfl
  cases evA false v.s2 v.r2 with
  | true=>exact Vf (w:=(start p m1 m2 (evK true v.s1 v.k1 c1 1) (evK false v.s2 v.k2 c2 2))) (hst false true) v one two
  | false=>exact Rr (w:=(start p m1 m2 (evK true v.s1 v.k1 c1 1) (evK false v.s2 v.k2 c2 2))) (hst false false) v one two
abbrev FtT:Type:=Bool×Int×Int
abbrev CyT:Type:=List UInt8×List UInt8×(Bool×Bool)×(Bool×Bool)×(Bool×Bool)×(Int×Int)×(FtT×FtT×FtT×FtT)×FtT×FtT×FtT×FtT
abbrev WoT:Type:=(Int×Int×Int)×(Int×Int)×Int×List CyT
def noCy:CyT:=([],[],(false,false),(false,false),(false,false),(0,0),((false,0,0),(false,0,0),(false,0,0),(false,0,0)),(false,0,0),(false,0,0),(false,0,0),(false,0,0))
def ftOf (x:FtT):Ft:=⟨x.1,x.2.1,x.2.2⟩
def evOf (x:CyT):Ev:=⟨x.2.2.1.1,x.2.2.1.2,x.2.2.2.1.1,x.2.2.2.1.2,x.2.2.2.2.1.1,x.2.2.2.2.1.2,x.2.2.2.2.2.1.1,x.2.2.2.2.2.1.2,ftOf x.2.2.2.2.2.2.1.1,ftOf x.2.2.2.2.2.2.1.2.1,ftOf x.2.2.2.2.2.2.1.2.2.1,ftOf x.2.2.2.2.2.2.1.2.2.2,ftOf x.2.2.2.2.2.2.2.1,ftOf x.2.2.2.2.2.2.2.2.1,ftOf x.2.2.2.2.2.2.2.2.2.1,ftOf x.2.2.2.2.2.2.2.2.2.2⟩
theorem FQ (l:List UInt8) (n:Nat):o10 l (n:Int)=some (l.take n):=by
 unfold o10
 have h:minI (l.length:Int) (n:Int)=((min l.length n:Nat):Int):=by unfold minI;split <;> omega
 rw [h,gdT (dt (by omega)),Int.toNat_natCast]
 have:min l.length n=l.length∨min l.length n=n:=by omega
 rcases this with e | e
 ·rw [e,List.take_length,List.take_of_length_le (by omega)]
 ·rw [e]
theorem Aee {l:List UInt8} (h:l.length≤1000000):o47 l l=some true:=by
 unfold o47
 refine (cndF (AF rfl)).trans ?_
 refine AJ (fun i=>((l,l),(l.length:Int),((i:Nat):Int))) l.length rfl (fun i hi=>?_) ?_ (by omega)
 ·unfold SJ
  refine (cndT (dt (by show (i:Int) < (l.length:Int);omega))).trans ((gdT (dt (by show (0:Int)≤i∧(i:Int) < (l.length:Int);omega))).trans ((gdT (dt (by show (0:Int)≤i∧(i:Int) < (l.length:Int);omega))).trans ((cndF (AF rfl)).trans ?_)))
  dsimp only
  rw [show IntKind.i64.wrap ((i:Int)+1)=((i+1:Nat):Int) by rw [AM (by omega)];omega]
 ·unfold SJ
  refine (cndF (df (by show ¬ (l.length:Int) < (l.length:Int);omega))).trans ?_
  exact dnS _
def newW (m:Mc) (r1 r2 r3 r4:Int):W:=⟨⟨saveB m,r1,r2,r3,r4,0,noTg⟩,m,m,newCp 1,newCp 2,⟨0,0,0,0,0,0,0,noTg,noTg,0,noTg⟩,noFrm,noFrm,false,false,false,false⟩
theorem Alo {m:Mc} {r1 r2 r3 r4:Int} (h1:0≤r1) (h2:0≤r2) (h3:0≤r3) (h4:0≤r4) (p0:0≤m.pad) (p1:m.pad≤10000) :
  o12 ((r1,r2),r3,r4) m.e m.e=some (Sum.inr (Sum.inr (((m.e,m.e,(newW m r1 r2 r3 r4).p.e),((newCp 1).h,(newCp 2).h),(newCp 1).nd.e,(newCp 1).ps),(((newCp 1).cz,(newCp 2).nd.e),(newCp 2).ps,(newCp 2).cz),((newCp 1).co.ps,(newCp 1).co.ss),(newCp 2).co.ps,(newCp 2).co.ss))):=by
 unfold o12
 have hl:=EG m
 refine (bdS (t:=((false,m.e),m.e,((r1,r2),r3,r4))) ?_).trans ?_
 ·refine (cndF (df (by show ¬ r1 < 0;omega))).trans ((cndF (df (by show ¬ r2 < 0;omega))).trans ((cndF (df (by show ¬ r3 < 0;omega))).trans ?_))
  show some ((decide (r4 < 0),m.e),m.e,((r1,r2),r3,r4))=_
  rw [df (by omega:¬ r4 < 0)]
 refine (cndF rfl).trans ((bdS (De p0 (by omega))).trans ((bdS (De p0 (by omega))).trans ((bdS (Aee (by omega))).trans ((cndF rfl).trans ((cndF (df ?_)).trans ((bdS (Bu (by omega))).trans ((bdS Akv).trans ((bdS AaV).trans rfl))))))))
 show ¬ ((saveB m).length:Int) > 524288
 omega
def mcOf (x:WoT):Mc:=⟨x.1.1,0,Int.tmod (IntKind.i64.wrap x.1.2.1) 1900⟩
theorem Aef {x:WoT} (h:0≤x.1.2.1∧x.1.2.1≤65535):0≤(mcOf x).pad∧(mcOf x).pad≤1899:=by
 show 0≤Int.tmod (IntKind.i64.wrap x.1.2.1) 1900∧Int.tmod (IntKind.i64.wrap x.1.2.1) 1900≤1899
 rw [AM (by omega),Int.tmod_eq_emod_of_nonneg h.1]
 omega
theorem WW:o7=some true:=by kernel_rfl
theorem Alp (w:W) (a b:Bool) (v:Ev):(w.step a b v).p=w.p:=by cases a <;> cases b <;> rfl
theorem ApD (w:W) (a b:Bool) (v:Ev) (one two:List UInt8):(w.all a b v one two).p={ w.p with use:=(w.all a b v one two).p.use }:=by
 have h:((((w.ex0 a b v one two).hear a b).ex1 a b v).step a b v).p=w.p:=Alp _ _ _ _
 show { ((((w.ex0 a b v one two).hear a b).ex1 a b v).step a b v).p with use:=(w.all a b v one two).p.use }=_
 rw [h]
theorem IY (last want rate:Int):o104 last want rate=some (toward last want rate):=by
 unfold o104 toward
 refine Eq.trans (bdS (t:=(last,want,maxI rate 0)) ?_) ?_
 ·by_cases h:rate < 0
  ·refine Eq.trans (cndT (dt h)) ?_
   rw [show maxI rate 0=0 by unfold maxI;omega]
  ·refine Eq.trans (cndF (df h)) ?_
   rw [show maxI rate 0=rate by unfold maxI;omega]
 exact As (F:=fun x=>x) (As (F:=fun x=>x) rfl rfl) (As (F:=fun x=>x) rfl rfl)
theorem Aeg (last want:Tg) (r1 r2 r3 r4:Int):o62 last.e want.e ((r1,r2),r3,r4)=some (limit last want r1 r2 r3 r4).e:=by
 unfold o62
 exact Eq.trans (bdS (IY _ _ _)) (Eq.trans (bdS (IY _ _ _)) (Eq.trans (bdS (IY _ _ _)) (Eq.trans (bdS (IY _ _ _)) rfl)))
theorem Alq {a b:Int} (ha:0≤a∧a≤255) (hb:0≤b∧b≤255):o61 a b=some (select a b):=by
 have ua:∀ {z:Int},0≤z∧z≤255→(((u8 z).toNat:Nat):Int)=z:=fun {z} hz=>(Ct hz).2 rfl
 unfold o61 select
 rw [ua ha,ua hb]
 refine Eq.trans (bdS (t:=(b,(a==4 || a==3))) (by cases (a==4) <;> rfl)) (As (F:=fun x=>x) rfl ?_)
 exact Eq.trans (bdS (t:=(b==4 || b==3)) (by show cnd (b==4) _ _=_;cases (b==4) <;> rfl)) (As (F:=fun x=>x) rfl rfl)
structure RK where
 fr1:Bool
 ak1:Bool
 fr2:Bool
 ak2:Bool
def rP (w:W) (k:RK) (a b:Bool) (m0:Mc):=((((((w.c1.nd.number,w.c1.nd.role),w.c1.nd.steps,w.c1.nd.alone,w.c1.nd.next),(w.c1.nd.cycle,w.c1.nd.input),k.fr1,w.c1.nd.is,w.c1.nd.hd.role),((w.c1.nd.hd.steps,w.c1.nd.hd.base),w.c1.nd.hd.have_,w.c1.nd.hd.input,w.c1.nd.has),(w.c1.nd.tt.lat,w.c1.nd.tt.ver),w.c1.nd.tt.ph,w.c1.nd.tt.bank,w.c1.nd.tt.speed),(((w.c1.nd.tt.alt,w.c1.nd.tt.vs),w.c1.ps,w.c1.co.base,w.c1.co.count),(w.c1.co.ps,w.c1.co.ss),k.ak1,w.c1.next,w.c2.nd.number),((w.c2.nd.role,w.c2.nd.steps),w.c2.nd.alone,w.c2.nd.next,w.c2.nd.cycle),(w.c2.nd.input,k.fr2),w.c2.nd.is,w.c2.nd.hd.role,w.c2.nd.hd.steps),((((w.c2.nd.hd.base,w.c2.nd.hd.have_),w.c2.nd.hd.input,w.c2.nd.has,w.c2.nd.tt.lat),(w.c2.nd.tt.ver,w.c2.nd.tt.ph),w.c2.nd.tt.bank,w.c2.nd.tt.speed,w.c2.nd.tt.alt),((w.c2.nd.tt.vs,w.c2.ps),w.c2.co.base,w.c2.co.count,w.c2.co.ps),(w.c2.co.ss,k.ak2),w.c2.next,a,b),(((w.m1.sum,w.m1.count),w.m1.pad,w.m2.sum,w.m2.count),(w.m2.pad,m0.sum),m0.count,m0.pad,w.p.cycle),((w.p.r1,w.p.r2),w.p.r3,w.p.r4,w.p.use.lat),(w.p.use.ver,w.p.use.ph,w.p.use.bank),w.p.use.speed,w.p.use.alt,w.p.use.vs)
def takeK (m:Mc) (x:Cp×JobT×Bool×Int) (ak:Bool):Bool:=cond x.2.2.1 (cond ((m.load x.2.1.2.1).2 != 0) false ak) ak
theorem Rs {m:Mc} {p:List UInt8} (h:¬ (m.load p).2=0):(m.load p).1=m:=by
 have:(m.load p).2=0∨(m.load p).1=m:=by
  unfold Mc.load
  exact Ai (P:=fun z:Mc×Int=>z.2=0∨z.1=m) (.inr rfl) (Ai (P:=fun z:Mc×Int=>z.2=0∨z.1=m) (.inl rfl) (.inr rfl))
 exact this.resolve_left h
theorem Aeh {w:W} (k:RK) (a b:Bool) (m0:Mc) {f:Frm} {came:Bool} (hp:0≤w.m1.pad∧w.m1.pad≤10000) (hk:w.c1.ok) (hc:CoK w.c1.co) (h:w.c1.next=7→w.c1.nd.next=0∧w.c1.nd.number=w.c1.number∧w.c1.nd.cycle=w.c1.cycle) (hf:f.payload.length≤1100) :
  UR (rP w k a b m0) f.e came=some (rP { w with c1:=(tookA w.m1 (w.c1.take f came)).1,m1:=(tookA w.m1 (w.c1.take f came)).2 } { k with ak1:=takeK w.m1 (w.c1.take f came) k.ak1 } a b m0):=by
 unfold UR
 have hj:=EI hk (f:=f) (came:=came)
 refine Eq.trans (bdS (Vb k.fr1 k.ak1 hk (Kx hk) hc h (Nat.le_trans hf (by decide)))) ?_
 generalize w.c1.take f came=x at hj ⊢
 obtain ⟨c,⟨jb,sn,l⟩,has,er⟩:=x
 cases has with
 | false=>exact Eq.trans (cndT rfl) rfl
 | true =>
  have hs:l.length≤874:=hj.sets
  have hi:∀ x∈l,x.2.2.2.length≤2000:=hj.ins
  refine Eq.trans (cndF rfl) (Eq.trans (bdS (MO (m:=w.m1) (p:=sn) hp.1 (CP hp.2))) ?_)
  unfold tookA takeK
  dsimp only
  rw [cond_true,cond_true]
  by_cases he:(w.m1.load sn).2=0
  ·rw [Bf (α:=Cp×Mc) (AF he),Bf (α:=Bool) (AF he)]
   refine Eq.trans (cndF (AF he)) ?_
   refine AJ (fun i=>((l,((l.length:Nat):Int),((i:Nat):Int)),rP { w with c1:=c } k a b m0,(((false,false),false,false,false),(false,false),false,false,false),(runL (w.m1.load sn).1 (l.take i)).e)) l.length rfl (fun i hi'=>?_) ?_ (by omega)
   ·have hd:(l.getD i (0,0,false,[])).2.2.2.length≤100000000:=by rw [BX hi'];exact Nat.le_trans (hi _ (List.getElem_mem hi')) (by decide)
    unfold KR
    refine Eq.trans (cndT (dt (by show (i:Int) < (l.length:Int);omega))) (Eq.trans (gdT (dt (by show (0:Int)≤i∧(i:Int) < (l.length:Int);omega))) (Eq.trans (bdS (GE (runL (w.m1.load sn).1 (l.take i)) (l.getD i (0,0,false,[])).2.1 (l:=(l.getD i (0,0,false,[])).2.2.2) hd)) ?_))
    exact Gl (DF _ hi') (AM (by omega)) (fun (m:Mc) (j:Int)=>((l,((l.length:Nat):Int),j),rP { w with c1:=c } k a b m0,(((false,false),false,false,false),(false,false),false,false,false),m.e))
   ·unfold KR
    refine Eq.trans (cndF (df (by show ¬ (l.length:Int) < (l.length:Int);omega))) ?_
    rw [List.take_length]
    exact dnS _
  ·rw [Bv (α:=Cp×Mc) (Bb he),Bv (α:=Bool) (Bb he),Rs he]
   exact Eq.trans (cndT (Bb he)) (Eq.trans (bdS (Nr c k.fr1 k.ak1)) rfl)
theorem Aei {w:W} (k:RK) (a b:Bool) (m0:Mc) {f:Frm} {came:Bool} (hp:0≤w.m2.pad∧w.m2.pad≤10000) (hk:w.c2.ok) (hc:CoK w.c2.co) (h:w.c2.next=7→w.c2.nd.next=0∧w.c2.nd.number=w.c2.number∧w.c2.nd.cycle=w.c2.cycle) (hf:f.payload.length≤1100) :
  US (rP w k a b m0) f.e came=some (rP { w with c2:=(tookA w.m2 (w.c2.take f came)).1,m2:=(tookA w.m2 (w.c2.take f came)).2 } { k with ak2:=takeK w.m2 (w.c2.take f came) k.ak2 } a b m0):=by
 unfold US
 have hj:=EI hk (f:=f) (came:=came)
 refine Eq.trans (bdS (Vb k.fr2 k.ak2 hk (Kx hk) hc h (Nat.le_trans hf (by decide)))) ?_
 generalize w.c2.take f came=x at hj ⊢
 obtain ⟨c,⟨jb,sn,l⟩,has,er⟩:=x
 cases has with
 | false=>exact Eq.trans (cndT rfl) rfl
 | true =>
  have hs:l.length≤874:=hj.sets
  have hi:∀ x∈l,x.2.2.2.length≤2000:=hj.ins
  refine Eq.trans (cndF rfl) (Eq.trans (bdS (MO (m:=w.m2) (p:=sn) hp.1 (CP hp.2))) ?_)
  unfold tookA takeK
  dsimp only
  rw [cond_true,cond_true]
  by_cases he:(w.m2.load sn).2=0
  ·rw [Bf (α:=Cp×Mc) (AF he),Bf (α:=Bool) (AF he)]
   refine Eq.trans (cndF (AF he)) ?_
   refine AJ (fun i=>((l,((l.length:Nat):Int),((i:Nat):Int)),rP { w with c2:=c } k a b m0,(((false,false),false,false,false),(false,false),false,false,false),(runL (w.m2.load sn).1 (l.take i)).e)) l.length rfl (fun i hi'=>?_) ?_ (by omega)
   ·have hd:(l.getD i (0,0,false,[])).2.2.2.length≤100000000:=by rw [BX hi'];exact Nat.le_trans (hi _ (List.getElem_mem hi')) (by decide)
    unfold KU
    refine Eq.trans (cndT (dt (by show (i:Int) < (l.length:Int);omega))) (Eq.trans (gdT (dt (by show (0:Int)≤i∧(i:Int) < (l.length:Int);omega))) (Eq.trans (bdS (GE (runL (w.m2.load sn).1 (l.take i)) (l.getD i (0,0,false,[])).2.1 (l:=(l.getD i (0,0,false,[])).2.2.2) hd)) ?_))
    exact Gl (DF _ hi') (AM (by omega)) (fun (m:Mc) (j:Int)=>((l,((l.length:Nat):Int),j),rP { w with c2:=c } k a b m0,(((false,false),false,false,false),(false,false),false,false,false),m.e))
   ·unfold KU
    refine Eq.trans (cndF (df (by show ¬ (l.length:Int) < (l.length:Int);omega))) ?_
    rw [List.take_length]
    exact dnS _
  ·rw [Bv (α:=Cp×Mc) (Bb he),Bv (α:=Bool) (Bb he),Rs he]
   exact Eq.trans (cndT (Bb he)) (Eq.trans (bdS (Nr c k.fr2 k.ak2)) rfl)
structure NI (j N:Int) (r:Int) (n:Nd):Prop where
 nx:n.next=j
 role:n.role=1∨n.role=2∨n.role=3
 steps:0≤n.steps∧n.steps≤N
structure CI (j i N:Int) (c:Cp):Prop where
 ok:c.ok
 nx:c.next=j
 nd:NI i N 0 c.nd
 cok:CoK c.co
 base:0≤c.co.base
structure CC (cy:Int) (c:Cp):Prop where
 cyc:c.cycle=cy
 ncyc:c.nd.cycle=cy
structure CW (c:Cp):Prop where
 wb:c.wb=c.nd.hd.base
 wh:c.wh=c.nd.hd.have_
theorem Gm:CoK noCo:=⟨.inl rfl⟩
theorem decRng (n r s a:Int) (h:Bool) (o t:Int):decR n r s a h o t=1∨decR n r s a h o t=2∨decR n r s a h o t=3:=by
 unfold decR
 cases (r==2) <;> cases (r==3) <;> (repeat' (first | exact Ai (P:=fun z:Int=>z=1∨z=2∨z=3) (by decide) (by decide) | refine Ai (P:=fun z:Int=>z=1∨z=2∨z=3) ?_ ?_ | decide))
theorem Aej {N cy:Int} {c:Cp} (h:CI 0 0 N c) (hc:0≤cy) (l:List UInt8):∃ f,c.hello cy (inpC l)=({ c with next:=1,cycle:=cy,asked:=false,nd:=c.nd.begun cy (inpC l) },f,0):=by
 have hw:(0≤c.w.1)∧(0≤c.w.2∧c.w.2≤874):=by
  unfold Cp.w
  have:=h.ok.cps
  exact Ai (P:=fun z:Int×Int=>(0≤z.1)∧(0≤z.2∧z.2≤874)) ⟨h.base,by show (0:Int)≤(c.co.ps.length:Int);omega,by show (c.co.ps.length:Int)≤874;omega⟩ ⟨by decide,by decide,by decide⟩
 have hp:putHello ⟨c.nd.role,c.nd.steps,c.w.1,c.w.2,inpC l⟩=(0,helloB ⟨c.nd.role,c.nd.steps,c.w.1,c.w.2,inpC l⟩):=by
  have hi:=CM l
  have hr:=h.nd.role
  have hs:=h.nd.steps
  unfold putHello badHello
  dsimp only
  rw [df (by omega:¬ c.nd.role < 1),df (by omega:¬ c.nd.role > 3),df (by omega:¬ c.nd.steps < 0),df (by omega:¬ c.w.1 < 0),df (by omega:¬ c.w.2 < 0),df (by omega:¬ c.w.2 > 65535),df (by omega:¬ ((inpC l).length:Int) > 400)]
  rfl
 have e:∃ f,c.nd.hello cy (inpC l) c.w.1 c.w.2=(c.nd.begun cy (inpC l),f,0):=by
  unfold Nd.hello
  rw [AF h.nd.nx,cond_false,df (by omega:¬ cy < 0),cond_false,hp,AF rfl,cond_false]
  exact ⟨_,rfl⟩
 obtain ⟨f,e⟩:=e
 refine ⟨f,?_⟩
 unfold Cp.hello
 rw [AF h.nx,cond_false,e]
 rfl
theorem Aek {N cy:Int} {c:Cp} (h:CI 0 0 N c) (l:List UInt8):CI 1 1 N { c with next:=1,cycle:=cy,asked:=false,nd:=c.nd.begun cy (inpC l) } :=
 ⟨withNd h.ok (c.nd.begun cy (inpC l)) 1 cy false c.wb c.wh rfl ⟨Nat.le_trans (CM l) (by decide),by simp [Nd.begun,noHd],by simp [Nd.begun,noSe]⟩,rfl,⟨rfl,h.nd.role,h.nd.steps⟩,h.cok,h.base⟩
theorem Ael {N:Int} {n:Nd} (h:NI 1 N 0 n) (f:Frm) (came:Bool):NI 2 N 0 (n.hear f came).1∧(n.hear f came).1.cycle=n.cycle∧(n.hear f came).1.has=n.has∧(n.hear f came).2=((n.hear f came).1.hd,(n.hear f came).1.is,0):=by
 unfold Nd.hear
 rw [AF h.nx,cond_false]
 have h1:(n.heard1 f came).cycle=n.cycle∧(n.heard1 f came).has=n.has∧(n.heard1 f came).steps=n.steps:=Ai (P:=fun z:Nd=>z.cycle=n.cycle∧z.has=n.has∧z.steps=n.steps) ⟨rfl,rfl,rfl⟩ ⟨rfl,rfl,rfl⟩
 have h2:(n.heard1 f came).heard2.cycle=n.cycle∧(n.heard1 f came).heard2.has=n.has∧(n.heard1 f came).heard2.steps=n.steps∧(n.heard1 f came).heard2.next=2:=by
  obtain ⟨a,b,c⟩:=h1
  unfold Nd.heard2
  exact Ai (P:=fun z:Nd=>z.cycle=n.cycle∧z.has=n.has∧z.steps=n.steps∧z.next=2) ⟨a,b,c,rfl⟩ ⟨a,b,c,rfl⟩
 generalize (n.heard1 f came).heard2=m at h2
 obtain ⟨a,b,c,d⟩:=h2
 have h3:(m.heard3 m.newRole).cycle=n.cycle∧(m.heard3 m.newRole).has=n.has∧(0≤(m.heard3 m.newRole).steps∧(m.heard3 m.newRole).steps≤N)∧(m.heard3 m.newRole).next=2∧((m.heard3 m.newRole).role=1∨(m.heard3 m.newRole).role=2∨(m.heard3 m.newRole).role=3):=by
  unfold Nd.heard3
  have hs:=h.steps
  exact Ai (P:=fun z:Nd=>z.cycle=n.cycle∧z.has=n.has∧(0≤z.steps∧z.steps≤N)∧z.next=2∧(z.role=1∨z.role=2∨z.role=3)) ⟨a,b,⟨Int.le_refl 0,by show 0≤N;omega⟩,d,.inl rfl⟩ ⟨a,b,⟨by show 0≤m.steps;omega,by show m.steps≤N;omega⟩,d,decRng _ _ _ _ _ _ _⟩
 generalize m.heard3 m.newRole=q at h3
 obtain ⟨a,b,c,d,e⟩:=h3
 refine ⟨⟨d,e,?_⟩,a,b,rfl⟩
 exact Ai (P:=fun z:Int=>0≤z∧z≤N) ⟨Int.le_refl 0,by omega⟩ c
theorem Vg {N cy:Int} {c:Cp} (h:CI 1 1 N c) (hc:CC cy c) (f:Frm) (came:Bool):(c.hear f came).2=0∧CI 2 2 N (c.hear f came).1∧CC cy (c.hear f came).1∧CW (c.hear f came).1∧(c.hear f came).1.nd.has=c.nd.has:=by
 have hok:=Hy h.ok (f:=f) (came:=came)
 obtain ⟨g1,g2,g3,g4⟩:=Ael h.nd f came
 revert hok
 unfold Cp.hear
 rw [AF h.nx,cond_false]
 unfold Cp.heard
 rw [show (c.nd.hear f came).2.2.2=0 by rw [g4],AF rfl,cond_false]
 have e1:(c.nd.hear f came).2.1=(c.nd.hear f came).1.hd:=by rw [g4]
 intro hok
 have k1:(c.heard1 (c.nd.hear f came)).next=2∧(c.heard1 (c.nd.hear f came)).nd=(c.nd.hear f came).1∧(c.heard1 (c.nd.hear f came)).cycle=cy∧CoK (c.heard1 (c.nd.hear f came)).co∧0≤(c.heard1 (c.nd.hear f came)).co.base:=by
  unfold Cp.heard1
  exact Ai (P:=fun z:Cp=>z.next=2∧z.nd=(c.nd.hear f came).1∧z.cycle=cy∧CoK z.co∧0≤z.co.base) ⟨rfl,rfl,hc.cyc,Gm,Int.le_refl 0⟩ ⟨rfl,rfl,hc.cyc,h.cok,h.base⟩
 obtain ⟨a,b,d,e,f'⟩:=k1
 generalize c.heard1 (c.nd.hear f came)=q at a b d e f' hok ⊢
 refine ⟨rfl,⟨hok,a,?_,e,f'⟩,⟨d,?_⟩,⟨?_,?_⟩,?_⟩
 ·show NI 2 N 0 q.nd;rw [b];exact g1
 ·show q.nd.cycle=cy;rw [b,g2];exact hc.ncyc
 ·show (c.nd.hear f came).2.1.base=q.nd.hd.base;rw [b,e1]
 ·show (c.nd.hear f came).2.1.have_=q.nd.hd.have_;rw [b,e1]
 ·show q.nd.has=c.nd.has;rw [b,g3]
theorem Rt {N cy:Int} {c:Cp} (h:CI 2 2 N c) (hc:CC cy c) (hw:CW c):CI 3 3 N c.share.1∧CC cy c.share.1∧CW c.share.1∧c.share.1.nd.has=c.nd.has∧c.share.1.nd.fresh=c.nd.fresh∧c.share.1.asked=c.asked∧(c.share.1.nd.role=2→c.share.1.nd.se=c.share.1.nd.shared.se):=by
 have hok:=Qd h.ok
 revert hok
 unfold Cp.share
 rw [AF h.nx,cond_false]
 intro hok
 have k:NI 3 N 0 c.nd.share.1∧c.nd.share.1.cycle=c.nd.cycle∧c.nd.share.1.hd=c.nd.hd∧c.nd.share.1.has=c.nd.has∧c.nd.share.1.fresh=c.nd.fresh∧(c.nd.share.1.role=2→c.nd.share.1.se=c.nd.share.1.shared.se):=by
  unfold Nd.share
  rw [AF h.nd.nx,cond_false]
  refine BZ (P:=fun z:Nd×Frm×Bool×Int=>NI 3 N 0 z.1∧z.1.cycle=c.nd.cycle∧z.1.hd=c.nd.hd∧z.1.has=c.nd.has∧z.1.fresh=c.nd.fresh∧(z.1.role=2→z.1.se=z.1.shared.se)) (fun e=>?_) fun e=>?_
  ·exact ⟨⟨rfl,h.nd.role,h.nd.steps⟩,rfl,rfl,rfl,rfl,fun r=>by rw [AF (show c.nd.role=2 from r)] at e;cases e⟩
  ·exact ⟨⟨rfl,h.nd.role,h.nd.steps⟩,rfl,rfl,rfl,rfl,fun _=>rfl⟩
 obtain ⟨a,b,d,e,f,g⟩:=k
 exact ⟨⟨hok,rfl,a,h.cok,h.base⟩,⟨hc.cyc,b.trans hc.ncyc⟩,⟨hw.wb.trans (congrArg Hd.base d.symm),hw.wh.trans (congrArg Hd.have_ d.symm)⟩,e,f,rfl,g⟩
theorem Aem {c:Co} (h:CoK c) (hb:0≤c.base) (x:Se) (came:Bool):CoK (c.note x came)∧0≤(c.note x came).base:=by
 unfold Co.note
 exact Ai (P:=fun z:Co=>CoK z∧0≤z.base) ⟨h,hb⟩ (Ai (P:=fun z:Co=>CoK z∧0≤z.base) ⟨Gm,Int.le_refl 0⟩ ⟨⟨h.ok⟩,hb⟩)
theorem WX {N:Int} {n:Nd} (h:NI 3 N 0 n) (hN:N≤4611686018527387904) (f:Frm) (came:Bool):NI 4 (N+1) 0 (n.step f came).1∧(n.step f came).1.cycle=n.cycle∧(n.step f came).1.hd=n.hd∧(n.step f came).1.fresh=n.fresh:=by
 have hs:=h.steps
 have ht:(n.took f came).role=n.role∧(n.took f came).next=4∧(n.took f came).steps=n.steps∧(n.took f came).cycle=n.cycle∧(n.took f came).hd=n.hd∧(n.took f came).fresh=n.fresh :=
  Ai (P:=fun z:Nd=>z.role=n.role∧z.next=4∧z.steps=n.steps∧z.cycle=n.cycle∧z.hd=n.hd∧z.fresh=n.fresh) (Ai (P:=fun z:Nd=>z.role=n.role∧z.next=4∧z.steps=n.steps∧z.cycle=n.cycle∧z.hd=n.hd∧z.fresh=n.fresh) ⟨rfl,rfl,rfl,rfl,rfl,rfl⟩ ⟨rfl,rfl,rfl,rfl,rfl,rfl⟩) ⟨rfl,rfl,rfl,rfl,rfl,rfl⟩
 obtain ⟨t1,t2,t3,t4,t5,t6⟩:=ht
 have hd:NI 4 N 0 (n.stepped f came)∧(n.stepped f came).cycle=n.cycle∧(n.stepped f came).hd=n.hd∧(n.stepped f came).fresh=n.fresh:=by
  unfold Nd.stepped
  refine Ai (P:=fun z:Nd=>NI 4 N 0 z∧z.cycle=n.cycle∧z.hd=n.hd∧z.fresh=n.fresh) ⟨⟨rfl,h.role,hs⟩,rfl,rfl,rfl⟩ (Ai (P:=fun z:Nd=>NI 4 N 0 z∧z.cycle=n.cycle∧z.hd=n.hd∧z.fresh=n.fresh) (Ai (P:=fun z:Nd=>NI 4 N 0 z∧z.cycle=n.cycle∧z.hd=n.hd∧z.fresh=n.fresh) ⟨⟨t2,t1 ▸ h.role,t3 ▸ hs⟩,t4,t5,t6⟩ ⟨⟨t2,.inl rfl,⟨Int.le_refl 0,by show 0≤N;omega⟩⟩,t4,t5,t6⟩) ⟨⟨rfl,h.role,hs⟩,rfl,rfl,rfl⟩)
 obtain ⟨a,b,c,d⟩:=hd
 have hst:=a.steps
 unfold Nd.step
 rw [AF h.nx,cond_false]
 refine Ai (P:=fun z:Nd×Se×Bool×Int=>NI 4 (N+1) 0 z.1∧z.1.cycle=n.cycle∧z.1.hd=n.hd∧z.1.fresh=n.fresh) ⟨⟨a.nx,a.role,?_⟩,b,c,d⟩ ⟨⟨a.nx,a.role,by show 0≤(n.stepped f came).steps∧(n.stepped f came).steps≤N+1;omega⟩,b,c,d⟩
 have:IntKind.i64.wrap ((n.stepped f came).steps+1)=(n.stepped f came).steps+1:=AM (by omega)
 show 0≤IntKind.i64.wrap ((n.stepped f came).steps+1)∧IntKind.i64.wrap ((n.stepped f came).steps+1)≤N+1
 rw [this];omega
theorem Vh {N cy:Int} {c:Cp} (h:CI 3 3 N c) (hN:N≤4611686018527387904) (hc:CC cy c) (hw:CW c) {f:Frm} (hf:f.payload.length≤1100) (came:Bool):CI 4 4 (N+1) (c.step f came).1∧CC cy (c.step f came).1∧CW (c.step f came).1∧(c.step f came).1.asked=c.asked:=by
 have hok:=Na h.ok hf (came:=came)
 obtain ⟨a,b,d,e⟩:=WX h.nd hN f came
 revert hok
 unfold Cp.step
 rw [AF h.nx,cond_false]
 dsimp only
 generalize c.nd.step f came=x at a b d e
 obtain ⟨n,s,ok,er⟩:=x
 dsimp only at a b d e ⊢
 intro hok
 have k:(c.stepped (n,s,ok,er) f came).next=4∧(c.stepped (n,s,ok,er) f came).nd=n∧(c.stepped (n,s,ok,er) f came).cycle=c.cycle∧(c.stepped (n,s,ok,er) f came).wb=c.wb∧(c.stepped (n,s,ok,er) f came).wh=c.wh∧(c.stepped (n,s,ok,er) f came).asked=c.asked∧(CoK (c.stepped (n,s,ok,er) f came).co∧0≤(c.stepped (n,s,ok,er) f came).co.base):=by
  unfold Cp.stepped
  refine Ai (P:=fun z:Cp=>z.next=4∧z.nd=n∧z.cycle=c.cycle∧z.wb=c.wb∧z.wh=c.wh∧z.asked=c.asked∧(CoK z.co∧0≤z.co.base)) ?_ ⟨rfl,rfl,rfl,rfl,rfl,rfl,h.cok,h.base⟩
  have:=Ai (b:=c.nd.role==1) (P:=fun z:Cp=>z.next=4∧z.nd=n∧z.cycle=c.cycle∧z.wb=c.wb∧z.wh=c.wh∧z.asked=c.asked∧(CoK z.co∧0≤z.co.base)) (x:={ c with next:=4,nd:=n }) (y:=({ c with next:=4,nd:=n }:Cp).reset) ⟨rfl,rfl,rfl,rfl,rfl,rfl,h.cok,h.base⟩ ⟨rfl,rfl,rfl,rfl,rfl,rfl,Gm,Int.le_refl 0⟩
  dsimp only
  generalize cond (c.nd.role==1) { c with next:=4,nd:=n } ({ c with next:=4,nd:=n }:Cp).reset=q at this
  obtain ⟨k1,k2,k3,k4,k5,k6,k7,k8⟩:=this
  exact ⟨k1,k2,k3,k4,k5,k6,Aem k7 k8 _ _⟩
 obtain ⟨k1,k2,k3,k4,k5,k6,k7,k8⟩:=k
 generalize c.stepped (n,s,ok,er) f came=q at k1 k2 k3 k4 k5 k6 k7 k8 hok ⊢
 obtain ⟨u1,u2,u3,u4,u5,u6,u7,u8,u9⟩:=q
 dsimp only at k1 k2 k3 k4 k5 k6 k7 k8 ⊢
 subst k2
 exact ⟨⟨hok,k1,a,k7,k8⟩,⟨k3.trans hc.cyc,b.trans hc.ncyc⟩,⟨(k4.trans hw.wb).trans (congrArg Hd.base d.symm),(k5.trans hw.wh).trans (congrArg Hd.have_ d.symm)⟩,k6⟩
theorem Vi {N cy:Int} {c:Cp} (h:CI 4 4 N c) (hc:CC cy c) (hw:CW c) (t:Tg):CI 5 5 N (c.tell t).1∧CC cy (c.tell t).1∧CW (c.tell t).1∧(c.tell t).1.asked=c.asked∧((c.tell t).1.nd.has=true→(c.tell t).1.nd.ts=(c.tell t).1.nd.steps):=by
 have hok:=UL h.ok (t:=t)
 revert hok
 unfold Cp.tell
 rw [AF h.nx,cond_false]
 intro hok
 have k:NI 5 N 0 (c.nd.tell t).1∧(c.nd.tell t).1.cycle=c.nd.cycle∧(c.nd.tell t).1.hd=c.nd.hd∧((c.nd.tell t).1.has=true→(c.nd.tell t).1.ts=(c.nd.tell t).1.steps):=by
  unfold Nd.tell
  rw [AF h.nd.nx,cond_false]
  refine BZ (P:=fun z:Nd×Frm×Bool×Int=>NI 5 N 0 z.1∧z.1.cycle=c.nd.cycle∧z.1.hd=c.nd.hd∧(z.1.has=true→z.1.ts=z.1.steps)) (fun e=>?_) fun e=>?_
  ·exact ⟨⟨rfl,h.nd.role,h.nd.steps⟩,rfl,rfl,fun _=>rfl⟩
  ·exact ⟨⟨rfl,h.nd.role,h.nd.steps⟩,rfl,rfl,fun r=>by rw [show c.nd.has=true from r] at e;cases e⟩
 obtain ⟨a,b,d,e⟩:=k
 exact ⟨⟨hok,rfl,a,h.cok,h.base⟩,⟨hc.cyc,b.trans hc.ncyc⟩,⟨hw.wb.trans (congrArg Hd.base d.symm),hw.wh.trans (congrArg Hd.have_ d.symm)⟩,rfl,e⟩
theorem HN {N cy:Int} {c:Cp} (h:CI 5 5 N c) (hc:CC cy c) (hw:CW c) (f:Frm) (came:Bool):CI 6 0 N (c.judge f came).1∧CC cy (c.judge f came).1∧CW (c.judge f came).1∧(c.judge f came).1.asked=c.asked∧(0≤(c.judge f came).2.1∧(c.judge f came).2.1≤255):=by
 have hok:=FL h.ok (f:=f) (came:=came)
 revert hok
 unfold Cp.judge Nd.judge
 rw [AF h.nx,cond_false,AF h.nd.nx,cond_false]
 intro hok
 refine ⟨⟨hok,rfl,⟨rfl,h.nd.role,h.nd.steps⟩,h.cok,h.base⟩,⟨hc.cyc,hc.ncyc⟩,⟨hw.wb,hw.wh⟩,rfl,?_⟩
 show 0≤cond c.nd.has _ _∧cond c.nd.has _ _≤255
 exact Ai (P:=fun z:Int=>0≤z∧z≤255) (Ai (P:=fun z:Int=>0≤z∧z≤255) (Ai (P:=fun z:Int=>0≤z∧z≤255) (by decide) (by decide)) (by decide)) (by decide)
theorem Ru {N cy:Int} {c:Cp} (h:CI 6 0 N c) (hc:CC cy c) (save:List UInt8):CI 7 0 N (c.serve save).1∧CC cy (c.serve save).1:=by
 have hok:=Qe h.ok (save:=save)
 revert hok
 unfold Cp.serve
 rw [AF h.nx,cond_false]
 refine Ai (P:=fun z:Cp×Frm×Bool×Int=>z.1.ok→CI 7 0 N z.1∧CC cy z.1) ?_ (fun hok=>⟨⟨hok,rfl,h.nd,h.cok,h.base⟩,⟨hc.cyc,hc.ncyc⟩⟩)
 unfold Cp.served
 exact Ai (P:=fun z:Cp×Frm×Bool×Int=>z.1.ok→CI 7 0 N z.1∧CC cy z.1) (fun hok=>⟨⟨hok,rfl,h.nd,h.cok,h.base⟩,⟨hc.cyc,hc.ncyc⟩⟩) (fun hok=>⟨⟨hok,rfl,h.nd,h.cok,h.base⟩,⟨hc.cyc,hc.ncyc⟩⟩)
theorem WY {c:Co} (h:0≤c.base) (p:PT):0≤(c.take p).base:=by
 unfold Co.take
 refine BZ (P:=fun z:Co=>0≤z.base) (fun hv=>?_) fun _=>h
 obtain ⟨v1,v2,v3,v4⟩:=DD hv
 exact Ai (P:=fun z:Co=>0≤z.base) h (Ai (P:=fun z:Co=>0≤z.base) (by show 0≤p.1;omega) h)
theorem Aen {c:Cp} (h:0≤c.co.base) (f:Frm) (came:Bool):0≤(c.got f came).co.base:=by
 unfold Cp.got
 exact Ai (P:=fun z:Cp=>0≤z.co.base) (Ai (P:=fun z:Cp=>0≤z.co.base) (WY h _) h) h
theorem Ain {N:Int} {c:Cp} (h:CI 7 0 N c) (hN:4611686018427387904≤N) (f:Frm) (came:Bool):CI 0 0 N (c.take f came).1:=by
 have hok:=UM h.ok (f:=f) (came:=came)
 have hnd:(c.got f came).nd=c.nd:=by
  unfold Cp.got
  exact Ai (P:=fun z:Cp=>z.nd=c.nd) (Ai (P:=fun z:Cp=>z.nd=c.nd) rfl rfl) rfl
 have hnx:(c.got f came).next=0:=by
  unfold Cp.got
  exact Ai (P:=fun z:Cp=>z.next=0) (Ai (P:=fun z:Cp=>z.next=0) rfl rfl) rfl
 have hck:=Va h.cok f came
 have hb:=Aen h.base f came
 revert hok
 unfold Cp.take
 rw [AF h.nx,cond_false]
 have hn:=h.nd
 rw [← hnd] at hn
 generalize c.got f came=q at hnx hck hb hn
 refine Ai (P:=fun z:Cp×JobT×Bool×Int=>z.1.ok→CI 0 0 N z.1) (Ai (P:=fun z:Cp×JobT×Bool×Int=>z.1.ok→CI 0 0 N z.1) ?_ (fun hok=>⟨hok,hnx,hn,hck,hb⟩)) (fun hok=>⟨hok,rfl,h.nd,h.cok,h.base⟩)
 unfold Cp.jobDone
 have ha:NI 0 N 0 (q.nd.adopt (IntKind.i64.wrap (q.co.base+(q.co.ss.length:Int)))).1:=by
  unfold Nd.adopt
  refine Ai (P:=fun z:Nd×Int=>NI 0 N 0 z.1) hn (BZ (P:=fun z:Nd×Int=>NI 0 N 0 z.1) (fun _=>hn) fun e=>⟨hn.nx,.inr (.inr rfl),?_⟩)
  simp only [Bool.or_eq_false_iff,decide_eq_false_iff_not] at e
  show 0≤IntKind.i64.wrap (q.co.base+(q.co.ss.length:Int))∧IntKind.i64.wrap (q.co.base+(q.co.ss.length:Int))≤N
  omega
 exact Ai (P:=fun z:Cp×JobT×Bool×Int=>z.1.ok→CI 0 0 N z.1) (fun hok=>⟨hok,hnx,ha,hck,hb⟩) (fun hok=>⟨hok,hnx,ha,Gm,Int.le_refl 0⟩)
theorem Ns {N:Int} (hN:0≤N) {c:Cp} (h:c.ok):CI 0 0 N c.drop:=⟨MR h,rfl,⟨rfl,.inl rfl,Int.le_refl 0,hN⟩,Gm,Int.le_refl 0⟩
theorem Nt {N:Int} (hN:0≤N) {k:Int} (h:k=1∨k=2):CI 0 0 N (newCp k):=⟨Qb h,rfl,⟨rfl,.inl rfl,Int.le_refl 0,hN⟩,Gm,Int.le_refl 0⟩
theorem Vj {N:Int} {c:Cp} (h:CI 7 0 N c) (hN:4611686018427387904≤N) (m:Mc) (f:Frm) (came:Bool):CI 0 0 N (tookA m (c.take f came)).1:=by
 have:=Ain h hN f came
 unfold tookA
 exact Ai (P:=fun z:Cp×Mc=>CI 0 0 N z.1) (Ai (P:=fun z:Cp×Mc=>CI 0 0 N z.1) (Ns (by omega) this.ok) this) this
def V:List UInt8→Nat
 | []=>0
 | b::p=>b.toNat ^^^ (V p <<< 8)
theorem Rv {n:Int} (h: -9223372036854775808≤n∧n≤9223372036854775807) (q:List UInt8):getI (putB n 8++q) 8=n:=by
 unfold getI
 rw [LO n 8 8 q (by decide) (by decide),show (256:Int) ^ 8=18446744073709551616 by decide,IntKind.wrap_i64]
 omega
structure Frm.nice (f:Frm):Prop where
 label:0≤f.label∧f.label≤255
 from_:0≤f.from_∧f.from_≤255
 cycle: -9223372036854775808≤f.cycle∧f.cycle≤9223372036854775807
 len:f.payload.length≤1000
def Mm (x:Int):Prop:= -9223372036854775808≤x∧x≤9223372036854775807
theorem Aeo (n:Int) (k:Nat) (q:List UInt8):(putB n k++q).drop k=q:=by
 rw [List.drop_append_of_le_length (by rw [Av];exact Nat.le_refl _),List.drop_of_length_le (by rw [Av];exact Nat.le_refl _),List.nil_append]
structure Tg.nice (t:Tg):Prop where
 lat:0≤t.lat∧t.lat≤255
 ver:0≤t.ver∧t.ver≤255
 ph:0≤t.ph∧t.ph≤255
 bank:Mm t.bank
 speed:Mm t.speed
 alt:Mm t.alt
 vs:Mm t.vs
structure Frm.tidy (f:Frm):Prop where
 label:0≤f.label∧f.label≤255
 from_:0≤f.from_∧f.from_≤255
 cycle:Mm f.cycle
structure Rdy (k K:Int) (c:Cp):Prop where
 kk:k=1∨k=2
 num:c.number=k
 nnum:c.nd.number=k
 nx:c.next=0
 nnx:c.nd.next=0
 role:1≤c.nd.role∧c.nd.role≤3
 steps:0≤c.nd.steps∧c.nd.steps≤K
 base:0≤c.co.base∧c.co.base≤K
 cps:c.co.ps.length≤874
 small:K≤1000000
def Cp.hd0 (c:Cp) (l:List UInt8):Hd:=⟨c.nd.role,c.nd.steps,c.w.1,c.w.2,inpC l⟩
def Co.takeO (c:Co):Option PT→Co
 | some p=>c.take p
 | none=>c
def gG (c:Cp) (p:Option PT):Cp:={ c with next:=0,co:=c.co.takeO p }
structure Mc.inR (m:Mc) (P:Int):Prop where
 sum:0≤m.sum∧m.sum≤18446744073709551615
 count:Mm m.count
 pad:m.pad=P
theorem Aep (s b:Int):0≤mix s b∧mix s b≤18446744073709551615:=TA _
theorem Vk:∀ (l:List UInt8) {s:Int},(0≤s∧s≤18446744073709551615)→0≤sumF s l∧sumF s l≤18446744073709551615
 | [],s,h=>h
 | b::l,s,h=>Vk l (Aep _ _)
theorem Rw {m:Mc} {P:Int} (h:m.inR P) (cy:Int) (l:List UInt8):(m.stepM cy l).inR P :=
 ⟨Vk l (Aep _ _),Mr _,(Iu m cy l).trans h.pad⟩
theorem Vl {P:Int}:∀ (l:List ST) {m:Mc},m.inR P→(runL m l).inR P
 | [],m,h=>h
 | x::l,m,h=>Vl l (Rw h x.2.1 x.2.2.2)
theorem Vm {m:Mc} {P:Int} (h:m.inR P) (p:List UInt8):(m.load p).1.inR P:=by
 have hr:(m.read p).inR P:=⟨TA _,Mr _,(PF m p).trans h.pad⟩
 unfold Mc.load
 exact Ai (P:=fun z:Mc×Int=>z.1.inR P) h (Ai (P:=fun z:Mc×Int=>z.1.inR P) hr h)
theorem Rx {m:Mc} {P:Int} (h:m.inR P) (i:List UInt8) (x:Se):(stepA i m x).inR P:=by
 unfold stepA
 exact Rw (Ai (P:=fun z:Mc=>z.inR P) (Vm h i) h) _ _
theorem Mn {m S:Mc} {P:Int} (h0:0≤P) (h1:P≤1000000) (hm:m.inR P) (hS:S.inR P):m.load (saveB S)=(S,0):=by
 have hl:=EG S
 have hp:=hS.pad
 have hpm:=hm.pad
 have e1:getI (saveB S) 8=IntKind.i64.wrap S.sum:=by
  have:saveB S=putB (IntKind.i64.wrap S.sum) 8++(putB S.count 8++(List.range S.pad.toNat).map (padB S.sum)):=by simp [saveB]
  rw [this];exact Rv (Mr _) _
 have e2:getI ((saveB S).drop 8) 8=S.count:=by
  have:saveB S=putB (IntKind.i64.wrap S.sum) 8++(putB S.count 8++(List.range S.pad.toNat).map (padB S.sum)):=by simp [saveB]
  rw [this,Aeo];exact Rv hS.count _
 have e3:IntKind.u64.wrap (IntKind.i64.wrap S.sum)=S.sum:=by
  have:=hS.sum
  rw [IntKind.wrap_u64,IntKind.wrap_i64];omega
 have hr:m.read (saveB S)=S:=by
  unfold Mc.read
  rw [e1,e2,e3,hpm,← hp]
 unfold Mc.load
 rw [hr,AF (by omega),cond_false,beq_self_eq_true,cond_true]
def dataL (s:List UInt8) (k:Nat):List (List UInt8):=(List.range k).map fun i=>(pcAt 0 s i).2.2.2
structure Link (co:Co) (ci:Cp) (mi:Mc) (P:Int):Prop where
 ex:∃ S:Mc,S.inR P∧co.count=(pieces (saveB S):Int)∧(∃ k,1≤k∧k≤pieces (saveB S)∧co.ps=dataL (saveB S) k)∧mi=runL S co.ss∧(∀ s,ci.ps=splitL co.base s→s=saveB S)
 base:1≤co.base
 steps:ci.nd.steps=co.base+(co.ss.length:Int)
end Go.Proofs.YtpleflcfaecojaaGreat
