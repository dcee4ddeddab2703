/-
ResyncAlike returns true for every input. Conditions: none.
-/
import Derived.Test.YtpleflcfaecojaaGreatM21
import Derived.Test.YtpleflcfaecojaaGreatRows
namespace Go.Proofs.YtpleflcfaecojaaGreat
set_option linter.unusedVariables false
set_option linter.unusedSimpArgs false
set_option maxRecDepth 100000
open Go.RowKit
structure NextOk (P K:Int) (a b:Bool) (q:W):Prop where
 f1:a=true→Fit 1 K q.c1
 f2:b=true→Fit 2 K q.c2
 m1:q.m1.inR P
 m2:q.m2.inR P
 r12:a=true→Rel P q.c1 q.m1 b q.c2 q.m2
 r21:b=true→Rel P q.c2 q.m2 a q.c1 q.m1
 told:a=true→q.r.st1=4→q.r.t1=q.r.t2
 off:a=false→q.r.st1=1
 role1:q.r.role1=cond a q.c1.nd.role 0
 role2:q.r.role2=cond b q.c2.nd.role 0
 steps1:a=true→q.r.steps1=q.c1.nd.steps
 steps2:b=true→q.r.steps2=q.c2.nd.steps
theorem all_next {P K cy:Int} {a b:Bool} {w:W} {v:Ev} {one two:List UInt8} (h0:0≤P) (h1:P≤10000) (hK:0≤K) (hK2:K+1≤1000000) (hf1:Fit 1 K w.c1) (hf2:Fit 2 K w.c2) (hm1:w.m1.inR P) (hm2:w.m2.inR P)
  (r12:RelE P w.c1 w.m1 b w.c2 w.m2) (r21:RelE P w.c2 w.m2 a w.c1 w.m1) (hw:w.p.cycle=cy) (hc:0≤cy∧cy≤1000000) (ht1:w.r.t1.nice) (ht2:w.r.t2.nice) (hst:w.r.st1=1) (hro1:w.r.role1=0) (hro2:w.r.role2=0) :
  NextOk P (K+1) a b (((w.early a b v one two).step a b v).late a b v):=by
 obtain ⟨o1,o2,c1,c2,ho1,ho2⟩:=st_hear (w:=w) (a:=a) (b:=b) (fun _=>hf1.rdy) (fun _=>hf2.rdy) hw hc v one two
 have hS:=st_share (w:=(w.ex0 a b v one two).hear a b) (a:=a) (b:=b) (one:=one) (two:=two) (fun _=>hf1.rdy) (fun _=>hf2.rdy) c1 c2 hw hc v
 have hE:((w.ex0 a b v one two).hear a b).ex1 a b v=w.early a b v one two:=rfl
 rw [hE] at hS
 obtain ⟨s1,s2,⟨y1,y1a,y1b⟩,⟨y2,y2a,y2b⟩⟩:=hS
 have em1:(w.early a b v one two).m1=w.m1:=rfl
 have em2:(w.early a b v one two).m2=w.m2:=rfl
 have ep:=early_p w a b v one two
 have er:=early_r w a b v one two
 generalize w.early a b v one two=u at s1 s2 y1a y2a em1 em2 ep er
 have hT:=st_step (w:=u) (a:=a) (b:=b) (fun _=>hf1.rdy) (fun _=>hf2.rdy) s1 s2 y1a y2a v
 rw [ep,em1,em2] at hT
 have hp3:(u.step a b v).p.cycle=cy:=by rw [step_p,ep];exact hw
 obtain ⟨n1,n2⟩:=stepA1_n (u:=u) a v (by rw [er];exact ht1) (by rw [er];exact ht2)
 obtain ⟨n3,n4⟩:=stepA2_n (u:=u.stepA1 a v) b v n1 n2
 have n5:(u.step a b v).r.t2.nice:=n4
 have hsr:=step_r u a b v
 rw [er] at hsr
 have no1:a=false→(u.step a b v).m1=w.m1:=fun e=>by subst e;rw [step_no1,em1]
 have no2:b=false→(u.step a b v).m2=w.m2:=fun e=>by subst e;rw [step_no2,em2]
 generalize u.step a b v=x at hT hp3 n5 hsr no1 no2
 have hd1:a=true→DFit 1 K cy x.c1:=fun e=>by rw [(hT.1 e).1];exact dfit_of hf1 one o1 y1
 have hd2:b=true→DFit 2 K cy x.c2:=fun e=>by rw [(hT.2 e).1];exact dfit_of hf2 two o2 y2
 obtain ⟨p1,p2,l1,l2,l3,l4⟩:=st_late (w:=x) (a:=a) (b:=b) hd1 hd2 hp3 hc v
 have ho1':o1=none∨o1=some (w.c2.hd0 two):=ho1.imp id And.right
 have ho2':o2=none∨o2=some (w.c1.hd0 one):=ho2.imp id And.right
 have side1:a=true→Fit 1 (K+1) (x.late a b v).c1∧Rel P (x.late a b v).c1 (x.late a b v).m1 b (Ee (Dv w.c2 cy two o2 y2) x.r.t2 (mD w.p.init w.c2 cy two o2 y2 w.m2) p2).1 (Ee (Dv w.c2 cy two o2 y2) x.r.t2 (mD w.p.init w.c2 cy two o2 y2 w.m2) p2).2∧(x.late a b v).m1.inR P:=fun e=>by
  rw [(l1 e).1,(l1 e).2,(hT.1 e).1,(hT.1 e).2]
  refine side_end h0 h1 hK hK2 hf1 (fun _=>hf2) hm1 hm2 r12 ho1 ho2' y1b (fun z hz=>?_)
  have:=l3 z hz
  rw [(hT.2 this.1).1,(hT.2 this.1).2] at this
  exact this
 have side2:b=true→Fit 2 (K+1) (x.late a b v).c2∧Rel P (x.late a b v).c2 (x.late a b v).m2 a (Ee (Dv w.c1 cy one o1 y1) x.r.t1 (mD w.p.init w.c1 cy one o1 y1 w.m1) p1).1 (Ee (Dv w.c1 cy one o1 y1) x.r.t1 (mD w.p.init w.c1 cy one o1 y1 w.m1) p1).2∧(x.late a b v).m2.inR P:=fun e=>by
  rw [(l2 e).1,(l2 e).2,(hT.2 e).1,(hT.2 e).2]
  refine side_end h0 h1 hK hK2 hf2 (fun _=>hf1) hm2 hm1 r21 ho2 ho1' y2b (fun z hz=>?_)
  have:=l4 z hz
  rw [(hT.1 this.1).1,(hT.1 this.1).2] at this
  exact this
 have hr:=late_role x a b v
 refine ⟨fun e=>(side1 e).1,fun e=>(side2 e).1,?_,?_,fun e=>?_,fun e=>?_,fun e hs=>?_,fun e=>?_,?_,?_,fun e=>?_,fun e=>?_⟩
 ·cases ha:a with
  | true=>rw [← ha];exact (side1 ha).2.2
  | false=>subst ha;rw [late_m1,no1 rfl];exact hm1
 ·cases hb:b with
  | true=>rw [← hb];exact (side2 hb).2.2
  | false=>subst hb;rw [late_m2,no2 rfl];exact hm2
 ·have:=(side1 e).2.1
  cases hb:b with
  | true=>rw [← hb,(l2 hb).1,(l2 hb).2,(hT.2 hb).1,(hT.2 hb).2];exact this
  | false=>subst hb;exact rel_false this
 ·have:=(side2 e).2.1
  cases ha:a with
  | true=>rw [← ha,(l1 ha).1,(l1 ha).2,(hT.1 ha).1,(hT.1 ha).2];exact this
  | false=>subst ha;exact rel_false this
 ·have hd:=hd1 e
  subst e
  rw [late_st1,cond_true] at hs
  exact judge_same (w:=x) hd hd2 hp3 hc n5 v hs
 ·subst e
  rw [late_st1,cond_false,hsr.1];exact hst
 ·rw [hr.1,hsr.2.1,hro1]
 ·rw [hr.2.1,hsr.2.2,hro2]
 ·subst e;rw [hr.2.2.1];rfl
 ·subst e;rw [hr.2.2.2];rfl
theorem fin_keep (u:W):u.fin.c1=u.c1∧u.fin.c2=u.c2∧u.fin.m1=u.m1∧u.fin.m2=u.m2∧u.fin.r.st1=u.r.st1∧u.fin.r.t1=u.r.t1∧u.fin.r.t2=u.r.t2∧u.fin.r.role1=u.r.role1∧u.fin.r.role2=u.r.role2∧u.fin.r.steps1=u.r.steps1∧u.fin.r.steps2=u.r.steps2:=⟨rfl,rfl,rfl,rfl,rfl,rfl,rfl,rfl,rfl,rfl,rfl⟩
theorem fin_next {P K:Int} {a b:Bool} {u:W} (h:NextOk P K a b u):NextOk P K a b u.fin:=by
 obtain ⟨e1,e2,e3,e4,e5,e6,e7,e8,e9,e10,e11⟩:=fin_keep u
 refine ⟨?_,?_,?_,?_,?_,?_,?_,?_,?_,?_,?_,?_⟩
 ·rw [e1];exact h.f1
 ·rw [e2];exact h.f2
 ·rw [e3];exact h.m1
 ·rw [e4];exact h.m2
 ·rw [e1,e2,e3,e4];exact h.r12
 ·rw [e1,e2,e3,e4];exact h.r21
 ·rw [e5,e6,e7];exact h.told
 ·rw [e5];exact h.off
 ·rw [e8,e1];exact h.role1
 ·rw [e9,e2];exact h.role2
 ·rw [e10,e1];exact h.steps1
 ·rw [e11,e2];exact h.steps2
theorem cyc_next {P K cy:Int} {a b:Bool} {w:W} (v:Ev) (one two:List UInt8) (h0:0≤P) (h1:P≤10000) (hK:0≤K) (hK2:K+1≤1000000) (h:Good P K a b w) :
  NextOk P (K+1) (evA a v.s1 v.r1) (evA b v.s2 v.r2) (cycW a b w.p w.m1 w.m2 w.c1 w.c2 v one two):=by
 have hc:IntKind.i64.wrap (w.p.cycle+1)=K+1:=by rw [h.cyc,wr64 (by omega)]
 have g1:=evK_fit (s:=v.s1) (k:=v.k1) (.inl rfl) hK (by omega) h.f1
 have g2:=evK_fit (s:=v.s2) (k:=v.k2) (.inr rfl) hK (by omega) h.f2
 have r1:=rel_events (s:=v.s1) (t:=v.s2) (k:=v.k1) (k':=v.k2) (r:=false) (r':=v.r2) (n:=1) (n':=2) h.r12
 have r2:=rel_events (s:=v.s2) (t:=v.s1) (k:=v.k2) (k':=v.k1) (r:=false) (r':=v.r1) (n:=2) (n':=1) h.r21
 unfold cycW
 generalize evK a v.s1 v.k1 w.c1 1=c1 at g1 r1 r2
 generalize evK b v.s2 v.k2 w.c2 2=c2 at g2 r1 r2
 obtain ⟨t1,t2,s1,s2,o1,o2⟩:=start_r w.p w.m1 w.m2 c1 c2
 rw [all_late]
 refine fin_next ?_
 exact all_next (w:=start w.p w.m1 w.m2 c1 c2) (cy:=K+1) h0 h1 hK hK2 g1 g2 h.m1 h.m2 r1 r2 hc ⟨by omega,by omega⟩ (by rw [t1];exact noTg_nice) (by rw [t2];exact noTg_nice) s1 o1 o2
theorem saveOf_eq {c:Cp} (m:Mc) (h:c.nd.role≠1):saveOf c m=saveB m:=by
 unfold saveOf
 rw [beq_eq_false_iff_ne.2 h]
 rfl
theorem same_of {P K:Int} {q:W} (h:NextOk P K true true q):SameB q:=by
 intro hp _
 have hr1:=h.role1
 have hr2:=h.role2
 rw [cond_true] at hr1 hr2
 have hl:=saveB_len q.m1
 have hne:saveB q.m1≠[]:=fun e=>by
  rw [e] at hl
  have:=h.m1
  simp at hl
  omega
 unfold pairB at hp
 rw [hr1,hr2] at hp
 simp only [Bool.or_eq_true,Bool.and_eq_true,beq_iff_eq] at hp
 rcases hp with ⟨p1,p2⟩ | ⟨p1,p2⟩
 ·have:=((h.r21 rfl).foll p2).2.2.2
  rw [saveOf_eq q.m1 (by omega),saveOf_eq q.m2 (by omega)]
  exact ⟨by rw [this],hne⟩
 ·have:=((h.r12 rfl).foll p1).2.2.2
  rw [saveOf_eq q.m1 (by omega),saveOf_eq q.m2 (by omega)]
  exact ⟨by rw [this],hne⟩
theorem pair_dead {P K:Int} {a b:Bool} {q:W} (h:NextOk P K a b q) (hab:(a&&b)=false):pairB q=false:=by
 have hr1:=h.role1
 have hr2:=h.role2
 unfold pairB
 cases ha:a with
 | false=>subst ha;rw [hr1];rfl
 | true =>
  cases hb:b with
  | false=>subst hb;rw [hr2,cond_false,show ((0:Int)==3)=false from rfl,show ((0:Int)==2)=false from rfl,Bool.and_false,Bool.and_false];rfl
  | true=>subst ha;subst hb;cases hab
theorem next_al {P K:Int} {a b:Bool} {w q:W} (h0:0≤P) (h1:P≤10000) (hK:0≤K) (hK2:K+1≤1000000) (h:Good P K a b w) {v:Ev} {one two:List UInt8} (hq:cycW a b w.p w.m1 w.m2 w.c1 w.c2 v one two=q) :
  Good P (K+1) (evA a v.s1 v.r1) (evA b v.s2 v.r2) q∧AlikeA q∧((evA a v.s1 v.r1&&evA b v.s2 v.r2)=true→q.ok true true∧SameB q)∧((evA a v.s1 v.r1&&evA b v.s2 v.r2)=false→pairB q=false):=by
 have hN:=cyc_next (cy:=K+1) v one two h0 h1 hK hK2 h
 have hO:=cycW_ok h.ok v one two
 have hP:(cycW a b w.p w.m1 w.m2 w.c1 w.c2 v one two).p.cycle=K+1:=by
  unfold cycW
  rw [all_p]
  show IntKind.i64.wrap (w.p.cycle+1)=K+1
  rw [h.cyc,wr64 (by omega)]
 rw [hq] at hN hO hP
 generalize evA a v.s1 v.r1=x at hN hO
 generalize evA b v.s2 v.r2=y at hN hO
 refine ⟨⟨hO,hN.f1,hN.f2,hN.m1,hN.m2,hN.r12,hN.r21,hP⟩,fun s1 _=>?_,fun e=>?_,pair_dead hN⟩
 ·cases hx:x with
  | true=>exact hN.told hx s1
  | false=>have:=hN.off hx;omega
 ·have ex:x=true:=by cases x <;> first | rfl | cases e
  have ey:y=true:=by cases y <;> first | rfl | (cases x <;> cases e)
  subst ex;subst ey
  exact ⟨hO,same_of hN⟩
abbrev CdW:Cd:=(.p (.i .u64) (.p (.i .u16) (.p (.p (.i .i64) (.p (.i .i64) (.p (.i .i64) (.i .i64)))) (.a (.p (.a .y) (.p (.a .y) (.p (.p .b .b) (.p (.p .b .b) (.p (.p .b .b) (.p (.p (.i .i64) (.i .i64)) (.p (.p (.p .b (.p (.i .i64) (.i .u32))) (.p (.p .b (.p (.i .i64) (.i .u32))) (.p (.p .b (.p (.i .i64) (.i .u32))) (.p .b (.p (.i .i64) (.i .u32)))))) (.p (.p .b (.p (.i .i64) (.i .u32))) (.p (.p .b (.p (.i .i64) (.i .u32))) (.p (.p .b (.p (.i .i64) (.i .u32))) (.p .b (.p (.i .i64) (.i .u32)))))))))))))))))
abbrev WdT:Type:=Int×Int×(Int×Int×Int×Int)×List CyT
theorem world_in {p:Psi} {cs:List Value} {x:WdT} (h:CdW.ty.rep p cs x):(0≤x.1∧x.1≤18446744073709551615)∧(0≤x.2.1∧x.2.1≤65535):=by
 obtain ⟨c1,c2,e,h1,c3,c4,e2,h2,h3⟩:=h
 exact ⟨⟨h1.2.1,h1.2.2⟩,⟨h2.2.1,h2.2.2⟩⟩
def woOf (x:WdT):WoT:=((x.1,x.2.1,x.2.2.1.1),(x.2.2.1.2.1,x.2.2.1.2.2.1),x.2.2.1.2.2.2,x.2.2.2)
theorem body_Al {P:Int} {wo:WoT} {k:Nat} (hk:((k:Nat):Int) < ((wo.2.2.2.length:Nat):Int)) (h24:((k:Nat):Int) < 24) (h0:0≤P) (h1:P≤10000) {w:W} {a b:Bool} (h:Good P ((k:Nat):Int) a b w) :
  ∃ a' b' q,o3_b0 (encAl a b ((k:Nat):Int) wo w)=some (Ctl.go (encAl a' b' ((k+1:Nat):Int) wo q))∧Good P ((k+1:Nat):Int) a' b' q:=by
 obtain ⟨q,hq⟩:∃ q,cycW a b w.p w.m1 w.m2 w.c1 w.c2 (evOf (wo.2.2.2.getD k noCy)) ((wo.2.2.2.getD k noCy).1.take 20) ((wo.2.2.2.getD k noCy).2.1.take 20)=q:=⟨_,rfl⟩
 obtain ⟨g1,g2,g3,g4⟩:=next_al h0 h1 (by omega) (by omega) h hq
 refine ⟨_,_,q,?_,g1⟩
 cases a <;> cases b
 ·exact bAl_00 hk h24 h.ok hq g2 g3 g4
 ·exact bAl_01 hk h24 h.ok hq g2 g3 g4
 ·exact bAl_10 hk h24 h.ok hq g2 g3 g4
 ·exact bAl_11 hk h24 h.ok hq g2 g3 g4
theorem end_Al {wo:WoT} {k:Nat} (hk:¬ (((k:Nat):Int) < ((wo.2.2.2.length:Nat):Int)∧((k:Nat):Int) < 24)) (w:W) (a b:Bool):o3_b0 (encAl a b ((k:Nat):Int) wo w)=some (Ctl.done true):=by
 cases a <;> cases b
 ·exact eAl_00 hk
 ·exact eAl_01 hk
 ·exact eAl_10 hk
 ·exact eAl_11 hk
theorem good_new {P:Int} {m:Mc} {r1 r2 r3 r4:Int} (hm:m.inR P) (hok:(newW m r1 r2 r3 r4).ok true true):Good P 0 true true (newW m r1 r2 r3 r4):=by
 have hf:∀ n,n=1∨n=2→Fit n 0 (newCp n):=fun n hn=>⟨⟨hn,rfl,rfl,rfl,rfl,(by show (1:Int)≤1∧(1:Int)≤3;decide),⟨Int.le_refl _,Int.le_refl _⟩,⟨Int.le_refl _,Int.le_refl _⟩,Nat.zero_le _,by decide⟩,.inl rfl,fun _=>rfl,fun _=>rfl⟩
 exact ⟨hok,fun _=>hf 1 (.inl rfl),fun _=>hf 2 (.inr rfl),hm,hm,fun _=>⟨fun e=>(by cases e),fun _ hne=>absurd rfl hne⟩,fun _=>⟨fun e=>(by cases e),fun _ hne=>absurd rfl hne⟩,rfl⟩
theorem alike_plain {x:WoT} (hs:0≤x.1.1∧x.1.1≤18446744073709551615) (h:0≤x.1.2.1∧x.1.2.1≤65535):o3 x=some true:=by
 have hp:=mcOf_pad h
 unfold o3
 refine (bdS awake_yes).trans ((cndF rfl).trans ?_)
 refine (bdS (t:=Sum.inr ((((x,(wOf x).p.e),(wOf x).m1.e,(wOf x).m2.e),((wOf x).c1.h,(wOf x).c2.h),(wOf x).c1.nd.e,(wOf x).c1.ps),(((wOf x).c1.cz,(wOf x).c2.nd.e),(wOf x).c2.ps,(wOf x).c2.cz),((wOf x).c1.co.ps,(wOf x).c1.co.ss),(wOf x).c2.co.ps,(wOf x).c2.co.ss)) ((bdS (o8_eq h)).trans rfl)).trans ?_
 have hloop:∃ r,loopO fuelN o3_b0 (encAl true true ((0:Nat):Int) x (wOf x))=some r∧r=true:=by
  refine loop_inv (n:=min x.2.2.2.length 24) (Q:=fun r=>r=true) (fun k s=>∃ a b w,s=encAl a b ((k:Nat):Int) x w∧Good (mcOf x).pad ((k:Nat):Int) a b w) ?_ ?_ (by omega) ?_
  ·rintro k s hk ⟨a,b,w,rfl,hw⟩
   obtain ⟨a',b',q,e,g⟩:=body_Al (wo:=x) (k:=k) (by omega) (by omega) hp.1 (by omega) hw
   exact ⟨_,e,a',b',q,rfl,g⟩
  ·rintro s ⟨a,b,w,rfl,hw⟩
   exact ⟨true,end_Al (by omega) _ _ _,rfl⟩
  ·refine ⟨true,true,wOf x,rfl,?_⟩
   exact good_new ⟨hs,(by show (-9223372036854775808:Int)≤0∧(0:Int)≤9223372036854775807;decide),rfl⟩ (wOf_ok h true true)
 obtain ⟨r,hr,rfl⟩:=hloop
 exact hr
theorem alike_law {p:Psi} {cs:List Value} {x:WdT} (h:CdW.ty.rep p cs x):o3 (woOf x)=some true:=alike_plain (x:=woOf x) (world_in h).1 (world_in h).2
theorem slots_of {g:Gh} {ρ:Env} {bl:List BV}:∀ {l:List SV} {vs:List Value} (i:Nat),All2 (RealS g ρ bl) l vs→∀ t sv,getH (argH i l) t=some sv→∃ v,getS (argS i vs) t=some v∧RealS g ρ bl sv v
 | [],[],i,_,t,sv,e=>by cases e
 | s::l,v::vs,i,h,t,sv,e=>by
  have e:cond (Nat.beq i t) (some s) (getH (argH (i+1) l) t)=some sv:=e
  show ∃ u,cond (Nat.beq i t) (some v) (getS (argS (i+1) vs) t)=some u∧_
  cases hb:Nat.beq i t with
  | true=>rw [hb] at e;injection e with e;subst e;exact ⟨v,rfl,h.1⟩
  | false=>rw [hb] at e;exact slots_of (i+1) h.2 t sv e
 | [],_::_,_,h,_,_,_=>h.elim
 | _::_,[],_,h,_,_,_=>h.elim
def r0:List Sch:=[⟨[(0,.v (.c .b))],[]⟩]
theorem law_of_fok {P:Program} {f:FuncId} {ps:Sch} {run:HT ps.tr→Option Bool} (h:FOk P f ⟨ps,r0,run⟩) {t:HT ps.tr} (hr:run t=some true) (l:List SV) (hc:conT ps t=some ⟨argH 0 l,[]⟩) {W:World} (hW:GI (psiOf W)) {vs:List Value}
  (hv:All2 (RealS (gh0 W) (fun _=>(none,0)) []) l vs) (hl:vs.length=ps.sl.length):Calls P f vs.toArray W fun e w'=>e = .returned (.bool true)∧Below W.heap.size W w':=by
 have hR:Rl (gh0 W) (fun _=>(none,0)) ⟨argH 0 l,[]⟩ [] (argS 0 vs):=⟨rfl,fun i bv k e=>(by cases e),fun t sv e=>slots_of 0 hv t sv e,hW⟩
 refine law_of_ctr (P:=P) (f:=f) (args:=vs) ((h t true _ hr hc (gh0 W) _ [] vs hR hl).mono fun v ψ o hle ⟨str,ρ',h1,h2,h3,h4⟩=>?_)
 have e:altC r0 true=some ⟨[(0,vC (.bool true))],[]⟩:=rfl
 have h1:altC r0 true=some str:=h1
 rw [e] at h1
 injection h1 with h1;subst h1
 obtain ⟨u,h5,h6⟩:=h3.slot 0 _ rfl
 injection h5 with h5
 have h6:u = .bool true:=h6
 have hlen:o.length=0:=h3.len
 exact ⟨List.length_eq_zero_iff.1 hlen,by rw [h5,h6]⟩
section
variable {P:Program} {t:TypeId}
theorem opIR {k:IntKind} (ht:P.underlying t=some (.int k)):Opens P t (tyIR k) (fun _=>True):=fun h hw=>by
 obtain ⟨x,h1,h2⟩:=opens_int ht h hw
 exact ⟨x,⟨h1,h2⟩,trivial⟩
theorem opBR (ht:P.underlying t=some .bool):Opens P t tyB (fun _=>True):=opens_bool ht
end
theorem gi_of (W:World):GI (psiOf W):=fun _ _=>trivial
open Go.RowKit Go.WideShapes Go.ChangeShapes Go.ChangeAt
theorem opH25:Opens Tryz.prog 25 (Cd.ty (.p (.i .i64) (.p (.i .i64) (.p (.i .i64) (.i .i64))))) (fun _=>True):=by
 intro H enc w base spare held fuel cs d pl h hw
 obtain ⟨hlen,hf⟩:=struct_fields Tryz.underlying25 h hw
 rw [show Tryz.prog.cellsOf 25=4 by kernel_rfl] at hlen
 match cs,hlen with
 | [c0,c1,c2,c3],_ =>
  obtain ⟨n0,d0,p0,h0,w0⟩:=hf 0 _ rfl
  simp [show Tryz.prog.cellsOf 2=1 by kernel_rfl] at h0
  obtain ⟨x0,r0,_⟩:=(opIR Tryz.underlying2) h0 w0
  obtain ⟨n1,d1,p1,h1,w1⟩:=hf 1 _ rfl
  simp [show Tryz.prog.cellsOf 2=1 by kernel_rfl] at h1
  obtain ⟨x1,r1,_⟩:=(opIR Tryz.underlying2) h1 w1
  obtain ⟨n2,d2,p2,h2,w2⟩:=hf 2 _ rfl
  simp [show Tryz.prog.cellsOf 2=1 by kernel_rfl] at h2
  obtain ⟨x2,r2,_⟩:=(opIR Tryz.underlying2) h2 w2
  obtain ⟨n3,d3,p3,h3,w3⟩:=hf 3 _ rfl
  simp [show Tryz.prog.cellsOf 2=1 by kernel_rfl] at h3
  obtain ⟨x3,r3,_⟩:=(opIR Tryz.underlying2) h3 w3
  exact ⟨(x0,x1,x2,x3),⟨[c0],[c1]++[c2]++[c3],rfl,r0,⟨[c1],[c2]++[c3],rfl,r1,⟨[c2],[c3],rfl,r2,r3⟩⟩⟩,trivial⟩
theorem opH34:Opens Tryz.prog 34 (Cd.ty (.p .b .b)) (fun _=>True):=by
 intro H enc w base spare held fuel cs d pl h hw
 obtain ⟨hlen,hf⟩:=array_fields Tryz.underlying34 h hw
 rw [show Tryz.prog.cellsOf 34=2 by kernel_rfl] at hlen
 match cs,hlen with
 | [c0,c1],_ =>
  obtain ⟨n0,d0,p0,h0,w0⟩:=hf 0 (by decide)
  simp [show Tryz.prog.cellsOf 4=1 by kernel_rfl] at h0
  obtain ⟨x0,r0,_⟩:=(opBR Tryz.underlying4) h0 w0
  obtain ⟨n1,d1,p1,h1,w1⟩:=hf 1 (by decide)
  simp [show Tryz.prog.cellsOf 4=1 by kernel_rfl] at h1
  obtain ⟨x1,r1,_⟩:=(opBR Tryz.underlying4) h1 w1
  exact ⟨(x0,x1),⟨[c0],[c1],rfl,r0,r1⟩,trivial⟩
theorem opH35:Opens Tryz.prog 35 (Cd.ty (.p (.i .i64) (.i .i64))) (fun _=>True):=by
 intro H enc w base spare held fuel cs d pl h hw
 obtain ⟨hlen,hf⟩:=array_fields Tryz.underlying35 h hw
 rw [show Tryz.prog.cellsOf 35=2 by kernel_rfl] at hlen
 match cs,hlen with
 | [c0,c1],_ =>
  obtain ⟨n0,d0,p0,h0,w0⟩:=hf 0 (by decide)
  simp [show Tryz.prog.cellsOf 2=1 by kernel_rfl] at h0
  obtain ⟨x0,r0,_⟩:=(opIR Tryz.underlying2) h0 w0
  obtain ⟨n1,d1,p1,h1,w1⟩:=hf 1 (by decide)
  simp [show Tryz.prog.cellsOf 2=1 by kernel_rfl] at h1
  obtain ⟨x1,r1,_⟩:=(opIR Tryz.underlying2) h1 w1
  exact ⟨(x0,x1),⟨[c0],[c1],rfl,r0,r1⟩,trivial⟩
theorem opH38:Opens Tryz.prog 38 (Cd.ty (.p .b (.p (.i .i64) (.i .u32)))) (fun _=>True):=by
 intro H enc w base spare held fuel cs d pl h hw
 obtain ⟨hlen,hf⟩:=struct_fields Tryz.underlying38 h hw
 rw [show Tryz.prog.cellsOf 38=3 by kernel_rfl] at hlen
 match cs,hlen with
 | [c0,c1,c2],_ =>
  obtain ⟨n0,d0,p0,h0,w0⟩:=hf 0 _ rfl
  simp [show Tryz.prog.cellsOf 4=1 by kernel_rfl] at h0
  obtain ⟨x0,r0,_⟩:=(opBR Tryz.underlying4) h0 w0
  obtain ⟨n1,d1,p1,h1,w1⟩:=hf 1 _ rfl
  simp [show Tryz.prog.cellsOf 3=1 by kernel_rfl] at h1
  obtain ⟨x1,r1,_⟩:=(opIR Tryz.underlying3) h1 w1
  obtain ⟨n2,d2,p2,h2,w2⟩:=hf 2 _ rfl
  simp [show Tryz.prog.cellsOf 36=1 by kernel_rfl] at h2
  obtain ⟨x2,r2,_⟩:=(opIR Tryz.underlying36) h2 w2
  exact ⟨(x0,x1,x2),⟨[c0],[c1]++[c2],rfl,r0,⟨[c1],[c2],rfl,r1,r2⟩⟩,trivial⟩
theorem opH39:Opens Tryz.prog 39 (Cd.ty (.p (.p .b (.p (.i .i64) (.i .u32))) (.p (.p .b (.p (.i .i64) (.i .u32))) (.p (.p .b (.p (.i .i64) (.i .u32))) (.p .b (.p (.i .i64) (.i .u32))))))) (fun _=>True):=by
 intro H enc w base spare held fuel cs d pl h hw
 obtain ⟨hlen,hf⟩:=array_fields Tryz.underlying39 h hw
 rw [show Tryz.prog.cellsOf 39=12 by kernel_rfl] at hlen
 match cs,hlen with
 | [c0,c1,c2,c3,c4,c5,c6,c7,c8,c9,c10,c11],_ =>
  obtain ⟨n0,d0,p0,h0,w0⟩:=hf 0 (by decide)
  simp [show Tryz.prog.cellsOf 38=3 by kernel_rfl] at h0
  obtain ⟨x0,r0,_⟩:=opH38 h0 w0
  obtain ⟨n1,d1,p1,h1,w1⟩:=hf 1 (by decide)
  simp [show Tryz.prog.cellsOf 38=3 by kernel_rfl] at h1
  obtain ⟨x1,r1,_⟩:=opH38 h1 w1
  obtain ⟨n2,d2,p2,h2,w2⟩:=hf 2 (by decide)
  simp [show Tryz.prog.cellsOf 38=3 by kernel_rfl] at h2
  obtain ⟨x2,r2,_⟩:=opH38 h2 w2
  obtain ⟨n3,d3,p3,h3,w3⟩:=hf 3 (by decide)
  simp [show Tryz.prog.cellsOf 38=3 by kernel_rfl] at h3
  obtain ⟨x3,r3,_⟩:=opH38 h3 w3
  exact ⟨(x0,x1,x2,x3),⟨[c0,c1,c2],[c3,c4,c5]++[c6,c7,c8]++[c9,c10,c11],rfl,r0,⟨[c3,c4,c5],[c6,c7,c8]++[c9,c10,c11],rfl,r1,⟨[c6,c7,c8],[c9,c10,c11],rfl,r2,r3⟩⟩⟩,trivial⟩
theorem opH40:Opens Tryz.prog 40 (Cd.ty (.p (.p (.p .b (.p (.i .i64) (.i .u32))) (.p (.p .b (.p (.i .i64) (.i .u32))) (.p (.p .b (.p (.i .i64) (.i .u32))) (.p .b (.p (.i .i64) (.i .u32)))))) (.p (.p .b (.p (.i .i64) (.i .u32))) (.p (.p .b (.p (.i .i64) (.i .u32))) (.p (.p .b (.p (.i .i64) (.i .u32))) (.p .b (.p (.i .i64) (.i .u32)))))))) (fun _=>True):=by
 intro H enc w base spare held fuel cs d pl h hw
 obtain ⟨hlen,hf⟩:=array_fields Tryz.underlying40 h hw
 rw [show Tryz.prog.cellsOf 40=24 by kernel_rfl] at hlen
 match cs,hlen with
 | [c0,c1,c2,c3,c4,c5,c6,c7,c8,c9,c10,c11,c12,c13,c14,c15,c16,c17,c18,c19,c20,c21,c22,c23],_ =>
  obtain ⟨n0,d0,p0,h0,w0⟩:=hf 0 (by decide)
  simp [show Tryz.prog.cellsOf 39=12 by kernel_rfl] at h0
  obtain ⟨x0,r0,_⟩:=opH39 h0 w0
  obtain ⟨n1,d1,p1,h1,w1⟩:=hf 1 (by decide)
  simp [show Tryz.prog.cellsOf 39=12 by kernel_rfl] at h1
  obtain ⟨x1,r1,_⟩:=opH39 h1 w1
  exact ⟨(x0,x1),⟨[c0,c1,c2,c3,c4,c5,c6,c7,c8,c9,c10,c11],[c12,c13,c14,c15,c16,c17,c18,c19,c20,c21,c22,c23],rfl,r0,r1⟩,trivial⟩
theorem opH42:Opens Tryz.prog 42 (Cd.ty (.p (.p .b .b) (.p (.p .b .b) (.p (.p .b .b) (.p (.p (.i .i64) (.i .i64)) (.p (.p (.p .b (.p (.i .i64) (.i .u32))) (.p (.p .b (.p (.i .i64) (.i .u32))) (.p (.p .b (.p (.i .i64) (.i .u32))) (.p .b (.p (.i .i64) (.i .u32)))))) (.p (.p .b (.p (.i .i64) (.i .u32))) (.p (.p .b (.p (.i .i64) (.i .u32))) (.p (.p .b (.p (.i .i64) (.i .u32))) (.p .b (.p (.i .i64) (.i .u32)))))))))))) (fun _=>True):=by
 intro H enc w base spare held fuel cs d pl h hw
 obtain ⟨hlen,hf⟩:=struct_fields Tryz.underlying42 h hw
 rw [show Tryz.prog.cellsOf 42=32 by kernel_rfl] at hlen
 match cs,hlen with
 | [c0,c1,c2,c3,c4,c5,c6,c7,c8,c9,c10,c11,c12,c13,c14,c15,c16,c17,c18,c19,c20,c21,c22,c23,c24,c25,c26,c27,c28,c29,c30,c31],_ =>
  obtain ⟨n0,d0,p0,h0,w0⟩:=hf 0 _ rfl
  simp [show Tryz.prog.cellsOf 34=2 by kernel_rfl] at h0
  obtain ⟨x0,r0,_⟩:=opH34 h0 w0
  obtain ⟨n1,d1,p1,h1,w1⟩:=hf 1 _ rfl
  simp [show Tryz.prog.cellsOf 34=2 by kernel_rfl] at h1
  obtain ⟨x1,r1,_⟩:=opH34 h1 w1
  obtain ⟨n2,d2,p2,h2,w2⟩:=hf 2 _ rfl
  simp [show Tryz.prog.cellsOf 34=2 by kernel_rfl] at h2
  obtain ⟨x2,r2,_⟩:=opH34 h2 w2
  obtain ⟨n3,d3,p3,h3,w3⟩:=hf 3 _ rfl
  simp [show Tryz.prog.cellsOf 35=2 by kernel_rfl] at h3
  obtain ⟨x3,r3,_⟩:=opH35 h3 w3
  obtain ⟨n4,d4,p4,h4,w4⟩:=hf 4 _ rfl
  simp [show Tryz.prog.cellsOf 40=24 by kernel_rfl] at h4
  obtain ⟨x4,r4,_⟩:=opH40 h4 w4
  exact ⟨(x0,x1,x2,x3,x4),⟨[c0,c1],[c2,c3]++[c4,c5]++[c6,c7]++[c8,c9,c10,c11,c12,c13,c14,c15,c16,c17,c18,c19,c20,c21,c22,c23,c24,c25,c26,c27,c28,c29,c30,c31],rfl,r0,⟨[c2,c3],[c4,c5]++[c6,c7]++[c8,c9,c10,c11,c12,c13,c14,c15,c16,c17,c18,c19,c20,c21,c22,c23,c24,c25,c26,c27,c28,c29,c30,c31],rfl,r1,⟨[c4,c5],[c6,c7]++[c8,c9,c10,c11,c12,c13,c14,c15,c16,c17,c18,c19,c20,c21,c22,c23,c24,c25,c26,c27,c28,c29,c30,c31],rfl,r2,⟨[c6,c7],[c8,c9,c10,c11,c12,c13,c14,c15,c16,c17,c18,c19,c20,c21,c22,c23,c24,c25,c26,c27,c28,c29,c30,c31],rfl,r3,r4⟩⟩⟩⟩,trivial⟩
theorem split_len {α:Type} {cs:List α} (n m:Nat) (h:cs.length=n+m):∃ a b,cs=a++b∧a.length=n∧b.length=m:=⟨cs.take n,cs.drop n,(List.take_append_drop n cs).symm,by rw [List.length_take];omega,by rw [List.length_drop];omega⟩
theorem opH44:Opens Tryz.prog 44 (Cd.ty (.p (.a .y) (.p (.a .y) (.p (.p .b .b) (.p (.p .b .b) (.p (.p .b .b) (.p (.p (.i .i64) (.i .i64)) (.p (.p (.p .b (.p (.i .i64) (.i .u32))) (.p (.p .b (.p (.i .i64) (.i .u32))) (.p (.p .b (.p (.i .i64) (.i .u32))) (.p .b (.p (.i .i64) (.i .u32)))))) (.p (.p .b (.p (.i .i64) (.i .u32))) (.p (.p .b (.p (.i .i64) (.i .u32))) (.p (.p .b (.p (.i .i64) (.i .u32))) (.p .b (.p (.i .i64) (.i .u32)))))))))))))) (fun _=>True):=by
 intro H enc w base spare held fuel cs d pl h hw
 obtain ⟨hlen,hf⟩:=struct_fields Tryz.underlying44 h hw
 rw [show Tryz.prog.cellsOf 44=34 by kernel_rfl] at hlen
 obtain ⟨ca,cb,rfl,ha,hb⟩:=split_len 4 30 hlen
 match ca,ha,cb,hb with
 | [c0,c1,c2,c3],_,[c4,c5,c6,c7,c8,c9,c10,c11,c12,c13,c14,c15,c16,c17,c18,c19,c20,c21,c22,c23,c24,c25,c26,c27,c28,c29,c30,c31,c32,c33],_ =>
  obtain ⟨n0,d0,p0,h0,w0⟩:=hf 0 _ rfl
  simp [show Tryz.prog.cellsOf 33=1 by kernel_rfl] at h0
  obtain ⟨x0,r0,_⟩:=(opens_sized 1 (by kernel_rfl) (opens_u8 Tryz.underlying5) Tryz.underlying33 (by kernel_rfl) (by kernel_rfl)) h0 w0
  obtain ⟨n1,d1,p1,h1,w1⟩:=hf 1 _ rfl
  simp [show Tryz.prog.cellsOf 33=1 by kernel_rfl] at h1
  obtain ⟨x1,r1,_⟩:=(opens_sized 1 (by kernel_rfl) (opens_u8 Tryz.underlying5) Tryz.underlying33 (by kernel_rfl) (by kernel_rfl)) h1 w1
  obtain ⟨n2,d2,p2,h2,w2⟩:=hf 2 _ rfl
  simp [show Tryz.prog.cellsOf 42=32 by kernel_rfl] at h2
  obtain ⟨x2,r2,_⟩:=opH42 h2 w2
  exact ⟨(x0,x1,x2),⟨[c0],[c1]++[c2,c3,c4,c5,c6,c7,c8,c9,c10,c11,c12,c13,c14,c15,c16,c17,c18,c19,c20,c21,c22,c23,c24,c25,c26,c27,c28,c29,c30,c31,c32,c33],rfl,r0,⟨[c1],[c2,c3,c4,c5,c6,c7,c8,c9,c10,c11,c12,c13,c14,c15,c16,c17,c18,c19,c20,c21,c22,c23,c24,c25,c26,c27,c28,c29,c30,c31,c32,c33],rfl,r1,r2⟩⟩,trivial⟩
theorem opH28:Opens Tryz.prog 28 (Cd.ty (.p (.i .u64) (.p (.i .u16) (.p (.p (.i .i64) (.p (.i .i64) (.p (.i .i64) (.i .i64)))) (.a (.p (.a .y) (.p (.a .y) (.p (.p .b .b) (.p (.p .b .b) (.p (.p .b .b) (.p (.p (.i .i64) (.i .i64)) (.p (.p (.p .b (.p (.i .i64) (.i .u32))) (.p (.p .b (.p (.i .i64) (.i .u32))) (.p (.p .b (.p (.i .i64) (.i .u32))) (.p .b (.p (.i .i64) (.i .u32)))))) (.p (.p .b (.p (.i .i64) (.i .u32))) (.p (.p .b (.p (.i .i64) (.i .u32))) (.p (.p .b (.p (.i .i64) (.i .u32))) (.p .b (.p (.i .i64) (.i .u32)))))))))))))))))) (fun _=>True):=by
 intro H enc w base spare held fuel cs d pl h hw
 obtain ⟨hlen,hf⟩:=struct_fields Tryz.underlying28 h hw
 rw [show Tryz.prog.cellsOf 28=7 by kernel_rfl] at hlen
 match cs,hlen with
 | [c0,c1,c2,c3,c4,c5,c6],_ =>
  obtain ⟨n0,d0,p0,h0,w0⟩:=hf 0 _ rfl
  simp [show Tryz.prog.cellsOf 22=1 by kernel_rfl] at h0
  obtain ⟨x0,r0,_⟩:=(opIR Tryz.underlying22) h0 w0
  obtain ⟨n1,d1,p1,h1,w1⟩:=hf 1 _ rfl
  simp [show Tryz.prog.cellsOf 23=1 by kernel_rfl] at h1
  obtain ⟨x1,r1,_⟩:=(opIR Tryz.underlying23) h1 w1
  obtain ⟨n2,d2,p2,h2,w2⟩:=hf 2 _ rfl
  simp [show Tryz.prog.cellsOf 25=4 by kernel_rfl] at h2
  obtain ⟨x2,r2,_⟩:=opH25 h2 w2
  obtain ⟨n3,d3,p3,h3,w3⟩:=hf 3 _ rfl
  simp [show Tryz.prog.cellsOf 26=1 by kernel_rfl] at h3
  obtain ⟨x3,r3,_⟩:=(opens_sized 264 (by kernel_rfl) opH44 Tryz.underlying26 (by kernel_rfl) (by kernel_rfl)) h3 w3
  exact ⟨(x0,x1,x2,x3),⟨[c0],[c1]++[c2,c3,c4,c5]++[c6],rfl,r0,⟨[c1],[c2,c3,c4,c5]++[c6],rfl,r1,⟨[c2,c3,c4,c5],[c6],rfl,r2,r3⟩⟩⟩,trivial⟩
theorem resyncAlike_lifted (os:Os) (started:os.Started) (H:Type) (enc:TypeId×Value→H) :
  ReturnsInHanded {} Tryz.checked os 3 .any (Rows.resyncAlikeSpec.pre6 enc Tryz.prog Tryz.f3 Rows.resyncAlikeRow.domain false) (Rows.resyncAlikeSpec.post enc Tryz.prog Tryz.f3 false true false false):=by
 refine returnsInHanded_of_change_sized (C:=Tryz.checked) Tryz.own started (by kernel_rfl) Tryz.func3
  (ChangeSpec.witness6 (enc:=enc) (C:=Tryz.checked) false ⟨#[],#[.agg #[.int .u64 0,.int .u16 0,.int .i64 0,.int .i64 0,.int .i64 0,.int .i64 0,.slice none 0 0]],[]⟩ 8 (by kernel_rfl) (by kernel_rfl) (by kernel_rfl) (by kernel_rfl)) ?_
 intro W base args ds gs before hval0 hW hcnd hsz0 _
 have hval:∀ (j:Nat) t v,Tryz.f3.params[j]? = some t→args[j]? = some v→Value.okWide Tryz.prog W .any base t v:=hval0
 have hW':=hW
 obtain ⟨p,q,hA0,hV,rfl,hfz,hnd⟩:=hW
 have hA:DataW.TrodAll enc Tryz.prog W 0 (fun _=>true) true Tryz.f3.params.toList args.toList ds p:=hA0
 have hA1:=hA
 rw [Tryz.params3] at hA hval
 obtain ⟨v0,vs0,d0,ds0,p0,q0,hargs,rfl,rfl,h0,r0⟩:=trodAll_cons hA
 obtain ⟨rfl,rfl,rfl⟩:=trodAll_nil r0
 obtain rfl:args = #[v0]:=by cases args;simp_all
 obtain ⟨rfl,rfl⟩:=trodVars_none hV
 have hsz:∀ m∈DataW.weightsEach Tryz.prog [28] [d0],m≤reachBytes:=fun m hm=>by
  have h9:(DataW.weightsEach Tryz.prog (Tryz.f3.params.toList++[]) ([d0]++[])).all (·≤reachBytes)=true:=hsz0
  rw [Tryz.params3,List.append_nil,List.append_nil] at h9
  have:=List.all_eq_true.1 h9 m hm
  simpa using this
 obtain ⟨u0,rfl,_⟩:=okWide_struct Tryz.underlying28 (hval 0 28 v0 rfl rfl)
 obtain ⟨f0,g0⟩:=h0
 obtain ⟨x0,z0,k0⟩:=opH28 g0 (fun m hm=>hsz m (DataW.weights_mem_each (j:=0) rfl rfl m hm))
 simp only [List.append_nil] at hW' hA1
 have hrun:=law_of_fok fo3 (t:=((x0.1,(x0.2.1,x0.2.2.1.1)),((x0.2.2.1.2.1,x0.2.2.1.2.2.1),(x0.2.2.1.2.2.2,x0.2.2.2)))) ((alike_law z0)) [.v (.agg (Cd.cv (.p (.i .u64) (.p (.i .u16) (.p (.p (.i .i64) (.p (.i .i64) (.p (.i .i64) (.i .i64)))) (.a (.p (.a .y) (.p (.a .y) (.p (.p .b .b) (.p (.p .b .b) (.p (.p .b .b) (.p (.p (.i .i64) (.i .i64)) (.p (.p (.p .b (.p (.i .i64) (.i .u32))) (.p (.p .b (.p (.i .i64) (.i .u32))) (.p (.p .b (.p (.i .i64) (.i .u32))) (.p .b (.p (.i .i64) (.i .u32)))))) (.p (.p .b (.p (.i .i64) (.i .u32))) (.p (.p .b (.p (.i .i64) (.i .u32))) (.p (.p .b (.p (.i .i64) (.i .u32))) (.p .b (.p (.i .i64) (.i .u32))))))))))))))))) x0))] rfl (W:=W) (gi_of W) (vs:=[.agg u0]) (⟨⟨u0.toList,by simp,Cd.cv_real (.p (.i .u64) (.p (.i .u16) (.p (.p (.i .i64) (.p (.i .i64) (.p (.i .i64) (.i .i64)))) (.a (.p (.a .y) (.p (.a .y) (.p (.p .b .b) (.p (.p .b .b) (.p (.p .b .b) (.p (.p (.i .i64) (.i .i64)) (.p (.p (.p .b (.p (.i .i64) (.i .u32))) (.p (.p .b (.p (.i .i64) (.i .u32))) (.p (.p .b (.p (.i .i64) (.i .u32))) (.p .b (.p (.i .i64) (.i .u32)))))) (.p (.p .b (.p (.i .i64) (.i .u32))) (.p (.p .b (.p (.i .i64) (.i .u32))) (.p (.p .b (.p (.i .i64) (.i .u32))) (.p .b (.p (.i .i64) (.i .u32))))))))))))))))) z0⟩,trivial⟩) rfl
 refine hrun.mono fun e W' ⟨he,hg⟩=>?_
 subst he
 exact ⟨_,rfl,law_post Tryz.laidOut (by intro t ht;simp only [Tryz.params3] at ht;revert t;decide +kernel) rfl rfl Tryz.underlying4 rfl hW' hA1 hg⟩
theorem resyncAlike_holds:Rows.ResyncAlikeSaid :=
 OpenClaim.holds_of_wide 3 Tryz.f3 rfl rfl rfl rfl rfl rfl rfl ⟨rfl,rfl,rfl,rfl,rfl⟩ rfl rfl rfl rfl rfl (by kernel_rfl) Tryz.func3 (by kernel_rfl)
  (of_decide_eq_true (by kernel_rfl)) (by unfold Func.isWrapper;first | (rw [if_pos (by decide +kernel)];kernel_rfl) | (rw [if_neg (by decide +kernel)];exact ⟨rfl,rfl⟩))
  (fun os started H enc _=>resyncAlike_lifted os started H enc)
end Go.Proofs.YtpleflcfaecojaaGreat
