/-
From cycle to cycle: what stays true of a pair. Conditions: each lemma's own.
-/
import Derived.Test.YtpleflcfaecojaaGreatM19
namespace Go.Proofs.YtpleflcfaecojaaGreat
set_option linter.unusedVariables false
set_option linter.unusedSimpArgs false
set_option maxRecDepth 100000
open Go.RowKit
structure Good (P K:Int) (a b:Bool) (w:W):Prop where
 ok:w.ok a b
 f1:a=true→Fit 1 K w.c1
 f2:b=true→Fit 2 K w.c2
 m1:w.m1.inR P
 m2:w.m2.inR P
 r12:a=true→Rel P w.c1 w.m1 b w.c2 w.m2
 r21:b=true→Rel P w.c2 w.m2 a w.c1 w.m1
 cyc:w.p.cycle=K
theorem tg_nice (m:Mc) (k:Int):(m.tg.wrong k).nice:=by
 have hw:∀ x,i64ok (IntKind.i64.wrap x):=fun x=>i64_in_ x
 exact ⟨u8_in_ _,u8_in_ _,u8_in_ _,by show i64ok (lxorK .i64 _ k);unfold lxorK;exact hw _,hw _,hw _,hw _⟩
theorem noTg_nice:noTg.nice:=⟨by decide,by decide,by decide,⟨by decide,by decide⟩,⟨by decide,by decide⟩,⟨by decide,by decide⟩,⟨by decide,by decide⟩⟩
theorem stepA1_n {u:W} (a:Bool) (v:Ev) (h1:u.r.t1.nice) (h2:u.r.t2.nice):(u.stepA1 a v).r.t1.nice∧(u.stepA1 a v).r.t2.nice:=by
 unfold W.stepA1
 refine cond_p (P:=fun z:W=>z.r.t1.nice∧z.r.t2.nice) ⟨?_,h2⟩ ⟨h1,h2⟩
 exact cond_p (P:=Tg.nice) (tg_nice _ _) h1
theorem stepA2_n {u:W} (a:Bool) (v:Ev) (h1:u.r.t1.nice) (h2:u.r.t2.nice):(u.stepA2 a v).r.t1.nice∧(u.stepA2 a v).r.t2.nice:=by
 unfold W.stepA2
 refine cond_p (P:=fun z:W=>z.r.t1.nice∧z.r.t2.nice) ⟨h1,?_⟩ ⟨h1,h2⟩
 exact cond_p (P:=Tg.nice) (tg_nice _ _) h2
theorem same_tg {s s2:Int} {t u:Tg} (h:sameRes s t s2 u=true):t=u:=by
 unfold sameRes at h
 simp only [Bool.and_eq_true,beq_iff_eq] at h
 obtain ⟨-,h1,h2,h3,h4,h5,h6,h7⟩:=h
 cases t;cases u
 simp only at h1 h2 h3 h4 h5 h6 h7
 subst h1;subst h2;subst h3;subst h4;subst h5;subst h6;subst h7
 rfl
theorem judge_same {w:W} {b:Bool} {K cy:Int} (h1:DFit 1 K cy w.c1) (h2:b=true→DFit 2 K cy w.c2) (hw:w.p.cycle=cy) (hc:0≤cy∧cy≤1000000) (ht:w.r.t2.nice) (v:Ev) (hs:((w.ex2 true b v).c1.judge (w.ex2 true b v).f1 (w.ex2 true b v).b1).2.1=4):w.r.t1=w.r.t2:=by
 have t1:=snd2_eq (t:=w.r.t1) h1.kk h1.nnum h1.nx h1.nnx h1.ncyc
 have e1:(w.ex2 true b v).c1=gT w.c1 w.r.t1:=by show (snd2 w.c1 w.r.t1).1=_;rw [t1]
 rw [e1,(judge_eq rfl (gT_nd w.c1 w.r.t1).2.2.2.1 _ _).2] at hs
 have hh:=(gT_nd w.c1 w.r.t1).2.2.2.2.1
 cases hz:w.c1.nd.has with
 | false=>rw [hh,hz] at hs;cases hs
 | true =>
  rw [hh,hz,cond_true] at hs
  cases hf:((gT w.c1 w.r.t1).nd.fits (w.ex2 true b v).f1 (w.ex2 true b v).b1 3&&(getRes (w.ex2 true b v).f1.payload).2.2==0) with
  | false=>rw [hf] at hs;cases hs
  | true =>
   rw [hf,cond_true] at hs
   have htt:(gT w.c1 w.r.t1).nd.tt=w.r.t1:=by
    show (cond w.c1.nd.has _ _:Nd).tt=_
    rw [hz];rfl
   have hv:sameRes (getRes (w.ex2 true b v).f1.payload).1 (getRes (w.ex2 true b v).f1.payload).2.1 (gT w.c1 w.r.t1).nd.ts (gT w.c1 w.r.t1).nd.tt=true:=by
    unfold Nd.verdict at hs
    cases hr:((gT w.c1 w.r.t1).nd.role==3) with
    | true =>
     rw [hr,cond_true] at hs
     cases hq:sameRes (getRes (w.ex2 true b v).f1.payload).1 (getRes (w.ex2 true b v).f1.payload).2.1 (gT w.c1 w.r.t1).nd.ts (gT w.c1 w.r.t1).nd.tt with
     | true=>rfl
     | false=>rw [hq] at hs;cases hs
    | false =>
     rw [hr,cond_false] at hs
     cases hq:sameRes (getRes (w.ex2 true b v).f1.payload).1 (getRes (w.ex2 true b v).f1.payload).2.1 (gT w.c1 w.r.t1).nd.ts (gT w.c1 w.r.t1).nd.tt with
     | true=>rfl
     | false=>rw [hq,Bool.and_false] at hs;cases hs
   have hsame:=same_tg hv
   rw [htt] at hsame
   have hcame:(w.ex2 true b v).b1=true:=by
    simp only [Bool.and_eq_true] at hf
    have:=hf.1
    unfold Nd.fits at this
    simp only [Bool.and_eq_true] at this
    exact this.1
   have f1:(w.ex2 true b v).f1=cond b (wire (snd2 w.c2 w.r.t2).2.1 (snd2 w.c2 w.r.t2).2.2 v.f22 3 2 w.p.cycle).1 noFrm:=rfl
   have b1:(w.ex2 true b v).b1=cond b (wire (snd2 w.c2 w.r.t2).2.1 (snd2 w.c2 w.r.t2).2.2 v.f22 3 2 w.p.cycle).2 false:=rfl
   cases hb:b with
   | false=>subst hb;cases hcame
   | true =>
    have hd:=h2 hb
    have t2:=snd2_eq (t:=w.r.t2) hd.kk hd.nnum hd.nx hd.nnx hd.ncyc
    rw [b1,t2] at hcame
    rw [f1,t2] at hsame
    rcases arrive (a:=b) (f:=cond w.c2.nd.has ⟨3,2,cy,putRes w.c2.nd.steps w.r.t2⟩ noFrm) (ok:=w.c2.nd.has) (ft:=v.f22) (lab:=3) (k:=2) (cy:=w.p.cycle) (fun _=>cond_p (P:=Frm.tidy) (tidy_of (by decide) (.inr rfl) hc) noFrm_tidy) with ⟨g1,g2⟩ | ⟨g1,g2,g3,g4,_⟩
    ·dsimp only at hcame;rw [g2] at hcame;cases hcame
    ·dsimp only at hsame
     rw [g1,g4,cond_true] at hsame
     have hst:=hd.steps
     have hK:=hd.small
     rw [getRes_put ⟨by omega,by omega⟩ ht] at hsame
     exact hsame.symm
theorem rel_false {P:Int} {ci cj cj':Cp} {mi mj mj':Mc} (h:Rel P ci mi false cj mj):Rel P ci mi false cj' mj' :=
 ⟨fun e=>(by cases (h.foll e).1),fun e1 e2=>(by cases (h.link e1 e2).1)⟩
theorem mD_in {P:Int} {m:Mc} (h:m.inR P) (init:List UInt8) (c:Cp) (cy:Int) (l:List UInt8) (o:Option Hd) (y:Option Se):(mD init c cy l o y m).inR P:=by
 unfold mD
 exact cond_p (P:=fun z:Mc=>z.inR P) (stepA_in h _ _) h
theorem side_end {P k j K cy:Int} {ci cj:Cp} {mi mj:Mc} {b:Bool} {li lj:List UInt8} {oi oj:Option Hd} {yi yj:Option Se} {init:List UInt8} {ti tj:Tg} {pi pj:Option PT} (h0:0≤P) (h1:P≤10000) (hK:0≤K) (hK2:K+1≤1000000)
  (hi:Fit k K ci) (hj:b=true→Fit j K cj) (hmi:mi.inR P) (hmj:mj.inR P) (h:RelE P ci mi b cj mj) (ho:oi=none∨(b=true∧oi=some (cj.hd0 lj))) (ho2:oj=none∨oj=some (ci.hd0 li)) (hy:∀ s,yi=some s→b=true∧RB cj cy lj oj=2∧s=seOf cj cy lj oj)
  (hp:∀ x,pi=some x→b=true∧(Dv cj cy lj oj yj).asked=true∧(svOf (Dv cj cy lj oj yj) (mD init cj cy lj oj yj mj)).2.2=0∧(svOf (Dv cj cy lj oj yj) (mD init cj cy lj oj yj mj)).2.1=x∧validP x=true) :
  Fit k (K+1) (Ee (Dv ci cy li oi yi) ti (mD init ci cy li oi yi mi) pi).1 ∧
  Rel P (Ee (Dv ci cy li oi yi) ti (mD init ci cy li oi yi mi) pi).1 (Ee (Dv ci cy li oi yi) ti (mD init ci cy li oi yi mi) pi).2 b (Ee (Dv cj cy lj oj yj) tj (mD init cj cy lj oj yj mj) pj).1 (Ee (Dv cj cy lj oj yj) tj (mD init cj cy lj oj yj mj) pj).2 ∧
  (Ee (Dv ci cy li oi yi) ti (mD init ci cy li oi yi mi) pi).2.inR P:=by
 have hM:=mid_of (init:=init) (yj:=yj) hi hj h ho ho2 hy
 have hDi:=dfit_of (cy:=cy) hi li oi yi
 have hDj:b=true→∃ j,DFit j K cy (Dv cj cy lj oj yj):=fun hb=>⟨j,dfit_of (hj hb) lj oj yj⟩
 have hmi2:=mD_in hmi init ci cy li oi yi
 have hmj2:=mD_in hmj init cj cy lj oj yj
 refine ⟨fit_end hDi hK2 (fun x hx=>?_) hK (fun hr hne=>?_),rel_end h0 h1 hDi hDj hmi2 hmj2 hM hp,?_⟩
 ·obtain ⟨g1,g2,g3,g4,g5⟩:=hp x hx
  obtain ⟨j',hd⟩:=hDj g1
  obtain ⟨bb,ss,ii,e1,e2,e3,e4,e5,e6⟩:=serve_cases (m:=mD init cj cy lj oj yj mj) hd.snd g3
  have hx1:x.1=bb:=by rw [← g4,e3];rfl
  have hst:=hd.steps
  rcases e6 with ⟨f1,f2,f3,f4⟩ | ⟨f1,f2,f3⟩ <;> omega
 ·obtain ⟨g1,g2,g3⟩:=linked_of (tj:=tj) hDi hDj hmj2 hM hp hr hne
  obtain ⟨j',hd⟩:=hDj g1
  have hst:=g3.steps
  rw [(vfacts (Dv cj cy lj oj yj) tj (mD init cj cy lj oj yj mj)).steps] at hst
  have:=hd.steps
  omega
 ·unfold Ee tookA
  exact cond_p (P:=fun z:Cp×Mc=>z.2.inR P) (cond_p (P:=fun z:Cp×Mc=>z.2.inR P) (load_in hmi2 _) (runL_in _ (load_in hmi2 _))) hmi2
theorem start_r (p:Pr) (m1 m2:Mc) (c1 c2:Cp):(start p m1 m2 c1 c2).r.t1=noTg∧(start p m1 m2 c1 c2).r.t2=noTg∧(start p m1 m2 c1 c2).r.st1=1∧(start p m1 m2 c1 c2).r.st2=1∧(start p m1 m2 c1 c2).r.role1=0∧(start p m1 m2 c1 c2).r.role2=0:=⟨rfl,rfl,rfl,rfl,rfl,rfl⟩
theorem node_r (z:W) (a b:Bool):(z.node a b).r.role1=cond a z.c1.nd.role z.r.role1∧(z.node a b).r.role2=cond b z.c2.nd.role z.r.role2∧(z.node a b).r.steps1=cond a z.c1.nd.steps z.r.steps1∧(z.node a b).r.steps2=cond b z.c2.nd.steps z.r.steps2∧(z.node a b).r.st1=z.r.st1∧(z.node a b).c1=z.c1∧(z.node a b).c2=z.c2∧(z.node a b).m1=z.m1∧(z.node a b).m2=z.m2∧(z.node a b).r.t1=z.r.t1∧(z.node a b).r.t2=z.r.t2:=⟨rfl,rfl,rfl,rfl,rfl,rfl,rfl,rfl,rfl,rfl,rfl⟩
theorem take_r (z:W) (a b:Bool):(z.take a b).r=z.r∧(z.take false b).m1=z.m1∧(z.take a false).m2=z.m2:=⟨rfl,rfl,rfl⟩
theorem ex3_r (z:W) (a b:Bool) (v:Ev):(z.ex3 a b v).r=z.r∧(z.ex3 a b v).m1=z.m1∧(z.ex3 a b v).m2=z.m2:=⟨rfl,rfl,rfl⟩
theorem ex2_r (z:W) (a b:Bool) (v:Ev):(z.ex2 a b v).r=z.r∧(z.ex2 a b v).m1=z.m1∧(z.ex2 a b v).m2=z.m2:=⟨rfl,rfl,rfl⟩
theorem judge_r (z:W) (a b:Bool):(z.judge a b).r.st1=cond a (z.c1.judge z.f1 z.b1).2.1 z.r.st1∧(z.judge a b).r.role1=z.r.role1∧(z.judge a b).r.role2=z.r.role2∧(z.judge a b).r.steps1=z.r.steps1∧(z.judge a b).r.steps2=z.r.steps2∧(z.judge a b).m1=z.m1∧(z.judge a b).m2=z.m2∧(z.judge a b).r.t1=z.r.t1∧(z.judge a b).r.t2=z.r.t2:=⟨rfl,rfl,rfl,rfl,rfl,rfl,rfl,rfl,rfl⟩
theorem late_t (u:W) (a b:Bool) (v:Ev):(u.late a b v).r.t1=u.r.t1∧(u.late a b v).r.t2=u.r.t2:=by
 unfold W.late
 obtain ⟨-,-,-,-,-,-,-,-,-,e1,e2⟩:=node_r ((((u.ex2 a b v).judge a b).ex3 a b v).take a b) a b
 obtain ⟨-,-,-,-,-,-,-,j1,j2⟩:=judge_r (u.ex2 a b v) a b
 rw [e1,e2,(take_r _ a b).1,(ex3_r _ a b v).1,j1,j2,(ex2_r u a b v).1]
 exact ⟨rfl,rfl⟩
theorem late_st1 (u:W) (a b:Bool) (v:Ev):(u.late a b v).r.st1=cond a ((u.ex2 a b v).c1.judge (u.ex2 a b v).f1 (u.ex2 a b v).b1).2.1 u.r.st1:=by
 unfold W.late
 rw [(node_r _ a b).2.2.2.2.1,(take_r _ a b).1,(ex3_r _ a b v).1,(judge_r _ a b).1,(ex2_r u a b v).1]
theorem late_role (u:W) (a b:Bool) (v:Ev):(u.late a b v).r.role1=cond a (u.late a b v).c1.nd.role u.r.role1∧(u.late a b v).r.role2=cond b (u.late a b v).c2.nd.role u.r.role2∧(u.late a b v).r.steps1=cond a (u.late a b v).c1.nd.steps u.r.steps1∧(u.late a b v).r.steps2=cond b (u.late a b v).c2.nd.steps u.r.steps2:=by
 unfold W.late
 obtain ⟨e1,e2,e3,e4,-,e5,e6,-⟩:=node_r ((((u.ex2 a b v).judge a b).ex3 a b v).take a b) a b
 obtain ⟨-,j1,j2,j3,j4,-⟩:=judge_r (u.ex2 a b v) a b
 rw [e1,e2,e3,e4,e5,e6,(take_r _ a b).1,(ex3_r _ a b v).1,j1,j2,j3,j4,(ex2_r u a b v).1]
 exact ⟨rfl,rfl,rfl,rfl⟩
theorem late_m1 (u:W) (b:Bool) (v:Ev):(u.late false b v).m1=u.m1:=by
 unfold W.late
 obtain ⟨-,-,-,-,-,-,-,e,-⟩:=node_r ((((u.ex2 false b v).judge false b).ex3 false b v).take false b) false b
 rw [e,(take_r _ false b).2.1,(ex3_r _ false b v).2.1,(judge_r _ false b).2.2.2.2.2.1,(ex2_r u false b v).2.1]
theorem late_m2 (u:W) (a:Bool) (v:Ev):(u.late a false v).m2=u.m2:=by
 unfold W.late
 obtain ⟨-,-,-,-,-,-,-,-,e,-⟩:=node_r ((((u.ex2 a false v).judge a false).ex3 a false v).take a false) a false
 rw [e,(take_r _ a false).2.2,(ex3_r _ a false v).2.2,(judge_r _ a false).2.2.2.2.2.2.1,(ex2_r u a false v).2.2]
theorem step_r (u:W) (a b:Bool) (v:Ev):(u.step a b v).r.st1=u.r.st1∧(u.step a b v).r.role1=u.r.role1∧(u.step a b v).r.role2=u.r.role2:=by cases a <;> cases b <;> exact ⟨rfl,rfl,rfl⟩
structure NextOk (P K:Int) (a b:Bool) (q:W):Prop where
 f1:a=true→Fit 1 K q.c1
 f2:b=true→Fit 2 K q.c2
 m1:q.m1.inR P
 m2:q.m2.inR P
 r12:a=true→Rel P q.c1 q.m1 b q.c2 q.m2
 r21:b=true→Rel P q.c2 q.m2 a q.c1 q.m1
 told:a=true→q.r.st1=4→q.r.t1=q.r.t2
 off:a=false→q.r.st1=1
 role1:q.r.role1=cond a q.c1.nd.role 0
 role2:q.r.role2=cond b q.c2.nd.role 0
 steps1:a=true→q.r.steps1=q.c1.nd.steps
 steps2:b=true→q.r.steps2=q.c2.nd.steps
theorem all_next {P K cy:Int} {a b:Bool} {w:W} {v:Ev} {one two:List UInt8} (h0:0≤P) (h1:P≤10000) (hK:0≤K) (hK2:K+1≤1000000) (hf1:Fit 1 K w.c1) (hf2:Fit 2 K w.c2) (hm1:w.m1.inR P) (hm2:w.m2.inR P)
  (r12:RelE P w.c1 w.m1 b w.c2 w.m2) (r21:RelE P w.c2 w.m2 a w.c1 w.m1) (hw:w.p.cycle=cy) (hc:0≤cy∧cy≤1000000) (ht1:w.r.t1.nice) (ht2:w.r.t2.nice) (hst:w.r.st1=1) (hro1:w.r.role1=0) (hro2:w.r.role2=0) :
  NextOk P (K+1) a b (((w.early a b v one two).step a b v).late a b v):=by
 obtain ⟨o1,o2,c1,c2,ho1,ho2⟩:=st_hear (w:=w) (a:=a) (b:=b) (fun _=>hf1.rdy) (fun _=>hf2.rdy) hw hc v one two
 have hS:=st_share (w:=(w.ex0 a b v one two).hear a b) (a:=a) (b:=b) (one:=one) (two:=two) (fun _=>hf1.rdy) (fun _=>hf2.rdy) c1 c2 hw hc v
 have hE:((w.ex0 a b v one two).hear a b).ex1 a b v=w.early a b v one two:=rfl
 rw [hE] at hS
 obtain ⟨s1,s2,⟨y1,y1a,y1b⟩,⟨y2,y2a,y2b⟩⟩:=hS
 have em1:(w.early a b v one two).m1=w.m1:=rfl
 have em2:(w.early a b v one two).m2=w.m2:=rfl
 have ep:=early_p w a b v one two
 have er:=early_r w a b v one two
 generalize w.early a b v one two=u at s1 s2 y1a y2a em1 em2 ep er
 have hT:=st_step (w:=u) (a:=a) (b:=b) (fun _=>hf1.rdy) (fun _=>hf2.rdy) s1 s2 y1a y2a v
 rw [ep,em1,em2] at hT
 have hp3:(u.step a b v).p.cycle=cy:=by rw [step_p,ep];exact hw
 obtain ⟨n1,n2⟩:=stepA1_n (u:=u) a v (by rw [er];exact ht1) (by rw [er];exact ht2)
 obtain ⟨n3,n4⟩:=stepA2_n (u:=u.stepA1 a v) b v n1 n2
 have n5:(u.step a b v).r.t2.nice:=n4
 have hsr:=step_r u a b v
 rw [er] at hsr
 have no1:a=false→(u.step a b v).m1=w.m1:=fun e=>by subst e;rw [step_no1,em1]
 have no2:b=false→(u.step a b v).m2=w.m2:=fun e=>by subst e;rw [step_no2,em2]
 generalize u.step a b v=x at hT hp3 n5 hsr no1 no2
 have hd1:a=true→DFit 1 K cy x.c1:=fun e=>by rw [(hT.1 e).1];exact dfit_of hf1 one o1 y1
 have hd2:b=true→DFit 2 K cy x.c2:=fun e=>by rw [(hT.2 e).1];exact dfit_of hf2 two o2 y2
 obtain ⟨p1,p2,l1,l2,l3,l4⟩:=st_late (w:=x) (a:=a) (b:=b) hd1 hd2 hp3 hc v
 have ho1':o1=none∨o1=some (w.c2.hd0 two):=ho1.imp id And.right
 have ho2':o2=none∨o2=some (w.c1.hd0 one):=ho2.imp id And.right
 have side1:a=true→Fit 1 (K+1) (x.late a b v).c1∧Rel P (x.late a b v).c1 (x.late a b v).m1 b (Ee (Dv w.c2 cy two o2 y2) x.r.t2 (mD w.p.init w.c2 cy two o2 y2 w.m2) p2).1 (Ee (Dv w.c2 cy two o2 y2) x.r.t2 (mD w.p.init w.c2 cy two o2 y2 w.m2) p2).2∧(x.late a b v).m1.inR P:=fun e=>by
  rw [(l1 e).1,(l1 e).2,(hT.1 e).1,(hT.1 e).2]
  refine side_end h0 h1 hK hK2 hf1 (fun _=>hf2) hm1 hm2 r12 ho1 ho2' y1b (fun z hz=>?_)
  have:=l3 z hz
  rw [(hT.2 this.1).1,(hT.2 this.1).2] at this
  exact this
 have side2:b=true→Fit 2 (K+1) (x.late a b v).c2∧Rel P (x.late a b v).c2 (x.late a b v).m2 a (Ee (Dv w.c1 cy one o1 y1) x.r.t1 (mD w.p.init w.c1 cy one o1 y1 w.m1) p1).1 (Ee (Dv w.c1 cy one o1 y1) x.r.t1 (mD w.p.init w.c1 cy one o1 y1 w.m1) p1).2∧(x.late a b v).m2.inR P:=fun e=>by
  rw [(l2 e).1,(l2 e).2,(hT.2 e).1,(hT.2 e).2]
  refine side_end h0 h1 hK hK2 hf2 (fun _=>hf1) hm2 hm1 r21 ho2 ho1' y2b (fun z hz=>?_)
  have:=l4 z hz
  rw [(hT.1 this.1).1,(hT.1 this.1).2] at this
  exact this
 have hr:=late_role x a b v
 refine ⟨fun e=>(side1 e).1,fun e=>(side2 e).1,?_,?_,fun e=>?_,fun e=>?_,fun e hs=>?_,fun e=>?_,?_,?_,fun e=>?_,fun e=>?_⟩
 ·cases ha:a with
  | true=>rw [← ha];exact (side1 ha).2.2
  | false=>subst ha;rw [late_m1,no1 rfl];exact hm1
 ·cases hb:b with
  | true=>rw [← hb];exact (side2 hb).2.2
  | false=>subst hb;rw [late_m2,no2 rfl];exact hm2
 ·have:=(side1 e).2.1
  cases hb:b with
  | true=>rw [← hb,(l2 hb).1,(l2 hb).2,(hT.2 hb).1,(hT.2 hb).2];exact this
  | false=>subst hb;exact rel_false this
 ·have:=(side2 e).2.1
  cases ha:a with
  | true=>rw [← ha,(l1 ha).1,(l1 ha).2,(hT.1 ha).1,(hT.1 ha).2];exact this
  | false=>subst ha;exact rel_false this
 ·have hd:=hd1 e
  subst e
  rw [late_st1,cond_true] at hs
  exact judge_same (w:=x) hd hd2 hp3 hc n5 v hs
 ·subst e
  rw [late_st1,cond_false,hsr.1];exact hst
 ·rw [hr.1,hsr.2.1,hro1]
 ·rw [hr.2.1,hsr.2.2,hro2]
 ·subst e;rw [hr.2.2.1];rfl
 ·subst e;rw [hr.2.2.2];rfl
theorem fin_keep (u:W):u.fin.c1=u.c1∧u.fin.c2=u.c2∧u.fin.m1=u.m1∧u.fin.m2=u.m2∧u.fin.r.st1=u.r.st1∧u.fin.r.t1=u.r.t1∧u.fin.r.t2=u.r.t2∧u.fin.r.role1=u.r.role1∧u.fin.r.role2=u.r.role2∧u.fin.r.steps1=u.r.steps1∧u.fin.r.steps2=u.r.steps2:=⟨rfl,rfl,rfl,rfl,rfl,rfl,rfl,rfl,rfl,rfl,rfl⟩
theorem fin_next {P K:Int} {a b:Bool} {u:W} (h:NextOk P K a b u):NextOk P K a b u.fin:=by
 obtain ⟨e1,e2,e3,e4,e5,e6,e7,e8,e9,e10,e11⟩:=fin_keep u
 refine ⟨?_,?_,?_,?_,?_,?_,?_,?_,?_,?_,?_,?_⟩
 ·rw [e1];exact h.f1
 ·rw [e2];exact h.f2
 ·rw [e3];exact h.m1
 ·rw [e4];exact h.m2
 ·rw [e1,e2,e3,e4];exact h.r12
 ·rw [e1,e2,e3,e4];exact h.r21
 ·rw [e5,e6,e7];exact h.told
 ·rw [e5];exact h.off
 ·rw [e8,e1];exact h.role1
 ·rw [e9,e2];exact h.role2
 ·rw [e10,e1];exact h.steps1
 ·rw [e11,e2];exact h.steps2
theorem cyc_next {P K cy:Int} {a b:Bool} {w:W} (v:Ev) (one two:List UInt8) (h0:0≤P) (h1:P≤10000) (hK:0≤K) (hK2:K+1≤1000000) (h:Good P K a b w) :
  NextOk P (K+1) (evA a v.s1 v.r1) (evA b v.s2 v.r2) (cycW a b w.p w.m1 w.m2 w.c1 w.c2 v one two):=by
 have hc:IntKind.i64.wrap (w.p.cycle+1)=K+1:=by rw [h.cyc,wr64 (by omega)]
 have g1:=evK_fit (s:=v.s1) (k:=v.k1) (.inl rfl) hK (by omega) h.f1
 have g2:=evK_fit (s:=v.s2) (k:=v.k2) (.inr rfl) hK (by omega) h.f2
 have r1:=rel_events (s:=v.s1) (t:=v.s2) (k:=v.k1) (k':=v.k2) (r:=false) (r':=v.r2) (n:=1) (n':=2) h.r12
 have r2:=rel_events (s:=v.s2) (t:=v.s1) (k:=v.k2) (k':=v.k1) (r:=false) (r':=v.r1) (n:=2) (n':=1) h.r21
 unfold cycW
 generalize evK a v.s1 v.k1 w.c1 1=c1 at g1 r1 r2
 generalize evK b v.s2 v.k2 w.c2 2=c2 at g2 r1 r2
 obtain ⟨t1,t2,s1,s2,o1,o2⟩:=start_r w.p w.m1 w.m2 c1 c2
 rw [all_late]
 refine fin_next ?_
 exact all_next (w:=start w.p w.m1 w.m2 c1 c2) (cy:=K+1) h0 h1 hK hK2 g1 g2 h.m1 h.m2 r1 r2 hc ⟨by omega,by omega⟩ (by rw [t1];exact noTg_nice) (by rw [t2];exact noTg_nice) s1 o1 o2
theorem saveOf_eq {c:Cp} (m:Mc) (h:c.nd.role≠1):saveOf c m=saveB m:=by
 unfold saveOf
 rw [beq_eq_false_iff_ne.2 h]
 rfl
theorem same_of {P K:Int} {q:W} (h:NextOk P K true true q):SameB q:=by
 intro hp _
 have hr1:=h.role1
 have hr2:=h.role2
 rw [cond_true] at hr1 hr2
 have hl:=saveB_len q.m1
 have hne:saveB q.m1≠[]:=fun e=>by
  rw [e] at hl
  have:=h.m1
  simp at hl
  omega
 unfold pairB at hp
 rw [hr1,hr2] at hp
 simp only [Bool.or_eq_true,Bool.and_eq_true,beq_iff_eq] at hp
 rcases hp with ⟨p1,p2⟩ | ⟨p1,p2⟩
 ·have:=((h.r21 rfl).foll p2).2.2.2
  rw [saveOf_eq q.m1 (by omega),saveOf_eq q.m2 (by omega)]
  exact ⟨by rw [this],hne⟩
 ·have:=((h.r12 rfl).foll p1).2.2.2
  rw [saveOf_eq q.m1 (by omega),saveOf_eq q.m2 (by omega)]
  exact ⟨by rw [this],hne⟩
theorem pair_dead {P K:Int} {a b:Bool} {q:W} (h:NextOk P K a b q) (hab:(a&&b)=false):pairB q=false:=by
 have hr1:=h.role1
 have hr2:=h.role2
 unfold pairB
 cases ha:a with
 | false=>subst ha;rw [hr1];rfl
 | true =>
  cases hb:b with
  | false=>subst hb;rw [hr2,cond_false,show ((0:Int)==3)=false from rfl,show ((0:Int)==2)=false from rfl,Bool.and_false,Bool.and_false];rfl
  | true=>subst ha;subst hb;cases hab
theorem next_al {P K:Int} {a b:Bool} {w q:W} (h0:0≤P) (h1:P≤10000) (hK:0≤K) (hK2:K+1≤1000000) (h:Good P K a b w) {v:Ev} {one two:List UInt8} (hq:cycW a b w.p w.m1 w.m2 w.c1 w.c2 v one two=q) :
  Good P (K+1) (evA a v.s1 v.r1) (evA b v.s2 v.r2) q∧AlikeA q∧((evA a v.s1 v.r1&&evA b v.s2 v.r2)=true→q.ok true true∧SameB q)∧((evA a v.s1 v.r1&&evA b v.s2 v.r2)=false→pairB q=false):=by
 have hN:=cyc_next (cy:=K+1) v one two h0 h1 hK hK2 h
 have hO:=cycW_ok h.ok v one two
 have hP:(cycW a b w.p w.m1 w.m2 w.c1 w.c2 v one two).p.cycle=K+1:=by
  unfold cycW
  rw [all_p]
  show IntKind.i64.wrap (w.p.cycle+1)=K+1
  rw [h.cyc,wr64 (by omega)]
 rw [hq] at hN hO hP
 generalize evA a v.s1 v.r1=x at hN hO
 generalize evA b v.s2 v.r2=y at hN hO
 refine ⟨⟨hO,hN.f1,hN.f2,hN.m1,hN.m2,hN.r12,hN.r21,hP⟩,fun s1 _=>?_,fun e=>?_,pair_dead hN⟩
 ·cases hx:x with
  | true=>exact hN.told hx s1
  | false=>have:=hN.off hx;omega
 ·have ex:x=true:=by cases x <;> first | rfl | cases e
  have ey:y=true:=by cases y <;> first | rfl | (cases x <;> cases e)
  subst ex;subst ey
  exact ⟨hO,same_of hN⟩
def ftZ:Ft:=⟨false,0,0⟩
theorem flips_z (n:Int) {k:Nat} (hk:k≤32):flips ftZ n k=false:=by
 have e:shrK .u32 ftZ.pat ((k:Nat):Int)=((0:Nat):Int):=by
  have:=shr_u32 0 k hk
  rw [Nat.zero_shiftRight] at this
  exact this
 unfold flips
 rw [e,land_u32 (by decide),Nat.zero_testBit,Bool.false_and]
theorem flipL_z (b:List UInt8):∀ k,k≤32→flipL ftZ b k=b
 | 0,_=>rfl
 | k+1,h=>by
  unfold flipL
  rw [flips_z _ (by omega),cond_false]
  exact flipL_z b k (by omega)
theorem carry_z (b:List UInt8):carry b ftZ=(true,b):=by
 unfold carry
 rw [show ftZ.lost=false from rfl,cond_false]
 refine cond_p (P:=fun z:Bool×List UInt8=>z=(true,b)) rfl ?_
 rw [flipL_z b 32 (Nat.le_refl _)]
theorem wire_z {f:Frm} (h:f.tidy) (hl:f.payload.length≤1000):wire f true ftZ f.label f.from_ f.cycle=(f,true):=by
 unfold wire encF
 rw [cond_true,df (by omega:¬ ((f.payload.length:Nat):Int) > 1000),cond_false,neq_f rfl,cond_false]
 show receive (sealB (hdrB f)) ftZ f.label f.from_ f.cycle=_
 unfold receive
 rw [carry_z,cond_true]
 unfold arrived
 rw [dec_hdr ⟨h.label,h.from_,h.cycle,hl⟩]
 dsimp only
 rw [neq_f rfl,neq_f (rfl:f.label=f.label),neq_f (rfl:f.from_=f.from_),neq_f (rfl:f.cycle=f.cycle)];rfl
theorem helloB_len (h:Hd):(helloB h).length=19+h.input.length:=by simp [helloB,putB_len];omega
theorem hello_z {k j K cy:Int} {c:Cp} (h:Rdy j K c) (hkj:j=3 - k) (hc:0≤cy∧cy≤1000000) (l:List UInt8) :
  HelloCame k cy (wire ⟨1,j,cy,helloB (c.hd0 l)⟩ true ftZ 1 j cy).1 (wire ⟨1,j,cy,helloB (c.hd0 l)⟩ true ftZ 1 j cy).2 (some (c.hd0 l)):=by
 have e:wire ⟨1,j,cy,helloB (c.hd0 l)⟩ true ftZ 1 j cy=(⟨1,j,cy,helloB (c.hd0 l)⟩,true) :=
  wire_z (f:=⟨1,j,cy,helloB (c.hd0 l)⟩) (tidy_of (by decide) h.kk hc) (by show (helloB (c.hd0 l)).length≤1000;rw [helloB_len];have:=inpC_len l;show 19+(inpC l).length≤1000;omega)
 rw [e]
 exact .inr ⟨_,rfl,rfl,rfl,hkj,rfl,hd0_get h l⟩
theorem inputC_part (l q:List UInt8) (is:Bool) (h:l.length≤400):inputC (part1 l is++q) is=(cond is l [],q,true):=by
 cases is with
 | false=>rfl
 | true =>
  have hn:natL (part1 l true++q) 2=l.length:=by
   show natL (putB (l.length:Int) 2++l++q) 2=_
   rw [List.append_assoc];exact natL2 _ _ (by omega)
  have hlen:(part1 l true++q).length=2+l.length+q.length:=by simp [part1,putB_len];omega
  have hd:(part1 l true++q).drop 2=l++q:=by
   show (putB (l.length:Int) 2++l++q).drop 2=_
   rw [List.append_assoc];exact dropL (putB_len _ _)
  unfold inputC
  rw [hn,df (by omega:¬ (((part1 l true++q).length:Nat):Int) < 2),df (by omega:¬ ((l.length:Nat):Int) > 400),df (by omega:¬ ((l.length:Nat):Int) > (((part1 l true++q).length:Nat):Int) - 2),drop_add,hd,List.drop_left',List.take_left']
  all_goals rfl
theorem unpack_pack {one two:List UInt8} {a b:Bool} (h1:one.length≤400) (h2:two.length≤400):(unpackC (packC one a two b).2).err=0:=by
 have hl:long one a two b=false:=by
  unfold long
  rw [df (by omega:¬ ((one.length:Nat):Int) > 400),df (by omega:¬ ((two.length:Nat):Int) > 400)]
  cases a <;> cases b <;> rfl
 unfold packC
 rw [hl,cond_false]
 show (unpackC ([flagB a b]++part1 one a++part1 two b)).err=0
 have e0:([flagB a b]++part1 one a++part1 two b).getD 0 0=flagB a b:=rfl
 have e1:([flagB a b]++part1 one a++part1 two b).drop 1=part1 one a++(part1 two b++[]):=by simp
 have b1:(landK .u8 (((flagB a b).toNat:Nat):Int) 1==1)=a:=by cases a <;> cases b <;> rfl
 have b2:(landK .u8 (((flagB a b).toNat:Nat):Int) 2==2)=b:=by cases a <;> cases b <;> rfl
 have b3:decide ((((flagB a b).toNat:Nat):Int) > 3)=false:=by cases a <;> cases b <;> rfl
 have b4:((([flagB a b]++part1 one a++part1 two b).length:Nat):Int)≠0:=by simp;omega
 unfold unpackC
 rw [e0,e1,b1,b2,b3,eq_f b4,inputC_part one _ a h1,inputC_part two _ b h2]
 rfl
theorem packed_ok {n:Nd} (h1:n.input.length≤400) (h2:n.hd.input.length≤400):(unpackC n.packed).err=0∧n.packed.length≤810:=by
 have h3:n.other.length≤400:=cond_p (P:=fun z:List UInt8=>z.length≤400) h2 (Nat.zero_le _)
 have hp:∀ (x y:List UInt8) (a b:Bool),x.length≤400→y.length≤400→(packC x a y b).2.length≤810:=by
  intro x y a b hx hy
  have e1:=part1_len x a
  have e2:=part1_len y b
  unfold packC
  refine cond_p (P:=fun z:Int×List UInt8=>z.2.length≤810) (Nat.zero_le _) ?_
  show ([flagB a b]++part1 x a++part1 y b).length≤810
  simp only [List.length_append,List.length_cons,List.length_nil]
  omega
 unfold Nd.packed
 exact cond_p (P:=fun z:Int×List UInt8=>(unpackC z.2).err=0∧z.2.length≤810) ⟨unpack_pack h1 h3,hp _ _ _ _ h1 h3⟩ ⟨unpack_pack h3 h1,hp _ _ _ _ h3 h1⟩
def yOf (c:Cp) (cy:Int) (l:List UInt8) (o:Option Hd):Option Se:=cond (RB c cy l o==2) (some (seOf c cy l o)) none
theorem set_z {k j K cy:Int} {c:Cp} (h:Rdy j K c) (hkj:j=3 - k) (hc:0≤cy∧cy≤1000000) (l:List UInt8) (o:Option Hd) (ho:(o.getD noHd).input.length≤400) :
  SetCame k cy (wire (cond ((fB c cy l o).nd.role==2) ⟨2,j,cy,(putSet (seOf c cy l o)).2⟩ noFrm) ((fB c cy l o).nd.role==2) ftZ 2 j cy).1 (wire (cond ((fB c cy l o).nd.role==2) ⟨2,j,cy,(putSet (seOf c cy l o)).2⟩ noFrm) ((fB c cy l o).nd.role==2) ftZ 2 j cy).2 (yOf c cy l o):=by
 have hst:=fB_steps h cy l o
 have hK:=h.small
 unfold yOf
 show SetCame k cy _ _ (cond ((fB c cy l o).nd.role==2) (some (seOf c cy l o)) none)
 cases hr:((fB c cy l o).nd.role==2) with
 | false=>exact .inl ⟨rfl,rfl⟩
 | true =>
  rw [cond_true,cond_true]
  have hpk:=packed_ok (n:=(fB c cy l o).nd) (by show (inpC l).length≤400;exact inpC_len l) ho
  have hps:putSet (seOf c cy l o)=(0,setB (seOf c cy l o)):=by
   unfold putSet
   rw [df (by show ¬ (fB c cy l o).nd.steps < 0;omega),cond_false,show (unpackC (seOf c cy l o).in_).err=0 from hpk.1,neq_f rfl,cond_false]
  have hlen:(setB (seOf c cy l o)).length≤1000:=by
   have:=hpk.2
   have e:(setB (seOf c cy l o)).length=9+(fB c cy l o).nd.packed.length:=by
    unfold setB
    simp only [List.length_append,List.length_cons,List.length_nil,putB_len]
    rfl
   omega
  rw [hps]
  have e:wire ⟨2,j,cy,setB (seOf c cy l o)⟩ true ftZ 2 j cy=(⟨2,j,cy,setB (seOf c cy l o)⟩,true) :=
   wire_z (f:=⟨2,j,cy,setB (seOf c cy l o)⟩) (tidy_of (by decide) h.kk hc) hlen
  show SetCame k cy (wire ⟨2,j,cy,setB (seOf c cy l o)⟩ true ftZ 2 j cy).1 (wire ⟨2,j,cy,setB (seOf c cy l o)⟩ true ftZ 2 j cy).2 _
  rw [e]
  refine .inr ⟨rfl,rfl,hkj,rfl,?_⟩
  have hg:=getSet_put cy (x:=seOf c cy l o) (by show i64ok (fB c cy l o).nd.steps;exact ⟨by omega,by omega⟩)
  have hps2:(putSet ⟨(seOf c cy l o).steps,cy,(seOf c cy l o).fresh,(seOf c cy l o).in_⟩).1=0:=congrArg Prod.fst hps
  rw [hps2,neq_f rfl,cond_false] at hg
  show _=cond ((getSet cy (setB (seOf c cy l o))).2==0) (some (getSet cy (setB (seOf c cy l o))).1) none
  rw [hg]
  rfl
def pOf (c:Cp) (m:Mc):Option PT:=cond c.asked (some (svOf c m).2.1) none
theorem encP_len {p:PT} (h:validP p=true):(encP p).2.length≤1000:=by
 have:=(validP_ok h).2.2.2
 unfold encP
 rw [h,cond_true]
 show (putB p.1 8++putB p.2.1 2++putB p.2.2.1 2++p.2.2.2).length≤1000
 simp only [List.length_append,putB_len]
 omega
theorem piece_z {k j cy:Int} {c:Cp} {m:Mc} (hj:j=1∨j=2) (hkj:j=3 - k) (hcy:c.cycle=cy) (hc:0≤cy∧cy≤1000000) (hv:c.asked=true→(svOf c m).2.2=0∧validP (svOf c m).2.1=true) :
  PieceCame k cy (wire (cond c.asked (cond ((svOf c m).2.2 != 0) noFrm ⟨4,j,c.cycle,(encP (svOf c m).2.1).2⟩) noFrm) (c.asked&&!((svOf c m).2.2 != 0)) ftZ 4 j cy).1 (wire (cond c.asked (cond ((svOf c m).2.2 != 0) noFrm ⟨4,j,c.cycle,(encP (svOf c m).2.1).2⟩) noFrm) (c.asked&&!((svOf c m).2.2 != 0)) ftZ 4 j cy).2 (pOf c m):=by
 unfold pOf
 cases ha:c.asked with
 | false=>exact .inl ⟨rfl,rfl⟩
 | true =>
  obtain ⟨h1,h2⟩:=hv ha
  rw [neq_f h1,cond_true,cond_false,cond_true,hcy]
  have e:wire ⟨4,j,cy,(encP (svOf c m).2.1).2⟩ true ftZ 4 j cy=(⟨4,j,cy,(encP (svOf c m).2.1).2⟩,true) :=
   wire_z (f:=⟨4,j,cy,(encP (svOf c m).2.1).2⟩) (tidy_of (by decide) hj hc) (encP_len h2)
  show PieceCame k cy (wire ⟨4,j,cy,(encP (svOf c m).2.1).2⟩ true ftZ 4 j cy).1 (wire ⟨4,j,cy,(encP (svOf c m).2.1).2⟩ true ftZ 4 j cy).2 _
  rw [e]
  refine .inr ⟨rfl,rfl,hkj,rfl,?_⟩
  show _=cond ((decP (encP (svOf c m).2.1).2).2==0) (some (decP (encP (svOf c m).2.1).2).1) none
  rw [decP_enc h2]
  rfl
theorem res_z {j cy:Int} {s:Int} {t:Tg} (hj:j=1∨j=2) (hc:0≤cy∧cy≤1000000) (hs:i64ok s) (ht:t.nice):wire ⟨3,j,cy,putRes s t⟩ true ftZ 3 j cy=(⟨3,j,cy,putRes s t⟩,true)∧getRes (putRes s t)=(s,t,0):=by
 refine ⟨wire_z (f:=⟨3,j,cy,putRes s t⟩) (tidy_of (by decide) hj hc) ?_,getRes_put hs ht⟩
 show (putRes s t).length≤1000
 simp [putRes,putB_len]
structure Ev.qt (v:Ev):Prop where
 w1:v.w1=0
 w2:v.w2=0
 f10:v.f10=ftZ
 f11:v.f11=ftZ
 f12:v.f12=ftZ
 f13:v.f13=ftZ
 f20:v.f20=ftZ
 f21:v.f21=ftZ
 f22:v.f22=ftZ
 f23:v.f23=ftZ
theorem sz_hear {w:W} {K cy:Int} (h1:Rdy 1 K w.c1) (h2:Rdy 2 K w.c2) (hw:w.p.cycle=cy) (hc:0≤cy∧cy≤1000000) {v:Ev} (hv:v.qt) (one two:List UInt8) :
  ((w.ex0 true true v one two).hear true true).c1=fB w.c1 cy one (some (w.c2.hd0 two))∧((w.ex0 true true v one two).hear true true).c2=fB w.c2 cy two (some (w.c1.hd0 one)):=by
 refine ⟨?_,?_⟩
 ·rw [ex0_c1,hw,snd0_eq h1 hc.1,snd0_eq h2 hc.1,hv.f20]
  exact hear_eq h1 (hello_z (k:=1) h2 rfl hc two)
 ·rw [ex0_c2,hw,snd0_eq h2 hc.1,snd0_eq h1 hc.1,hv.f10]
  exact hear_eq h2 (hello_z (k:=2) h1 rfl hc one)
theorem sz_share {w:W} {K cy:Int} {c1 c2:Cp} {one two:List UInt8} {o1 o2:Option Hd} (h1:Rdy 1 K c1) (h2:Rdy 2 K c2) (e1:w.c1=fB c1 cy one o1) (e2:w.c2=fB c2 cy two o2) (hw:w.p.cycle=cy) (hc:0≤cy∧cy≤1000000) {v:Ev} (hv:v.qt)
  (l1:(o1.getD noHd).input.length≤400) (l2:(o2.getD noHd).input.length≤400) :
  (w.ex1 true true v).c1=fC c1 cy one o1∧(w.ex1 true true v).c2=fC c2 cy two o2 ∧
  SetCame 1 cy (w.ex1 true true v).f1 (w.ex1 true true v).b1 (yOf c2 cy two o2)∧SetCame 2 cy (w.ex1 true true v).f2 (w.ex1 true true v).b2 (yOf c1 cy one o1):=by
 have x1:snd1 w.c1=_:=(congrArg snd1 e1).trans (snd1_eq h1 cy one o1)
 have x2:snd1 w.c2=_:=(congrArg snd1 e2).trans (snd1_eq h2 cy two o2)
 have f1:(w.ex1 true true v).f1=(wire (snd1 w.c2).2.1 (snd1 w.c2).2.2 v.f21 2 2 w.p.cycle).1:=rfl
 have f2:(w.ex1 true true v).f2=(wire (snd1 w.c1).2.1 (snd1 w.c1).2.2 v.f11 2 1 w.p.cycle).1:=rfl
 have b1:(w.ex1 true true v).b1=(wire (snd1 w.c2).2.1 (snd1 w.c2).2.2 v.f21 2 2 w.p.cycle).2:=rfl
 have b2:(w.ex1 true true v).b2=(wire (snd1 w.c1).2.1 (snd1 w.c1).2.2 v.f11 2 1 w.p.cycle).2:=rfl
 refine ⟨?_,?_,?_,?_⟩
 ·show (snd1 w.c1).1=_
  rw [x1]
 ·show (snd1 w.c2).1=_
  rw [x2]
 ·rw [f1,b1,hw,x2,hv.f21]
  exact set_z (k:=1) h2 rfl hc two o2 l2
 ·rw [f2,b2,hw,x1,hv.f11]
  exact set_z (k:=2) h1 rfl hc one o1 l1
theorem sz_late {w:W} {K cy:Int} (h1:DFit 1 K cy w.c1) (h2:DFit 2 K cy w.c2) (hw:w.p.cycle=cy) (hc:0≤cy∧cy≤1000000) {v:Ev} (hv:v.qt)
  (s1:w.c1.asked=true→(svOf w.c1 w.m1).2.2=0∧validP (svOf w.c1 w.m1).2.1=true) (s2:w.c2.asked=true→(svOf w.c2 w.m2).2.2=0∧validP (svOf w.c2 w.m2).2.1=true) :
  ((w.late true true v).c1=(Ee w.c1 w.r.t1 w.m1 (pOf w.c2 w.m2)).1∧(w.late true true v).m1=(Ee w.c1 w.r.t1 w.m1 (pOf w.c2 w.m2)).2)∧((w.late true true v).c2=(Ee w.c2 w.r.t2 w.m2 (pOf w.c1 w.m1)).1∧(w.late true true v).m2=(Ee w.c2 w.r.t2 w.m2 (pOf w.c1 w.m1)).2):=by
 have t1:snd2 w.c1 w.r.t1=_:=snd2_eq (t:=w.r.t1) h1.kk h1.nnum h1.nx h1.nnx h1.ncyc
 have t2:snd2 w.c2 w.r.t2=_:=snd2_eq (t:=w.r.t2) h2.kk h2.nnum h2.nx h2.nnx h2.ncyc
 have j1:((w.ex2 true true v).judge true true).c1=gJ (gT w.c1 w.r.t1):=by
  show ((snd2 w.c1 w.r.t1).1.judge (w.ex2 true true v).f1 (w.ex2 true true v).b1).1=_
  rw [t1]
  exact (judge_eq rfl (gT_nd w.c1 w.r.t1).2.2.2.1 _ _).1
 have j2:((w.ex2 true true v).judge true true).c2=gJ (gT w.c2 w.r.t2):=by
  show ((snd2 w.c2 w.r.t2).1.judge (w.ex2 true true v).f2 (w.ex2 true true v).b2).1=_
  rw [t2]
  exact (judge_eq rfl (gT_nd w.c2 w.r.t2).2.2.2.1 _ _).1
 have hu:((w.ex2 true true v).judge true true).p.cycle=cy:=hw
 have hm1:((w.ex2 true true v).judge true true).m1=w.m1:=rfl
 have hm2:((w.ex2 true true v).judge true true).m2=w.m2:=rfl
 have hlate:∀ z:W,z=(w.ex2 true true v).judge true true→w.late true true v=((z.ex3 true true v).take true true).node true true:=fun z hz=>by rw [hz];rfl
 generalize (w.ex2 true true v).judge true true=u at j1 j2 hu hm1 hm2 hlate
 rw [hlate u rfl]
 have x1:snd3 u.c1 u.m1=(Vv w.c1 w.r.t1 w.m1,cond w.c1.asked (cond ((svOf w.c1 w.m1).2.2 != 0) noFrm ⟨4,1,w.c1.cycle,(encP (svOf w.c1 w.m1).2.1).2⟩) noFrm,w.c1.asked&&!((svOf w.c1 w.m1).2.2 != 0)):=by
  rw [j1,hm1]
  have:=snd3_eq (c:=gJ (gT w.c1 w.r.t1)) h1.kk h1.num rfl w.m1
  rw [svOf_gJ] at this
  exact this
 have x2:snd3 u.c2 u.m2=(Vv w.c2 w.r.t2 w.m2,cond w.c2.asked (cond ((svOf w.c2 w.m2).2.2 != 0) noFrm ⟨4,2,w.c2.cycle,(encP (svOf w.c2 w.m2).2.1).2⟩) noFrm,w.c2.asked&&!((svOf w.c2 w.m2).2.2 != 0)):=by
  rw [j2,hm2]
  have:=snd3_eq (c:=gJ (gT w.c2 w.r.t2)) h2.kk h2.num rfl w.m2
  rw [svOf_gJ] at this
  exact this
 have f1:(u.ex3 true true v).f1=(wire (snd3 u.c2 u.m2).2.1 (snd3 u.c2 u.m2).2.2 v.f23 4 2 u.p.cycle).1:=rfl
 have f2:(u.ex3 true true v).f2=(wire (snd3 u.c1 u.m1).2.1 (snd3 u.c1 u.m1).2.2 v.f13 4 1 u.p.cycle).1:=rfl
 have b1:(u.ex3 true true v).b1=(wire (snd3 u.c2 u.m2).2.1 (snd3 u.c2 u.m2).2.2 v.f23 4 2 u.p.cycle).2:=rfl
 have b2:(u.ex3 true true v).b2=(wire (snd3 u.c1 u.m1).2.1 (snd3 u.c1 u.m1).2.2 v.f13 4 1 u.p.cycle).2:=rfl
 have g1:PieceCame 1 cy (u.ex3 true true v).f1 (u.ex3 true true v).b1 (pOf w.c2 w.m2):=by
  rw [f1,b1,hu,x2,hv.f23]
  exact piece_z (k:=1) (j:=2) (.inr rfl) rfl h2.cyc hc s2
 have g2:PieceCame 2 cy (u.ex3 true true v).f2 (u.ex3 true true v).b2 (pOf w.c1 w.m1):=by
  rw [f2,b2,hu,x1,hv.f13]
  exact piece_z (k:=2) (j:=1) (.inl rfl) rfl h1.cyc hc s1
 refine ⟨?_,?_⟩
 ·have hv1:=vfacts w.c1 w.r.t1 w.m1
  have ht:(Vv w.c1 w.r.t1 w.m1).take (u.ex3 true true v).f1 (u.ex3 true true v).b1=takeX (Vv w.c1 w.r.t1 w.m1) (pOf w.c2 w.m2):=take_eq h1.kk (hv1.num.trans h1.num) (hv1.cyc.trans h1.cyc) hv1.nx g1
  show (tookA u.m1 ((snd3 u.c1 u.m1).1.take (u.ex3 true true v).f1 (u.ex3 true true v).b1)).1=_∧(tookA u.m1 ((snd3 u.c1 u.m1).1.take (u.ex3 true true v).f1 (u.ex3 true true v).b1)).2=_
  rw [x1,hm1]
  rw [show ((Vv w.c1 w.r.t1 w.m1,cond w.c1.asked (cond ((svOf w.c1 w.m1).2.2 != 0) noFrm (⟨4,1,w.c1.cycle,(encP (svOf w.c1 w.m1).2.1).2⟩:Frm)) noFrm,w.c1.asked&&!((svOf w.c1 w.m1).2.2 != 0)):Cp×Frm×Bool).1=Vv w.c1 w.r.t1 w.m1 from rfl,ht]
  exact ⟨rfl,rfl⟩
 ·have hv2:=vfacts w.c2 w.r.t2 w.m2
  have ht:(Vv w.c2 w.r.t2 w.m2).take (u.ex3 true true v).f2 (u.ex3 true true v).b2=takeX (Vv w.c2 w.r.t2 w.m2) (pOf w.c1 w.m1):=take_eq h2.kk (hv2.num.trans h2.num) (hv2.cyc.trans h2.cyc) hv2.nx g2
  show (tookA u.m2 ((snd3 u.c2 u.m2).1.take (u.ex3 true true v).f2 (u.ex3 true true v).b2)).1=_∧(tookA u.m2 ((snd3 u.c2 u.m2).1.take (u.ex3 true true v).f2 (u.ex3 true true v).b2)).2=_
  rw [x2,hm2]
  rw [show ((Vv w.c2 w.r.t2 w.m2,cond w.c2.asked (cond ((svOf w.c2 w.m2).2.2 != 0) noFrm (⟨4,2,w.c2.cycle,(encP (svOf w.c2 w.m2).2.1).2⟩:Frm)) noFrm,w.c2.asked&&!((svOf w.c2 w.m2).2.2 != 0)):Cp×Frm×Bool).1=Vv w.c2 w.r.t2 w.m2 from rfl,ht]
  exact ⟨rfl,rfl⟩
theorem late_st2 (u:W) (a b:Bool) (v:Ev):(u.late a b v).r.st2=cond b ((u.ex2 a b v).c2.judge (u.ex2 a b v).f2 (u.ex2 a b v).b2).2.1 u.r.st2:=by
 unfold W.late
 have e1:∀ z:W,(z.node a b).r.st2=z.r.st2:=fun z=>rfl
 have e2:∀ z:W,(z.judge a b).r.st2=cond b (z.c2.judge z.f2 z.b2).2.1 z.r.st2:=fun z=>rfl
 rw [e1,(take_r _ a b).1,(ex3_r _ a b v).1,e2,(ex2_r u a b v).1]
theorem same_res (s:Int) (t:Tg):sameRes s t s t=true:=by
 unfold sameRes
 simp
theorem gT_more {D:Cp} (t:Tg) (h:D.nd.has=true):(gT D t).nd.ts=D.nd.steps∧(gT D t).nd.tt=t∧(gT D t).nd.is=D.nd.is∧(gT D t).nd.hd=D.nd.hd:=by
 show (cond D.nd.has _ _:Nd).ts=_∧(cond D.nd.has _ _:Nd).tt=_∧(cond D.nd.has _ _:Nd).is=_∧(cond D.nd.has _ _:Nd).hd=_
 rw [h]
 exact ⟨rfl,rfl,rfl,rfl⟩
theorem valid_z {k j K cy s:Int} {D:Cp} {t:Tg} (h:DFit k K cy D) (hkj:j=3 - k) (hs:s=D.nd.steps) (hi:i64ok s) (ht:t.nice) (hh:D.nd.has=true) (hp:D.nd.role=3∨(D.nd.is=true∧D.nd.hd.role=3)) :
  ((gT D t).judge ⟨3,j,cy,putRes s t⟩ true).2.1=4:=by
 have g:=gT_nd D t
 obtain ⟨m1,m2,m3,m4⟩:=gT_more t hh
 rw [(judge_eq rfl g.2.2.2.1 _ _).2,g.2.2.2.2.1,hh,cond_true,fits_true h.kk (g.2.2.1.trans h.nnum) rfl hkj (g.2.2.2.2.2.trans h.ncyc).symm]
 unfold Nd.verdict
 rw [show (⟨3,j,cy,putRes s t⟩:Frm).payload=putRes s t from rfl,getRes_put hi ht,m1,m2,g.1,← hs,same_res]
 show cond (true&&((0:Int)==0)) _ _=(4:Int)
 rw [show (true&&((0:Int)==0))=true from rfl,cond_true]
 rcases hp with e | ⟨e1,e2⟩
 ·rw [e];rfl
 ·have:(gT D t).nd.foll=true:=by unfold Nd.foll;rw [m3,m4,e1,e2];rfl
  rw [this]
  cases (D.nd.role==3) <;> rfl
theorem sz_valid {w:W} {K cy:Int} (h1:DFit 1 K cy w.c1) (h2:DFit 2 K cy w.c2) (hw:w.p.cycle=cy) (hc:0≤cy∧cy≤1000000) {v:Ev} (hv:v.qt) (ht:w.r.t1=w.r.t2) (hn:w.r.t2.nice) (hs:w.c1.nd.steps=w.c2.nd.steps)
  (a1:w.c1.nd.has=true) (a2:w.c2.nd.has=true) (p1:w.c1.nd.role=3∨(w.c1.nd.is=true∧w.c1.nd.hd.role=3)) (p2:w.c2.nd.role=3∨(w.c2.nd.is=true∧w.c2.nd.hd.role=3)) :
  (w.late true true v).r.st1=4∧(w.late true true v).r.st2=4:=by
 have t1:snd2 w.c1 w.r.t1=_:=snd2_eq (t:=w.r.t1) h1.kk h1.nnum h1.nx h1.nnx h1.ncyc
 have t2:snd2 w.c2 w.r.t2=_:=snd2_eq (t:=w.r.t2) h2.kk h2.nnum h2.nx h2.nnx h2.ncyc
 rw [a1,cond_true] at t1
 rw [a2,cond_true] at t2
 have hi1:i64ok w.c1.nd.steps:=by have:=h1.steps;have:=h1.small;exact ⟨by omega,by omega⟩
 have hi2:i64ok w.c2.nd.steps:=by rw [← hs];exact hi1
 rw [late_st1,late_st2,cond_true,cond_true]
 refine ⟨?_,?_⟩
 ·show ((snd2 w.c1 w.r.t1).1.judge (wire (snd2 w.c2 w.r.t2).2.1 (snd2 w.c2 w.r.t2).2.2 v.f22 3 2 w.p.cycle).1 (wire (snd2 w.c2 w.r.t2).2.1 (snd2 w.c2 w.r.t2).2.2 v.f22 3 2 w.p.cycle).2).2.1=4
  rw [t1,t2,hv.f22,hw]
  show ((gT w.c1 w.r.t1).judge (wire ⟨3,2,cy,putRes w.c2.nd.steps w.r.t2⟩ true ftZ 3 2 cy).1 (wire ⟨3,2,cy,putRes w.c2.nd.steps w.r.t2⟩ true ftZ 3 2 cy).2).2.1=4
  rw [(res_z (j:=2) (.inr rfl) hc hi2 hn).1,ht]
  exact valid_z h1 rfl hs.symm hi2 hn a1 p1
 ·show ((snd2 w.c2 w.r.t2).1.judge (wire (snd2 w.c1 w.r.t1).2.1 (snd2 w.c1 w.r.t1).2.2 v.f12 3 1 w.p.cycle).1 (wire (snd2 w.c1 w.r.t1).2.1 (snd2 w.c1 w.r.t1).2.2 v.f12 3 1 w.p.cycle).2).2.1=4
  rw [t1,t2,hv.f12,hw]
  show ((gT w.c2 w.r.t2).judge (wire ⟨3,1,cy,putRes w.c1.nd.steps w.r.t1⟩ true ftZ 3 1 cy).1 (wire ⟨3,1,cy,putRes w.c1.nd.steps w.r.t1⟩ true ftZ 3 1 cy).2).2.1=4
  rw [ht,(res_z (j:=1) (.inl rfl) hc hi1 hn).1]
  exact valid_z h2 rfl hs hi1 hn a2 p2
theorem RB_z (ci cj:Cp) (cy:Int) (li lj:List UInt8):RB ci cy li (some (cj.hd0 lj))=decR ci.nd.number ci.nd.role ci.nd.steps 0 true cj.nd.role cj.nd.steps:=RB_eq _ _ _ _
theorem dec_21 (n s t:Int):decR n 2 s 0 true 1 t=2∧decR n 1 s 0 true 2 t=1:=⟨rfl,rfl⟩
theorem dec_23 (n s:Int):decR n 2 s 0 true 3 s=2∧decR n 3 s 0 true 2 s=3:=by
 refine ⟨rfl,?_⟩
 show cond (s==s) (3:Int) 1=3
 rw [eq_t rfl];rfl
theorem dec_22 (n s t:Int):decR n 2 s 0 true 2 t=cond (decide (t > s) || (t==s&&n==2)) 1 2:=rfl
theorem dec_pair {r1 r2 s1 s2:Int} (h1:1≤r1∧r1≤3) (h2:1≤r2∧r2≤3) (g1:r1=3→r2=1∨(r2=2∧s1=s2)) (g2:r2=3→r1=1∨(r1=2∧s2=s1)) :
  (decR 1 r1 s1 0 true r2 s2=2∧decR 2 r2 s2 0 true r1 s1=1)∨(decR 2 r2 s2 0 true r1 s1=2∧decR 1 r1 s1 0 true r2 s2=1) ∨
  (r1=2∧r2=3∧s1=s2)∨(r2=2∧r1=3∧s1=s2):=by
 have c1:r1=1∨r1=2∨r1=3:=by omega
 have c2:r2=1∨r2=2∨r2=3:=by omega
 rcases c1 with rfl | rfl | rfl <;> rcases c2 with rfl | rfl | rfl
 ·exact .inl ⟨rfl,rfl⟩
 ·exact .inr (.inl ⟨rfl,rfl⟩)
 ·exact .inr (.inl ⟨rfl,rfl⟩)
 ·exact .inl ⟨rfl,rfl⟩
 ·rw [dec_22,dec_22]
  by_cases h:s2 > s1
  ·rw [dt h,df (by omega:¬ s1 > s2),eq_f (by omega:s1≠s2)];exact .inr (.inl ⟨rfl,rfl⟩)
  ·by_cases h':s1 > s2
   ·rw [df h,dt h',eq_f (by omega:s2≠s1)];exact .inl ⟨rfl,rfl⟩
   ·rw [df h,df h',eq_t (by omega:s1=s2),eq_t (by omega:s2=s1)];exact .inl ⟨rfl,rfl⟩
 ·rcases g2 rfl with e | ⟨_,e⟩
  ·cases e
  ·exact .inr (.inr (.inl ⟨rfl,rfl,e.symm⟩))
 ·exact .inl ⟨rfl,rfl⟩
 ·rcases g1 rfl with e | ⟨_,e⟩
  ·cases e
  ·exact .inr (.inr (.inr ⟨rfl,rfl,e⟩))
 ·rcases g1 rfl with e | ⟨e,_⟩ <;> cases e
def oZ (c:Cp) (l:List UInt8):Option Hd:=some (c.hd0 l)
def DZ (ci cj:Cp) (cy:Int) (li lj:List UInt8):Cp:=Dv ci cy li (oZ cj lj) (yOf cj cy lj (oZ ci li))
def mZ (init:List UInt8) (ci cj:Cp) (cy:Int) (li lj:List UInt8) (m:Mc):Mc:=mD init ci cy li (oZ cj lj) (yOf cj cy lj (oZ ci li)) m
def EZ (init:List UInt8) (ci cj:Cp) (cy:Int) (li lj:List UInt8) (mi mj:Mc) (t:Tg):Cp×Mc:=Ee (DZ ci cj cy li lj) t (mZ init ci cj cy li lj mi) (pOf (DZ cj ci cy lj li) (mZ init cj ci cy lj li mj))
theorem oZ_len (c:Cp) (l:List UInt8):((oZ c l).getD noHd).input.length≤400:=inpC_len l
theorem yOf_some {c:Cp} {cy:Int} {l:List UInt8} {o:Option Hd} {s:Se} (h:yOf c cy l o=some s):RB c cy l o=2∧s=seOf c cy l o:=by
 unfold yOf at h
 cases hr:(RB c cy l o==2) with
 | false=>rw [hr] at h;cases h
 | true=>rw [hr] at h;injection h with h;exact ⟨eq_of_beq hr,h.symm⟩
theorem yOf_lead {c:Cp} {cy:Int} {l:List UInt8} {o:Option Hd} (h:RB c cy l o=2):yOf c cy l o=some (seOf c cy l o):=by
 unfold yOf;rw [h];rfl
theorem Dv_ask (c:Cp) (cy:Int) (l:List UInt8) (o:Option Hd) (y:Option Se):(Dv c cy l o y).asked=(RB c cy l o==2&&(o.isSome&&(o.getD noHd).role==1))∧(Dv c cy l o y).wb=(o.getD noHd).base∧(Dv c cy l o y).wh=(o.getD noHd).have_:=by
 unfold Dv fD
 refine cond_p (P:=fun z:Cp=>z.asked=(RB c cy l o==2&&(o.isSome&&(o.getD noHd).role==1))∧z.wb=(o.getD noHd).base∧z.wh=(o.getD noHd).have_) ?_ ⟨rfl,rfl,rfl⟩
 show (cond _ _ _:Cp).asked=_∧(cond _ _ _:Cp).wb=_∧(cond _ _ _:Cp).wh=_
 exact cond_p (P:=fun z:Cp=>z.asked=(RB c cy l o==2&&(o.isSome&&(o.getD noHd).role==1))∧z.wb=(o.getD noHd).base∧z.wh=(o.getD noHd).have_) ⟨rfl,rfl,rfl⟩ ⟨rfl,rfl,rfl⟩
theorem split_ok {s:Int} {m:Mc} {P:Int} (hm:m.inR P) (h1:P≤10000) (g0:1≤s) (g1:s≤2000000):split s (saveB m)=(0,splitL s (saveB m)):=by
 have hl:=saveB_len m
 have hp:=hm.pad
 unfold split
 rw [df (by omega:¬ s < 1),df (by omega:¬ s > 2305843009213693952),df (by omega:¬ (((saveB m).length:Nat):Int) > 524288)]
 rfl
theorem svOf_ok {D:Cp} {m:Mc} {P:Int} (hm:m.inR P) (h1:P≤10000) (g0:1≤D.nd.steps) (g1:D.nd.steps≤2000000):(svOf D m).2.2=0:=by
 unfold svOf serve
 rw [split_ok hm h1 g0 g1,neq_f rfl,cond_false]
 exact cond_p (P:=fun z:List PT×PT×Int=>z.2.2=0) rfl rfl
theorem svOf_hit {D:Cp} {m:Mc} (h:hit D.ps D.wb D.wh=true):svOf D m=(D.ps,D.ps.getD D.wh.toNat (0,0,0,[]),0):=by
 unfold svOf serve
 rw [h,cond_true]
theorem validP_at {bb:Int} {ss:List UInt8} {ii:Nat} (h1:1≤bb) (h2:bb≤2000000) (h3:pieces ss≤874) (h4:ii < pieces ss):validP (pcAt bb ss ii)=true:=by
 have hl:=pcAt_len bb ss ii
 have e:validP (pcAt bb ss ii)=(decide (bb≥1)&&(decide (bb≤2305843009213693952)&&(decide (((pieces ss:Nat):Int)≥1)&&(decide (((pieces ss:Nat):Int)≤874)&&(decide (((ii:Nat):Int)≥0)&&(decide (((ii:Nat):Int) < ((pieces ss:Nat):Int))&&decide ((((pcAt bb ss ii).2.2.2.length:Nat):Int)≤600))))))):=rfl
 rw [e,dt (by omega:bb≥1),dt (by omega:bb≤2305843009213693952),dt (by omega:((pieces ss:Nat):Int)≥1),dt (by omega:((pieces ss:Nat):Int)≤874),dt (by omega:((ii:Nat):Int)≥0),dt (by omega:((ii:Nat):Int) < ((pieces ss:Nat):Int)),dt (by omega:(((pcAt bb ss ii).2.2.2.length:Nat):Int)≤600)]
 rfl
theorem served_ok {k K cy P:Int} {D:Cp} {m:Mc} (hD:DFit k K cy D) (hm:m.inR P) (h1:P≤10000) (g0:1≤D.nd.steps):(svOf D m).2.2=0∧validP (svOf D m).2.1=true:=by
 have hs:=hD.steps
 have hK:=hD.small
 have h0:=svOf_ok (D:=D) hm h1 g0 (by omega)
 obtain ⟨bb,ss,ii,e1,e2,e3,e4,e5,e6⟩:=serve_cases (m:=m) hD.snd h0
 refine ⟨h0,?_⟩
 rw [e3]
 exact validP_at e5 (by rcases e6 with ⟨_,_,_,f⟩ | ⟨f,_,_⟩ <;> omega) e4 e2
theorem asked_steps {k K cy:Int} {c:Cp} (h:Fit k K c) (l:List UInt8) (o:Option Hd) (y:Option Se) (ha:(Dv c cy l o y).asked=true):1≤(Dv c cy l o y).nd.steps:=by
 rw [(Dv_ask c cy l o y).1] at ha
 simp only [Bool.and_eq_true,beq_iff_eq] at ha
 have hs:=fB_steps h.rdy cy l o
 have hK:=h.rdy.small
 rw [← fC_steps] at hs
 rw [Dv_nd,nX_2 ha.1]
 show 1≤IntKind.i64.wrap ((fC c cy l o).nd.steps+1)
 rw [wr64 (by omega)];omega
theorem Dv_out {c:Cp} {cy:Int} {l:List UInt8} {o:Option Hd} {y:Option Se} (h:RB c cy l o=1) (h1:c.nd.role=1):(Dv c cy l o y).nd.role=1∧(Dv c cy l o y).co=c.co.noteO y:=by
 have e0:(Dv c cy l o y).nd.role=1:=by rw [Dv_nd,nX_1 h];exact (fC_role _ _ _ _).trans h
 refine ⟨e0,?_⟩
 have e:(Dv c cy l o y).co=(cond ((fC c cy l o).nd.role==1) (fC c cy l o).co noCo).noteO y:=by
  have hh:((nX c cy l o y).1.role==1)=true:=by rw [← Dv_nd,e0];rfl
  unfold Dv fD
  have hh:((nS (fC c cy l o).nd (tkOf (fC c cy l o).nd y)).1.role==1)=true:=hh
  rw [hh,cond_true]
 rw [e,fC_role,h,show ((1:Int)==1)=true from rfl,cond_true]
 have e2:(fC c cy l o).co=cond (RB c cy l o != c.nd.role) noCo c.co:=rfl
 rw [e2,h,h1]
 rfl
theorem note_cases2 (co:Co) (s:Se):(co.noteO (some s)).ps=[]∨(co.ps≠[]∧co.ss.length < co.ps.length∧co.noteO (some s)={ co with ss:=co.ss++[s.t] }):=by
 show (co.note s true).ps=[]∨(_∧_∧co.note s true=_)
 unfold Co.note
 cases h:((co.ps.length:Int)==0) with
 | true=>left;rw [cond_true];exact List.length_eq_zero_iff.1 (by have:=eq_of_beq h;omega)
 | false =>
  rw [cond_false]
  cases hm:co.misses s true with
  | true=>exact .inl rfl
  | false =>
   right
   unfold Co.misses at hm
   simp only [Bool.not_true,Bool.false_or,Bool.or_eq_false_iff,bne_eq_false_iff_eq,decide_eq_false_iff_not] at hm
   refine ⟨fun e=>?_,by omega,rfl⟩
   rw [e] at h;cases h
theorem note_keep {co:Co} {s:Se} (h1:co.ps≠[]) (h2:co.ss.length < co.ps.length) (h3:s.fresh=false) (h4:s.steps=co.base+(co.ss.length:Int)) (h5:0≤co.base) (h6:co.base+(co.ss.length:Int)≤2000000):co.noteO (some s)={ co with ss:=co.ss++[s.t] }:=by
 have h0:((co.ps.length:Nat):Int)≠0:=by have:=List.length_pos_iff.2 h1;omega
 show co.note s true=_
 unfold Co.note Co.misses
 rw [eq_f h0,cond_false,h3,wr64 (by omega),neq_f h4,df (by omega:¬ ((co.ss.length:Nat):Int)≥((co.ps.length:Nat):Int))]
 rfl
theorem Ee_wait {D:Cp} {t:Tg} {m:Mc} {p:Option PT} (h:D.nd.role=1) (hr:(D.co.takeO p).ready=false):Ee D t m p=(gG (Vv D t m) p,m)∧(gG (Vv D t m) p).nd.role=1∧(gG (Vv D t m) p).co=D.co.takeO p:=by
 have v:=vfacts D t m
 have hG:(gG (Vv D t m) p).co=D.co.takeO p:=by show (Vv D t m).co.takeO p=_;rw [v.co]
 refine ⟨?_,v.role.trans h,hG⟩
 unfold Ee takeX
 rw [v.role,h,hG,hr]
 rfl
theorem Ee_ready {k K cy:Int} {D:Cp} {t:Tg} {m:Mc} {p:Option PT} (hD:DFit k K cy D) (h:D.nd.role=1) (hr:(D.co.takeO p).ready=true) (s1:1≤(D.co.takeO p).base+((D.co.takeO p).ss.length:Int)) (s2:(D.co.takeO p).base+((D.co.takeO p).ss.length:Int)≤2000000) (hl:(m.load (D.co.takeO p).ps.flatten).2=0):(Ee D t m p).1.nd.role=3:=by
 have v:=vfacts D t m
 have hG:(gG (Vv D t m) p).co=D.co.takeO p:=by show (Vv D t m).co.takeO p=_;rw [v.co]
 have e1:takeX (Vv D t m) p=(gG (Vv D t m) p).jobDone:=by
  unfold takeX
  rw [v.role,h,hG,hr]
  rfl
 unfold Ee
 rw [e1]
 have hn:(gG (Vv D t m) p).nd.next=0:=v.nnx
 have hro:(gG (Vv D t m) p).nd.role=1:=v.role.trans h
 have ha:(gG (Vv D t m) p).nd.adopt ((D.co.takeO p).base+((D.co.takeO p).ss.length:Int))=({ (gG (Vv D t m) p).nd with role:=3,steps:=(D.co.takeO p).base+((D.co.takeO p).ss.length:Int) },0):=by
  unfold Nd.adopt
  rw [neq_f hn,neq_f hro,df (by omega:¬ (D.co.takeO p).base+((D.co.takeO p).ss.length:Int) < 1),df (by omega:¬ (D.co.takeO p).base+((D.co.takeO p).ss.length:Int) > 4611686018427387904)]
  rfl
 unfold Cp.jobDone
 rw [hG,wr64 (by omega),ha,neq_f rfl,cond_false]
 unfold tookA
 rw [cond_true,neq_f hl,cond_false]
 rfl
theorem DZ_fit {k K cy:Int} {ci:Cp} (h:Fit k K ci) (cj:Cp) (li lj:List UInt8):DFit k K cy (DZ ci cj cy li lj):=dfit_of h li _ _
theorem mZ_in {P:Int} {m:Mc} (h:m.inR P) (init:List UInt8) (ci cj:Cp) (cy:Int) (li lj:List UInt8):(mZ init ci cj cy li lj m).inR P:=mD_in h init ci cy li _ _
structure LeadZ (ci D:Cp) (s:Se):Prop where
 role:D.nd.role=2
 steps:D.nd.steps=ci.nd.steps+1
 ps:D.ps=ci.ps
 has:D.nd.has=true
 fresh:s.fresh=false
 ss:s.steps=ci.nd.steps
theorem lead_z {k K:Int} {ci cj:Cp} {cy:Int} {li lj:List UInt8} (h:Fit k K ci) (h2:ci.nd.role=2) (hR:RB ci cy li (oZ cj lj)=2):LeadZ ci (DZ ci cj cy li lj) (seOf ci cy li (oZ cj lj)):=by
 obtain ⟨e1,e2,e3⟩:=fB_lead (k:=k) (K:=K) cy li (oZ cj lj) h2 hR
 have hs:=h.rdy.steps
 have hK:=h.rdy.small
 have en:(DZ ci cj cy li lj).nd=(nX ci cy li (oZ cj lj) (yOf cj cy lj (oZ ci li))).1:=Dv_nd _ _ _ _ _
 rw [nX_2 hR] at en
 refine ⟨by rw [en];exact (fC_role _ _ _ _).trans hR,?_,?_,by rw [en],e3,e1⟩
 ·rw [en]
  show IntKind.i64.wrap ((fC ci cy li (oZ cj lj)).nd.steps+1)=_
  rw [fC_steps,e1,wr64 (by omega)]
 ·unfold DZ;rw [Dv_lead _ hR];exact e2
theorem lead_end {D:Cp} (t:Tg) (m:Mc) (p:Option PT) (h:D.nd.role=2):(Ee D t m p).1.nd.role=2∧(Ee D t m p).1.ps=cond D.asked (svOf D m).1 D.ps:=by
 rw [Ee_in t m p (by rw [h];decide)]
 have v:=vfacts D t m
 exact ⟨v.role.trans h,v.ps⟩
structure Trf (ci cj:Cp):Prop where
 ne:cj.co.ps≠[]
 ss:cj.co.ss.length < cj.co.ps.length
 snd:∃ s,ci.ps=splitL cj.co.base s
 nr:((cj.co.ps.length:Nat):Int)≠cj.co.count
theorem link_few {co:Co} {ci:Cp} {mi:Mc} {P:Int} (h:Link co ci mi P):co.ps.length≤(16+P.toNat+599) / 600∧co.count=(((16+P.toNat+599) / 600:Nat):Int):=by
 obtain ⟨⟨S,s1,s2,⟨k,k1,k2,k3⟩,s4,s5⟩,hb,hs⟩:=h
 have hl:=saveB_len S
 rw [s1.pad] at hl
 have hp:pieces (saveB S)=(16+P.toNat+599) / 600:=by unfold pieces;rw [hl];omega
 rw [k3,dataL_len]
 rw [hp] at k2 s2
 exact ⟨by omega,s2⟩
theorem noready {co:Co} (h:co.ready=false) (hn:co.ps≠[]):((co.ps.length:Nat):Int)≠co.count:=by
 unfold Co.ready at h
 have h0:((co.ps.length:Nat):Int)≠0:=by have:=List.length_pos_iff.2 hn;omega
 rw [eq_f h0,Bool.false_or] at h
 simpa using h
theorem lq_step {P k j K cy:Int} {ci cj:Cp} {mi mj:Mc} {li lj init:List UInt8} (ti tj:Tg) (h0:0≤P) (h1:P≤10000) (hi:Fit k K ci) (hj:Fit j K cj) (hmi:mi.inR P) (hmj:mj.inR P) (h:RelE P cj mj true ci mi) (r1:ci.nd.role=2) (r2:cj.nd.role=1) :
  (EZ init ci cj cy li lj mi mj ti).1.nd.role=2∧((EZ init cj ci cy lj li mj mi tj).1.nd.role=3∨((EZ init cj ci cy lj li mj mi tj).1.nd.role=1 ∧
   ((EZ init cj ci cy lj li mj mi tj).1.co.ps=[]∨Trf (EZ init ci cj cy li lj mi mj ti).1 (EZ init cj ci cy lj li mj mi tj).1) ∧
   (cj.co.ps=[]→Trf (EZ init ci cj cy li lj mi mj ti).1 (EZ init cj ci cy lj li mj mi tj).1) ∧
   (Trf ci cj→Trf (EZ init ci cj cy li lj mi mj ti).1 (EZ init cj ci cy lj li mj mi tj).1∧(EZ init cj ci cy lj li mj mi tj).1.co.ps.length=cj.co.ps.length+1))):=by
 have hKs:=hi.rdy.small
 have his:=hi.rdy.steps
 have hRi:RB ci cy li (oZ cj lj)=2:=by
  have:=RB_z ci cj cy li lj
  rw [r1,r2] at this
  exact this.trans (dec_21 _ _ _).1
 have hRj:RB cj cy lj (oZ ci li)=1:=by
  have:=RB_z cj ci cy lj li
  rw [r1,r2] at this
  exact this.trans (dec_21 _ _ _).2
 have hL:=lead_z (cj:=cj) (cy:=cy) (li:=li) (lj:=lj) hi r1 hRi
 have hD:=DZ_fit (cy:=cy) hi cj li lj
 have hG:=DZ_fit (cy:=cy) hj ci lj li
 have hm:=mZ_in hmi init ci cj cy li lj
 have hmG:=mZ_in hmj init cj ci cy lj li
 have hO:(DZ cj ci cy lj li).nd.role=1∧(DZ cj ci cy lj li).co=cj.co.noteO (some (seOf ci cy li (oZ cj lj))):=by
  have:=Dv_out (y:=yOf ci cy li (oZ cj lj)) hRj r2
  rw [yOf_lead hRi] at this
  unfold DZ
  rw [yOf_lead hRi]
  exact this
 have hA:(DZ ci cj cy li lj).asked=true∧(DZ ci cj cy li lj).wb=cj.co.base∧(DZ ci cj cy li lj).wh=((cj.co.ps.length:Nat):Int):=by
  have:=Dv_ask ci cy li (oZ cj lj) (yOf cj cy lj (oZ ci li))
  have hw:cj.w=cj.co.want:=by unfold Cp.w;rw [r2];rfl
  refine ⟨?_,?_,?_⟩
  ·refine this.1.trans ?_
   rw [hRi]
   show (true&&(true&&(cj.nd.role==1)))=true
   rw [r2];rfl
  ·refine this.2.1.trans ?_
   show cj.w.1=_
   rw [hw];rfl
  ·refine this.2.2.trans ?_
   show cj.w.2=_
   rw [hw];rfl
 have hM:Mid P (DZ cj ci cy lj li) (mZ init cj ci cy lj li mj) true (DZ ci cj cy li lj) (mZ init ci cj cy li lj mi) :=
  mid_of (init:=init) hj (fun _=>hi) h (.inr ⟨rfl,rfl⟩) (.inr rfl) (fun s hs=>⟨rfl,yOf_some hs⟩)
 have hS:=served_ok hD hm h1 (by rw [hL.steps];omega)
 have hP:pOf (DZ ci cj cy li lj) (mZ init ci cj cy li lj mi)=some (svOf (DZ ci cj cy li lj) (mZ init ci cj cy li lj mi)).2.1:=by unfold pOf;rw [hA.1];rfl
 obtain ⟨bb,ss,ii,e1,e2,e3,e4,e5,e6⟩:=serve_cases hD.snd hS.1
 have hend:=lead_end ti (mZ init ci cj cy li lj mi) (pOf (DZ cj ci cy lj li) (mZ init cj ci cy lj li mj)) hL.role
 rw [hA.1,cond_true,e1] at hend
 have hlink:∀ (x:Option PT),x=pOf (DZ ci cj cy li lj) (mZ init ci cj cy li lj mi)→((DZ cj ci cy lj li).co.takeO x).ps≠[]→Link ((DZ cj ci cy lj li).co.takeO x) (Vv (DZ ci cj cy li lj) ti (mZ init ci cj cy li lj mi)) (mZ init ci cj cy li lj mi) P:=by
  intro x hx hne
  subst hx
  refine (linked_of (tj:=ti) hG (fun _=>⟨k,hD⟩) hm hM (fun x hx=>?_) hO.1 hne).2.2
  rw [hP] at hx
  injection hx with hx
  exact ⟨rfl,hA.1,hS.1,hx,by rw [← hx];exact hS.2⟩
 have hold:cj.co.ps≠[]→Link cj.co ci mi P:=fun hne=>by
  rcases h.link r2 hne rfl with f | ⟨_,f⟩
  ·rw [r1] at f;cases f
  ·exact f
 show (EZ init ci cj cy li lj mi mj ti).1.nd.role=2∧((Ee (DZ cj ci cy lj li) tj (mZ init cj ci cy lj li mj) (pOf (DZ ci cj cy li lj) (mZ init ci cj cy li lj mi))).1.nd.role=3∨_)
 refine ⟨hend.1,?_⟩
 unfold EZ
 have hp1:(Ee (DZ ci cj cy li lj) ti (mZ init ci cj cy li lj mi) (pOf (DZ cj ci cy lj li) (mZ init cj ci cy lj li mj))).1.ps=splitL bb ss:=hend.2
 rw [hP] at hlink ⊢
 have hV:validP (pcAt bb ss ii)=true:=by rw [← e3];exact hS.2
 rw [e3] at hlink ⊢
 generalize (Ee (DZ ci cj cy li lj) ti (mZ init ci cj cy li lj mi) (pOf (DZ cj ci cy lj li) (mZ init cj ci cy lj li mj))).1=E at hp1 ⊢
 have hT:(((DZ cj ci cy lj li).co.takeO (some (pcAt bb ss ii))).ps=[]∧(DZ cj ci cy lj li).co.ps=[]∧ii≠0) ∨
   ((DZ cj ci cy lj li).co.takeO (some (pcAt bb ss ii))=⟨bb,((pieces ss:Nat):Int),[(pcAt bb ss ii).2.2.2],[]⟩∧((DZ cj ci cy lj li).co.ps=[]∨bb=(DZ ci cj cy li lj).nd.steps)) ∨
   (cj.co.ps≠[]∧cj.co.ss.length < cj.co.ps.length∧bb=cj.co.base∧(DZ cj ci cy lj li).co.takeO (some (pcAt bb ss ii))={ cj.co with ss:=cj.co.ss++[(seOf ci cy li (oZ cj lj)).t],ps:=cj.co.ps++[(pcAt bb ss ii).2.2.2] }):=by
  have ht:∀ co:Co,co.takeO (some (pcAt bb ss ii))=cond (co.fitsP (pcAt bb ss ii)) { co with ps:=co.ps++[(pcAt bb ss ii).2.2.2] } (cond (((ii:Nat):Int)==0) ⟨bb,((pieces ss:Nat):Int),[(pcAt bb ss ii).2.2.2],[]⟩ co):=by
   intro co
   show co.take (pcAt bb ss ii)=_
   unfold Co.take
   rw [hV]
   rfl
  rw [ht]
  rcases note_cases2 cj.co (seOf ci cy li (oZ cj lj)) with g | ⟨g1,g2,g3⟩
  ·rw [← hO.2] at g
   have hf:(DZ cj ci cy lj li).co.fitsP (pcAt bb ss ii)=false:=by
    unfold Co.fitsP
    rw [g];rfl
   rw [hf,cond_false]
   by_cases hz:ii=0
   ·rw [hz]
    exact .inr (.inl ⟨rfl,.inl g⟩)
   ·rw [eq_f (by omega:((ii:Nat):Int)≠0),cond_false]
    exact .inl ⟨g,g,hz⟩
  ·rw [← hO.2] at g3
   have hpos:=List.length_pos_iff.2 g1
   have hf:(DZ cj ci cy lj li).co.fitsP (pcAt bb ss ii)=(bb==cj.co.base&&(((pieces ss:Nat):Int)==cj.co.count&&((ii:Nat):Int)==((cj.co.ps.length:Nat):Int))):=by
    rw [g3]
    unfold Co.fitsP
    dsimp only
    rw [dt (by omega:((cj.co.ps.length:Nat):Int) > 0)]
    rfl
   rcases e6 with ⟨f1,f2,f3,f4⟩ | ⟨f1,f2,f3⟩
   ·rw [hA.2.1] at f1
    rw [hA.2.2] at f2
    rw [hL.ps,f1] at f3
    obtain ⟨⟨S,s1,s2,s3,s4,s5⟩,hb,hst⟩:=hold g1
    have hs:=s5 ss f3
    rw [hf,eq_t f1,eq_t (show ((pieces ss:Nat):Int)=cj.co.count by rw [s2,hs]),eq_t f2.symm]
    refine .inr (.inr ⟨g1,g2,f1,?_⟩)
    rw [show (true&&(true&&true))=true from rfl,cond_true,g3]
   ·rw [hf,eq_f (by omega:((ii:Nat):Int)≠((cj.co.ps.length:Nat):Int)),Bool.and_false,Bool.and_false,cond_false,f3]
    exact .inr (.inl ⟨rfl,.inr f1⟩)
 cases hr:((DZ cj ci cy lj li).co.takeO (some (pcAt bb ss ii))).ready with
 | true =>
  have hne:((DZ cj ci cy lj li).co.takeO (some (pcAt bb ss ii))).ps≠[]:=fun e0=>by unfold Co.ready at hr;rw [e0] at hr;cases hr
  have hk:=hlink _ rfl hne
  have hj:=link_job h0 h1 hmG hk hr
  have hst:(Vv (DZ ci cj cy li lj) ti (mZ init ci cj cy li lj mi)).nd.steps=ci.nd.steps+1:=((vfacts _ _ _).steps).trans hL.steps
  have hk2:=hk.steps
  have hk3:=hk.base
  exact .inl (Ee_ready hG hO.1 hr (by omega) (by omega) (by rw [hj.1]))
 | false =>
  right
  obtain ⟨w1,w2,w3⟩:=Ee_wait (t:=tj) (m:=mZ init cj ci cy lj li mj) hO.1 hr
  rw [w1]
  have hnr:=noready hr
  rw [← w3] at hT hnr
  generalize gG (Vv (DZ cj ci cy lj li) tj (mZ init cj ci cy lj li mj)) (some (pcAt bb ss ii))=F at w2 w3 hT hnr
  refine ⟨w2,?_⟩
  have hkeep:Trf ci cj→(DZ cj ci cy lj li).co.ps≠[]:=fun htr=>by
   have hk:=hold htr.ne
   have hst:=hk.steps
   have hb:=hk.base
   rw [hO.2,note_keep htr.ne htr.ss hL.fresh (by rw [hL.ss];exact hst) (by omega) (by omega)]
   exact htr.ne
  rcases hT with ⟨t1,t2,t3⟩ | ⟨t1,t2⟩ | ⟨t1,t2,t3,t4⟩
  ·refine ⟨.inl t1,fun he=>?_,fun htr=>absurd t2 (hkeep htr)⟩
   exfalso
   rcases e6 with ⟨f1,f2,f3,f4⟩ | ⟨f1,f2,f3⟩
   ·rw [hA.2.2,he] at f2
    exact t3 (by have:((0:Nat):Int)=((ii:Nat):Int):=f2;omega)
   ·exact t3 f3
  ·have htr:Trf E F:=⟨by rw [t1];simp,by rw [t1];simp,⟨ss,by rw [hp1,t1]⟩,hnr (by rw [t1];simp)⟩
   refine ⟨.inr htr,fun _=>htr,fun hq=>?_⟩
   exfalso
   rcases t2 with t2 | t2
   ·exact hkeep hq t2
   ·obtain ⟨s,hs⟩:=hq.snd
    have hk:=hold hq.ne
    have hst:=hk.steps
    have hb:=hk.base
    obtain ⟨⟨S,s1,s2,⟨n,n1,n2,n3⟩,s4,s5⟩,_,_⟩:=hk
    have hsS:=s5 s hs
    have hlen:cj.co.ps.length=n:=by rw [n3,dataL_len]
    have hnr2:=hq.nr
    have hit1:hit (DZ ci cj cy li lj).ps (DZ ci cj cy li lj).wb (DZ ci cj cy li lj).wh=true:=by
     have hpos:=pieces_pos s
     unfold hit
     rw [hA.2.1,hA.2.2,hL.ps,hs,splitL_head,splitL_len,eq_t rfl,dt (by omega:((pieces s:Nat):Int) > 0),dt (by omega:((cj.co.ps.length:Nat):Int)≥0),dt (by rw [hsS];omega:((cj.co.ps.length:Nat):Int) < ((pieces s:Nat):Int))]
     rfl
    rw [svOf_hit hit1] at e1
    have:=splitL_base ((hL.ps.trans hs).symm.trans e1)
    rw [t2,hL.steps] at this
    omega
  ·have htr:Trf E F:=⟨by rw [t4];simp,by rw [t4];simp;omega,⟨ss,by rw [hp1,t4,t3]⟩,hnr (by rw [t4];simp)⟩
   exact ⟨.inr htr,fun he=>absurd he t1,fun _=>⟨htr,by rw [t4];simp⟩⟩
theorem fC_is (c:Cp) (cy:Int) (l:List UInt8) (o:Option Hd):(fC c cy l o).nd.is=o.isSome∧(fC c cy l o).nd.hd=o.getD noHd:=by
 rw [fC_nd]
 exact cond_p (P:=fun z:Nd=>z.is=o.isSome∧z.hd=o.getD noHd) ⟨rfl,rfl⟩ ⟨rfl,rfl⟩
structure PairZ (D G:Cp) (x y:Bool):Prop where
 d2:D.nd.role=2
 g3:G.nd.role=3
 dh:D.nd.has=true
 gh:G.nd.has=true
 di:D.nd.is=true
 dr:D.nd.hd.role=3
 x:x=true
 y:y=true
theorem nS_3s {n:Nd} {s:Se} (h2:(n.role==2)=false) (h3:(n.role==3)=true) (hf:s.fresh=false) (hs:s.steps=n.steps):nS n (tkOf n (some s))=({ n with next:=4,se:=s,has:=true,steps:=IntKind.i64.wrap (n.steps+1) },s,true):=by
 have e:tkOf n (some s)=some s:=by
  show cond (!s.fresh&&s.steps==n.steps) (some s) none=_
  rw [hf,eq_t hs];rfl
 unfold nS
 rw [h2,cond_false,h3,cond_true,e]
theorem pair_z {k j K cy:Int} {ci cj:Cp} {li lj:List UInt8} (hi:Fit k K ci) (hj:Fit j K cj) (r1:ci.nd.role=2) (r2:cj.nd.role=3) (hs:cj.nd.steps=ci.nd.steps) :
  PairZ (DZ ci cj cy li lj) (DZ cj ci cy lj li) (nX ci cy li (oZ cj lj) (yOf cj cy lj (oZ ci li))).2.2 (nX cj cy lj (oZ ci li) (yOf ci cy li (oZ cj lj))).2.2:=by
 have hRi:RB ci cy li (oZ cj lj)=2:=by
  have:=RB_z ci cj cy li lj
  rw [r1,r2,hs] at this
  exact this.trans (dec_23 _ _).1
 have hRj:RB cj cy lj (oZ ci li)=3:=by
  have:=RB_z cj ci cy lj li
  rw [r1,r2,hs] at this
  exact this.trans (dec_23 _ _).2
 have hL:=lead_z (cj:=cj) (cy:=cy) (li:=li) (lj:=lj) hi r1 hRi
 have en:(DZ ci cj cy li lj).nd=(nX ci cy li (oZ cj lj) (yOf cj cy lj (oZ ci li))).1:=Dv_nd _ _ _ _ _
 have eg:(DZ cj ci cy lj li).nd=(nX cj cy lj (oZ ci li) (yOf ci cy li (oZ cj lj))).1:=Dv_nd _ _ _ _ _
 have hf:=fC_is ci cy li (oZ cj lj)
 have hst:(fC cj cy lj (oZ ci li)).nd.steps=cj.nd.steps:=by
  rw [fC_steps]
  show cond (cj.nd.role==1&&RB cj cy lj (oZ ci li)==2) (0:Int) (cond (RB cj cy lj (oZ ci li)==1) 0 cj.nd.steps)=_
  rw [hRj,r2];rfl
 have hX:nX cj cy lj (oZ ci li) (yOf ci cy li (oZ cj lj))=({ (fC cj cy lj (oZ ci li)).nd with next:=4,se:=seOf ci cy li (oZ cj lj),has:=true,steps:=IntKind.i64.wrap ((fC cj cy lj (oZ ci li)).nd.steps+1) },seOf ci cy li (oZ cj lj),true):=by
  rw [yOf_lead hRi]
  exact nS_3s (n:=(fC cj cy lj (oZ ci li)).nd) (by rw [fC_role,hRj];rfl) (by rw [fC_role,hRj];rfl) hL.fresh (by rw [hL.ss,hst,hs])
 rw [nX_2 hRi] at en
 rw [hX] at eg
 refine ⟨hL.role,?_,hL.has,?_,?_,?_,?_,?_⟩
 ·rw [eg];exact (fC_role _ _ _ _).trans hRj
 ·rw [eg]
 ·rw [en];exact hf.1
 ·rw [en]
  show (fC ci cy li (oZ cj lj)).nd.hd.role=3
  rw [hf.2];exact r2
 ·rw [nX_2 hRi]
 ·rw [hX]
theorem sz_step {u:W} {K cy:Int} {c1 c2:Cp} {one two:List UInt8} {o1 o2:Option Hd} {y1 y2:Option Se} (h1:Rdy 1 K c1) (h2:Rdy 2 K c2) (e1:u.c1=fC c1 cy one o1) (e2:u.c2=fC c2 cy two o2) (s1:SetCame 1 cy u.f1 u.b1 y1) (s2:SetCame 2 cy u.f2 u.b2 y2) (v:Ev) :
  ((u.step true true v).c1=Dv c1 cy one o1 y1∧(u.step true true v).m1=mD u.p.init c1 cy one o1 y1 u.m1∧((nX c1 cy one o1 y1).2.2=true→(u.step true true v).r.t1=(mD u.p.init c1 cy one o1 y1 u.m1).tg.wrong v.w1)) ∧
  ((u.step true true v).c2=Dv c2 cy two o2 y2∧(u.step true true v).m2=mD u.p.init c2 cy two o2 y2 u.m2∧((nX c2 cy two o2 y2).2.2=true→(u.step true true v).r.t2=(mD u.p.init c2 cy two o2 y2 u.m2).tg.wrong v.w2)):=by
 have hT:=st_step (w:=u) (a:=true) (b:=true) (fun _=>h1) (fun _=>h2) (fun _=>e1) (fun _=>e2) (fun _=>s1) (fun _=>s2) v
 refine ⟨⟨(hT.1 rfl).1,(hT.1 rfl).2,fun hx=>?_⟩,⟨(hT.2 rfl).1,(hT.2 rfl).2,fun hx=>?_⟩⟩
 ·have e:=fC_step h1 (l:=one) (o:=o1) s1
  have q:(u.step true true v).r.t1=cond (u.c1.step u.f1 u.b1).2.2.1 ((stepA u.p.init u.m1 (u.c1.step u.f1 u.b1).2.1).tg.wrong v.w1) u.r.t1:=rfl
  rw [e1,e] at q
  rw [q]
  unfold mD
  rw [hx]
  rfl
 ·have e:=fC_step h2 (l:=two) (o:=o2) s2
  have q:(u.step true true v).r.t2=cond (u.c2.step u.f2 u.b2).2.2.1 ((stepA u.p.init u.m2 (u.c2.step u.f2 u.b2).2.1).tg.wrong v.w2) u.r.t2:=rfl
  rw [e2,e] at q
  rw [q]
  unfold mD
  rw [hx]
  rfl
theorem forms_z {P K cy:Int} {w:W} (h1:P≤10000) (hf1:Fit 1 K w.c1) (hf2:Fit 2 K w.c2) (hm1:w.m1.inR P) (hm2:w.m2.inR P) (hw:w.p.cycle=cy) (hc:0≤cy∧cy≤1000000) (ht1:w.r.t1.nice) (ht2:w.r.t2.nice) {v:Ev} (hv:v.qt) (one two:List UInt8) :
  ∃ t1 t2,((((w.early true true v one two).step true true v).late true true v).c1=(EZ w.p.init w.c1 w.c2 cy one two w.m1 w.m2 t1).1∧(((w.early true true v one two).step true true v).late true true v).m1=(EZ w.p.init w.c1 w.c2 cy one two w.m1 w.m2 t1).2) ∧
   ((((w.early true true v one two).step true true v).late true true v).c2=(EZ w.p.init w.c2 w.c1 cy two one w.m2 w.m1 t2).1∧(((w.early true true v one two).step true true v).late true true v).m2=(EZ w.p.init w.c2 w.c1 cy two one w.m2 w.m1 t2).2) ∧
   ((PairZ (DZ w.c1 w.c2 cy one two) (DZ w.c2 w.c1 cy two one) (nX w.c1 cy one (oZ w.c2 two) (yOf w.c2 cy two (oZ w.c1 one))).2.2 (nX w.c2 cy two (oZ w.c1 one) (yOf w.c1 cy one (oZ w.c2 two))).2.2 ∨
    PairZ (DZ w.c2 w.c1 cy two one) (DZ w.c1 w.c2 cy one two) (nX w.c2 cy two (oZ w.c1 one) (yOf w.c1 cy one (oZ w.c2 two))).2.2 (nX w.c1 cy one (oZ w.c2 two) (yOf w.c2 cy two (oZ w.c1 one))).2.2) →
    (DZ w.c1 w.c2 cy one two).nd.steps=(DZ w.c2 w.c1 cy two one).nd.steps→mZ w.p.init w.c1 w.c2 cy one two w.m1=mZ w.p.init w.c2 w.c1 cy two one w.m2 →
    (((w.early true true v one two).step true true v).late true true v).r.st1=4∧(((w.early true true v one two).step true true v).late true true v).r.st2=4∧(((w.early true true v one two).step true true v).late true true v).r.t1=(((w.early true true v one two).step true true v).late true true v).r.t2):=by
 obtain ⟨c1,c2⟩:=sz_hear (w:=w) hf1.rdy hf2.rdy hw hc hv one two
 have hS:=sz_share (w:=(w.ex0 true true v one two).hear true true) (o1:=oZ w.c2 two) (o2:=oZ w.c1 one) hf1.rdy hf2.rdy c1 c2 hw hc hv (oZ_len _ _) (oZ_len _ _)
 have hE:((w.ex0 true true v one two).hear true true).ex1 true true v=w.early true true v one two:=rfl
 rw [hE] at hS
 obtain ⟨s1,s2,y1,y2⟩:=hS
 have em1:(w.early true true v one two).m1=w.m1:=rfl
 have em2:(w.early true true v one two).m2=w.m2:=rfl
 have ep:=early_p w true true v one two
 have er:=early_r w true true v one two
 generalize w.early true true v one two=u at s1 s2 y1 y2 em1 em2 ep er
 have hT:=sz_step (u:=u) hf1.rdy hf2.rdy s1 s2 y1 y2 v
 rw [ep,em1,em2] at hT
 have hp3:(u.step true true v).p.cycle=cy:=by rw [step_p,ep];exact hw
 obtain ⟨n1,n2⟩:=stepA1_n (u:=u) true v (by rw [er];exact ht1) (by rw [er];exact ht2)
 obtain ⟨n3,n4⟩:=stepA2_n (u:=u.stepA1 true v) true v n1 n2
 have n5:(u.step true true v).r.t2.nice:=n4
 generalize u.step true true v=x at hT hp3 n5
 obtain ⟨⟨a1,a2,a3⟩,b1,b2,b3⟩:=hT
 have a1:x.c1=DZ w.c1 w.c2 cy one two:=a1
 have b1:x.c2=DZ w.c2 w.c1 cy two one:=b1
 have a2:x.m1=mZ w.p.init w.c1 w.c2 cy one two w.m1:=a2
 have b2:x.m2=mZ w.p.init w.c2 w.c1 cy two one w.m2:=b2
 have hd1:DFit 1 K cy x.c1:=by rw [a1];exact DZ_fit hf1 _ _ _
 have hd2:DFit 2 K cy x.c2:=by rw [b1];exact DZ_fit hf2 _ _ _
 have hi1:x.m1.inR P:=by rw [a2];exact mZ_in hm1 _ _ _ _ _ _
 have hi2:x.m2.inR P:=by rw [b2];exact mZ_in hm2 _ _ _ _ _ _
 have hl:=sz_late (w:=x) hd1 hd2 hp3 hc hv (fun ha=>served_ok hd1 hi1 h1 (by rw [a1] at ha ⊢;exact asked_steps hf1 _ _ _ ha)) (fun ha=>served_ok hd2 hi2 h1 (by rw [b1] at ha ⊢;exact asked_steps hf2 _ _ _ ha))
 have e1:EZ w.p.init w.c1 w.c2 cy one two w.m1 w.m2 x.r.t1=Ee x.c1 x.r.t1 x.m1 (pOf x.c2 x.m2):=by rw [a1,a2,b1,b2];rfl
 have e2:EZ w.p.init w.c2 w.c1 cy two one w.m2 w.m1 x.r.t2=Ee x.c2 x.r.t2 x.m2 (pOf x.c1 x.m1):=by rw [a1,a2,b1,b2];rfl
 refine ⟨x.r.t1,x.r.t2,by rw [e1];exact hl.1,by rw [e2];exact hl.2,fun hp hs hm=>?_⟩
 have hxy:(nX w.c1 cy one (oZ w.c2 two) (yOf w.c2 cy two (oZ w.c1 one))).2.2=true∧(nX w.c2 cy two (oZ w.c1 one) (yOf w.c1 cy one (oZ w.c2 two))).2.2=true:=by
  rcases hp with h | h
  ·exact ⟨h.x,h.y⟩
  ·exact ⟨h.y,h.x⟩
 have t1:x.r.t1=(mZ w.p.init w.c1 w.c2 cy one two w.m1).tg.wrong v.w1:=a3 hxy.1
 have t2:x.r.t2=(mZ w.p.init w.c2 w.c1 cy two one w.m2).tg.wrong v.w2:=b3 hxy.2
 have ht:x.r.t1=x.r.t2:=by rw [t1,t2,hm,hv.w1,hv.w2]
 rw [(late_t x true true v).1,(late_t x true true v).2]
 rw [← a1,← b1] at hp hs
 have hq:x.c1.nd.has=true∧x.c2.nd.has=true∧(x.c1.nd.role=3∨(x.c1.nd.is=true∧x.c1.nd.hd.role=3))∧(x.c2.nd.role=3∨(x.c2.nd.is=true∧x.c2.nd.hd.role=3)):=by
  rcases hp with h | h
  ·exact ⟨h.dh,h.gh,.inr ⟨h.di,h.dr⟩,.inl h.g3⟩
  ·exact ⟨h.gh,h.dh,.inl h.g3,.inr ⟨h.di,h.dr⟩⟩
 obtain ⟨z1,z2⟩:=sz_valid (w:=x) hd1 hd2 hp3 hc hv ht n5 hs hq.1 hq.2.1 hq.2.2.1 hq.2.2.2
 exact ⟨z1,z2,ht⟩
def Vl (c1 c2:Cp):Prop:=(c1.nd.role=2∧c2.nd.role=3)∨(c2.nd.role=2∧c1.nd.role=3)
def Az (c1 c2:Cp):Prop:=Vl c1 c2∨(c1.nd.role=2∧c2.nd.role=1)∨(c2.nd.role=2∧c1.nd.role=1)
def Lz (k:Nat) (ci cj:Cp):Prop:=ci.nd.role=2∧cj.nd.role=1∧((k=0∧cj.co.ps=[])∨(Trf ci cj∧k≤cj.co.ps.length))
def Qz (k:Nat) (c1 c2:Cp):Prop:=Vl c1 c2∨Lz k c1 c2∨Lz k c2 c1
theorem Vl_sym {c1 c2:Cp} (h:Vl c1 c2):Vl c2 c1:=h.elim .inr .inl
theorem lz_next {P k j K cy:Int} {ci cj:Cp} {mi mj:Mc} {li lj init:List UInt8} (ti tj:Tg) (h0:0≤P) (h1:P≤10000) (hi:Fit k K ci) (hj:Fit j K cj) (hmi:mi.inR P) (hmj:mj.inR P) (h:RelE P cj mj true ci mi) (r1:ci.nd.role=2) (r2:cj.nd.role=1) :
  (Vl (EZ init ci cj cy li lj mi mj ti).1 (EZ init cj ci cy lj li mj mi tj).1∨Lz 0 (EZ init ci cj cy li lj mi mj ti).1 (EZ init cj ci cy lj li mj mi tj).1) ∧
  (∀ n,Lz n ci cj→Vl (EZ init ci cj cy li lj mi mj ti).1 (EZ init cj ci cy lj li mj mi tj).1∨Lz (n+1) (EZ init ci cj cy li lj mi mj ti).1 (EZ init cj ci cy lj li mj mi tj).1):=by
 obtain ⟨e1,e2⟩:=lq_step (cy:=cy) (li:=li) (lj:=lj) (init:=init) ti tj h0 h1 hi hj hmi hmj h r1 r2
 generalize (EZ init ci cj cy li lj mi mj ti).1=E at e1 e2 ⊢
 generalize (EZ init cj ci cy lj li mj mi tj).1=F at e2 ⊢
 rcases e2 with e2 | ⟨e2,e3,e4,e5⟩
 ·exact ⟨.inl (.inl ⟨e1,e2⟩),fun n _=> .inl (.inl ⟨e1,e2⟩)⟩
 ·refine ⟨.inr ⟨e1,e2,?_⟩,fun n hn=> .inr ⟨e1,e2,?_⟩⟩
  ·rcases e3 with e3 | e3
   ·exact .inl ⟨rfl,e3⟩
   ·exact .inr ⟨e3,Nat.zero_le _⟩
  ·right
   rcases hn.2.2 with ⟨hk,hp⟩ | ⟨ht,hk⟩
   ·have:=e4 hp
    have hpos:=List.length_pos_iff.2 this.ne
    exact ⟨this,by omega⟩
   ·have:=e5 ht
    exact ⟨this.1,by omega⟩
theorem az_next {k j K cy:Int} {ci cj:Cp} {mi mj:Mc} {li lj init:List UInt8} (ti tj:Tg) (hi:Fit k K ci) (hj:Fit j K cj) (r1:RB ci cy li (oZ cj lj)=2) (r2:RB cj cy lj (oZ ci li)=1) :
  (EZ init ci cj cy li lj mi mj ti).1.nd.role=2∧((EZ init cj ci cy lj li mj mi tj).1.nd.role=3∨(EZ init cj ci cy lj li mj mi tj).1.nd.role=1):=by
 have hD:=DZ_fit (cy:=cy) hi cj li lj
 have hG:=DZ_fit (cy:=cy) hj ci lj li
 have d2:(DZ ci cj cy li lj).nd.role=2:=by
  have en:(DZ ci cj cy li lj).nd=_:=Dv_nd _ _ _ _ _
  rw [en,nX_2 r1]
  exact (fC_role _ _ _ _).trans r1
 have g1:(DZ cj ci cy lj li).nd.role=1:=by
  have en:(DZ cj ci cy lj li).nd=_:=Dv_nd _ _ _ _ _
  rw [en,nX_1 r2]
  exact (fC_role _ _ _ _).trans r2
 refine ⟨(lead_end ti _ _ d2).1,?_⟩
 unfold EZ
 rcases Ee_out (t:=tj) (m:=mZ init cj ci cy lj li mj) (p:=pOf (DZ ci cj cy li lj) (mZ init ci cj cy li lj mi)) hG g1 with e | ⟨er,es1,es2,H,q1,q2,q3,q4,q5,q6,q7,q8,e | e⟩
 ·rw [e]
  exact .inr ((vfacts (DZ cj ci cy lj li) tj (mZ init cj ci cy lj li mj)).role.trans g1)
 ·rw [e.2]
  exact .inl q1
 ·rw [e]
  exact .inr rfl
theorem vl_next {k j K cy:Int} {ci cj:Cp} {mi mj:Mc} {li lj init:List UInt8} (ti tj:Tg) (hi:Fit k K ci) (hj:Fit j K cj) (r1:ci.nd.role=2) (r2:cj.nd.role=3) (hs:cj.nd.steps=ci.nd.steps):(EZ init ci cj cy li lj mi mj ti).1.nd.role=2∧(EZ init cj ci cy lj li mj mi tj).1.nd.role=3:=by
 have hp:=pair_z (cy:=cy) (li:=li) (lj:=lj) hi hj r1 r2 hs
 refine ⟨(lead_end ti _ _ hp.d2).1,?_⟩
 unfold EZ
 rw [Ee_in _ _ _ (by rw [hp.g3];decide)]
 exact (vfacts (DZ cj ci cy lj li) tj (mZ init cj ci cy lj li mj)).role.trans hp.g3
theorem mid_z {P k j K cy:Int} {ci cj:Cp} {mi mj:Mc} {li lj init:List UInt8} (hi:Fit k K ci) (hj:Fit j K cj) (h:RelE P ci mi true cj mj):Mid P (DZ ci cj cy li lj) (mZ init ci cj cy li lj mi) true (DZ cj ci cy lj li) (mZ init cj ci cy lj li mj) :=
 mid_of (init:=init) hi (fun _=>hj) h (.inr ⟨rfl,rfl⟩) (.inr rfl) (fun s hs=>⟨rfl,yOf_some hs⟩)
structure NextZ (P K:Int) (c1 c2:Cp) (q:W):Prop where
 good:Good P (K+1) true true q
 az:Az q.c1 q.c2
 qz:(c1.nd.role=2∧c2.nd.role=1)∨(c2.nd.role=2∧c1.nd.role=1)→Qz 0 q.c1 q.c2
 lz:∀ n,Lz n c1 c2∨Lz n c2 c1→Qz (n+1) q.c1 q.c2
 vl:Vl c1 c2→Vl q.c1 q.c2∧q.r.st1=4∧q.r.st2=4∧q.r.t1=q.r.t2
theorem z_cycle {P K:Int} {a b:Bool} {w q:W} {v:Ev} {one two:List UInt8} {c1 c2:Cp} (h0:0≤P) (h1:P≤10000) (hK:0≤K) (hK2:K+1≤1000000) (h:Good P K a b w) (hv:v.qt) (ea:evA a v.s1 v.r1=true) (eb:evA b v.s2 v.r2=true)
  (hc1:evK a v.s1 v.k1 w.c1 1=c1) (hc2:evK b v.s2 v.k2 w.c2 2=c2) (hq:cycW a b w.p w.m1 w.m2 w.c1 w.c2 v one two=q):NextZ P K c1 c2 q:=by
 have hgood:=(next_al h0 h1 hK hK2 h hq).1
 rw [ea,eb] at hgood
 have g1:=evK_fit (s:=v.s1) (k:=v.k1) (.inl rfl) hK (by omega) h.f1
 have g2:=evK_fit (s:=v.s2) (k:=v.k2) (.inr rfl) hK (by omega) h.f2
 have r1:=rel_events (s:=v.s1) (t:=v.s2) (k:=v.k1) (k':=v.k2) (r:=false) (r':=v.r2) (n:=1) (n':=2) h.r12
 have r2:=rel_events (s:=v.s2) (t:=v.s1) (k:=v.k2) (k':=v.k1) (r:=false) (r':=v.r1) (n:=2) (n':=1) h.r21
 rw [eb] at r1
 rw [ea] at r2
 unfold cycW at hq
 rw [ea,eb] at hq
 rw [hc1,hc2] at r1 hq
 rw [hc1,hc2] at r2
 rw [hc1] at g1
 rw [hc2] at g2
 have hcy:(start w.p w.m1 w.m2 c1 c2).p.cycle=K+1:=by
  show IntKind.i64.wrap (w.p.cycle+1)=K+1
  rw [h.cyc,wr64 (by omega)]
 obtain ⟨n1,n2,-⟩:=start_r w.p w.m1 w.m2 c1 c2
 obtain ⟨t1,t2,⟨f1,-⟩,⟨f2,-⟩,f3⟩:=forms_z (w:=start w.p w.m1 w.m2 c1 c2) (cy:=K+1) h1 g1 g2 h.m1 h.m2 hcy ⟨by omega,by omega⟩ (by rw [n1];exact noTg_nice) (by rw [n2];exact noTg_nice) hv one two
 rw [all_late] at hq
 have hf1:q.c1=(EZ w.p.init c1 c2 (K+1) one two w.m1 w.m2 t1).1:=by rw [← hq];exact f1
 have hf2:q.c2=(EZ w.p.init c2 c1 (K+1) two one w.m2 w.m1 t2).1:=by rw [← hq];exact f2
 have s1:q.r.st1=((((start w.p w.m1 w.m2 c1 c2).early true true v one two).step true true v).late true true v).r.st1:=by rw [← hq];rfl
 have s2:q.r.st2=((((start w.p w.m1 w.m2 c1 c2).early true true v one two).step true true v).late true true v).r.st2:=by rw [← hq];rfl
 have s3:q.r.t1=((((start w.p w.m1 w.m2 c1 c2).early true true v one two).step true true v).late true true v).r.t1:=by rw [← hq];rfl
 have s4:q.r.t2=((((start w.p w.m1 w.m2 c1 c2).early true true v one two).step true true v).late true true v).r.t2:=by rw [← hq];rfl
 refine ⟨hgood,?_,fun hr=>?_,fun n hn=>?_,fun hl=>?_⟩
 ·rw [hf1,hf2]
  have b1:=RB_z c1 c2 (K+1) one two
  have b2:=RB_z c2 c1 (K+1) two one
  rw [g1.rdy.nnum] at b1
  rw [g2.rdy.nnum] at b2
  rcases dec_pair (s1:=c1.nd.steps) (s2:=c2.nd.steps) g1.rdy.role g2.rdy.role (fun e=>(r1.foll e rfl).imp id fun x=>⟨x.1,x.2.1⟩) (fun e=>(r2.foll e rfl).imp id fun x=>⟨x.1,x.2.1⟩) with ⟨d1,d2⟩ | ⟨d1,d2⟩ | ⟨d1,d2,d3⟩ | ⟨d1,d2,d3⟩
  ·obtain ⟨z1,z2⟩:=az_next (init:=w.p.init) (mi:=w.m1) (mj:=w.m2) t1 t2 g1 g2 (b1.trans d1) (b2.trans d2)
   exact z2.elim (fun e=> .inl (.inl ⟨z1,e⟩)) (fun e=> .inr (.inl ⟨z1,e⟩))
  ·obtain ⟨z1,z2⟩:=az_next (init:=w.p.init) (mi:=w.m2) (mj:=w.m1) t2 t1 g2 g1 (b2.trans d1) (b1.trans d2)
   exact z2.elim (fun e=> .inl (.inr ⟨z1,e⟩)) (fun e=> .inr (.inr ⟨z1,e⟩))
  ·exact .inl (.inl (vl_next (init:=w.p.init) (mi:=w.m1) (mj:=w.m2) t1 t2 g1 g2 d1 d2 d3.symm))
  ·exact .inl (.inr (vl_next (init:=w.p.init) (mi:=w.m2) (mj:=w.m1) t2 t1 g2 g1 d1 d2 d3))
 ·rw [hf1,hf2]
  rcases hr with ⟨e1,e2⟩ | ⟨e1,e2⟩
  ·exact (lz_next t1 t2 h0 h1 g1 g2 h.m1 h.m2 r2 e1 e2).1.imp id .inl
  ·exact (lz_next t2 t1 h0 h1 g2 g1 h.m2 h.m1 r1 e1 e2).1.imp Vl_sym .inr
 ·rw [hf1,hf2]
  rcases hn with e | e
  ·exact ((lz_next t1 t2 h0 h1 g1 g2 h.m1 h.m2 r2 e.1 e.2.1).2 n e).imp id .inl
  ·exact ((lz_next t2 t1 h0 h1 g2 g1 h.m2 h.m1 r1 e.1 e.2.1).2 n e).imp Vl_sym .inr
 ·rw [s1,s2,s3,s4,hf1,hf2]
  rcases hl with ⟨e1,e2⟩ | ⟨e1,e2⟩
  ·rcases r2.foll e2 rfl with f | ⟨_,f4,f5⟩
   ·rw [e1] at f;cases f
   ·have hp:=pair_z (cy:=K+1) (li:=one) (lj:=two) g1 g2 e1 e2 f4
    have hm:=(mid_z (cy:=K+1) (li:=two) (lj:=one) (init:=w.p.init) g2 g1 r2).foll hp.g3
    exact ⟨.inl (vl_next (init:=w.p.init) (mi:=w.m1) (mj:=w.m2) t1 t2 g1 g2 e1 e2 f4),f3 (.inl hp) hm.2.2.1.symm hm.2.2.2.symm⟩
  ·rcases r1.foll e2 rfl with f | ⟨_,f4,f5⟩
   ·rw [e1] at f;cases f
   ·have hp:=pair_z (cy:=K+1) (li:=two) (lj:=one) g2 g1 e1 e2 f4
    have hm:=(mid_z (cy:=K+1) (li:=one) (lj:=two) (init:=w.p.init) g1 g2 r1).foll hp.g3
    exact ⟨.inr (vl_next (init:=w.p.init) (mi:=w.m2) (mj:=w.m1) t2 t1 g2 g1 e1 e2 f4),f3 (.inr hp) hm.2.2.1 hm.2.2.2⟩
theorem lz_end {P K:Int} {n:Nat} {ci cj:Cp} {mi mj:Mc} (h:Rel P cj mj true ci mi) (hn:(16+P.toNat+599) / 600≤n) (hl:Lz n ci cj):False:=by
 obtain ⟨l1,l2,l3⟩:=hl
 rcases l3 with ⟨l3,_⟩ | ⟨l3,l4⟩
 ·omega
 ·obtain ⟨k1,k2⟩:=link_few (h.link l2 l3.ne).2.2
  have:=l3.nr
  omega
theorem qz_end {P K:Int} {n:Nat} {w:W} (h:Good P K true true w) (hn:(16+P.toNat+599) / 600≤n) (hq:Qz n w.c1 w.c2):Vl w.c1 w.c2:=by
 rcases hq with e | e | e
 ·exact e
 ·exact (lz_end (K:=K) (h.r21 rfl) hn e).elim
 ·exact (lz_end (K:=K) (h.r12 rfl) hn e).elim
def Pz (i:Nat) (c1 c2:Cp):Prop:=match i with
 | 0=>Az c1 c2
 | i+1=>Qz i c1 c2
theorem pz_next {P K:Int} {w q:W} {v:Ev} {one two:List UInt8} {i:Nat} (h0:0≤P) (h1:P≤10000) (hK:0≤K) (hK2:K+1≤1000000) (h:Good P K true true w) (hv:v.qt) (hs:v.s1=false∧v.s2=false∧v.k1=false∧v.k2=false) (hq:cycW true true w.p w.m1 w.m2 w.c1 w.c2 v one two=q) (hp:Pz i w.c1 w.c2) :
  Good P (K+1) true true q∧Pz (i+1) q.c1 q.c2∧((16+P.toNat+599) / 600+1≤i→q.r.st1=4∧q.r.st2=4∧q.r.t1=q.r.t2):=by
 obtain ⟨e1,e2,e3,e4⟩:=hs
 have n:=z_cycle h0 h1 hK hK2 h hv (by rw [e1];rfl) (by rw [e2];rfl) (c1:=w.c1) (c2:=w.c2) (by rw [e1,e3];rfl) (by rw [e2,e4];rfl) hq
 refine ⟨n.good,?_,fun hi=>?_⟩
 ·cases i with
  | zero =>
   rcases hp with e | e
   ·exact .inl (n.vl e).1
   ·exact n.qz e
  | succ i =>
   rcases hp with e | e
   ·exact .inl (n.vl e).1
   ·exact n.lz i e
 ·cases i with
  | zero=>omega
  | succ i=>exact (n.vl (qz_end h (by omega) hp)).2
end Go.Proofs.YtpleflcfaecojaaGreat
