/-
The reference's cycle: the same as the program's. Conditions: each lemma's own.
-/
import Derived.Test.YtpleflcfaecojaaGreatM20
namespace Go.Proofs.YtpleflcfaecojaaGreat
set_option linter.unusedVariables false
set_option linter.unusedSimpArgs false
set_option maxRecDepth 100000
open Go.RowKit
def Zf:=(((false,false),false,false,false),(false,false),false,false,false)
def rR (w:W) (k:RK) (a b:Bool) (m0:Mc):=((((((w.c1.nd.number,w.c1.nd.role,w.c1.nd.steps),w.c1.nd.alone,w.c1.nd.next,w.c1.nd.cycle),(w.c1.nd.input,k.fr1,w.c1.nd.is),(w.c1.nd.hd.role,w.c1.nd.hd.steps),w.c1.nd.hd.base,w.c1.nd.hd.have_),((w.c1.nd.hd.input,w.c1.nd.has,w.c1.nd.tt.lat),(w.c1.nd.tt.ver,w.c1.nd.tt.ph),w.c1.nd.tt.bank,w.c1.nd.tt.speed),(w.c1.nd.tt.alt,w.c1.nd.tt.vs,w.c1.ps),(w.c1.co.base,w.c1.co.count),w.c1.co.ps,w.c1.co.ss),(((k.ak1,w.c1.next,w.c2.nd.number),(w.c2.nd.role,w.c2.nd.steps),w.c2.nd.alone,w.c2.nd.next),(w.c2.nd.cycle,w.c2.nd.input,k.fr2),(w.c2.nd.is,w.c2.nd.hd.role),w.c2.nd.hd.steps,w.c2.nd.hd.base),((w.c2.nd.hd.have_,w.c2.nd.hd.input,w.c2.nd.has),(w.c2.nd.tt.lat,w.c2.nd.tt.ver),w.c2.nd.tt.ph,w.c2.nd.tt.bank),(w.c2.nd.tt.speed,w.c2.nd.tt.alt,w.c2.nd.tt.vs),(w.c2.ps,w.c2.co.base),w.c2.co.count,w.c2.co.ps),((((w.c2.co.ss,k.ak2,w.c2.next),a,b,w.m1.sum),(w.m1.count,w.m1.pad,w.m2.sum),(w.m2.count,w.m2.pad),m0.sum,m0.count),((m0.pad,w.p.cycle,w.p.r1),(w.p.r2,w.p.r3),w.p.r4,w.p.use.lat),(w.p.use.ver,w.p.use.ph,w.p.use.bank),(w.p.use.speed,w.p.use.alt),w.p.use.vs,w.r.cycle),(((w.r.role1,w.r.role2,w.r.st1),(w.r.st2,w.r.steps1),w.r.steps2,w.r.t1.lat),(w.r.t1.ver,w.r.t1.ph,w.r.t1.bank),(w.r.t1.speed,w.r.t1.alt),w.r.t1.vs,w.r.t2.lat),((w.r.t2.ver,w.r.t2.ph,w.r.t2.bank),(w.r.t2.speed,w.r.t2.alt),w.r.t2.vs,w.r.src),(w.p.use.lat,w.p.use.ver,w.p.use.ph),(w.p.use.bank,w.p.use.speed),w.p.use.alt,w.p.use.vs)
section
variable (w:W) (k:RK) (a b:Bool) (m0:Mc) (v:Ev) (cy:Int)
def L1 (one two:List UInt8):=((rP w k a b m0,v.e),Zf,cy,one,two)
def L2 (one two:List UInt8) (x y:Frm) (o p:Bool):=((rP w k a b m0,v.e,Zf),(cy,one,two),(x.e,y.e),o,p)
def L3 (x y:Frm) (o p:Bool):=((rP w k a b m0,v.e,Zf),cy,(x.e,y.e),o,p)
def L4 (t1:Tg) (x y:Frm) (o p s q:Bool):=((rP w k a b m0,v.e,Zf),((((cy,t1.lat),t1.ver,t1.ph),(t1.bank,t1.speed),t1.alt,t1.vs),x.e,y.e),(o,p),s,q)
def L5 (t1 t2:Tg) (x y:Frm) (o p s q:Bool):=((rP w k a b m0,v.e,Zf),((((cy,t1.lat,t1.ver),(t1.ph,t1.bank),t1.speed,t1.alt),((t1.vs,t2.lat),t2.ver,t2.ph),(t2.bank,t2.speed),t2.alt,t2.vs),x.e,y.e),(o,p),s,q)
def L6 (t1 t2:Tg) (x y:Frm) (o p:Bool) (z u:Frm):=((rP w k a b m0,v.e,Zf),((((cy,t1.lat,t1.ver),(t1.ph,t1.bank),t1.speed,t1.alt),((t1.vs,t2.lat),t2.ver,t2.ph),(t2.bank,t2.speed),t2.alt,t2.vs),x.e,y.e),(o,p),z.e,u.e)
def L7 (t1 t2:Tg) (s1:Int) (x y:Frm) (o p:Bool) (z u:Frm):=((rP w k a b m0,v.e,Zf),(((((cy,s1),t1.lat,t1.ver),(t1.ph,t1.bank),t1.speed,t1.alt),((t1.vs,t2.lat),t2.ver,t2.ph),(t2.bank,t2.speed),t2.alt,t2.vs),x.e,y.e),(o,p),z.e,u.e)
def L8 (t1 t2:Tg) (s1 s2:Int) (x y:Frm) (o p:Bool) (z u:Frm):=((rP w k a b m0,v.e,Zf),(((((cy,s1),s2,t1.lat),(t1.ver,t1.ph),t1.bank,t1.speed),((t1.alt,t1.vs),t2.lat,t2.ver),(t2.ph,t2.bank),t2.speed,t2.alt,t2.vs),x.e,y.e),(o,p),z.e,u.e)
def L9 (t1 t2:Tg) (s1 s2:Int) (x y:Frm) (o p:Bool):=((rP w k a b m0,v.e,Zf),((((cy,s1),s2,t1.lat),(t1.ver,t1.ph),t1.bank,t1.speed),((t1.alt,t1.vs),t2.lat,t2.ver),(t2.ph,t2.bank),t2.speed,t2.alt,t2.vs),(x.e,y.e),o,p)
def L10 (t1 t2:Tg) (s1 s2 r1 q1:Int) (x y:Frm) (o p:Bool):=((rP w k a b m0,v.e,Zf),((((cy,r1),s1,s2),(q1,t1.lat),t1.ver,t1.ph,t1.bank),((t1.speed,t1.alt),t1.vs,t2.lat,t2.ver),(t2.ph,t2.bank),t2.speed,t2.alt,t2.vs),(x.e,y.e),o,p)
def L11 (t1 t2:Tg) (s1 s2 r1 q1 r2 q2:Int) (x y:Frm) (o p:Bool):=((rP w k a b m0,v.e,Zf),((((cy,r1),r2,s1,s2),(q1,q2),t1.lat,t1.ver,t1.ph),((t1.bank,t1.speed),t1.alt,t1.vs,t2.lat),(t2.ver,t2.ph,t2.bank),t2.speed,t2.alt,t2.vs),(x.e,y.e),o,p)
def L12 (t1 t2:Tg) (s1 s2 r1 q1 r2 q2 s:Int):=(rP w k a b m0,Zf,((((cy,r1),r2,s1,s2),(q1,q2,t1.lat),t1.ver,t1.ph,t1.bank),((t1.speed,t1.alt),t1.vs,t2.lat,t2.ver),(t2.ph,t2.bank,t2.speed),t2.alt,t2.vs,s))
end
def mx (a b:Bool) (g h:Cp) (w:W):W:={ w with c1:=cond a w.c1 g,c2:=cond b w.c2 h }
structure G5 (P N:Int) (a b:Bool) (m0:Mc) (w:W):Prop where
 f1:a=true→CI 0 0 N w.c1
 f2:b=true→CI 0 0 N w.c2
 m1:w.m1.inR P
 m2:w.m2.inR P
 init:w.p.init=saveB m0
def Done (P N:Int) (U:W) (a b:Bool) (m0:Mc) (o:Option FR):Prop:=∃ k g h,o=some (rR (mx a b g h U) k a b m0)∧G5 P N a b m0 (mx a b g h U)
theorem exB {α β:Type} {x:Option α} {t:α} {f:α→Option β} {Q:Option β→Prop} (h:x=some t) (k:Q (f t)):Q (bd x f):=by subst h;exact k
theorem Alr (a b:Bool) (g h:Cp) (w:W) (v:Ev) (one two:List UInt8):(mx a b g h w).ex0 a b v one two=mx a b g h (w.ex0 a b v one two):=by cases a <;> cases b <;> simp only [mx,W.ex0,W.put1,W.put2,W.clr,cond_true,cond_false]
theorem Aio (a b:Bool) (g h:Cp) (w:W):(mx a b g h w).hear a b=mx a b g h (w.hear a b):=by cases a <;> cases b <;> rfl
theorem Als (a b:Bool) (g h:Cp) (w:W) (v:Ev):(mx a b g h w).ex1 a b v=mx a b g h (w.ex1 a b v):=by cases a <;> cases b <;> simp only [mx,W.ex1,W.put1,W.put2,W.clr,cond_true,cond_false]
theorem Aip (a b:Bool) (g h:Cp) (w:W) (v:Ev):(mx a b g h w).step a b v=mx a b g h (w.step a b v):=by cases a <;> cases b <;> rfl
theorem Alt (a b:Bool) (g h:Cp) (w:W) (v:Ev):(mx a b g h w).ex2 a b v=mx a b g h (w.ex2 a b v):=by cases a <;> cases b <;> simp only [mx,W.ex2,W.put1,W.put2,W.clr,cond_true,cond_false]
theorem AeO (a b:Bool) (g h:Cp) (w:W):(mx a b g h w).judge a b=mx a b g h (w.judge a b):=by cases a <;> cases b <;> rfl
theorem Alu (a b:Bool) (g h:Cp) (w:W) (v:Ev):(mx a b g h w).ex3 a b v=mx a b g h (w.ex3 a b v):=by cases a <;> cases b <;> simp only [mx,W.ex3,W.put1,W.put2,W.clr,cond_true,cond_false]
theorem Aiq (a b:Bool) (g h:Cp) (w:W):(mx a b g h w).take a b=mx a b g h (w.take a b):=by cases a <;> cases b <;> rfl
theorem Air (a b:Bool) (g h:Cp) (w:W):(mx a b g h w).node a b=mx a b g h (w.node a b):=by cases a <;> cases b <;> rfl
theorem Ais {p:Pr} {m1 m2:Mc} {c1 c2 e1 e2:Cp} {a b:Bool} (h1:a=true→c1=e1) (h2:b=true→c2=e2) (v:Ev) (one two:List UInt8) :
  (start p m1 m2 c1 c2).all a b v one two=mx a b c1 c2 ((start p m1 m2 e1 e2).all a b v one two):=by
 have e:start p m1 m2 c1 c2=mx a b c1 c2 (start p m1 m2 e1 e2):=by
  cases a <;> cases b
  ·rfl
  ·obtain rfl:=h2 rfl;rfl
  ·obtain rfl:=h1 rfl;rfl
  ·obtain rfl:=h1 rfl;obtain rfl:=h2 rfl;rfl
 rw [e]
 unfold W.all
 rw [Alr,Aio,Als,Aip,Alt,AeO,Alu,Aiq,Air]
 rfl
theorem Ld (c:Cp) (s:List UInt8):c.serve s=c.serve (cond c.asked s []):=by
 unfold Cp.serve
 cases c.asked <;> rfl
def ApF (P N:Int) (X:W) (a b:Bool) (m0:Mc) (o:Option FR):Prop:=∃ k,o=some (rR X k a b m0)∧G5 P N a b m0 X
theorem Ait {P N:Int} {p:Pr} {m1 m2 m0:Mc} {c1 c2 e1 e2:Cp} {a b:Bool} (h1:a=true→c1=e1) (h2:b=true→c2=e2) {v:Ev} {one two:List UInt8} {o:Option FR} (h:ApF P N ((start p m1 m2 c1 c2).all a b v one two) a b m0 o):Done P N ((start p m1 m2 e1 e2).all a b v one two) a b m0 o:=by
 obtain ⟨k,e,g⟩:=h
 rw [Ais h1 h2] at e g
 exact ⟨k,c1,c2,e,g⟩
theorem RH {m:Mc} {P:Int} (h:m.inR P) (x:Cp×JobT×Bool×Int):(tookA m x).2.inR P:=by
 have hl:=Vm h x.2.1.2.1
 unfold tookA
 exact Ai (P:=fun z:Cp×Mc=>z.2.inR P) (Ai (P:=fun z:Cp×Mc=>z.2.inR P) hl (Vl _ hl)) h
theorem RI {f:Frm} {ok:Bool} {ft:Ft} {lab frm cy:Int} {x:Frm×Bool} (hf:IntKind.u8.wrap frm=frm) (h:wire f ok ft lab frm cy=x):o52 f.e ok ft.e lab frm cy=some (rcvE x):=by
 have:=AkT f ok ft lab frm cy
 rw [hf,h] at this
 exact this
theorem Aiu {w:W} {a b:Bool} {x y:Cp×Frm×Bool} {z:Frm} {ft gt:Ft} {lab:Int}:wire (cond a x.2.1 z) (cond a x.2.2 false) ft lab 1 w.p.cycle=(((w.clr.put1 a x ft lab).put2 b y gt lab).f2,((w.clr.put1 a x ft lab).put2 b y gt lab).b2):=by
 cases a <;> simp only [W.put1,W.put2,W.clr,cond_true,cond_false]
 unfold wire;rfl
theorem Aiv {w:W} {a b:Bool} {x y:Cp×Frm×Bool} {z:Frm} {ft gt:Ft} {lab:Int}:wire (cond b y.2.1 z) (cond b y.2.2 false) gt lab 2 w.p.cycle=(((w.clr.put1 a x ft lab).put2 b y gt lab).f1,((w.clr.put1 a x ft lab).put2 b y gt lab).b1):=by
 cases b <;> simp only [W.put1,W.put2,W.clr,cond_true,cond_false]
 unfold wire;rfl
def Ph1 (cy N:Int) (c:Cp) (fr:Bool):Prop:=CI 1 1 N c∧CC cy c∧(c.nd.is=false∧c.nd.hd=noHd∧c.nd.has=false)∧fr=false
def Ph2 (cy N:Int) (c:Cp) (fr ak:Bool):Prop:=CI 2 2 N c∧CC cy c∧CW c∧c.nd.has=false∧fr=c.nd.fresh∧ak=c.asked
def Ph3 (cy N:Int) (c:Cp) (fr ak:Bool):Prop:=CI 3 3 N c∧CC cy c∧CW c∧c.nd.has=false∧fr=c.nd.fresh∧ak=c.asked∧(c.nd.role=2→c.nd.se=c.nd.shared.se)
def Ph4 (cy N:Int) (c:Cp) (ak:Bool):Prop:=CI 4 4 N c∧CC cy c∧CW c∧ak=c.asked
def Ph5 (cy N:Int) (c:Cp) (ak:Bool):Prop:=CI 5 5 N c∧CC cy c∧CW c∧ak=c.asked∧(c.nd.has=true→c.nd.ts=c.nd.steps)
def Ph6 (cy N:Int) (c:Cp) (ak:Bool):Prop:=CI 6 0 N c∧CC cy c∧CW c∧ak=c.asked
def Ph7 (cy N:Int) (c:Cp):Prop:=CI 7 0 N c∧CC cy c
theorem AeP {N cy:Int} {c:Cp} (h:CI 0 0 N c) (hc:0≤cy) (l:List UInt8) (fr:Bool):(Az c cy l).2.2=true∧Ph1 cy N (Az c cy l).1 (EU fr (c.hello cy (inpC l)).2.2):=by
 obtain ⟨f,e⟩:=Aej h hc l
 unfold Az
 rw [e]
 exact ⟨rfl,Aek h l,⟨rfl,rfl⟩,⟨rfl,rfl,rfl⟩,rfl⟩
theorem Alv {w:W} {k:RK} {a b:Bool} {m0:Mc} {N P:Int} (hG:G5 P N a b m0 w) (hN:4611686018427387904≤N∧N≤4611686018527387904) (hcy:0≤w.p.cycle∧w.p.cycle≤1000000000) (hP:0≤P∧P≤10000) (hm0:m0.inR P) (v:Ev) (one two:List UInt8) :
  Done P (N+1) (cycW a b w.p w.m1 w.m2 w.c1 w.c2 v one two) (evA a v.s1 v.r1) (evA b v.s2 v.r2) m0 (IL (rP w k a b m0) one two v.e):=by
 obtain ⟨h1,h2,hm1,hm2,hi⟩:=hG
 unfold IL
 have hc0:IntKind.i64.wrap (w.p.cycle+1)=w.p.cycle+1:=AM (by omega)
 have hc1:0≤IntKind.i64.wrap (w.p.cycle+1):=by omega
 unfold cycW
 refine exB (t:=L1 (start w.p w.m1 w.m2 (cond (v.k1&&evA a v.s1 v.r1) (Cp.drop (cond (v.r1&&!(a&&!v.s1)) (newCp 1) w.c1)) (cond (v.r1&&!(a&&!v.s1)) (newCp 1) w.c1)) w.c2) { k with fr1:=cond (v.r1&&!(a&&!v.s1)) false k.fr1,ak1:=cond (v.k1&&evA a v.s1 v.r1) false (cond (v.r1&&!(a&&!v.s1)) false k.ak1) } (evA a v.s1 v.r1) b m0 v (IntKind.i64.wrap (w.p.cycle+1)) (inpC one) two) ?_ ?_
 ·refine Eq.trans (bdS (t:=L1 (start w.p w.m1 w.m2 (w.c1) w.c2) { k with fr1:=k.fr1,ak1:=k.ak1 } (a) b m0 v (IntKind.i64.wrap (w.p.cycle+1)) (inpC one) two) ?_) ?_
  ·unfold inpC
   show cnd (decide (((one.length:Nat):Int) > 400)) _ _=_
   cases decide (((one.length:Nat):Int) > 400) <;> rfl
  refine Eq.trans (bdS (t:=L1 (start w.p w.m1 w.m2 (w.c1) w.c2) { k with fr1:=k.fr1,ak1:=k.ak1 } (a&&!v.s1) b m0 v (IntKind.i64.wrap (w.p.cycle+1)) (inpC one) two) ?_) ?_
  ·show cnd v.s1 _ _=_
   cases v.s1 <;> cases a <;> rfl
  refine Eq.trans (bdS (t:=L1 (start w.p w.m1 w.m2 (cond (v.r1&&!(a&&!v.s1)) (newCp 1) w.c1) w.c2) { k with fr1:=cond (v.r1&&!(a&&!v.s1)) false k.fr1,ak1:=cond (v.r1&&!(a&&!v.s1)) false k.ak1 } (evA a v.s1 v.r1) b m0 v (IntKind.i64.wrap (w.p.cycle+1)) (inpC one) two) ?_) ?_
  ·refine Eq.trans (bdS (t:=((((v.r1&&!(a&&!v.s1))),rP (start w.p w.m1 w.m2 (w.c1) w.c2) { k with fr1:=k.fr1,ak1:=k.ak1 } (a&&!v.s1) b m0,v.e),Zf,IntKind.i64.wrap (w.p.cycle+1),(inpC one),two)) ?_) ?_
   ·show cnd v.r1 _ _=_
    cases v.r1 <;> rfl
   generalize v.s1=s
   generalize v.r1=r
   show cnd (r&&!(a&&!s)) _ _=_
   cases r <;> cases a <;> cases s <;> first | rfl | exact Eq.trans (bdS (show o49 1=some ((1,1,false),(false,false),false,0) from rfl)) rfl
  refine Eq.trans (bdS (t:=((((v.k1&&evA a v.s1 v.r1)),rP (start w.p w.m1 w.m2 (cond (v.r1&&!(a&&!v.s1)) (newCp 1) w.c1) w.c2) { k with fr1:=cond (v.r1&&!(a&&!v.s1)) false k.fr1,ak1:=cond (v.r1&&!(a&&!v.s1)) false k.ak1 } (evA a v.s1 v.r1) b m0,v.e),Zf,IntKind.i64.wrap (w.p.cycle+1),(inpC one),two)) ?_) ?_
  ·show cnd v.k1 _ _=_
   cases v.k1 <;> rfl
  generalize cond (v.r1&&!(a&&!v.s1)) (newCp 1) w.c1=c
  generalize cond (v.r1&&!(a&&!v.s1)) false k.fr1=fr
  generalize cond (v.r1&&!(a&&!v.s1)) false k.ak1=ak
  generalize evA a v.s1 v.r1=g
  show cnd (v.k1&&g) _ _=_
  cases (v.k1&&g)
  ·rfl
  ·exact Eq.trans (cndT rfl) (Eq.trans (bdS (Nr c fr ak)) rfl)
 have hG1:evA a v.s1 v.r1=true→cond (v.k1&&evA a v.s1 v.r1) (Cp.drop (cond (v.r1&&!(a&&!v.s1)) (newCp 1) w.c1)) (cond (v.r1&&!(a&&!v.s1)) (newCp 1) w.c1)=evK a v.s1 v.k1 w.c1 1:=by
  unfold evA evK
  cases a <;> cases v.s1 <;> cases v.r1 <;> cases v.k1 <;> intro h <;> first | (cases h;done) | rfl
 have hI1:evA a v.s1 v.r1=true→CI 0 0 N (cond (v.k1&&evA a v.s1 v.r1) (Cp.drop (cond (v.r1&&!(a&&!v.s1)) (newCp 1) w.c1)) (cond (v.r1&&!(a&&!v.s1)) (newCp 1) w.c1)):=by
  intro h
  rw [hG1 h]
  have hc:CI 0 0 N (cond (a&&!v.s1) w.c1 (newCp 1)):=BZ (P:=CI 0 0 N) (fun e=>h1 (by simp at e;exact e.1)) fun _=>Nt (by omega) (by decide)
  unfold evK
  exact Ai (P:=CI 0 0 N) (Ns (by omega) hc.ok) hc
 generalize cond (v.k1&&evA a v.s1 v.r1) (Cp.drop (cond (v.r1&&!(a&&!v.s1)) (newCp 1) w.c1)) (cond (v.r1&&!(a&&!v.s1)) (newCp 1) w.c1)=G1 at hG1 hI1 ⊢
 generalize ({ k with fr1:=cond (v.r1&&!(a&&!v.s1)) false k.fr1,ak1:=cond (v.k1&&evA a v.s1 v.r1) false (cond (v.r1&&!(a&&!v.s1)) false k.ak1) }:RK)=k1
 generalize hA:evA a v.s1 v.r1=A at hG1 hI1 ⊢
 refine exB (t:=L1 (start w.p w.m1 w.m2 G1 (cond (v.k2&&evA b v.s2 v.r2) (Cp.drop (cond (v.r2&&!(b&&!v.s2)) (newCp 2) w.c2)) (cond (v.r2&&!(b&&!v.s2)) (newCp 2) w.c2))) { k1 with fr2:=cond (v.r2&&!(b&&!v.s2)) false k1.fr2,ak2:=cond (v.k2&&evA b v.s2 v.r2) false (cond (v.r2&&!(b&&!v.s2)) false k1.ak2) } A (evA b v.s2 v.r2) m0 v (IntKind.i64.wrap (w.p.cycle+1)) (inpC one) (inpC two)) ?_ ?_
 ·refine Eq.trans (bdS (t:=L1 (start w.p w.m1 w.m2 G1 (w.c2)) { k1 with fr2:=k1.fr2,ak2:=k1.ak2 } A (b) m0 v (IntKind.i64.wrap (w.p.cycle+1)) (inpC one) (inpC two)) ?_) ?_
  ·unfold inpC
   show cnd (decide (((two.length:Nat):Int) > 400)) _ _=_
   cases decide (((two.length:Nat):Int) > 400) <;> rfl
  refine Eq.trans (bdS (t:=L1 (start w.p w.m1 w.m2 G1 (w.c2)) { k1 with fr2:=k1.fr2,ak2:=k1.ak2 } A (b&&!v.s2) m0 v (IntKind.i64.wrap (w.p.cycle+1)) (inpC one) (inpC two)) ?_) ?_
  ·show cnd v.s2 _ _=_
   cases v.s2 <;> cases b <;> rfl
  refine Eq.trans (bdS (t:=L1 (start w.p w.m1 w.m2 G1 (cond (v.r2&&!(b&&!v.s2)) (newCp 2) w.c2)) { k1 with fr2:=cond (v.r2&&!(b&&!v.s2)) false k1.fr2,ak2:=cond (v.r2&&!(b&&!v.s2)) false k1.ak2 } A (evA b v.s2 v.r2) m0 v (IntKind.i64.wrap (w.p.cycle+1)) (inpC one) (inpC two)) ?_) ?_
  ·refine Eq.trans (bdS (t:=((((v.r2&&!(b&&!v.s2))),rP (start w.p w.m1 w.m2 G1 (w.c2)) { k1 with fr2:=k1.fr2,ak2:=k1.ak2 } A (b&&!v.s2) m0,v.e),Zf,IntKind.i64.wrap (w.p.cycle+1),(inpC one),(inpC two))) ?_) ?_
   ·show cnd v.r2 _ _=_
    cases v.r2 <;> rfl
   generalize v.s2=s
   generalize v.r2=r
   show cnd (r&&!(b&&!s)) _ _=_
   cases r <;> cases b <;> cases s <;> first | rfl | exact Eq.trans (bdS (show o49 2=some ((2,1,false),(false,false),false,0) from rfl)) rfl
  refine Eq.trans (bdS (t:=((((v.k2&&evA b v.s2 v.r2)),rP (start w.p w.m1 w.m2 G1 (cond (v.r2&&!(b&&!v.s2)) (newCp 2) w.c2)) { k1 with fr2:=cond (v.r2&&!(b&&!v.s2)) false k1.fr2,ak2:=cond (v.r2&&!(b&&!v.s2)) false k1.ak2 } A (evA b v.s2 v.r2) m0,v.e),Zf,IntKind.i64.wrap (w.p.cycle+1),(inpC one),(inpC two))) ?_) ?_
  ·show cnd v.k2 _ _=_
   cases v.k2 <;> rfl
  generalize cond (v.r2&&!(b&&!v.s2)) (newCp 2) w.c2=c
  generalize cond (v.r2&&!(b&&!v.s2)) false k1.fr2=fr
  generalize cond (v.r2&&!(b&&!v.s2)) false k1.ak2=ak
  generalize evA b v.s2 v.r2=g
  show cnd (v.k2&&g) _ _=_
  cases (v.k2&&g)
  ·rfl
  ·exact Eq.trans (cndT rfl) (Eq.trans (bdS (Nr c fr ak)) rfl)
 have hG2:evA b v.s2 v.r2=true→cond (v.k2&&evA b v.s2 v.r2) (Cp.drop (cond (v.r2&&!(b&&!v.s2)) (newCp 2) w.c2)) (cond (v.r2&&!(b&&!v.s2)) (newCp 2) w.c2)=evK b v.s2 v.k2 w.c2 2:=by
  unfold evA evK
  cases b <;> cases v.s2 <;> cases v.r2 <;> cases v.k2 <;> intro h <;> first | (cases h;done) | rfl
 have hI2:evA b v.s2 v.r2=true→CI 0 0 N (cond (v.k2&&evA b v.s2 v.r2) (Cp.drop (cond (v.r2&&!(b&&!v.s2)) (newCp 2) w.c2)) (cond (v.r2&&!(b&&!v.s2)) (newCp 2) w.c2)):=by
  intro h
  rw [hG2 h]
  have hc:CI 0 0 N (cond (b&&!v.s2) w.c2 (newCp 2)):=BZ (P:=CI 0 0 N) (fun e=>h2 (by simp at e;exact e.1)) fun _=>Nt (by omega) (by decide)
  unfold evK
  exact Ai (P:=CI 0 0 N) (Ns (by omega) hc.ok) hc
 generalize cond (v.k2&&evA b v.s2 v.r2) (Cp.drop (cond (v.r2&&!(b&&!v.s2)) (newCp 2) w.c2)) (cond (v.r2&&!(b&&!v.s2)) (newCp 2) w.c2)=G2 at hG2 hI2 ⊢
 generalize ({ k1 with fr2:=cond (v.r2&&!(b&&!v.s2)) false k1.fr2,ak2:=cond (v.k2&&evA b v.s2 v.r2) false (cond (v.r2&&!(b&&!v.s2)) false k1.ak2) }:RK)=k2
 generalize hB:evA b v.s2 v.r2=B at hG2 hI2 ⊢
 refine Ait hG1 hG2 ?_
 obtain ⟨u0,hu0⟩:∃ z,z=start w.p w.m1 w.m2 G1 G2:=⟨_,rfl⟩
 have f01:A=true→CI 0 0 N u0.c1:=hu0 ▸ hI1
 have f02:B=true→CI 0 0 N u0.c2:=hu0 ▸ hI2
 have m01:u0.m1.inR P:=hu0 ▸ hm1
 have m02:u0.m2.inR P:=hu0 ▸ hm2
 have fi0:u0.p.init=saveB m0:=hu0 ▸ hi
 have r0:u0.r=⟨u0.p.cycle,0,0,1,1,0,0,noTg,noTg,0,noTg⟩:=hu0 ▸ rfl
 have fc0:u0.p.cycle=IntKind.i64.wrap (w.p.cycle+1):=hu0 ▸ rfl
 have fcy:0≤u0.p.cycle:=fc0 ▸ hc1
 rw [← hu0,← fc0]
 have s01:A=true→(Az u0.c1 u0.p.cycle one).2.2=true∧Ph1 u0.p.cycle N (Az u0.c1 u0.p.cycle one).1 (EU k2.fr1 (u0.c1.hello u0.p.cycle (inpC one)).2.2):=fun h=>AeP (f01 h) fcy one k2.fr1
 have s02:B=true→(Az u0.c2 u0.p.cycle two).2.2=true∧Ph1 u0.p.cycle N (Az u0.c2 u0.p.cycle two).1 (EU k2.fr2 (u0.c2.hello u0.p.cycle (inpC two)).2.2):=fun h=>AeP (f02 h) fcy two k2.fr2
 refine exB (t:=L2 { u0 with c1:=cond A (Az u0.c1 u0.p.cycle one).1 u0.c1 } { k2 with fr1:=cond A (EU k2.fr1 (u0.c1.hello u0.p.cycle (inpC one)).2.2) k2.fr1 } A B m0 v u0.p.cycle (inpC one) (inpC two) (cond A (Az u0.c1 u0.p.cycle one).2.1 noFrm) noFrm (cond A (Az u0.c1 u0.p.cycle one).2.2 false) false) ?_ ?_
 ·cases A
  ·rfl
  ·rw [(s01 rfl).1]
   exact Eq.trans (cndT rfl) (Eq.trans (bdS (Ado u0.c1 k2.fr1 k2.ak1 u0.p.cycle (Nat.le_trans (CM one) (by decide)))) rfl)
 refine exB (t:=L2 (u0.ex0 A B v one two) { k2 with fr1:=cond A (EU k2.fr1 (u0.c1.hello u0.p.cycle (inpC one)).2.2) k2.fr1,fr2:=cond B (EU k2.fr2 (u0.c2.hello u0.p.cycle (inpC two)).2.2) k2.fr2 } A B m0 v u0.p.cycle (inpC one) (inpC two) (cond A (Az u0.c1 u0.p.cycle one).2.1 noFrm) (cond B (Az u0.c2 u0.p.cycle two).2.1 noFrm) (cond A (Az u0.c1 u0.p.cycle one).2.2 false) (cond B (Az u0.c2 u0.p.cycle two).2.2 false)) ?_ ?_
 ·cases B
  ·rfl
  ·rw [(s02 rfl).1]
   exact Eq.trans (cndT rfl) (Eq.trans (bdS (Ado u0.c2 k2.fr2 k2.ak2 u0.p.cycle (Nat.le_trans (CM two) (by decide)))) rfl)
 have w11:wire (cond A (Az u0.c1 u0.p.cycle one).2.1 noFrm) (cond A (Az u0.c1 u0.p.cycle one).2.2 false) v.f10 1 1 u0.p.cycle=((u0.ex0 A B v one two).f2,(u0.ex0 A B v one two).b2):=Aiu
 have w12:wire (cond B (Az u0.c2 u0.p.cycle two).2.1 noFrm) (cond B (Az u0.c2 u0.p.cycle two).2.2 false) v.f20 1 2 u0.p.cycle=((u0.ex0 A B v one two).f1,(u0.ex0 A B v one two).b1):=Aiv
 have f11:A=true→Ph1 u0.p.cycle N (u0.ex0 A B v one two).c1 ({ k2 with fr1:=cond A (EU k2.fr1 (u0.c1.hello u0.p.cycle (inpC one)).2.2) k2.fr1,fr2:=cond B (EU k2.fr2 (u0.c2.hello u0.p.cycle (inpC two)).2.2) k2.fr2 }:RK).fr1:=by
  intro h;have:=(s01 h).2;subst h;exact this
 have f12:B=true→Ph1 u0.p.cycle N (u0.ex0 A B v one two).c2 ({ k2 with fr1:=cond A (EU k2.fr1 (u0.c1.hello u0.p.cycle (inpC one)).2.2) k2.fr1,fr2:=cond B (EU k2.fr2 (u0.c2.hello u0.p.cycle (inpC two)).2.2) k2.fr2 }:RK).fr2:=by
  intro h;have:=(s02 h).2;subst h;exact this
 have e1:(u0.ex0 A B v one two).p=u0.p∧(u0.ex0 A B v one two).r=u0.r∧(u0.ex0 A B v one two).m1=u0.m1∧(u0.ex0 A B v one two).m2=u0.m2:=⟨rfl,rfl,rfl,rfl⟩
 clear s01 s02
 generalize ({ k2 with fr1:=cond A (EU k2.fr1 (u0.c1.hello u0.p.cycle (inpC one)).2.2) k2.fr1,fr2:=cond B (EU k2.fr2 (u0.c2.hello u0.p.cycle (inpC two)).2.2) k2.fr2 }:RK)=k3 at f11 f12 ⊢
 generalize (cond A (Az u0.c1 u0.p.cycle one).2.1 noFrm)=x1 at w11 ⊢
 generalize (cond A (Az u0.c1 u0.p.cycle one).2.2 false)=o1 at w11 ⊢
 generalize (cond B (Az u0.c2 u0.p.cycle two).2.1 noFrm)=x2 at w12 ⊢
 generalize (cond B (Az u0.c2 u0.p.cycle two).2.2 false)=o2 at w12 ⊢
 generalize hu1:u0.ex0 A B v one two=u1 at w11 w12 f11 f12 e1 ⊢
 rw [← e1.1] at w11 w12
 refine exB (t:=L3 { u1 with c1:=cond A (u1.c1.hear u1.f1 u1.b1).1 u1.c1 } { k3 with fr1:=cond A (cond ((u1.c1.hear u1.f1 u1.b1).2==0) (u1.c1.hear u1.f1 u1.b1).1.nd.fresh k3.fr1) k3.fr1,ak1:=cond A (cond ((u1.c1.hear u1.f1 u1.b1).2==0) (u1.c1.hear u1.f1 u1.b1).1.asked k3.ak1) k3.ak1 } A B m0 v u0.p.cycle x1 x2 o1 o2) ?_ ?_
 ·cases A
  ·rfl
  ·exact Eq.trans (cndT rfl) (Eq.trans (bdS (RI rfl w12)) (Eq.trans (bdS (Adp (c:=u1.c1) (fr:=k3.fr1) (ak:=k3.ak1) (f:=u1.f1) (came:=u1.b1) (fun _=>⟨(f11 rfl).1.nd.nx,(f11 rfl).2.2.1.1,(f11 rfl).2.2.1.2.1,(f11 rfl).2.2.2⟩))) rfl))
 refine exB (t:=L3 (u1.hear A B) { k3 with fr1:=cond A (cond ((u1.c1.hear u1.f1 u1.b1).2==0) (u1.c1.hear u1.f1 u1.b1).1.nd.fresh k3.fr1) k3.fr1,ak1:=cond A (cond ((u1.c1.hear u1.f1 u1.b1).2==0) (u1.c1.hear u1.f1 u1.b1).1.asked k3.ak1) k3.ak1,fr2:=cond B (cond ((u1.c2.hear u1.f2 u1.b2).2==0) (u1.c2.hear u1.f2 u1.b2).1.nd.fresh k3.fr2) k3.fr2,ak2:=cond B (cond ((u1.c2.hear u1.f2 u1.b2).2==0) (u1.c2.hear u1.f2 u1.b2).1.asked k3.ak2) k3.ak2 } A B m0 v u0.p.cycle x1 x2 o1 o2) ?_ ?_
 ·cases B
  ·rfl
  ·exact Eq.trans (cndT rfl) (Eq.trans (bdS (RI rfl w11)) (Eq.trans (bdS (Adp (c:=u1.c2) (fr:=k3.fr2) (ak:=k3.ak2) (f:=u1.f2) (came:=u1.b2) (fun _=>⟨(f12 rfl).1.nd.nx,(f12 rfl).2.2.1.1,(f12 rfl).2.2.1.2.1,(f12 rfl).2.2.2⟩))) rfl))
 have f21:A=true→Ph2 u0.p.cycle N (u1.hear A B).c1 ({ k3 with fr1:=cond A (cond ((u1.c1.hear u1.f1 u1.b1).2==0) (u1.c1.hear u1.f1 u1.b1).1.nd.fresh k3.fr1) k3.fr1,ak1:=cond A (cond ((u1.c1.hear u1.f1 u1.b1).2==0) (u1.c1.hear u1.f1 u1.b1).1.asked k3.ak1) k3.ak1,fr2:=cond B (cond ((u1.c2.hear u1.f2 u1.b2).2==0) (u1.c2.hear u1.f2 u1.b2).1.nd.fresh k3.fr2) k3.fr2,ak2:=cond B (cond ((u1.c2.hear u1.f2 u1.b2).2==0) (u1.c2.hear u1.f2 u1.b2).1.asked k3.ak2) k3.ak2 }:RK).fr1 ({ k3 with fr1:=cond A (cond ((u1.c1.hear u1.f1 u1.b1).2==0) (u1.c1.hear u1.f1 u1.b1).1.nd.fresh k3.fr1) k3.fr1,ak1:=cond A (cond ((u1.c1.hear u1.f1 u1.b1).2==0) (u1.c1.hear u1.f1 u1.b1).1.asked k3.ak1) k3.ak1,fr2:=cond B (cond ((u1.c2.hear u1.f2 u1.b2).2==0) (u1.c2.hear u1.f2 u1.b2).1.nd.fresh k3.fr2) k3.fr2,ak2:=cond B (cond ((u1.c2.hear u1.f2 u1.b2).2==0) (u1.c2.hear u1.f2 u1.b2).1.asked k3.ak2) k3.ak2 }:RK).ak1:=by
  intro h
  have q:=Vg (f11 h).1 (f11 h).2.1 u1.f1 u1.b1
  subst h
  obtain ⟨q1,q2,q3,q4,q5⟩:=q
  refine ⟨q2,q3,q4,q5.trans (f11 rfl).2.2.1.2.2,?_,?_⟩
  ·show cond ((u1.c1.hear u1.f1 u1.b1).2==0) _ _=_
   rw [q1];rfl
  ·show cond ((u1.c1.hear u1.f1 u1.b1).2==0) _ _=_
   rw [q1];rfl
 have f22:B=true→Ph2 u0.p.cycle N (u1.hear A B).c2 ({ k3 with fr1:=cond A (cond ((u1.c1.hear u1.f1 u1.b1).2==0) (u1.c1.hear u1.f1 u1.b1).1.nd.fresh k3.fr1) k3.fr1,ak1:=cond A (cond ((u1.c1.hear u1.f1 u1.b1).2==0) (u1.c1.hear u1.f1 u1.b1).1.asked k3.ak1) k3.ak1,fr2:=cond B (cond ((u1.c2.hear u1.f2 u1.b2).2==0) (u1.c2.hear u1.f2 u1.b2).1.nd.fresh k3.fr2) k3.fr2,ak2:=cond B (cond ((u1.c2.hear u1.f2 u1.b2).2==0) (u1.c2.hear u1.f2 u1.b2).1.asked k3.ak2) k3.ak2 }:RK).fr2 ({ k3 with fr1:=cond A (cond ((u1.c1.hear u1.f1 u1.b1).2==0) (u1.c1.hear u1.f1 u1.b1).1.nd.fresh k3.fr1) k3.fr1,ak1:=cond A (cond ((u1.c1.hear u1.f1 u1.b1).2==0) (u1.c1.hear u1.f1 u1.b1).1.asked k3.ak1) k3.ak1,fr2:=cond B (cond ((u1.c2.hear u1.f2 u1.b2).2==0) (u1.c2.hear u1.f2 u1.b2).1.nd.fresh k3.fr2) k3.fr2,ak2:=cond B (cond ((u1.c2.hear u1.f2 u1.b2).2==0) (u1.c2.hear u1.f2 u1.b2).1.asked k3.ak2) k3.ak2 }:RK).ak2:=by
  intro h
  have q:=Vg (f12 h).1 (f12 h).2.1 u1.f2 u1.b2
  subst h
  obtain ⟨q1,q2,q3,q4,q5⟩:=q
  refine ⟨q2,q3,q4,q5.trans (f12 rfl).2.2.1.2.2,?_,?_⟩
  ·show cond ((u1.c2.hear u1.f2 u1.b2).2==0) _ _=_
   rw [q1];rfl
  ·show cond ((u1.c2.hear u1.f2 u1.b2).2==0) _ _=_
   rw [q1];rfl
 have e2:(u1.hear A B).p=u0.p∧(u1.hear A B).r=u0.r∧(u1.hear A B).m1=u0.m1∧(u1.hear A B).m2=u0.m2:=e1
 clear w11 w12 f11 f12 e1
 generalize ({ k3 with fr1:=cond A (cond ((u1.c1.hear u1.f1 u1.b1).2==0) (u1.c1.hear u1.f1 u1.b1).1.nd.fresh k3.fr1) k3.fr1,ak1:=cond A (cond ((u1.c1.hear u1.f1 u1.b1).2==0) (u1.c1.hear u1.f1 u1.b1).1.asked k3.ak1) k3.ak1,fr2:=cond B (cond ((u1.c2.hear u1.f2 u1.b2).2==0) (u1.c2.hear u1.f2 u1.b2).1.nd.fresh k3.fr2) k3.fr2,ak2:=cond B (cond ((u1.c2.hear u1.f2 u1.b2).2==0) (u1.c2.hear u1.f2 u1.b2).1.asked k3.ak2) k3.ak2 }:RK)=k4 at f21 f22 ⊢
 generalize hu2:u1.hear A B=u2 at f21 f22 e2 ⊢
 refine exB (t:=L3 { u2 with c1:=cond A (AC u2.c1).1 u2.c1 } k4 A B m0 v u0.p.cycle (cond A (AC u2.c1).2.1 x1) x2 (cond A (AC u2.c1).2.2 false) o2) ?_ ?_
 ·cases A
  ·rfl
  ·exact Eq.trans (cndT rfl) (Eq.trans (bdS (Adq (c:=u2.c1) (fr:=k4.fr1) k4.ak1 (fun _=>⟨(f21 rfl).1.nd.nx,(f21 rfl).2.2.2.2.1⟩))) rfl)
 refine exB (t:=L3 (u2.ex1 A B v) k4 A B m0 v u0.p.cycle (cond A (AC u2.c1).2.1 x1) (cond B (AC u2.c2).2.1 x2) (cond A (AC u2.c1).2.2 false) (cond B (AC u2.c2).2.2 false)) ?_ ?_
 ·cases B
  ·rfl
  ·exact Eq.trans (cndT rfl) (Eq.trans (bdS (Adq (c:=u2.c2) (fr:=k4.fr2) k4.ak2 (fun _=>⟨(f22 rfl).1.nd.nx,(f22 rfl).2.2.2.2.1⟩))) rfl)
 have w31:wire (cond A (AC u2.c1).2.1 x1) (cond A (AC u2.c1).2.2 false) v.f11 2 1 u2.p.cycle=((u2.ex1 A B v).f2,(u2.ex1 A B v).b2):=Aiu
 have w32:wire (cond B (AC u2.c2).2.1 x2) (cond B (AC u2.c2).2.2 false) v.f21 2 2 u2.p.cycle=((u2.ex1 A B v).f1,(u2.ex1 A B v).b1):=Aiv
 have f31:A=true→Ph3 u0.p.cycle N (u2.ex1 A B v).c1 k4.fr1 k4.ak1:=by
  intro h
  have q:=Rt (f21 h).1 (f21 h).2.1 (f21 h).2.2.1
  obtain ⟨_,_,_,p1,p2,p3⟩:=f21 h
  subst h
  obtain ⟨q1,q2,q3,q4,q5,q6,q7⟩:=q
  exact ⟨q1,q2,q3,q4.trans p1,p2.trans q5.symm,p3.trans q6.symm,q7⟩
 have f32:B=true→Ph3 u0.p.cycle N (u2.ex1 A B v).c2 k4.fr2 k4.ak2:=by
  intro h
  have q:=Rt (f22 h).1 (f22 h).2.1 (f22 h).2.2.1
  obtain ⟨_,_,_,p1,p2,p3⟩:=f22 h
  subst h
  obtain ⟨q1,q2,q3,q4,q5,q6,q7⟩:=q
  exact ⟨q1,q2,q3,q4.trans p1,p2.trans q5.symm,p3.trans q6.symm,q7⟩
 have e3:(u2.ex1 A B v).p=u0.p∧(u2.ex1 A B v).r=u0.r∧(u2.ex1 A B v).m1=u0.m1∧(u2.ex1 A B v).m2=u0.m2:=e2
 have ep:u2.p=(u2.ex1 A B v).p:=rfl
 rw [ep] at w31 w32
 clear f21 f22 e2 ep
 generalize cond A (AC u2.c1).2.1 x1=x3 at w31 ⊢
 generalize cond A (AC u2.c1).2.2 false=o3 at w31 ⊢
 generalize cond B (AC u2.c2).2.1 x2=x4 at w32 ⊢
 generalize cond B (AC u2.c2).2.2 false=o4 at w32 ⊢
 generalize hu3:u2.ex1 A B v=u3 at w31 w32 f31 f32 e3 ⊢
 have p31:u3.f2.payload.length≤1100:=by have:=DX x3 o3 v.f11 2 1 u3.p.cycle;rw [w31] at this;exact this
 have p32:u3.f1.payload.length≤1100:=by have:=DX x4 o4 v.f21 2 2 u3.p.cycle;rw [w32] at this;exact this
 have t31:u3.r.t1=noTg:=by rw [e3.2.1,r0]
 have t32:u3.r.t2=noTg:=by rw [e3.2.1,r0]
 have l31:(u3.m1.load u3.p.init).1=m0:=by rw [e3.2.2.1,e3.1,fi0,Mn hP.1 (Int.le_trans hP.2 (by decide)) m01 hm0]
 have l32:(u3.m2.load u3.p.init).1=m0:=by rw [e3.2.2.2,e3.1,fi0,Mn hP.1 (Int.le_trans hP.2 (by decide)) m02 hm0]
 refine exB (t:=L4 { u3 with c1:=cond A (u3.c1.step u3.f1 u3.b1).1 u3.c1,m1:=cond A (cond (u3.c1.step u3.f1 u3.b1).2.2.1 (stepA u3.p.init u3.m1 (u3.c1.step u3.f1 u3.b1).2.1) u3.m1) u3.m1 } k4 A B m0 v u0.p.cycle (cond A (cond (u3.c1.step u3.f1 u3.b1).2.2.1 ((stepA u3.p.init u3.m1 (u3.c1.step u3.f1 u3.b1).2.1).tg.wrong v.w1) u3.r.t1) u3.r.t1) x3 x4 o3 o4 (cond A (u3.c1.step u3.f1 u3.b1).2.2.1 false) false) ?_ ?_
 ·cases A
  ·rw [t31]
   rfl
  ·refine Eq.trans (cndF rfl) (Eq.trans (bdS (RI rfl w32)) (Eq.trans (bdS (Adu (c:=u3.c1) (fr:=k4.fr1) k4.ak1 (f:=u3.f1) (came:=u3.b1) (fun _=>⟨(f31 rfl).1.nd.nx,(f31 rfl).2.2.2.2.1,(f31 rfl).2.2.2.1,(f31 rfl).1.nd.role,(f31 rfl).2.2.2.2.2.2,(f31 rfl).1.ok.nnum,(f31 rfl).2.1.ncyc.trans (f31 rfl).2.1.cyc.symm⟩) (Nat.le_trans (f31 rfl).1.ok.css (by decide)) (Nat.le_trans p32 (by decide)))) ?_))
   have hin:=Gj (f31 rfl).1.ok p32 (came:=u3.b1)
   generalize (u3.c1.step u3.f1 u3.b1)=X at hin ⊢
   obtain ⟨c,⟨st,cy,fresh,inn⟩,ok,e⟩:=X
   have hl:inn.length≤100000000:=Nat.le_trans hin (by decide)
   cases ok
   ·rw [t31]
    exact Eq.trans (cndF rfl) rfl
   ·refine Eq.trans (cndT rfl) ?_
    unfold stepA
    cases fresh
    ·exact Eq.trans (bdS (cndF rfl)) (Eq.trans (bdS (GE u3.m1 cy hl)) rfl)
    ·rw [l31]
     exact Eq.trans (bdS (cndT rfl)) (Eq.trans (bdS (GE m0 cy hl)) rfl)
 refine exB (t:=L5 { u3 with c1:=cond A (u3.c1.step u3.f1 u3.b1).1 u3.c1,m1:=cond A (cond (u3.c1.step u3.f1 u3.b1).2.2.1 (stepA u3.p.init u3.m1 (u3.c1.step u3.f1 u3.b1).2.1) u3.m1) u3.m1,c2:=cond B (u3.c2.step u3.f2 u3.b2).1 u3.c2,m2:=cond B (cond (u3.c2.step u3.f2 u3.b2).2.2.1 (stepA u3.p.init u3.m2 (u3.c2.step u3.f2 u3.b2).2.1) u3.m2) u3.m2 } k4 A B m0 v u0.p.cycle (cond A (cond (u3.c1.step u3.f1 u3.b1).2.2.1 ((stepA u3.p.init u3.m1 (u3.c1.step u3.f1 u3.b1).2.1).tg.wrong v.w1) u3.r.t1) u3.r.t1) (cond B (cond (u3.c2.step u3.f2 u3.b2).2.2.1 ((stepA u3.p.init u3.m2 (u3.c2.step u3.f2 u3.b2).2.1).tg.wrong v.w2) u3.r.t2) u3.r.t2) x3 x4 o3 o4 (cond A (u3.c1.step u3.f1 u3.b1).2.2.1 false) (cond B (u3.c2.step u3.f2 u3.b2).2.2.1 false)) ?_ ?_
 ·cases B
  ·rw [t32]
   rfl
  ·refine Eq.trans (cndF rfl) (Eq.trans (bdS (RI rfl w31)) (Eq.trans (bdS (Adu (c:=u3.c2) (fr:=k4.fr2) k4.ak2 (f:=u3.f2) (came:=u3.b2) (fun _=>⟨(f32 rfl).1.nd.nx,(f32 rfl).2.2.2.2.1,(f32 rfl).2.2.2.1,(f32 rfl).1.nd.role,(f32 rfl).2.2.2.2.2.2,(f32 rfl).1.ok.nnum,(f32 rfl).2.1.ncyc.trans (f32 rfl).2.1.cyc.symm⟩) (Nat.le_trans (f32 rfl).1.ok.css (by decide)) (Nat.le_trans p31 (by decide)))) ?_))
   have hin:=Gj (f32 rfl).1.ok p31 (came:=u3.b2)
   generalize (u3.c2.step u3.f2 u3.b2)=X at hin ⊢
   obtain ⟨c,⟨st,cy,fresh,inn⟩,ok,e⟩:=X
   have hl:inn.length≤100000000:=Nat.le_trans hin (by decide)
   cases ok
   ·rw [t32]
    exact Eq.trans (cndF rfl) rfl
   ·refine Eq.trans (cndT rfl) ?_
    unfold stepA
    cases fresh
    ·exact Eq.trans (bdS (cndF rfl)) (Eq.trans (bdS (GE u3.m2 cy hl)) rfl)
    ·rw [l32]
     exact Eq.trans (bdS (cndT rfl)) (Eq.trans (bdS (GE m0 cy hl)) rfl)
 have hst:L5 { u3 with c1:=cond A (u3.c1.step u3.f1 u3.b1).1 u3.c1,m1:=cond A (cond (u3.c1.step u3.f1 u3.b1).2.2.1 (stepA u3.p.init u3.m1 (u3.c1.step u3.f1 u3.b1).2.1) u3.m1) u3.m1,c2:=cond B (u3.c2.step u3.f2 u3.b2).1 u3.c2,m2:=cond B (cond (u3.c2.step u3.f2 u3.b2).2.2.1 (stepA u3.p.init u3.m2 (u3.c2.step u3.f2 u3.b2).2.1) u3.m2) u3.m2 } k4 A B m0 v u0.p.cycle (cond A (cond (u3.c1.step u3.f1 u3.b1).2.2.1 ((stepA u3.p.init u3.m1 (u3.c1.step u3.f1 u3.b1).2.1).tg.wrong v.w1) u3.r.t1) u3.r.t1) (cond B (cond (u3.c2.step u3.f2 u3.b2).2.2.1 ((stepA u3.p.init u3.m2 (u3.c2.step u3.f2 u3.b2).2.1).tg.wrong v.w2) u3.r.t2) u3.r.t2) x3 x4 o3 o4 (cond A (u3.c1.step u3.f1 u3.b1).2.2.1 false) (cond B (u3.c2.step u3.f2 u3.b2).2.2.1 false)=L5 (u3.step A B v) k4 A B m0 v u0.p.cycle (u3.step A B v).r.t1 (u3.step A B v).r.t2 x3 x4 o3 o4 (cond A (u3.c1.step u3.f1 u3.b1).2.2.1 false) (cond B (u3.c2.step u3.f2 u3.b2).2.2.1 false):=by cases A <;> cases B <;> rfl
 rw [hst]
 clear hst
 have f41:A=true→Ph4 u0.p.cycle (N+1) (u3.step A B v).c1 k4.ak1:=by
  intro h
  have q:=Vh (f31 h).1 hN.2 (f31 h).2.1 (f31 h).2.2.1 p32 u3.b1
  have p3:=(f31 h).2.2.2.2.2.1
  obtain ⟨q1,q2,q3,q4⟩:=q
  have e:(u3.step A B v).c1=(u3.c1.step u3.f1 u3.b1).1:=by subst h;cases B <;> rfl
  rw [e]
  exact ⟨q1,q2,q3,p3.trans q4.symm⟩
 have f42:B=true→Ph4 u0.p.cycle (N+1) (u3.step A B v).c2 k4.ak2:=by
  intro h
  have q:=Vh (f32 h).1 hN.2 (f32 h).2.1 (f32 h).2.2.1 p31 u3.b2
  have p3:=(f32 h).2.2.2.2.2.1
  obtain ⟨q1,q2,q3,q4⟩:=q
  have e:(u3.step A B v).c2=(u3.c2.step u3.f2 u3.b2).1:=by subst h;cases A <;> rfl
  rw [e]
  exact ⟨q1,q2,q3,p3.trans q4.symm⟩
 have e4:(u3.step A B v).p=u0.p∧(u3.step A B v).r.cycle=u0.p.cycle∧(u3.step A B v).r.role1=0∧(u3.step A B v).r.role2=0∧(u3.step A B v).r.st1=1∧(u3.step A B v).r.st2=1∧(u3.step A B v).r.steps1=0∧(u3.step A B v).r.steps2=0:=by
  have k:(u3.step A B v).p=u3.p∧(u3.step A B v).r.cycle=u3.r.cycle∧(u3.step A B v).r.role1=u3.r.role1∧(u3.step A B v).r.role2=u3.r.role2∧(u3.step A B v).r.st1=u3.r.st1∧(u3.step A B v).r.st2=u3.r.st2∧(u3.step A B v).r.steps1=u3.r.steps1∧(u3.step A B v).r.steps2=u3.r.steps2:=by
   cases A <;> cases B <;> exact ⟨rfl,rfl,rfl,rfl,rfl,rfl,rfl,rfl⟩
  rw [e3.1,e3.2.1,r0] at k
  exact k
 have m41:(u3.step A B v).m1.inR P:=by
  have h:=Rx (e3.2.2.1 ▸ m01:u3.m1.inR P) u3.p.init (u3.c1.step u3.f1 u3.b1).2.1
  have e:(u3.step A B v).m1=cond A (cond (u3.c1.step u3.f1 u3.b1).2.2.1 (stepA u3.p.init u3.m1 (u3.c1.step u3.f1 u3.b1).2.1) u3.m1) u3.m1:=by cases A <;> cases B <;> rfl
  rw [e]
  exact Ai (P:=fun z:Mc=>z.inR P) (Ai (P:=fun z:Mc=>z.inR P) h (e3.2.2.1 ▸ m01)) (e3.2.2.1 ▸ m01)
 have m42:(u3.step A B v).m2.inR P:=by
  have h:=Rx (e3.2.2.2 ▸ m02:u3.m2.inR P) u3.p.init (u3.c2.step u3.f2 u3.b2).2.1
  have e:(u3.step A B v).m2=cond B (cond (u3.c2.step u3.f2 u3.b2).2.2.1 (stepA u3.p.init u3.m2 (u3.c2.step u3.f2 u3.b2).2.1) u3.m2) u3.m2:=by cases A <;> cases B <;> rfl
  rw [e]
  exact Ai (P:=fun z:Mc=>z.inR P) (Ai (P:=fun z:Mc=>z.inR P) h (e3.2.2.2 ▸ m02)) (e3.2.2.2 ▸ m02)
 clear w31 w32 f31 f32 e3 p31 p32 t31 t32 l31 l32
 generalize (cond A (u3.c1.step u3.f1 u3.b1).2.2.1 false)=s1
 generalize (cond B (u3.c2.step u3.f2 u3.b2).2.2.1 false)=s2
 generalize hu4:u3.step A B v=u4 at f41 f42 e4 m41 m42 ⊢
 refine exB (t:=L6 { u4 with c1:=cond A (AA u4.c1 u4.r.t1).1 u4.c1 } k4 A B m0 v u0.p.cycle u4.r.t1 u4.r.t2 x3 x4 (cond A (AA u4.c1 u4.r.t1).2.2 false) o4 (cond A (AA u4.c1 u4.r.t1).2.1 noFrm) noFrm) ?_ ?_
 ·cases A
  ·rfl
  ·exact Eq.trans (cndT rfl) (Eq.trans (bdS (Adr (c:=u4.c1) k4.fr1 k4.ak1 u4.r.t1 (fun _=>(f41 rfl).1.nd.nx))) rfl)
 refine exB (t:=L6 (u4.ex2 A B v) k4 A B m0 v u0.p.cycle u4.r.t1 u4.r.t2 x3 x4 (cond A (AA u4.c1 u4.r.t1).2.2 false) (cond B (AA u4.c2 u4.r.t2).2.2 false) (cond A (AA u4.c1 u4.r.t1).2.1 noFrm) (cond B (AA u4.c2 u4.r.t2).2.1 noFrm)) ?_ ?_
 ·cases B
  ·rfl
  ·exact Eq.trans (cndT rfl) (Eq.trans (bdS (Adr (c:=u4.c2) k4.fr2 k4.ak2 u4.r.t2 (fun _=>(f42 rfl).1.nd.nx))) rfl)
 have w51:wire (cond A (AA u4.c1 u4.r.t1).2.1 noFrm) (cond A (AA u4.c1 u4.r.t1).2.2 false) v.f12 3 1 u4.p.cycle=((u4.ex2 A B v).f2,(u4.ex2 A B v).b2):=Aiu
 have w52:wire (cond B (AA u4.c2 u4.r.t2).2.1 noFrm) (cond B (AA u4.c2 u4.r.t2).2.2 false) v.f22 3 2 u4.p.cycle=((u4.ex2 A B v).f1,(u4.ex2 A B v).b1):=Aiv
 have f51:A=true→Ph5 u0.p.cycle (N+1) (u4.ex2 A B v).c1 k4.ak1:=by
  intro h
  obtain ⟨q1,q2,q3,q4,q5⟩:=Vi (f41 h).1 (f41 h).2.1 (f41 h).2.2.1 u4.r.t1
  have p3:=(f41 h).2.2.2
  subst h
  exact ⟨q1,q2,q3,p3.trans q4.symm,q5⟩
 have f52:B=true→Ph5 u0.p.cycle (N+1) (u4.ex2 A B v).c2 k4.ak2:=by
  intro h
  obtain ⟨q1,q2,q3,q4,q5⟩:=Vi (f42 h).1 (f42 h).2.1 (f42 h).2.2.1 u4.r.t2
  have p3:=(f42 h).2.2.2
  subst h
  exact ⟨q1,q2,q3,p3.trans q4.symm,q5⟩
 have e5:(u4.ex2 A B v).p=u0.p∧(u4.ex2 A B v).r.cycle=u0.p.cycle∧(u4.ex2 A B v).r.role1=0∧(u4.ex2 A B v).r.role2=0∧(u4.ex2 A B v).r.st1=1∧(u4.ex2 A B v).r.st2=1∧(u4.ex2 A B v).r.steps1=0∧(u4.ex2 A B v).r.steps2=0:=e4
 have m51:(u4.ex2 A B v).m1.inR P:=m41
 have m52:(u4.ex2 A B v).m2.inR P:=m42
 have ep:u4.p=(u4.ex2 A B v).p:=rfl
 have et1:u4.r.t1=(u4.ex2 A B v).r.t1:=rfl
 have et2:u4.r.t2=(u4.ex2 A B v).r.t2:=rfl
 rw [ep] at w51 w52
 generalize (cond A (AA u4.c1 u4.r.t1).2.1 noFrm)=y1 at w51 ⊢
 generalize (cond A (AA u4.c1 u4.r.t1).2.2 false)=p1 at w51 ⊢
 generalize (cond B (AA u4.c2 u4.r.t2).2.1 noFrm)=y2 at w52 ⊢
 generalize (cond B (AA u4.c2 u4.r.t2).2.2 false)=p2 at w52 ⊢
 rw [et1,et2]
 clear f41 f42 e4 ep et1 et2 m41 m42
 generalize hu5:u4.ex2 A B v=u5 at w51 w52 f51 f52 e5 m51 m52 ⊢
 obtain ⟨e50,e5c,e5r1,e5r2,e5s1,e5s2,e5q1,e5q2⟩:=e5
 refine exB (t:=L7 { u5 with c1:=cond A (u5.c1.judge u5.f1 u5.b1).1 u5.c1 } k4 A B m0 v u0.p.cycle u5.r.t1 u5.r.t2 (cond A (u5.c1.judge u5.f1 u5.b1).2.1 u5.r.st1) x3 x4 p1 p2 y1 y2) ?_ ?_
 ·cases A
  ·rw [e5s1]
   rfl
  ·exact Eq.trans (cndT rfl) (Eq.trans (bdS (RI rfl w52)) (Eq.trans (bdS (Ads (c:=u5.c1) k4.fr1 k4.ak1 (f:=u5.f1) (came:=u5.b1) (fun _=>⟨(f51 rfl).1.nd.nx,(f51 rfl).2.2.2.2⟩))) rfl))
 refine exB (t:=L8 (u5.judge A B) k4 A B m0 v u0.p.cycle u5.r.t1 u5.r.t2 (cond A (u5.c1.judge u5.f1 u5.b1).2.1 u5.r.st1) (cond B (u5.c2.judge u5.f2 u5.b2).2.1 u5.r.st2) x3 x4 p1 p2 y1 y2) ?_ ?_
 ·cases B
  ·rw [e5s2]
   rfl
  ·exact Eq.trans (cndT rfl) (Eq.trans (bdS (RI rfl w51)) (Eq.trans (bdS (Ads (c:=u5.c2) k4.fr2 k4.ak2 (f:=u5.f2) (came:=u5.b2) (fun _=>⟨(f52 rfl).1.nd.nx,(f52 rfl).2.2.2.2⟩))) rfl))
 have f61:A=true→Ph6 u0.p.cycle (N+1) (u5.judge A B).c1 k4.ak1:=by
  intro h
  obtain ⟨q1,q2,q3,q4,q5⟩:=HN (f51 h).1 (f51 h).2.1 (f51 h).2.2.1 u5.f1 u5.b1
  have p3:=(f51 h).2.2.2.1
  subst h
  exact ⟨q1,q2,q3,p3.trans q4.symm⟩
 have g61:0≤(u5.judge A B).r.st1∧(u5.judge A B).r.st1≤255:=by
  show 0≤cond A (u5.c1.judge u5.f1 u5.b1).2.1 u5.r.st1∧cond A (u5.c1.judge u5.f1 u5.b1).2.1 u5.r.st1≤255
  refine BZ (P:=fun z:Int=>0≤z∧z≤255) (fun h=>?_) (fun _=>by rw [e5s1];decide)
  obtain ⟨q1,q2,q3,q4,q5⟩:=HN (f51 h).1 (f51 h).2.1 (f51 h).2.2.1 u5.f1 u5.b1
  exact q5
 have f62:B=true→Ph6 u0.p.cycle (N+1) (u5.judge A B).c2 k4.ak2:=by
  intro h
  obtain ⟨q1,q2,q3,q4,q5⟩:=HN (f52 h).1 (f52 h).2.1 (f52 h).2.2.1 u5.f2 u5.b2
  have p3:=(f52 h).2.2.2.1
  subst h
  exact ⟨q1,q2,q3,p3.trans q4.symm⟩
 have g62:0≤(u5.judge A B).r.st2∧(u5.judge A B).r.st2≤255:=by
  show 0≤cond B (u5.c2.judge u5.f2 u5.b2).2.1 u5.r.st2∧cond B (u5.c2.judge u5.f2 u5.b2).2.1 u5.r.st2≤255
  refine BZ (P:=fun z:Int=>0≤z∧z≤255) (fun h=>?_) (fun _=>by rw [e5s2];decide)
  obtain ⟨q1,q2,q3,q4,q5⟩:=HN (f52 h).1 (f52 h).2.1 (f52 h).2.2.1 u5.f2 u5.b2
  exact q5
 have es1:(cond A (u5.c1.judge u5.f1 u5.b1).2.1 u5.r.st1)=(u5.judge A B).r.st1:=rfl
 have es2:(cond B (u5.c2.judge u5.f2 u5.b2).2.1 u5.r.st2)=(u5.judge A B).r.st2:=rfl
 have et1:u5.r.t1=(u5.judge A B).r.t1:=rfl
 have et2:u5.r.t2=(u5.judge A B).r.t2:=rfl
 rw [es1,es2,et1,et2]
 have e6:(u5.judge A B).p=u0.p∧(u5.judge A B).r.cycle=u0.p.cycle∧(u5.judge A B).r.role1=0∧(u5.judge A B).r.role2=0∧(u5.judge A B).r.steps1=0∧(u5.judge A B).r.steps2=0:=⟨e50,e5c,e5r1,e5r2,e5q1,e5q2⟩
 have m61:(u5.judge A B).m1.inR P:=m51
 have m62:(u5.judge A B).m2.inR P:=m52
 clear f51 f52 w51 w52 e50 e5c e5r1 e5r2 e5s1 e5s2 e5q1 e5q2 m51 m52 es1 es2 et1 et2
 generalize hu6:u5.judge A B=u6 at f61 f62 g61 g62 e6 m61 m62 ⊢
 refine exB (t:=L9 { u6 with c1:=cond A (AD u6.c1 u6.m1).1 u6.c1 } k4 A B m0 v u0.p.cycle u6.r.t1 u6.r.t2 u6.r.st1 u6.r.st2 (cond A (AD u6.c1 u6.m1).2.1 x3) x4 (cond A (AD u6.c1 u6.m1).2.2 false) p2) ?_ ?_
 ·cases A
  ·rfl
  ·have g:=Adt (c:=u6.c1) k4.fr1 (ak:=k4.ak1) (saveB u6.m1) (fun _=>⟨(f61 rfl).2.2.2,(f61 rfl).2.2.1.wb,(f61 rfl).2.2.1.wh,(f61 rfl).1.ok.nnum.symm,(f61 rfl).2.1.cyc.trans (f61 rfl).2.1.ncyc.symm⟩)
   rw [Ld] at g
   have hp:=m61.pad
   exact Eq.trans (cndT rfl) (Eq.trans (bdS (LU u6.m1.sum u6.m1.count u6.m1.pad (by omega) (by omega))) (Eq.trans (bdS g) rfl))
 refine exB (t:=L9 (u6.ex3 A B v) k4 A B m0 v u0.p.cycle u6.r.t1 u6.r.t2 u6.r.st1 u6.r.st2 (cond A (AD u6.c1 u6.m1).2.1 x3) (cond B (AD u6.c2 u6.m2).2.1 x4) (cond A (AD u6.c1 u6.m1).2.2 false) (cond B (AD u6.c2 u6.m2).2.2 false)) ?_ ?_
 ·cases B
  ·rfl
  ·have g:=Adt (c:=u6.c2) k4.fr2 (ak:=k4.ak2) (saveB u6.m2) (fun _=>⟨(f62 rfl).2.2.2,(f62 rfl).2.2.1.wb,(f62 rfl).2.2.1.wh,(f62 rfl).1.ok.nnum.symm,(f62 rfl).2.1.cyc.trans (f62 rfl).2.1.ncyc.symm⟩)
   rw [Ld] at g
   have hp:=m62.pad
   exact Eq.trans (cndT rfl) (Eq.trans (bdS (LU u6.m2.sum u6.m2.count u6.m2.pad (by omega) (by omega))) (Eq.trans (bdS g) rfl))
 have w71:wire (cond A (AD u6.c1 u6.m1).2.1 x3) (cond A (AD u6.c1 u6.m1).2.2 false) v.f13 4 1 u6.p.cycle=((u6.ex3 A B v).f2,(u6.ex3 A B v).b2):=Aiu
 have w72:wire (cond B (AD u6.c2 u6.m2).2.1 x4) (cond B (AD u6.c2 u6.m2).2.2 false) v.f23 4 2 u6.p.cycle=((u6.ex3 A B v).f1,(u6.ex3 A B v).b1):=Aiv
 have f71:A=true→Ph7 u0.p.cycle (N+1) (u6.ex3 A B v).c1:=by
  intro h
  have q:=Ru (f61 h).1 (f61 h).2.1 (cond u6.c1.asked (saveB u6.m1) [])
  subst h
  exact q
 have f72:B=true→Ph7 u0.p.cycle (N+1) (u6.ex3 A B v).c2:=by
  intro h
  have q:=Ru (f62 h).1 (f62 h).2.1 (cond u6.c2.asked (saveB u6.m2) [])
  subst h
  exact q
 have e7:(u6.ex3 A B v).p=u0.p∧(u6.ex3 A B v).r.cycle=u0.p.cycle∧(u6.ex3 A B v).r.role1=0∧(u6.ex3 A B v).r.role2=0∧(u6.ex3 A B v).r.steps1=0∧(u6.ex3 A B v).r.steps2=0:=e6
 have m71:(u6.ex3 A B v).m1.inR P:=m61
 have m72:(u6.ex3 A B v).m2.inR P:=m62
 have ep:u6.p=(u6.ex3 A B v).p:=rfl
 have et:u6.r=(u6.ex3 A B v).r:=rfl
 rw [ep] at w71 w72
 generalize (cond A (AD u6.c1 u6.m1).2.1 x3)=x5 at w71 ⊢
 generalize (cond A (AD u6.c1 u6.m1).2.2 false)=o5 at w71 ⊢
 generalize (cond B (AD u6.c2 u6.m2).2.1 x4)=x6 at w72 ⊢
 generalize (cond B (AD u6.c2 u6.m2).2.2 false)=o6 at w72 ⊢
 rw [et] at g61 g62 ⊢
 clear f61 f62 e6 ep et m61 m62
 generalize hu7:u6.ex3 A B v=u7 at w71 w72 f71 f72 e7 g61 g62 m71 m72 ⊢
 have p71:u7.f2.payload.length≤1100:=by have:=DX x5 o5 v.f13 4 1 u7.p.cycle;rw [w71] at this;exact this
 have p72:u7.f1.payload.length≤1100:=by have:=DX x6 o6 v.f23 4 2 u7.p.cycle;rw [w72] at this;exact this
 obtain ⟨e70,e7c,e7r1,e7r2,e7q1,e7q2⟩:=e7
 refine exB (t:=L10 { u7 with c1:=cond A (tookA u7.m1 (u7.c1.take u7.f1 u7.b1)).1 u7.c1,m1:=cond A (tookA u7.m1 (u7.c1.take u7.f1 u7.b1)).2 u7.m1 } { k4 with ak1:=cond A (takeK u7.m1 (u7.c1.take u7.f1 u7.b1) k4.ak1) k4.ak1 } A B m0 v u0.p.cycle u7.r.t1 u7.r.t2 u7.r.st1 u7.r.st2 (cond A (tookA u7.m1 (u7.c1.take u7.f1 u7.b1)).1.nd.role u7.r.role1) (cond A (tookA u7.m1 (u7.c1.take u7.f1 u7.b1)).1.nd.steps u7.r.steps1) x5 x6 o5 o6) ?_ ?_
 ·cases A
  ·rw [e7r1,e7q1]
   rfl
  ·exact Eq.trans (cndT rfl) (Eq.trans (bdS (RI rfl w72)) (Eq.trans (bdS (Aeh (w:=u7) k4 true B m0 (f:=u7.f1) (came:=u7.b1) ⟨m71.pad ▸ hP.1,m71.pad ▸ hP.2⟩ (f71 rfl).1.ok (f71 rfl).1.cok (fun _=>⟨(f71 rfl).1.nd.nx,(f71 rfl).1.ok.nnum,(f71 rfl).2.ncyc.trans (f71 rfl).2.cyc.symm⟩) p72)) rfl))
 refine exB (t:=L11 ((u7.take A B).node A B) { k4 with ak1:=cond A (takeK u7.m1 (u7.c1.take u7.f1 u7.b1) k4.ak1) k4.ak1,ak2:=cond B (takeK u7.m2 (u7.c2.take u7.f2 u7.b2) k4.ak2) k4.ak2 } A B m0 v u0.p.cycle u7.r.t1 u7.r.t2 u7.r.st1 u7.r.st2 (cond A (tookA u7.m1 (u7.c1.take u7.f1 u7.b1)).1.nd.role u7.r.role1) (cond A (tookA u7.m1 (u7.c1.take u7.f1 u7.b1)).1.nd.steps u7.r.steps1) (cond B (tookA u7.m2 (u7.c2.take u7.f2 u7.b2)).1.nd.role u7.r.role2) (cond B (tookA u7.m2 (u7.c2.take u7.f2 u7.b2)).1.nd.steps u7.r.steps2) x5 x6 o5 o6) ?_ ?_
 ·cases B
  ·rw [e7r2,e7q2]
   rfl
  ·exact Eq.trans (cndT rfl) (Eq.trans (bdS (RI rfl w71)) (Eq.trans (bdS (Aei (w:=({ u7 with c1:=cond A (tookA u7.m1 (u7.c1.take u7.f1 u7.b1)).1 u7.c1,m1:=cond A (tookA u7.m1 (u7.c1.take u7.f1 u7.b1)).2 u7.m1 }:W)) ({ k4 with ak1:=cond A (takeK u7.m1 (u7.c1.take u7.f1 u7.b1) k4.ak1) k4.ak1 }:RK) A true m0 (f:=u7.f2) (came:=u7.b2) ⟨m72.pad ▸ hP.1,m72.pad ▸ hP.2⟩ (f72 rfl).1.ok (f72 rfl).1.cok (fun _=>⟨(f72 rfl).1.nd.nx,(f72 rfl).1.ok.nnum,(f72 rfl).2.ncyc.trans (f72 rfl).2.cyc.symm⟩) p71)) rfl))
 have gX:G5 P (N+1) A B m0 ((u7.take A B).node A B).fin:=by
  refine ⟨fun h=>?_,fun h=>?_,?_,?_,?_⟩
  ·have:=Vj (f71 h).1 (by omega) u7.m1 u7.f1 u7.b1
   subst h;exact this
  ·have:=Vj (f72 h).1 (by omega) u7.m2 u7.f2 u7.b2
   subst h;exact this
  ·exact Ai (P:=fun z:Mc=>z.inR P) (RH m71 _) m71
  ·exact Ai (P:=fun z:Mc=>z.inR P) (RH m72 _) m72
  ·show u7.p.init=saveB m0
   rw [e70,fi0]
 clear w71 w72 f71 f72 p71 p72
 generalize ({ k4 with ak1:=cond A (takeK u7.m1 (u7.c1.take u7.f1 u7.b1) k4.ak1) k4.ak1,ak2:=cond B (takeK u7.m2 (u7.c2.take u7.f2 u7.b2) k4.ak2) k4.ak2 }:RK)=k5
 have hall:u0.all A B v one two=((u7.take A B).node A B).fin:=by
  unfold W.all
  rw [hu1,hu2,hu3,hu4,hu5,hu6,hu7]
 rw [hall,← e7c]
 refine exB (t:=select u7.r.st1 u7.r.st2) (Alq g61 g62) ?_
 have hs:=Cg u7.r.st1 u7.r.st2
 have hsr:select u7.r.st1 u7.r.st2=((u7.take A B).node A B).src:=rfl
 refine exB (t:=L12 ((u7.take A B).node A B).fin k5 A B m0 u7.r.cycle u7.r.t1 u7.r.t2 u7.r.st1 u7.r.st2 (cond A (tookA u7.m1 (u7.c1.take u7.f1 u7.b1)).1.nd.role u7.r.role1) (cond A (tookA u7.m1 (u7.c1.take u7.f1 u7.b1)).1.nd.steps u7.r.steps1) (cond B (tookA u7.m2 (u7.c2.take u7.f2 u7.b2)).1.nd.role u7.r.role2) (cond B (tookA u7.m2 (u7.c2.take u7.f2 u7.b2)).1.nd.steps u7.r.steps2) ((u7.take A B).node A B).src) ?_ ?_
 ·unfold W.fin W.used
  have c1:((u7.take A B).node A B).p=u7.p:=rfl
  have c2:((u7.take A B).node A B).r.t1=u7.r.t1:=rfl
  have c3:((u7.take A B).node A B).r.t2=u7.r.t2:=rfl
  rw [c1,c2,c3,← hsr]
  generalize select u7.r.st1 u7.r.st2=s at hs ⊢
  rcases hs with rfl | rfl | rfl
  ·exact Eq.trans (cndF rfl) rfl
  ·exact Eq.trans (cndT rfl) (Eq.trans (bdS (Eq.trans (bdS (Aeg u7.p.use u7.r.t1 u7.p.r1 u7.p.r2 u7.p.r3 u7.p.r4)) rfl)) rfl)
  ·exact Eq.trans (cndT rfl) (Eq.trans (bdS (Eq.trans (bdS (Aeg u7.p.use u7.r.t2 u7.p.r1 u7.p.r2 u7.p.r3 u7.p.r4)) rfl)) rfl)
 exact ⟨k5,by cases A <;> cases B <;> rfl,gX⟩
def saveOf (c:Cp) (m:Mc):List UInt8:=cond (c.nd.role==1) [] (saveB m)
theorem smA {α β γ:Type} {z:α ⊕ β} {u:α} {F:α→Option γ} {G:β→Option γ} (h:z = .inl u):sm z F G=F u:=by subst h;rfl
theorem smB {α β γ:Type} {z:α ⊕ β} {u:β} {F:α→Option γ} {G:β→Option γ} (h:z = .inr u):sm z F G=G u:=by subst h;rfl
def saveN (a b:Bool) (w:W) (n:Int):List UInt8:=cond (n==1) (cond a (saveOf w.c1 w.m1) []) (cond (n==2) (cond b (saveOf w.c2 w.m2) []) [])
theorem Cv {w:W} (k:RK) (a b:Bool) (m0:Mc) (h1:0≤w.m1.pad∧w.m1.pad≤10000) (h2:0≤w.m2.pad∧w.m2.pad≤10000) {n:Int} (hn:n=0∨n=1∨n=2∨n=3):LZ (rP w k a b m0) n=some (saveN a b w n):=by
 rcases hn with rfl | rfl | rfl | rfl
 ·rfl
 ·cases a
  ·rfl
  ·refine Eq.trans (bdS (t:=(1,(w.c1.nd.role==1),rP w k true b m0)) rfl) ?_
   exact As (c:=w.c1.nd.role==1) (F:=fun z=>z) rfl (Eq.trans (bdS (Eq.trans (smA (u:=()) rfl) (Eq.trans (bdS (LU w.m1.sum w.m1.count w.m1.pad h1.1 (by omega))) rfl))) rfl)
 ·cases b
  ·rfl
  ·refine Eq.trans (bdS (t:=(2,(w.c2.nd.role==1),rP w k a true m0)) rfl) ?_
   exact As (c:=w.c2.nd.role==1) (F:=fun z=>z) rfl (Eq.trans (bdS (Eq.trans (smB (u:=()) rfl) (Eq.trans (smA (u:=()) rfl) (Eq.trans (bdS (LU w.m2.sum w.m2.count w.m2.pad h2.1 (by omega))) rfl)))) rfl)
 ·rfl
theorem HS {m:Mc} (h:0≤m.pad∧m.pad≤10000):(saveB m).length≤100000000:=by have:=EG m;omega
theorem HU (w:W) {n:Int} (hn:n=0∨n=1∨n=2∨n=3):Ach n w.p.e w.m1.e w.m2.e=some ()∧saveN false false w n=[]:=by
 rcases hn with rfl | rfl | rfl | rfl <;> exact ⟨rfl,rfl⟩
theorem Gn {w:W} (h1:0≤w.m1.pad∧w.m1.pad≤10000) (h2:0≤w.m2.pad∧w.m2.pad≤10000) {n:Int} (hn:n=0∨n=1∨n=2∨n=3) :
  Th n w.p.e w.m1.e w.m2.e w.c1.h w.c1.nd.e w.c1.ps (w.c1.cz,w.c1.co.ps,w.c1.co.ss) w.c2.h w.c2.nd.e w.c2.ps (w.c2.cz,w.c2.co.ps,w.c2.co.ss)=some (saveN true true w n):=by
 rcases hn with rfl | rfl | rfl | rfl
 ·rfl
 ·refine Eq.trans (bdS (cndF rfl)) (Eq.trans (cndF rfl) (Eq.trans (bdS (smA (u:=()) rfl)) (Eq.trans (bdS (FK w.c1 _)) ?_)))
  exact As (c:=w.c1.nd.role==1) (F:=fun z=>z) rfl (Eq.trans (bdS (Eq.trans (smA (u:=()) rfl) (Eq.trans (bdS (De (m:=w.m1) h1.1 (by omega))) (Eq.trans (bdS (Bu (HS h1))) rfl)))) rfl)
 ·refine Eq.trans (bdS (cndF rfl)) (Eq.trans (cndF rfl) (Eq.trans (bdS (Eq.trans (smB (u:=()) rfl) (smA (u:=()) rfl))) (Eq.trans (bdS (FK w.c2 _)) ?_)))
  exact As (c:=w.c2.nd.role==1) (F:=fun z=>z) rfl (Eq.trans (bdS (Eq.trans (smB (u:=()) rfl) (Eq.trans (smA (u:=()) rfl) (Eq.trans (bdS (De (m:=w.m2) h2.1 (by omega))) (Eq.trans (bdS (Bu (HS h2))) rfl))))) rfl)
 ·rfl
theorem Alw {w:W} (x:Int) (h1:0≤w.m1.pad∧w.m1.pad≤10000):ES (((1,w.p.e),w.m1.e,w.m2.e),(w.c1.h,w.c1.nd.e),w.c1.ps,w.c1.cz,w.c1.co.ps,w.c1.co.ss)=some (saveOf w.c1 w.m1):=by
 unfold ES
 refine Eq.trans (bdS (FK w.c1 _)) ?_
 exact As (c:=w.c1.nd.role==1) (F:=fun z=>z) rfl (Eq.trans (bdS (Eq.trans (smA (u:=()) rfl) (Eq.trans (bdS (De (m:=w.m1) h1.1 (by omega))) (Eq.trans (bdS (Bu (HS h1))) rfl)))) rfl)
theorem Alx {w:W} (x:Int) (h2:0≤w.m2.pad∧w.m2.pad≤10000):ES (((2,w.p.e),w.m1.e,w.m2.e),(w.c2.h,w.c2.nd.e),w.c2.ps,w.c2.cz,w.c2.co.ps,w.c2.co.ss)=some (saveOf w.c2 w.m2):=by
 unfold ES
 refine Eq.trans (bdS (FK w.c2 _)) ?_
 exact As (c:=w.c2.nd.role==1) (F:=fun z=>z) rfl (Eq.trans (bdS (Eq.trans (smB (u:=()) rfl) (Eq.trans (smA (u:=()) rfl) (Eq.trans (bdS (De (m:=w.m2) h2.1 (by omega))) (Eq.trans (bdS (Bu (HS h2))) rfl))))) rfl)
theorem Gp {w:W} (h2:0≤w.m2.pad∧w.m2.pad≤10000) {n:Int} (hn:n=0∨n=1∨n=2∨n=3) :
  Tf n w.p.e w.m1.e w.m2.e w.c2.h w.c2.nd.e w.c2.ps (w.c2.cz,w.c2.co.ps,w.c2.co.ss)=some (saveN false true w n):=by
 rcases hn with rfl | rfl | rfl | rfl
 ·rfl
 ·rfl
 ·exact Eq.trans (bdS (cndF rfl)) (Eq.trans (cndF rfl) (Eq.trans (bdS (Eq.trans (smB (u:=()) rfl) (smA (u:=()) rfl))) (Eq.trans (smB rfl) (Alx 0 h2))))
 ·rfl
theorem Gq {w:W} (h1:0≤w.m1.pad∧w.m1.pad≤10000) {n:Int} (hn:n=0∨n=1∨n=2∨n=3) :
  Ti n w.p.e w.m1.e w.m2.e w.c1.h w.c1.nd.e w.c1.ps (w.c1.cz,w.c1.co.ps,w.c1.co.ss)=some (saveN true false w n):=by
 rcases hn with rfl | rfl | rfl | rfl
 ·rfl
 ·exact Eq.trans (bdS (cndF rfl)) (Eq.trans (cndF rfl) (Eq.trans (bdS (smA (u:=()) rfl)) (Eq.trans (smA rfl) (Alw 0 h1))))
 ·rfl
 ·rfl
theorem Aiw:o49 1=some ((1,1,false),(false,false),false,0):=rfl
theorem Aix:o49 2=some ((2,1,false),(false,false),false,0):=rfl
theorem Aly {m:Mc} {r1 r2 r3 r4:Int} (h1:0≤r1) (h2:0≤r2) (h3:0≤r3) (h4:0≤r4) (p0:0≤m.pad) (p1:m.pad≤10000) :
  o13 m.e ((r1,r2),r3,r4)=some ((((1,1,false),(false,false),false,2),(1,false,false),(false,false),true,true),(m.e,(m.sum,m.count),m.pad,m.sum),(m.count,m.pad,r1),(r2,r3),r4,0):=by
 unfold o13
 have hl:=EG m
 refine Eq.trans (bdS (t:=((false,m.e),((r1,r2),r3,r4),((false,false),false,false,false),(false,false),false,false,false)) ?_) ?_
 ·refine Eq.trans (cndF (df (by show ¬ r1 < 0;omega))) (Eq.trans (cndF (df (by show ¬ r2 < 0;omega))) (Eq.trans (cndF (df (by show ¬ r3 < 0;omega))) ?_))
  show some ((decide (r4 < 0),m.e),_)=_
  rw [df (by omega:¬ r4 < 0)]
 exact Eq.trans (cndF rfl) (Eq.trans (bdS (LU m.sum m.count m.pad p0 (by omega))) (Eq.trans (cndF (df (by show ¬ ((saveB m).length:Int) > 524288;omega))) (Eq.trans (bdS Aiw) (Eq.trans (bdS Aix) rfl))))
end Go.Proofs.YtpleflcfaecojaaGreat
