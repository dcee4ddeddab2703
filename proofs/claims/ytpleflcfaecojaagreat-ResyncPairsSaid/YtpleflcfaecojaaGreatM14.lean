/-
One computer: what stays true of it. Conditions: each lemma's own.
-/
import Derived.Test.YtpleflcfaecojaaGreatM13
namespace Go.Proofs.YtpleflcfaecojaaGreat
set_option linter.unusedVariables false
set_option linter.unusedSimpArgs false
set_option maxRecDepth 100000
open Go.RowKit
theorem Ai {α:Type} {P:α→Prop} {b:Bool} {x y:α} (hx:P x) (hy:P y):P (cond b x y):=by cases b <;> assumption
theorem BZ {α:Type} {P:α→Prop} {b:Bool} {x y:α} (hx:b=true→P x) (hy:b=false→P y):P (cond b x y):=by
 cases b with
 | true=>exact hx rfl
 | false=>exact hy rfl
structure Nd.ok (n:Nd):Prop where
 inp:n.input.length≤1000
 hinp:n.hd.input.length≤400
 sin:n.se.in_.length≤2000
structure Cp.ok2 (c:Cp):Prop where
 data:∀ p∈c.ps,p.2.2.2.length≤600
 cps:c.co.ps.length≤874
 cpd:∀ x∈c.co.ps,x.length≤600
 css:c.co.ss.length≤874
 csd:∀ x∈c.co.ss,x.2.2.2.length≤2000
theorem Cp.ok.nd {c:Cp} (h:c.ok):c.nd.ok:=⟨h.inp,h.hinp,h.sin⟩
theorem Cp.ok.rest {c:Cp} (h:c.ok):c.ok2:=⟨h.data,h.cps,h.cpd,h.css,h.csd⟩
theorem UJ {c:Cp} (h1:c.number=1∨c.number=2) (h2:c.nd.number=c.number) (h3:c.nd.ok) (h4:c.ok2):c.ok:=⟨h1,h2,h3.inp,h3.hinp,h3.sin,h4.data,h4.cps,h4.cpd,h4.css,h4.csd⟩
theorem withNd {c:Cp} (h:c.ok) (n:Nd) (nx cy:Int) (a:Bool) (b1 b2:Int) (h2:n.number=c.nd.number) (h3:n.ok):(Cp.mk c.number nx cy a b1 b2 n c.ps c.co).ok:=UJ h.num (h2.trans h.nnum) h3 ⟨h.data,h.cps,h.cpd,h.css,h.csd⟩
theorem SY (n:Nd) (cy:Int) (i:List UInt8) (a b:Int):(n.hello cy i a b).1.number=n.number:=by
 unfold Nd.hello
 exact Ai (P:=fun z:Nd×Frm×Int=>z.1.number=n.number) rfl (Ai (P:=fun z:Nd×Frm×Int=>z.1.number=n.number) rfl (Ai (P:=fun z:Nd×Frm×Int=>z.1.number=n.number) rfl rfl))
theorem Wj {n:Nd} (h:n.ok) {cy:Int} {i:List UInt8} (hi:i.length≤1000) {a b:Int}:(n.hello cy i a b).1.ok:=by
 unfold Nd.hello
 exact Ai (P:=fun z:Nd×Frm×Int=>z.1.ok) h (Ai (P:=fun z:Nd×Frm×Int=>z.1.ok) h (Ai (P:=fun z:Nd×Frm×Int=>z.1.ok) h ⟨hi,by simp [Nd.begun,noHd],by simp [Nd.begun,noSe]⟩))
theorem SZ (n:Nd) (f:Frm) (came:Bool):(n.heard1 f came).number=n.number:=Ai (P:=fun z:Nd=>z.number=n.number) rfl rfl
theorem Wk {n:Nd} (h:n.ok) (f:Frm) (came:Bool):(n.heard1 f came).ok:=Ai (P:=Nd.ok) ⟨h.inp,Hk _,h.sin⟩ h
theorem Ta (n:Nd):n.heard2.number=n.number:=Ai (P:=fun z:Nd=>z.number=n.number) rfl rfl
theorem Wl {n:Nd} (h:n.ok):n.heard2.ok:=Ai (P:=Nd.ok) ⟨h.inp,h.hinp,h.sin⟩ ⟨h.inp,by simp [noHd],h.sin⟩
theorem Tb (n:Nd) (r:Int):(n.heard3 r).number=n.number:=Ai (P:=fun z:Nd=>z.number=n.number) rfl rfl
theorem Wm {n:Nd} (h:n.ok) (r:Int):(n.heard3 r).ok:=Ai (P:=Nd.ok) ⟨h.inp,h.hinp,h.sin⟩ ⟨h.inp,h.hinp,h.sin⟩
theorem Wn (n:Nd) (f:Frm) (came:Bool):(n.hear f came).1.number=n.number:=by
 unfold Nd.hear
 refine Ai (P:=fun z:Nd×Hd×Bool×Int=>z.1.number=n.number) rfl ?_
 exact (Tb _ _).trans ((Ta _).trans (SZ _ _ _))
theorem AaZ {n:Nd} (h:n.ok) (f:Frm) (came:Bool):(n.hear f came).1.ok:=by
 unfold Nd.hear
 refine Ai (P:=fun z:Nd×Hd×Bool×Int=>z.1.ok) h ?_
 have:=Wm (Wl (Wk h f came)) (n.heard1 f came).heard2.newRole
 exact ⟨this.inp,this.hinp,this.sin⟩
theorem Tc (n:Nd):n.share.1.number=n.number:=by
 unfold Nd.share
 exact Ai (P:=fun z:Nd×Frm×Bool×Int=>z.1.number=n.number) rfl (Ai (P:=fun z:Nd×Frm×Bool×Int=>z.1.number=n.number) rfl rfl)
theorem Wo {n:Nd} (h:n.ok):n.share.1.ok:=by
 unfold Nd.share
 exact Ai (P:=fun z:Nd×Frm×Bool×Int=>z.1.ok) h (Ai (P:=fun z:Nd×Frm×Bool×Int=>z.1.ok) ⟨h.inp,h.hinp,h.sin⟩ ⟨h.inp,h.hinp,Nat.le_trans n.packed_len (by decide)⟩)
theorem Qc (n:Nd) (f:Frm) (came:Bool):(n.took f came).number=n.number:=Ai (P:=fun z:Nd=>z.number=n.number) (Ai (P:=fun z:Nd=>z.number=n.number) rfl rfl) rfl
theorem AgJ {n:Nd} (h:n.ok) {f:Frm} (hf:f.payload.length≤1100) (came:Bool):(n.took f came).ok:=Ai (P:=Nd.ok) (Ai (P:=Nd.ok) ⟨h.inp,h.hinp,Nat.le_trans (Fi _ _) (Nat.le_trans hf (by decide))⟩ ⟨h.inp,h.hinp,h.sin⟩) ⟨h.inp,h.hinp,h.sin⟩
theorem IK (n:Nd) (f:Frm) (came:Bool):(n.stepped f came).number=n.number:=Ai (P:=fun z:Nd=>z.number=n.number) rfl (Ai (P:=fun z:Nd=>z.number=n.number) (Ai (P:=fun z:Nd=>z.number=n.number) (Qc n f came) (Qc n f came)) rfl)
theorem Ky {n:Nd} (h:n.ok) {f:Frm} (hf:f.payload.length≤1100) (came:Bool):(n.stepped f came).ok:=by
 have ht:=AgJ h hf came
 exact Ai (P:=Nd.ok) ⟨h.inp,h.hinp,h.sin⟩ (Ai (P:=Nd.ok) (Ai (P:=Nd.ok) ht ⟨ht.inp,ht.hinp,ht.sin⟩) ⟨h.inp,h.hinp,h.sin⟩)
theorem LV (n:Nd) (f:Frm) (came:Bool):(n.step f came).1.number=n.number:=by
 unfold Nd.step
 exact Ai (P:=fun z:Nd×Se×Bool×Int=>z.1.number=n.number) rfl (Ai (P:=fun z:Nd×Se×Bool×Int=>z.1.number=n.number) (IK n f came) (IK n f came))
theorem Aba {n:Nd} (h:n.ok) {f:Frm} (hf:f.payload.length≤1100) (came:Bool):(n.step f came).1.ok:=by
 have ht:=Ky h hf came
 unfold Nd.step
 exact Ai (P:=fun z:Nd×Se×Bool×Int=>z.1.ok) h (Ai (P:=fun z:Nd×Se×Bool×Int=>z.1.ok) ⟨ht.inp,ht.hinp,ht.sin⟩ ht)
theorem Abb {n:Nd} (h:n.ok) {f:Frm} (hf:f.payload.length≤1100) (came:Bool):(n.step f came).2.1.in_.length≤2000:=by
 have ht:=Ky h hf came
 unfold Nd.step
 exact Ai (P:=fun z:Nd×Se×Bool×Int=>z.2.1.in_.length≤2000) (by simp [noSe]) (Ai (P:=fun z:Nd×Se×Bool×Int=>z.2.1.in_.length≤2000) ht.sin (by simp [noSe]))
theorem Wp (n:Nd) (t:Tg):(n.tell t).1.number=n.number:=by
 unfold Nd.tell
 exact Ai (P:=fun z:Nd×Frm×Bool×Int=>z.1.number=n.number) rfl (Ai (P:=fun z:Nd×Frm×Bool×Int=>z.1.number=n.number) rfl rfl)
theorem Abc {n:Nd} (h:n.ok) (t:Tg):(n.tell t).1.ok:=by
 unfold Nd.tell
 exact Ai (P:=fun z:Nd×Frm×Bool×Int=>z.1.ok) h (Ai (P:=fun z:Nd×Frm×Bool×Int=>z.1.ok) ⟨h.inp,h.hinp,h.sin⟩ ⟨h.inp,h.hinp,h.sin⟩)
theorem Td (n:Nd) (f:Frm) (came:Bool):(n.judge f came).1.number=n.number:=by
 unfold Nd.judge
 exact Ai (P:=fun z:Nd×Int×Int=>z.1.number=n.number) rfl rfl
theorem Wq {n:Nd} (h:n.ok) (f:Frm) (came:Bool):(n.judge f came).1.ok:=by
 unfold Nd.judge
 exact Ai (P:=fun z:Nd×Int×Int=>z.1.ok) h ⟨h.inp,h.hinp,h.sin⟩
theorem Wr (n:Nd) (s:Int):(n.adopt s).1.number=n.number:=by
 unfold Nd.adopt
 exact Ai (P:=fun z:Nd×Int=>z.1.number=n.number) rfl (Ai (P:=fun z:Nd×Int=>z.1.number=n.number) rfl rfl)
theorem Abd {n:Nd} (h:n.ok) (s:Int):(n.adopt s).1.ok:=by
 unfold Nd.adopt
 exact Ai (P:=fun z:Nd×Int=>z.1.ok) h (Ai (P:=fun z:Nd×Int=>z.1.ok) h ⟨h.inp,h.hinp,h.sin⟩)
theorem Abe {c:Cp} (h:c.ok) {cy:Int} {i:List UInt8} (hi:i.length≤1000):(c.hello cy i).1.ok:=by
 have h1:=SY c.nd cy i c.w.1 c.w.2
 have h2:=Wj h.nd (cy:=cy) hi (a:=c.w.1) (b:=c.w.2)
 unfold Cp.hello
 refine Ai (P:=fun z:Cp×Frm×Int=>z.1.ok) h ?_
 unfold Cp.began
 exact Ai (P:=fun z:Cp×Frm×Int=>z.1.ok) (withNd h _ _ _ _ _ _ h1 h2) (withNd h _ _ _ _ _ _ h1 h2)
theorem Hy {c:Cp} (h:c.ok) {f:Frm} {came:Bool}:(c.hear f came).1.ok:=by
 have h1:=Wn c.nd f came
 have h2:=AaZ h.nd f came
 unfold Cp.hear
 refine Ai (P:=fun z:Cp×Int=>z.1.ok) h ?_
 unfold Cp.heard
 refine Ai (P:=fun z:Cp×Int=>z.1.ok) (withNd h _ _ _ _ _ _ h1 h2) ?_
 have h3:(c.heard1 (c.nd.hear f came)).ok:=by
  unfold Cp.heard1
  exact Ai (P:=Cp.ok) (Hx (withNd h _ _ _ _ _ _ h1 h2)) (withNd h _ _ _ _ _ _ h1 h2)
 exact withNd h3 _ _ _ _ _ _ rfl h3.nd
theorem Qd {c:Cp} (h:c.ok):c.share.1.ok:=by
 unfold Cp.share
 exact Ai (P:=fun z:Cp×Frm×Bool×Int=>z.1.ok) h (withNd h _ _ _ _ _ _ (Tc _) (Wo h.nd))
theorem AgK {c:Co} {x:Se} {came:Bool} (h:c.ss.length≤874) (hp:c.ps.length≤874):(c.note x came).ss.length≤874:=by
 unfold Co.note
 refine Ai (P:=fun z:Co=>z.ss.length≤874) h (BZ (P:=fun z:Co=>z.ss.length≤874) (fun _=>Nat.zero_le _) fun hm=>?_)
 unfold Co.misses at hm
 simp only [Bool.or_eq_false_iff,decide_eq_false_iff_not] at hm
 show (c.ss++[x.t]).length≤874
 rw [List.length_append,List.length_singleton]
 omega
theorem Abf {c:Co} {x:Se} {came:Bool} (h:∀ y∈c.ss,y.2.2.2.length≤2000) (hx:x.in_.length≤2000):∀ y∈(c.note x came).ss,y.2.2.2.length≤2000:=by
 unfold Co.note
 refine Ai (P:=fun z:Co=>∀ y∈z.ss,y.2.2.2.length≤2000) h (Ai (P:=fun z:Co=>∀ y∈z.ss,y.2.2.2.length≤2000) (by intro y hy;cases hy) ?_)
 intro y hy
 rcases List.mem_append.1 hy with hy | hy
 ·exact h y hy
 ·rw [List.mem_singleton] at hy;subst hy;exact hx
theorem UK {c:Co} {x:Se} {came:Bool}:(c.note x came).ps=c.ps∨(c.note x came).ps=[]:=by
 unfold Co.note
 exact Ai (P:=fun z:Co=>z.ps=c.ps∨z.ps=[]) (.inl rfl) (Ai (P:=fun z:Co=>z.ps=c.ps∨z.ps=[]) (.inr rfl) (.inl rfl))
theorem Abg {c:Cp} (h:c.ok) {f:Frm} (hf:f.payload.length≤1100) (came:Bool):(c.noted f came).ok:=by
 refine UJ h.num h.nnum h.nd ⟨h.data,?_,?_,AgK h.css h.cps,Abf h.csd (Nat.le_trans (Fi _ _) (Nat.le_trans hf (by decide)))⟩
 ·show (c.co.note _ _).ps.length≤874
  rcases UK (c:=c.co) (x:=(getSet c.cycle f.payload).1) (came:=c.setFits f came) with e | e
  ·rw [e];exact h.cps
  ·rw [e];exact Nat.zero_le _
 ·show ∀ x∈(c.co.note _ _).ps,x.length≤600
  rcases UK (c:=c.co) (x:=(getSet c.cycle f.payload).1) (came:=c.setFits f came) with e | e
  ·rw [e];exact h.cpd
  ·rw [e];intro x hx;cases hx
theorem Na {c:Cp} (h:c.ok) {f:Frm} (hf:f.payload.length≤1100) {came:Bool}:(c.step f came).1.ok:=by
 have h1:=LV c.nd f came
 have h2:=Aba h.nd hf came
 unfold Cp.step
 refine Ai (P:=fun z:Cp×Se×Bool×Int=>z.1.ok) h ?_
 have h3:=withNd h _ 4 c.cycle c.asked c.wb c.wh h1 h2
 show (c.stepped (c.nd.step f came) f came).ok
 unfold Cp.stepped
 exact Ai (P:=Cp.ok) (Abg (Ai (P:=Cp.ok) h3 (Hx h3)) hf came) h3
theorem Gj {c:Cp} (h:c.ok) {f:Frm} (hf:f.payload.length≤1100) {came:Bool}:(c.step f came).2.1.in_.length≤2000:=by
 have h2:=Abb h.nd hf came
 unfold Cp.step
 exact Ai (P:=fun z:Cp×Se×Bool×Int=>z.2.1.in_.length≤2000) (by simp [noSe]) h2
theorem UL {c:Cp} (h:c.ok) {t:Tg}:(c.tell t).1.ok:=by
 unfold Cp.tell
 exact Ai (P:=fun z:Cp×Frm×Bool×Int=>z.1.ok) h (withNd h _ _ _ _ _ _ (Wp _ _) (Abc h.nd _))
theorem FL {c:Cp} (h:c.ok) {f:Frm} {came:Bool}:(c.judge f came).1.ok:=by
 unfold Cp.judge
 exact Ai (P:=fun z:Cp×Int×Int=>z.1.ok) h (withNd h _ _ _ _ _ _ (Td _ _ _) (Wq h.nd _ _))
theorem Te {ps:List PT} (h:∀ p∈ps,p.2.2.2.length≤600) (base have_ steps:Int) (save:List UInt8):∀ p∈(serve ps base have_ steps save).1,p.2.2.2.length≤600:=by
 unfold serve
 refine Ai (P:=fun z:List PT×PT×Int=>∀ p∈z.1,p.2.2.2.length≤600) h (Ai (P:=fun z:List PT×PT×Int=>∀ p∈z.1,p.2.2.2.length≤600) h ?_)
 show ∀ p∈(split steps save).2,p.2.2.2.length≤600
 unfold split
 refine Ai (P:=fun z:Int×List PT=>∀ p∈z.2,p.2.2.2.length≤600) (by intro p hp;cases hp) (Ai (P:=fun z:Int×List PT=>∀ p∈z.2,p.2.2.2.length≤600) (by intro p hp;cases hp) ?_)
 intro p hp
 exact II hp
theorem Qe {c:Cp} (h:c.ok) {save:List UInt8}:(c.serve save).1.ok:=by
 unfold Cp.serve
 refine Ai (P:=fun z:Cp×Frm×Bool×Int=>z.1.ok) h (Ai (P:=fun z:Cp×Frm×Bool×Int=>z.1.ok) ?_ (withNd h _ _ _ _ _ _ rfl h.nd))
 have hd:=Te h.data c.wb c.wh c.nd.steps save
 unfold Cp.served
 exact Ai (P:=fun z:Cp×Frm×Bool×Int=>z.1.ok) (UJ h.num h.nnum h.nd ⟨hd,h.cps,h.cpd,h.css,h.csd⟩) (UJ h.num h.nnum h.nd ⟨hd,h.cps,h.cpd,h.css,h.csd⟩)
theorem UM {c:Cp} (h:c.ok) {f:Frm} {came:Bool}:(c.take f came).1.ok:=by
 unfold Cp.take
 refine Ai (P:=fun z:Cp×JobT×Bool×Int=>z.1.ok) h (Ai (P:=fun z:Cp×JobT×Bool×Int=>z.1.ok) ?_ (withNd h _ _ _ _ _ _ rfl h.nd))
 have hg:(c.got f came).ok:=Kx h
 refine Ai (P:=fun z:Cp×JobT×Bool×Int=>z.1.ok) ?_ hg
 unfold Cp.jobDone
 have:=withNd hg ((c.got f came).nd.adopt (IntKind.i64.wrap ((c.got f came).co.base+((c.got f came).co.ss.length:Int)))).1 (c.got f came).next (c.got f came).cycle (c.got f came).asked (c.got f came).wb (c.got f came).wh (Wr _ _) (Abd hg.nd _)
 exact Ai (P:=fun z:Cp×JobT×Bool×Int=>z.1.ok) this (Hx this)
structure JobOk (j:JobT):Prop where
 snap:j.2.1.length≤600*874
 sets:j.2.2.length≤874
 ins:∀ x∈j.2.2,x.2.2.2.length≤2000
theorem EI {c:Cp} (h:c.ok) {f:Frm} {came:Bool}:JobOk (c.take f came).2.1:=by
 have h0:JobOk noJob:=⟨by simp [noJob],by simp [noJob],by simp [noJob]⟩
 unfold Cp.take
 refine Ai (P:=fun z:Cp×JobT×Bool×Int=>JobOk z.2.1) h0 (Ai (P:=fun z:Cp×JobT×Bool×Int=>JobOk z.2.1) ?_ h0)
 have hg:(c.got f came).ok:=Kx h
 refine Ai (P:=fun z:Cp×JobT×Bool×Int=>JobOk z.2.1) ?_ h0
 unfold Cp.jobDone
 refine Ai (P:=fun z:Cp×JobT×Bool×Int=>JobOk z.2.1) h0 ⟨?_,hg.css,hg.csd⟩
 show ((c.got f came).co.ps.flatten).length≤600*874
 have key:∀ l:List (List UInt8),(∀ x∈l,x.length≤600)→l.flatten.length≤600*l.length:=by
  intro l
  induction l with
  | nil=>intro _;simp
  | cons a l ih =>
   intro hl
   have h1:=hl a (by simp)
   have h2:=ih fun x hx=>hl x (by simp [hx])
   simp only [List.flatten_cons,List.length_append,List.length_cons]
   omega
 have:=key _ hg.cpd
 have:=hg.cps
 omega
structure Pr where
 init:List UInt8
 r1:Int
 r2:Int
 r3:Int
 r4:Int
 cycle:Int
 use:Tg
def Pr.e (p:Pr):((List UInt8×Int×Int)×Int×Int×Int)×(Int×Int×Int)×(Int×Int)×Int×Int:=(((p.init,p.r1,p.r2),p.r3,p.r4,p.cycle),p.use.e)
structure Ev where
 s1:Bool
 s2:Bool
 r1:Bool
 r2:Bool
 k1:Bool
 k2:Bool
 w1:Int
 w2:Int
 f10:Ft
 f11:Ft
 f12:Ft
 f13:Ft
 f20:Ft
 f21:Ft
 f22:Ft
 f23:Ft
def Ev.e (v:Ev):(((((Bool×Bool)×Bool×Bool)×(Bool×Bool)×Int×Int)×((Bool×Int)×Int×Bool)×(Int×Int)×Bool×Int)×(((Int×Bool)×Int×Int)×(Bool×Int)×Int×Bool)×((Int×Int)×Bool×Int)×(Int×Bool)×Int×Int) :=
 (((((v.s1,v.s2),v.r1,v.r2),(v.k1,v.k2),v.w1,v.w2),((v.f10.lost,v.f10.bit),v.f10.pat,v.f11.lost),(v.f11.bit,v.f11.pat),v.f12.lost,v.f12.bit),(((v.f12.pat,v.f13.lost),v.f13.bit,v.f13.pat),(v.f20.lost,v.f20.bit),v.f20.pat,v.f21.lost),((v.f21.bit,v.f21.pat),v.f22.lost,v.f22.bit),(v.f22.pat,v.f23.lost),v.f23.bit,v.f23.pat)
structure Rep where
 cycle:Int
 role1:Int
 role2:Int
 st1:Int
 st2:Int
 steps1:Int
 steps2:Int
 t1:Tg
 t2:Tg
 src:Int
 use:Tg
def Rep.e (r:Rep):(((Int×Int×Int)×(Int×Int)×Int×Int)×(Int×Int×Int)×(Int×Int)×Int×Int)×((Int×Int×Int)×(Int×Int)×Int×Int)×((Int×Int)×Int×Int)×(Int×Int)×Int×Int :=
 ((((r.cycle,r.role1,r.role2),(r.st1,r.st2),r.steps1,r.steps2),r.t1.e),r.t2.e,((r.src,r.use.lat),r.use.ver,r.use.ph),(r.use.bank,r.use.speed),r.use.alt,r.use.vs)
structure W where
 p:Pr
 m1:Mc
 m2:Mc
 c1:Cp
 c2:Cp
 r:Rep
 f1:Frm
 f2:Frm
 b1:Bool
 b2:Bool
 s1:Bool
 s2:Bool
def wire (f:Frm) (ok:Bool) (ft:Ft) (lab frm cy:Int):Frm×Bool:=cond ok (cond ((encF f).1 != 0) (noFrm,false) (receive (encF f).2 ft lab frm cy)) (noFrm,false)
theorem Kz (f:Frm):(encF f).2.length≤1016:=by
 unfold encF
 refine BZ (P:=fun z:Int×List UInt8=>z.2.length≤1016) (fun _=>Nat.zero_le _) fun h=>?_
 have h:=of_decide_eq_false h
 show (hdrB f++IJ (crcI (hdrB f))).length≤1016
 simp only [hdrB,IJ,List.length_append,List.length_cons,List.length_nil,Av]
 omega
theorem Ca {α:Type} (f:Frm) (ok:Bool) (ft:Ft) (lab frm cy:Int) (G:Frm×Bool→α) :
  cnd (!ok) (some (G (noFrm,false))) (bd (o69 f.e) (fun v2=>cnd (v2.1 != 0) (some (G (noFrm,false))) (bd (o70 v2.2 ft.e lab frm cy) (fun v4=>some (G (⟨v4.1.1,v4.1.2,v4.2.1,v4.2.2.1⟩,v4.2.2.2))))))=some (G (wire f ok ft lab frm cy)):=by
 unfold wire
 refine Bw (c:=ok) (F:=G) ?_ rfl
 refine (bdS (Akf f)).trans ?_
 refine As (c:=(encF f).1 != 0) (F:=G) rfl ?_
 exact bdS (Akg (Nat.le_trans (Kz f) (by decide)))
theorem Abh (q:List UInt8):(decF q).1.payload.length≤q.length:=by
 have h:=MN q
 unfold decF
 refine Ai (P:=fun z:Frm×Int=>z.1.payload.length≤q.length) (Nat.zero_le _) (Ai (P:=fun z:Frm×Int=>z.1.payload.length≤q.length) (Nat.zero_le _) (Ai (P:=fun z:Frm×Int=>z.1.payload.length≤q.length) (Nat.zero_le _) ?_))
 show ((opn q).2.drop 12).length≤q.length
 rw [List.length_drop];omega
theorem Qf (b:List UInt8) (ft:Ft) (lab frm cy:Int):(receive b ft lab frm cy).1.payload.length≤b.length:=by
 have h1:=It b ft
 have h2:=Abh (carry b ft).2
 unfold receive
 refine Ai (P:=fun z:Frm×Bool=>z.1.payload.length≤b.length) ?_ (Nat.zero_le _)
 unfold arrived
 exact Ai (P:=fun z:Frm×Bool=>z.1.payload.length≤b.length) (Nat.zero_le _) (Nat.le_trans h2 h1)
theorem DX (f:Frm) (ok:Bool) (ft:Ft) (lab frm cy:Int):(wire f ok ft lab frm cy).1.payload.length≤1100:=by
 unfold wire
 refine Ai (P:=fun z:Frm×Bool=>z.1.payload.length≤1100) (Ai (P:=fun z:Frm×Bool=>z.1.payload.length≤1100) (Nat.zero_le _) ?_) (Nat.zero_le _)
 exact Nat.le_trans (Qf _ _ _ _ _) (Nat.le_trans (Kz f) (by decide))
def inpC (l:List UInt8):List UInt8:=cond (decide ((l.length:Int) > 400)) [] l
theorem CM (l:List UInt8):(inpC l).length≤400:=by
 unfold inpC
 exact BZ (P:=fun z:List UInt8=>z.length≤400) (fun _=>Nat.zero_le _) fun h=>by have:=of_decide_eq_false h;omega
def Az (c:Cp) (cy:Int) (l:List UInt8):Cp×Frm×Bool:=((c.hello cy (inpC l)).1,(c.hello cy (inpC l)).2.1,(c.hello cy (inpC l)).2.2==0)
def AC (c:Cp):Cp×Frm×Bool:=(c.share.1,c.share.2.1,c.share.2.2.1)
def AA (c:Cp) (t:Tg):Cp×Frm×Bool:=((c.tell t).1,(c.tell t).2.1,(c.tell t).2.2.1)
def AD (c:Cp) (m:Mc):Cp×Frm×Bool:=((c.serve (cond c.asked (saveB m) [])).1,(c.serve (cond c.asked (saveB m) [])).2.1,(c.serve (cond c.asked (saveB m) [])).2.2.1)
theorem Nb {c:Cp} (h:c.ok) {cy:Int} {l:List UInt8}:(Az c cy l).1.ok:=Abe h (Nat.le_trans (CM l) (by decide))
theorem Nc {c:Cp} (h:c.ok):(AC c).1.ok:=Qd h
theorem Nf {c:Cp} (h:c.ok) {t:Tg}:(AA c t).1.ok:=UL h
theorem Ng {c:Cp} (h:c.ok) {m:Mc}:(AD c m).1.ok:=Qe h
def W.clr (w:W):W:={ w with f1:=noFrm,f2:=noFrm,b1:=false,b2:=false,s1:=false,s2:=false }
def W.put1 (w:W) (a:Bool) (x:Cp×Frm×Bool) (ft:Ft) (lab:Int):W:={ w with c1:=cond a x.1 w.c1,f2:=cond a (wire x.2.1 x.2.2 ft lab 1 w.p.cycle).1 w.f2,b2:=cond a (wire x.2.1 x.2.2 ft lab 1 w.p.cycle).2 w.b2 }
def W.put2 (w:W) (a:Bool) (x:Cp×Frm×Bool) (ft:Ft) (lab:Int):W:={ w with c2:=cond a x.1 w.c2,f1:=cond a (wire x.2.1 x.2.2 ft lab 2 w.p.cycle).1 w.f1,b1:=cond a (wire x.2.1 x.2.2 ft lab 2 w.p.cycle).2 w.b1 }
def W.ex0 (w:W) (a b:Bool) (v:Ev) (one two:List UInt8):W:=(w.clr.put1 a (Az w.c1 w.p.cycle one) v.f10 1).put2 b (Az w.c2 w.p.cycle two) v.f20 1
def W.ex1 (w:W) (a b:Bool) (v:Ev):W:=(w.clr.put1 a (AC w.c1) v.f11 2).put2 b (AC w.c2) v.f21 2
def W.ex2 (w:W) (a b:Bool) (v:Ev):W:=(w.clr.put1 a (AA w.c1 w.r.t1) v.f12 3).put2 b (AA w.c2 w.r.t2) v.f22 3
def W.ex3 (w:W) (a b:Bool) (v:Ev):W:=(w.clr.put1 a (AD w.c1 w.m1) v.f13 4).put2 b (AD w.c2 w.m2) v.f23 4
def W.hear (w:W) (a b:Bool):W:={ w with c1:=cond a (w.c1.hear w.f1 w.b1).1 w.c1,c2:=cond b (w.c2.hear w.f2 w.b2).1 w.c2 }
def stepA (init:List UInt8) (m:Mc) (x:Se):Mc:=(cond x.fresh (m.load init).1 m).stepM x.cycle x.in_
def Tg.wrong (t:Tg) (k:Int):Tg:={ t with bank:=lxorK .i64 t.bank k }
def W.step1 (w:W) (v:Ev) (x:Cp×Se×Bool×Int):W:={ w with c1:=x.1,m1:=cond x.2.2.1 (stepA w.p.init w.m1 x.2.1) w.m1,s1:=cond x.2.2.1 true w.s1,r:={ w.r with t1:=cond x.2.2.1 ((stepA w.p.init w.m1 x.2.1).tg.wrong v.w1) w.r.t1 } }
def W.step2 (w:W) (v:Ev) (x:Cp×Se×Bool×Int):W:={ w with c2:=x.1,m2:=cond x.2.2.1 (stepA w.p.init w.m2 x.2.1) w.m2,s2:=cond x.2.2.1 true w.s2,r:={ w.r with t2:=cond x.2.2.1 ((stepA w.p.init w.m2 x.2.1).tg.wrong v.w2) w.r.t2 } }
def W.stepA1 (w:W) (a:Bool) (v:Ev):W:=cond a (w.step1 v (w.c1.step w.f1 w.b1)) w
def W.stepA2 (w:W) (a:Bool) (v:Ev):W:=cond a (w.step2 v (w.c2.step w.f2 w.b2)) w
def W.step (w:W) (a b:Bool) (v:Ev):W:=(w.stepA1 a v).stepA2 b v
def W.judge (w:W) (a b:Bool):W:={ w with c1:=cond a (w.c1.judge w.f1 w.b1).1 w.c1,c2:=cond b (w.c2.judge w.f2 w.b2).1 w.c2,r:={ w.r with st1:=cond a (w.c1.judge w.f1 w.b1).2.1 w.r.st1,st2:=cond b (w.c2.judge w.f2 w.b2).2.1 w.r.st2 } }
def runL (m:Mc) (l:List ST):Mc:=l.foldl (fun m x=>m.stepM x.2.1 x.2.2.2) m
def tookA (m:Mc) (x:Cp×JobT×Bool×Int):Cp×Mc:=cond x.2.2.1 (cond ((m.load x.2.1.2.1).2 != 0) (x.1.drop,(m.load x.2.1.2.1).1) (x.1,runL (m.load x.2.1.2.1).1 x.2.1.2.2)) (x.1,m)
def W.take (w:W) (a b:Bool):W:={ w with c1:=cond a (tookA w.m1 (w.c1.take w.f1 w.b1)).1 w.c1,m1:=cond a (tookA w.m1 (w.c1.take w.f1 w.b1)).2 w.m1,c2:=cond b (tookA w.m2 (w.c2.take w.f2 w.b2)).1 w.c2,m2:=cond b (tookA w.m2 (w.c2.take w.f2 w.b2)).2 w.m2 }
def W.node (w:W) (a b:Bool):W:={ w with r:={ w.r with role1:=cond a w.c1.nd.role w.r.role1,steps1:=cond a w.c1.nd.steps w.r.steps1,role2:=cond b w.c2.nd.role w.r.role2,steps2:=cond b w.c2.nd.steps w.r.steps2 } }
def W.src (w:W):Int:=select w.r.st1 w.r.st2
def W.used (w:W):Tg:=cond (w.src != 0) (limit w.p.use (cond (w.src==1) w.r.t1 w.r.t2) w.p.r1 w.p.r2 w.p.r3 w.p.r4) w.p.use
def W.fin (w:W):W:={ w with p:={ w.p with use:=w.used },r:={ w.r with src:=w.src,use:=w.used } }
def W.all (w:W) (a b:Bool) (v:Ev) (one two:List UInt8):W :=
 (((((((((w.ex0 a b v one two).hear a b).ex1 a b v).step a b v).ex2 a b v).judge a b).ex3 a b v).take a b).node a b).fin
structure W.ok (w:W) (a b:Bool):Prop where
 init:w.p.init.length≤1000000
 p1:0≤w.m1.pad∧w.m1.pad≤10000
 p2:0≤w.m2.pad∧w.m2.pad≤10000
 c1:a=true→w.c1.ok
 c2:b=true→w.c2.ok
 f1:w.f1.payload.length≤1100
 f2:w.f2.payload.length≤1100
theorem Hz {m:Mc} {c:Cp} (h:c.ok) {f:Frm} {came:Bool}:(tookA m (c.take f came)).1.ok:=by
 have:=UM h (f:=f) (came:=came)
 unfold tookA
 exact Ai (P:=fun z:Cp×Mc=>z.1.ok) (Ai (P:=fun z:Cp×Mc=>z.1.ok) (MR this) this) this
theorem Abi (m:Mc) (l:List ST):(runL m l).pad=m.pad:=by
 unfold runL
 induction l generalizing m with
 | nil=>rfl
 | cons x l ih=>exact (ih _).trans (Iu _ _ _)
theorem Gk (m:Mc) (x:Cp×JobT×Bool×Int):(tookA m x).2.pad=m.pad:=by
 have h:=PG m x.2.1.2.1
 unfold tookA
 exact Ai (P:=fun z:Cp×Mc=>z.2.pad=m.pad) (Ai (P:=fun z:Cp×Mc=>z.2.pad=m.pad) h ((Abi _ _).trans h)) rfl
theorem LW (i:List UInt8) (m:Mc) (x:Se):(stepA i m x).pad=m.pad:=by
 have h:=PG m i
 unfold stepA
 exact (Iu _ _ _).trans (Ai (P:=fun z:Mc=>z.pad=m.pad) h rfl)
theorem UN {w:W} {a b:Bool} (h:w.ok a b) {x y:Cp×Frm×Bool} {ft gt:Ft} {lab mab:Int} (hx:a=true→x.1.ok) (hy:b=true→y.1.ok):((w.clr.put1 a x ft lab).put2 b y gt mab).ok a b:=by
 refine ⟨h.init,h.p1,h.p2,fun e=>?_,fun e=>?_,?_,?_⟩
 ·subst e;exact hx rfl
 ·subst e;exact hy rfl
 ·exact Ai (P:=fun z:Frm=>z.payload.length≤1100) (DX _ _ _ _ _ _) (Nat.zero_le _)
 ·exact Ai (P:=fun z:Frm=>z.payload.length≤1100) (DX _ _ _ _ _ _) (Nat.zero_le _)
theorem Iv {w:W} {a b:Bool} (h:w.ok a b) {v:Ev} {one two:List UInt8}:(w.ex0 a b v one two).ok a b:=UN h (fun e=>Nb (h.c1 e)) (fun e=>Nb (h.c2 e))
theorem Iw {w:W} {a b:Bool} (h:w.ok a b) {v:Ev}:(w.ex1 a b v).ok a b:=UN h (fun e=>Nc (h.c1 e)) (fun e=>Nc (h.c2 e))
theorem Ix {w:W} {a b:Bool} (h:w.ok a b) {v:Ev}:(w.ex2 a b v).ok a b:=UN h (fun e=>Nf (h.c1 e)) (fun e=>Nf (h.c2 e))
theorem Iy {w:W} {a b:Bool} (h:w.ok a b) {v:Ev}:(w.ex3 a b v).ok a b:=UN h (fun e=>Ng (h.c1 e)) (fun e=>Ng (h.c2 e))
theorem EJ {w:W} {a b:Bool} (h:w.ok a b):(w.hear a b).ok a b:=⟨h.init,h.p1,h.p2,fun e=>by subst e;exact Hy (h.c1 rfl),fun e=>by subst e;exact Hy (h.c2 rfl),h.f1,h.f2⟩
theorem LX {w:W} {a b:Bool} (h:w.ok a b) {v:Ev}:(w.stepA1 a v).ok a b:=by
 unfold W.stepA1
 refine BZ (P:=fun z:W=>z.ok a b) (fun e=>⟨h.init,?_,h.p2,fun _=>Na (h.c1 e) h.f1,h.c2,h.f1,h.f2⟩) fun _=>h
 exact Ai (P:=fun z:Mc=>0≤z.pad∧z.pad≤10000) (by rw [LW];exact h.p1) h.p1
theorem Ws {w:W} {a b:Bool} (h:w.ok a b) {v:Ev}:(w.stepA2 b v).ok a b:=by
 unfold W.stepA2
 refine BZ (P:=fun z:W=>z.ok a b) (fun e=>⟨h.init,h.p1,?_,h.c1,fun _=>Na (h.c2 e) h.f2,h.f1,h.f2⟩) fun _=>h
 exact Ai (P:=fun z:Mc=>0≤z.pad∧z.pad≤10000) (by rw [LW];exact h.p2) h.p2
theorem EK {w:W} {a b:Bool} (h:w.ok a b) {v:Ev}:(w.step a b v).ok a b:=Ws (LX h)
theorem DE {w:W} {a b:Bool} (h:w.ok a b):(w.judge a b).ok a b:=⟨h.init,h.p1,h.p2,fun e=>by subst e;exact FL (h.c1 rfl),fun e=>by subst e;exact FL (h.c2 rfl),h.f1,h.f2⟩
theorem EL {w:W} {a b:Bool} (h:w.ok a b):(w.take a b).ok a b:=by
 refine ⟨h.init,?_,?_,fun e=>by subst e;exact Hz (h.c1 rfl),fun e=>by subst e;exact Hz (h.c2 rfl),h.f1,h.f2⟩
 ·exact Ai (P:=fun z:Mc=>0≤z.pad∧z.pad≤10000) (by rw [Gk];exact h.p1) h.p1
 ·exact Ai (P:=fun z:Mc=>0≤z.pad∧z.pad≤10000) (by rw [Gk];exact h.p2) h.p2
theorem EM {w:W} {a b:Bool} (h:w.ok a b):(w.node a b).ok a b:=⟨h.init,h.p1,h.p2,h.c1,h.c2,h.f1,h.f2⟩
theorem Akw {n:Nd} (h:n.ok):o84 n.e=some n.e:=by
 unfold o84
 exact (bdS (Bu (Nat.le_trans h.inp (by decide)))).trans ((bdS (Bu (Nat.le_trans h.hinp (by decide)))).trans (bdS (Bu (Nat.le_trans h.sin (by decide)))))
theorem Nh {c:Cp} (h:c.ok) (x:(Int×Int)×List (List UInt8)×List ST):o43 c.h c.nd.e c.ps x=some c.nd.e:=by
 unfold o43
 exact bdS (Akw h.nd)
noncomputable section
def HA:BSh:= .cells 105 [.ifc 60 (.ptr 1 0),.ifc 60 (.ptr 2 0),.ptr 7 0,.cst (.pointer none),.ro .y true,.i .i64,.i .i64,.i .i64,.i .i64,.i .i64,.i .u8,.i .u8,.i .u8,.i .i64,.i .i64,.i .i64,.i .i64]
def Abj:BSh:= .cells 105 [.ifc 60 (.ptr 1 0),.ifc 60 (.ptr 2 0),.cst (.pointer none),.ptr 7 0,.ro .y true,.i .i64,.i .i64,.i .i64,.i .i64,.i .i64,.i .u8,.i .u8,.i .u8,.i .i64,.i .i64,.i .i64,.i .i64]
def Abk:BSh:= .cells 105 [.ifc 60 (.ptr 1 0),.ifc 60 (.ptr 2 0),.ptr 7 0,.ptr 8 0,.ro .y true,.i .i64,.i .i64,.i .i64,.i .i64,.i .i64,.i .u8,.i .u8,.i .u8,.i .i64,.i .i64,.i .i64,.i .i64]
def Qg:BSh:= .cells 137 [.i .i64,.ptr 9 0,.ptr 10 0,.ptr 11 0,.i .i64,.i .i64,.b,.i .i64,.i .i64]
def BC:BSh:= .cells 232 [.i .i64,.i .i64,.own 17,.own 18]
def Abl:BSh:= .cells 105 [.ifc 60 (.ptr 1 0),.ifc 60 (.ptr 2 0),.cst (.pointer none),.ptr 6 0,.ro .y true,.i .i64,.i .i64,.i .i64,.i .i64,.i .i64,.i .u8,.i .u8,.i .u8,.i .i64,.i .i64,.i .i64,.i .i64]
def Abm:BSh:= .cells 105 [.ifc 60 (.ptr 1 0),.ifc 60 (.ptr 2 0),.ptr 6 0,.ptr 7 0,.ro .y true,.i .i64,.i .i64,.i .i64,.i .i64,.i .i64,.i .u8,.i .u8,.i .u8,.i .i64,.i .i64,.i .i64,.i .i64]
def Abn:BSh:= .cells 105 [.ifc 60 (.ptr 1 0),.ifc 60 (.ptr 2 0),.ptr 6 0,.cst (.pointer none),.ro .y true,.i .i64,.i .i64,.i .i64,.i .i64,.i .i64,.i .u8,.i .u8,.i .u8,.i .i64,.i .i64,.i .i64,.i .i64]
def Qh (b:DW):Option (BM ⊕ Bc) :=
 (cnd b.1.2.1 (bd (α:=BQ) o21 (fun c=>(cnd b.2.2.1.1.1.2.1.1 (bd (o22 c.1.1 c.1.2.1 c.1.2.2 c.2.1 c.2.2.1 c.2.2.2) (fun d=>(some (Sum.inr (((b.1.1.1,b.1.1.2,b.1.2.2),b.2.1,b.2.2.1,b.2.2.2.1),(b.2.2.2.2,d.1.1),d.1.2,d.2.2))))) (some (Sum.inr (((b.1.1.1,b.1.1.2,b.1.2.2),b.2.1,b.2.2.1,b.2.2.2.1),(b.2.2.2.2,c.1.1,c.1.2.1),(c.1.2.2,c.2.1),c.2.2)))))) (cnd b.2.2.1.1.1.2.1.1 (bd (α:=Unit) LN (fun e=>(some (Sum.inl ((b.1.1,b.1.2.2,b.2.1.1),(b.2.1.2,b.2.2.1),b.2.2.2))))) (some (Sum.inl ((b.1.1,b.1.2.2,b.2.1.1),(b.2.1.2,b.2.2.1),b.2.2.2)))))
def Qi (b:BM):Option (BM ⊕ Bc) :=
 (bd (α:=DW) (cnd b.2.1.2.1.1.1.2.2 (some ((b.1.1,true,b.1.2.1),(b.1.2.2,b.2.1.1),b.2.1.2,b.2.2)) (some ((b.1.1,false,b.1.2.1),(b.1.2.2,b.2.1.1),b.2.1.2,b.2.2))) Kw)
def AgL:Sch:=⟨[(1,.v (.c (.ro .y true))),(2,.v (.c (.ro .y true))),(4,.v (.c (.ptr 3 0))),(7,.v (.c (.ptr 4 0))),(8,.v (.c (.ptr 5 0))),(9,.v (.c (.ptr 6 0))),(10,.v (.c (.ic .i64 (0)))),(31,.v (.c (.ic .i64 (0)))),(55,.v (.c (.b)))],[Aw,Aa,Aa,.cells 30 [.ptr 0 0],Ao,Af,Af]⟩
def AgM:Sch:=⟨[(1,.v (.c (.ro .y true))),(2,.v (.c (.ro .y true))),(4,.v (.c (.ptr 3 0))),(7,.v (.c (.ptr 4 0))),(8,.v (.c (.ptr 5 0))),(9,.v (.c (.ptr 6 0))),(10,.v (.c (.ic .i64 (0)))),(31,.v (.c (.ic .i64 (0))))],[Aw,Aa,Aa,.cells 30 [.ptr 0 0],Ao,Af,Af]⟩
def AgN:Sch:=⟨[(1,.v (.c (.ro .y true))),(2,.v (.c (.ro .y true))),(4,.v (.c (.ptr 3 0))),(7,.v (.c (.ptr 4 0))),(8,.v (.c (.ptr 5 0))),(9,.v (.c (.ptr 6 0))),(31,.v (.c (.ic .i64 (0))))],[Aw,Aa,Aa,.cells 30 [.ptr 0 0],Ao,Af,Af]⟩
def AgO:Sch:=⟨[(1,.v (.c (.ro .y true))),(2,.v (.c (.ro .y true))),(4,.v (.c (.ptr 3 0))),(7,.v (.c (.ptr 4 0))),(8,.v (.c (.ptr 5 0))),(9,.v (.c (.ptr 6 0))),(31,.v (.c (.ic .i64 (0))))],[HA,Aa,Aa,.cells 30 [.ptr 0 0],Ao,Af,Af,BA,Ab,Ad,BG,.row (.a .y) 33,Ac]⟩
def AgP:Sch:=⟨[(1,.v (.c (.ro .y true))),(2,.v (.c (.ro .y true))),(4,.v (.c (.ptr 3 0))),(7,.v (.c (.ptr 4 0))),(8,.v (.c (.ptr 5 0))),(9,.v (.c (.ptr 6 0))),(10,.v (.c (.ic .i64 (1)))),(31,.v (.c (.ic .i64 (1)))),(55,.v (.c (.b)))],[Aw,Aa,Aa,.cells 30 [.ptr 0 0],Ao,Af,Af]⟩
def AgQ:Sch:=⟨[(1,.v (.c (.ro .y true))),(2,.v (.c (.ro .y true))),(4,.v (.c (.ptr 3 0))),(7,.v (.c (.ptr 4 0))),(8,.v (.c (.ptr 5 0))),(9,.v (.c (.ptr 6 0))),(10,.v (.c (.ic .i64 (1)))),(31,.v (.c (.ic .i64 (1))))],[Aw,Aa,Aa,.cells 30 [.ptr 0 0],Ao,Af,Af]⟩
def AgR:Sch:=⟨[(1,.v (.c (.ro .y true))),(2,.v (.c (.ro .y true))),(4,.v (.c (.ptr 3 0))),(7,.v (.c (.ptr 4 0))),(8,.v (.c (.ptr 5 0))),(9,.v (.c (.ptr 6 0))),(31,.v (.c (.ic .i64 (1))))],[Aw,Aa,Aa,.cells 30 [.ptr 0 0],Ao,Af,Af]⟩
def AgS:Sch:=⟨[(1,.v (.c (.ro .y true))),(2,.v (.c (.ro .y true))),(4,.v (.c (.ptr 3 0))),(7,.v (.c (.ptr 4 0))),(8,.v (.c (.ptr 5 0))),(9,.v (.c (.ptr 6 0))),(31,.v (.c (.ic .i64 (1))))],[Abj,Aa,Aa,.cells 30 [.ptr 0 0],Ao,Af,Af,BA,Ab,Ad,BG,.row (.a .y) 33,Ac]⟩
def AgT:Sch:=⟨[(1,.v (.c (.ro .y true))),(2,.v (.c (.ro .y true))),(4,.v (.c (.ptr 3 0))),(7,.v (.c (.ptr 4 0))),(8,.v (.c (.ptr 5 0))),(9,.v (.c (.ptr 6 0))),(10,.v (.c (.ic .i64 (1)))),(31,.v (.c (.ic .i64 (1)))),(55,.v (.c (.b)))],[HA,Aa,Aa,.cells 30 [.ptr 0 0],Ao,Af,Af,BA,Ab,Ad,BG,.row (.a .y) 33,Ac]⟩
def AgU:Sch:=⟨[(1,.v (.c (.ro .y true))),(2,.v (.c (.ro .y true))),(4,.v (.c (.ptr 3 0))),(7,.v (.c (.ptr 4 0))),(8,.v (.c (.ptr 5 0))),(9,.v (.c (.ptr 6 0))),(10,.v (.c (.ic .i64 (1)))),(31,.v (.c (.ic .i64 (1))))],[HA,Aa,Aa,.cells 30 [.ptr 0 0],Ao,Af,Af,BA,Ab,Ad,BG,.row (.a .y) 33,Ac]⟩
def Abo:Sch:=⟨[(1,.v (.c (.ro .y true))),(2,.v (.c (.ro .y true))),(4,.v (.c (.ptr 3 0))),(7,.v (.c (.ptr 4 0))),(8,.v (.c (.ptr 5 0))),(9,.v (.c (.ptr 6 0))),(31,.v (.c (.ic .i64 (1))))],[Abk,Aa,Aa,.cells 30 [.ptr 0 0],Ao,Af,Af,Qg,Do,Ab,Ad,Bm,Ab,Ad,BC,.row (.a .y) 33,Ac,.row (.a .y) 33,Ac]⟩
def Abp:Sch:=⟨[(1,.v (.c (.ro .y true))),(2,.v (.c (.ro .y true))),(4,.v (.c (.ptr 3 0))),(7,.v (.c (.ptr 4 0))),(8,.v (.c (.ptr 5 0))),(9,.v (.c (.ptr 6 0))),(31,.v (.c (.ic .i64 (1))))],[HA,Aa,Aa,.cells 30 [.ptr 0 0],Ao,Af,Af,BA,Ab,Ad,BG,.row (.a .y) 33,Ac]⟩
def Qj:Sch:=⟨[(4,.v (.c (.ptr 3 0))),(8,.v (.c (.ptr 4 0))),(9,.v (.c (.ptr 5 0)))],[Aw,Aa,Aa,.cells 30 [.ptr 0 0],Af,Af]⟩
def Qk:Sch:=⟨[(4,.v (.c (.ptr 3 0))),(8,.v (.c (.ptr 4 0))),(9,.v (.c (.ptr 5 0)))],[Abl,Aa,Aa,.cells 30 [.ptr 0 0],Af,Af,CJ,Ab,Ad,Hl,.row (.a .y) 33,Ac]⟩
def Ql:Sch:=⟨[(4,.v (.c (.ptr 3 0))),(8,.v (.c (.ptr 4 0))),(9,.v (.c (.ptr 5 0)))],[Abm,Aa,Aa,.cells 30 [.ptr 0 0],Af,Af,BA,AL,Ab,Ad,AY,Ab,Ad,CK,.row (.a .y) 33,Ac,.row (.a .y) 33,Ac]⟩
def Qm:Sch:=⟨[(4,.v (.c (.ptr 3 0))),(8,.v (.c (.ptr 4 0))),(9,.v (.c (.ptr 5 0)))],[Abn,Aa,Aa,.cells 30 [.ptr 0 0],Af,Af,CJ,Ab,Ad,Hl,.row (.a .y) 33,Ac]⟩
def AgV (k:Bt) (l:Bt) (h:Aq) (e:Ag) (m:I3) (n:I3):Option (((Aj×Ag)×(I3)×I3) ⊕ AO ⊕ AO ⊕ BB) :=
 (bd (α:=BM ⊕ Bc) (bd (α:=BM) (cnd h.1.1.1.1.1 (some (((k,l),((e.1.1,e.1.2.1,e.1.2.2.1,(IntKind.wrap .i64 (e.1.2.2.2+(1:Int)))),e.2),m),(n,h),((zTg,((0:Int),(0:Int),(0:Int)),((0:Int),(0:Int)),(0:Int),(0:Int)),zTg,(((0:Int),(0:Int)),(0:Int),(0:Int)),((0:Int),(0:Int)),(0:Int),(0:Int)),((((IntKind.wrap .i64 (e.1.2.2.2+(1:Int))),(0:Int),(0:Int)),((1:Int),(1:Int)),(0:Int),(0:Int)),((0:Int),(0:Int),(0:Int)),((0:Int),(0:Int)),(0:Int),(0:Int)),zTg,(((0:Int),(0:Int)),(0:Int),(0:Int)),((0:Int),(0:Int)),(0:Int),(0:Int))) (some (((k,l),((e.1.1,e.1.2.1,e.1.2.2.1,(IntKind.wrap .i64 (e.1.2.2.2+(1:Int)))),e.2),m),(n,h),((zTg,((0:Int),(0:Int),(0:Int)),((0:Int),(0:Int)),(0:Int),(0:Int)),zTg,(((0:Int),(0:Int)),(0:Int),(0:Int)),((0:Int),(0:Int)),(0:Int),(0:Int)),((((IntKind.wrap .i64 (e.1.2.2.2+(1:Int))),(0:Int),(0:Int)),((1:Int),(1:Int)),(0:Int),(0:Int)),((0:Int),(0:Int),(0:Int)),((0:Int),(0:Int)),(0:Int),(0:Int)),zTg,(((0:Int),(0:Int)),(0:Int),(0:Int)),((0:Int),(0:Int)),(0:Int),(0:Int)))) (fun d=>(bd (α:=DW) (cnd d.2.1.2.1.1.1.2.1 (some ((d.1.1,true,d.1.2.1),(d.1.2.2,d.2.1.1),d.2.1.2,d.2.2)) (some ((d.1.1,false,d.1.2.1),(d.1.2.2,d.2.1.1),d.2.1.2,d.2.2))) Qh))) (fun o=>(sm o (fun i=>(bd (α:=BM ⊕ Bc) (bd (α:=BM) (cnd i.2.1.2.1.1.1.1.2 (some i) (some i)) Qi) EH)) (fun j=>(bd (α:=Ci ⊕ Bc) (bd (α:=Bc) (cnd j.1.2.2.1.1.1.1.1.2 (some j) (some j)) (fun c=>(bd (α:=FH) (cnd c.1.2.2.1.1.1.1.2.2 (some (((c.1.1.1,c.1.1.2.1,true),(c.1.1.2.2,c.1.2.1.1),c.1.2.1.2,c.1.2.2.1),((c.1.2.2.2,c.2.1.1),c.2.1.2),c.2.2)) (some (((c.1.1.1,c.1.1.2.1,false),(c.1.1.2.2,c.1.2.1.1),c.1.2.1.2,c.1.2.2.1),((c.1.2.2.2,c.2.1.1),c.2.1.2),c.2.2))) (fun b=>(cnd b.1.1.2.2 (bd (α:=BQ) IH (fun f=>(cnd b.1.2.2.2.1.1.2.1.2 (bd (o22 f.1.1 f.1.2.1 f.1.2.2 f.2.1 f.2.2.1 f.2.2.2) (fun g=>(some (Sum.inl ((((b.1.1.1,b.1.1.2.1),b.1.2.1.1,b.1.2.1.2,b.1.2.2.1),(b.1.2.2.2,b.2.1.1.1),b.2.1.1.2,b.2.1.2.1,g.1.1.1),((b.2.1.2.2,b.2.2.1.1),b.2.2.1.2,g.1.1.2,g.1.2.1),(g.1.2.2,b.2.2.2.1),b.2.2.2.2,g.2.2))))) (some (Sum.inl ((((b.1.1.1,b.1.1.2.1),b.1.2.1.1,b.1.2.1.2,b.1.2.2.1),(b.1.2.2.2,b.2.1.1.1),b.2.1.1.2,b.2.1.2.1,f.1.1),((b.2.1.2.2,b.2.2.1.1),b.2.2.1.2,f.1.2),(f.2.1,b.2.2.2.1),b.2.2.2.2,f.2.2)))))) (cnd b.1.2.2.2.1.1.2.1.2 (bd (α:=Unit) LN (fun q=>(some (Sum.inr (((b.1.1.1,b.1.1.2.1,b.1.2.1.1),(b.1.2.1.2,b.1.2.2.1),b.1.2.2.2,b.2.1.1.1),(b.2.1.1.2,b.2.1.2),b.2.2))))) (some (Sum.inr (((b.1.1.1,b.1.1.2.1,b.1.2.1.1),(b.1.2.1.2,b.1.2.2.1),b.1.2.2.2,b.2.1.1.1),(b.2.1.1.2,b.2.1.2),b.2.2))))))))) (fun p=>(sm p FI Hw)))))))
def Aro:HC:=(.s .d (.s .d (.s .d (.s .d (.s (.s .d (.b (.u 3 (.v (.s .d (.s .d (.j false [AgN,AgO] (.s (.b (.s .d (.j false [AgM] (.s .d (.s (.s (.j false [AgL] .d) (.c (.r 6) .d)) .d))))) .d)))) (.on ⟨[(1,.v (.c (.ro .y true)))],[Aw,Aa,Aa]⟩ (.v (.s .d (.s .d (.j false [AgR,AgS] (.s (.b (.s .d (.j false [AgQ] (.s .d (.s (.s (.j false [AgP] .d) (.c (.r 6) .d)) .d))))) .d)))) (.v .d .d)) (.v (.s .d (.s .d (.j false [Abo,Abp] (.s (.b (.s .d (.j false [AgU] (.s .d (.s (.s (.j false [AgT] .d) (.c (.r 6) .d)) .d))))) .d)))) (.v .d .d))))))) (.on ⟨[(1,.v (.c (.ro .y true)))],[Aw,Aa,Aa]⟩ (.s .d (.s .d (.s .d (.s .d (.s .d (.s .d (.s .d (.s .d (.s .d (.s .d (.s .d (.s .d (.j false [Qj] (.s (.s .d (.c (.j false [Qj] .d) .d)) .d)))))))))))))) (.on ⟨[(1,.v (.c (.ro .y true)))],[AK,Aa,Aa,Ak,Ab,Ad,Am,.row (.a .y) 33,Ac]⟩ (.s .d (.s .d (.s .d (.s .d (.s .d (.s .d (.s .d (.s .d (.s .d (.s .d (.s .d (.s .d (.j false [Qk] (.s (.s .d (.c (.j false [Qk] .d) .d)) .d)))))))))))))) (.on ⟨[(1,.v (.c (.ro .y true)))],[Dk,Aa,Aa,Ap,BA,Ab,Ad,BG,Ab,Ad,At,.row (.a .y) 33,Ac,.row (.a .y) 33,Ac]⟩ (.s .d (.s .d (.s .d (.s .d (.s .d (.s .d (.s .d (.s .d (.s .d (.s .d (.s .d (.s .d (.j false [Ql] (.s (.s .d (.c (.j false [Ql] .d) .d)) .d)))))))))))))) (.s .d (.s .d (.s .d (.s .d (.s .d (.s .d (.s .d (.s .d (.s .d (.s .d (.s .d (.s .d (.j false [Qm] (.s (.s .d (.c (.j false [Qm] .d) .d)) .d))))))))))))))))))))))
def AnW:Tbl:=(9,⟨⟨[(0,.v (.c (.ptr 0 0))),(1,.v (.c (.ro .y true))),(2,.v (.c (.ro .y true))),(3,Bo)],[Aw,Aa,Aa]⟩,[⟨[(0,BL)],[Aw,Aa,Aa]⟩,⟨[(0,BL)],[AK,Aa,Aa,Ak,Ab,Ad,Am,.row (.a .y) 33,Ac]⟩,⟨[(0,BL)],[AZ,Aa,Aa,Ak,Ab,Ad,Am,.row (.a .y) 33,Ac]⟩,⟨[(0,BL)],[Dk,Aa,Aa,Ap,BA,Ab,Ad,BG,Ab,Ad,At,.row (.a .y) 33,Ac,.row (.a .y) 33,Ac]⟩],fun t=>(AgV t.1.1 t.1.2.1 t.1.2.2 t.2.1 t.2.2.1 t.2.2.2)⟩)::AnV
theorem Arp:TK AnW:=kc Arn Tryz.f9 Aro fun t=>by kernel_rfl
def Qn:BSh:= .cells 105 [.ifc 60 (.ptr 1 0),.ifc 60 (.ptr 2 0),.ptr 13 0,.ptr 3 0,.ro .y true,.i .i64,.i .i64,.i .i64,.i .i64,.i .i64,.i .u8,.i .u8,.i .u8,.i .i64,.i .i64,.i .i64,.i .i64]
def BD:BSh:= .cells 137 [.i .i64,.ptr 14 0,.ptr 15 0,.ptr 16 0,.i .i64,.i .i64,.b,.i .i64,.i .i64]
def DY:BSh:= .cells 105 [.ifc 60 (.ptr 1 0),.ifc 60 (.ptr 2 0),.ptr 13 0,.cst (.pointer none),.ro .y true,.i .i64,.i .i64,.i .i64,.i .i64,.i .i64,.i .u8,.i .u8,.i .u8,.i .i64,.i .i64,.i .i64,.i .i64]
def KA:BSh:= .cells 105 [.ifc 60 (.ptr 1 0),.ifc 60 (.ptr 2 0),.ptr 13 0,.ptr 14 0,.ro .y true,.i .i64,.i .i64,.i .i64,.i .i64,.i .i64,.i .u8,.i .u8,.i .u8,.i .i64,.i .i64,.i .i64,.i .i64]
def KC:BSh:= .cells 137 [.i .i64,.ptr 15 0,.ptr 16 0,.ptr 17 0,.i .i64,.i .i64,.b,.i .i64,.i .i64]
def KD:BSh:= .cells 137 [.i .i64,.ptr 18 0,.ptr 19 0,.ptr 20 0,.i .i64,.i .i64,.b,.i .i64,.i .i64]
def KE:BSh:= .cells 105 [.ifc 60 (.ptr 1 0),.ifc 60 (.ptr 2 0),.cst (.pointer none),.ptr 13 0,.ro .y true,.i .i64,.i .i64,.i .i64,.i .i64,.i .i64,.i .u8,.i .u8,.i .u8,.i .i64,.i .i64,.i .i64,.i .i64]
def Qo:BSh:= .cells 105 [.ifc 60 (.ptr 1 0),.ifc 60 (.ptr 2 0),.ptr 12 0,.cst (.pointer none),.ro .y true,.i .i64,.i .i64,.i .i64,.i .i64,.i .i64,.i .u8,.i .u8,.i .u8,.i .i64,.i .i64,.i .i64,.i .i64]
def HB:BSh:= .cells 137 [.i .i64,.ptr 13 0,.ptr 14 0,.ptr 15 0,.i .i64,.i .i64,.b,.i .i64,.i .i64]
def Qp:BSh:= .cells 105 [.ifc 60 (.ptr 1 0),.ifc 60 (.ptr 2 0),.ptr 12 0,.ptr 13 0,.ro .y true,.i .i64,.i .i64,.i .i64,.i .i64,.i .i64,.i .u8,.i .u8,.i .u8,.i .i64,.i .i64,.i .i64,.i .i64]
def Qq:BSh:= .cells 105 [.ifc 60 (.ptr 1 0),.ifc 60 (.ptr 2 0),.cst (.pointer none),.ptr 12 0,.ro .y true,.i .i64,.i .i64,.i .i64,.i .i64,.i .i64,.i .u8,.i .u8,.i .u8,.i .i64,.i .i64,.i .i64,.i .i64]
def FM:BSh:= .cells 105 [.ifc 60 (.ptr 1 0),.ifc 60 (.ptr 2 0),.ptr 9 0,.cst (.pointer none),.ro .y true,.i .i64,.i .i64,.i .i64,.i .i64,.i .i64,.i .u8,.i .u8,.i .u8,.i .i64,.i .i64,.i .i64,.i .i64]
def KG:BSh:= .cells 105 [.ifc 60 (.ptr 1 0),.ifc 60 (.ptr 2 0),.ptr 9 0,.ptr 10 0,.ro .y true,.i .i64,.i .i64,.i .i64,.i .i64,.i .i64,.i .u8,.i .u8,.i .u8,.i .i64,.i .i64,.i .i64,.i .i64]
def EN (k:Bc ⊕ Ci):Option (((Aj×Ag)×(I3)×I3) ⊕ AO ⊕ AO ⊕ BB) :=
 (sm k (fun f=>(bd (o23 f.1.2.2.1 f.1.1.2.2 f.1.2.1.1 f.1.2.1.2 f.2.1.2.1 f.2.1.2.2 f.2.2.1.1 f.2.2.1.2 f.2.2.2.1 f.2.2.2.2 (f.1.1.1,f.1.1.2.1)) (fun c=>(bd (o26 c.1.1.2 c.1.2.1 c.1.2.2.1 c.1.2.2.2 c.2.1.1 c.2.1.2.1 c.2.1.2.2 c.2.2.1 c.2.2.2.1 ((c.1.1.1.1.1,c.1.1.1.1.2.1,c.1.1.1.1.2.2.1),(c.1.1.1.1.2.2.2,c.1.1.1.2.1.1),c.1.1.1.2.1.2,c.1.1.1.2.2.1) c.1.1.1.2.2.2) (fun i=>(bd (OE f.1.2.2.1 i.1.1.1 i.1.1.2 i.1.2.1 i.1.2.2.1 i.1.2.2.2 i.2.1.1 i.2.1.2.1 i.2.2.2.1 i.2.2.2.2) (fun d=>(bd (OL d.1.1.2 d.1.2.1 d.1.2.2.1 d.1.2.2.2 d.2.1.1 d.2.1.2 d.2.2.1 d.2.2.2.1 d.2.2.2.2 ((d.1.1.1.1.1,d.1.1.1.1.2.1,d.1.1.1.1.2.2.1),(d.1.1.1.1.2.2.2,d.1.1.1.2.1.1),d.1.1.1.2.1.2,d.1.1.1.2.2.1) d.1.1.1.2.2.2 (false,false) f.2.1.1 f.1.2.2.1) (fun g=>(bd (OP g.2.2.1.2 g.1.1.1 g.1.1.2.1 g.1.1.2.2 g.1.2.1.1 g.1.2.1.2 g.1.2.2.1 g.1.2.2.2 g.2.2.2.1 g.2.2.2.2 g.2.2.1.1) (fun b=>(bd (OT b.1.1.2 b.1.2.1 b.1.2.2.1 b.1.2.2.2 b.2.1.1 b.2.1.2.1 b.2.1.2.2 b.2.2.1 b.2.2.2.1 ((b.1.1.1.1.1,b.1.1.1.1.2.1,b.1.1.1.1.2.2.1),(b.1.1.1.1.2.2.2,b.1.1.1.2.1.1),b.1.1.1.2.1.2,b.1.1.1.2.2.1) b.1.1.1.2.2.2 b.2.2.2.2) (fun h=>(bd (OY g.2.2.1.2 h.1.1.1 h.1.1.2.1 h.1.1.2.2 h.1.2.1 h.1.2.2.1 h.1.2.2.2 h.2.1.1 h.2.1.2.1 h.2.1.2.2) (fun e=>(bd (Ph e.1.1.2 e.1.2.1 e.1.2.2.1 e.1.2.2.2 e.2.1.1 e.2.1.2 e.2.2.1 e.2.2.2.1 e.2.2.2.2 ((e.1.1.1.1.1,e.1.1.1.1.2.1,e.1.1.1.1.2.2.1),(e.1.1.1.1.2.2.2,e.1.1.1.2.1.1),e.1.1.1.2.1.2,e.1.1.1.2.2.1) e.1.1.1.2.2.2) (fun j=>(bd (Pj j.1.1.1 j.1.1.2 j.1.2.1 j.1.2.2.1 j.1.2.2.2 j.2.1.1 j.2.1.2.1 j.2.2.2.1 j.2.2.2.2 h.2.2.2.2) (Qa f))))))))))))))))))) FI)
def EO (k:BM ⊕ Bc):Option (((Aj×Ag)×(I3)×I3) ⊕ AO ⊕ AO ⊕ BB) :=
 (sm k PZ (fun f=>(bd (Kf f.1.2.2.1 f.1.1.2.2 f.1.2.1.1 f.1.2.1.2 f.2.1.2.1 f.2.1.2.2 f.2.2.1.1 f.2.2.1.2 f.2.2.2.1 f.2.2.2.2 (f.1.1.1,f.1.1.2.1)) (fun c=>(bd (Kj c.1.1.2 c.1.2.1 c.1.2.2.1 c.1.2.2.2 c.2.1.1 c.2.1.2.1 c.2.1.2.2 c.2.2.1 c.2.2.2.1 ((c.1.1.1.1.1,c.1.1.1.1.2.1,c.1.1.1.1.2.2.1),(c.1.1.1.1.2.2.2,c.1.1.1.2.1.1),c.1.1.1.2.1.2,c.1.1.1.2.2.1) c.1.1.1.2.2.2) (fun i=>(bd (Kk f.1.2.2.1 i.1.1.1 i.1.1.2 i.1.2.1 i.1.2.2.1 i.1.2.2.2 i.2.1.1 i.2.1.2.1 i.2.2.2.1 i.2.2.2.2) (fun d=>(bd (Kl d.1.1.2 d.1.2.1 d.1.2.2.1 d.1.2.2.2 d.2.1.1 d.2.1.2 d.2.2.1 d.2.2.2.1 d.2.2.2.2 ((d.1.1.1.1.1,d.1.1.1.1.2.1,d.1.1.1.1.2.2.1),(d.1.1.1.1.2.2.2,d.1.1.1.2.1.1),d.1.1.1.2.1.2,d.1.1.1.2.2.1) d.1.1.1.2.2.2 (false,false) f.2.1.1 f.1.2.2.1) (fun g=>(bd (Km g.2.2.1.2 g.1.1.1 g.1.1.2.1 g.1.1.2.2 g.1.2.1.1 g.1.2.1.2 g.1.2.2.1 g.1.2.2.2 g.2.2.2.1 g.2.2.2.2 g.2.2.1.1) (fun b=>(bd (Kn b.1.1.2 b.1.2.1 b.1.2.2.1 b.1.2.2.2 b.2.1.1 b.2.1.2.1 b.2.1.2.2 b.2.2.1 b.2.2.2.1 ((b.1.1.1.1.1,b.1.1.1.1.2.1,b.1.1.1.1.2.2.1),(b.1.1.1.1.2.2.2,b.1.1.1.2.1.1),b.1.1.1.2.1.2,b.1.1.1.2.2.1) b.1.1.1.2.2.2 b.2.2.2.2) (fun h=>(bd (Ko g.2.2.1.2 h.1.1.1 h.1.1.2.1 h.1.1.2.2 h.1.2.1 h.1.2.2.1 h.1.2.2.2 h.2.1.1 h.2.1.2.1 h.2.1.2.2) (fun e=>(bd (Kq e.1.1.2 e.1.2.1 e.1.2.2.1 e.1.2.2.2 e.2.1.1 e.2.1.2 e.2.2.1 e.2.2.2.1 e.2.2.2.2 ((e.1.1.1.1.1,e.1.1.1.1.2.1,e.1.1.1.1.2.2.1),(e.1.1.1.1.2.2.2,e.1.1.1.2.1.1),e.1.1.1.2.1.2,e.1.1.1.2.2.1) e.1.1.1.2.2.2) (fun j=>(bd (Kr j.1.1.1 j.1.1.2 j.1.2.1 j.1.2.2.1 j.1.2.2.2 j.2.1.1 j.2.1.2.1 j.2.2.2.1 j.2.2.2.2 h.2.2.2.2) (PV f))))))))))))))))))))
def Abq:BSh:= .cells 105 [.ifc 60 (.ptr 1 0),.ifc 60 (.ptr 2 0),.ptr 9 0,.ptr 3 0,.ro .y true,.i .i64,.i .i64,.i .i64,.i .i64,.i .i64,.i .u8,.i .u8,.i .u8,.i .i64,.i .i64,.i .i64,.i .i64]
def AgW:Sch:=⟨[(1,.v (.c (.ro .y true))),(2,.v (.c (.ro .y true))),(4,.v (.c (.ptr 9 0))),(7,.v (.c (.ptr 10 0))),(8,.v (.c (.ptr 11 0))),(9,.v (.c (.ptr 12 0))),(10,.v (.c (.ic .i64 (0)))),(31,.v (.c (.ic .i64 (0)))),(55,.v (.c (.b)))],[AK,Aa,Aa,Ak,Ab,Ad,Am,.row (.a .y) 33,Ac,.cells 30 [.ptr 0 0],Ao,Af,Af]⟩
def AgX:Sch:=⟨[(1,.v (.c (.ro .y true))),(2,.v (.c (.ro .y true))),(4,.v (.c (.ptr 9 0))),(7,.v (.c (.ptr 10 0))),(8,.v (.c (.ptr 11 0))),(9,.v (.c (.ptr 12 0))),(10,.v (.c (.ic .i64 (0)))),(31,.v (.c (.ic .i64 (0))))],[AK,Aa,Aa,Ak,Ab,Ad,Am,.row (.a .y) 33,Ac,.cells 30 [.ptr 0 0],Ao,Af,Af]⟩
def AgY:Sch:=⟨[(1,.v (.c (.ro .y true))),(2,.v (.c (.ro .y true))),(4,.v (.c (.ptr 9 0))),(7,.v (.c (.ptr 10 0))),(8,.v (.c (.ptr 11 0))),(9,.v (.c (.ptr 12 0))),(31,.v (.c (.ic .i64 (0))))],[Qn,Aa,Aa,Ak,Ab,Ad,Am,.row (.a .y) 33,Ac,.cells 30 [.ptr 0 0],Ao,Af,Af,BD,Ab,Ad,BC,.row (.a .y) 33,Ac]⟩
def AgZ:Sch:=⟨[(1,.v (.c (.ro .y true))),(2,.v (.c (.ro .y true))),(4,.v (.c (.ptr 9 0))),(7,.v (.c (.ptr 10 0))),(8,.v (.c (.ptr 11 0))),(9,.v (.c (.ptr 12 0))),(31,.v (.c (.ic .i64 (0))))],[AK,Aa,Aa,Ak,Ab,Ad,Am,.row (.a .y) 33,Ac,.cells 30 [.ptr 0 0],Ao,Af,Af]⟩
def Aha:Sch:=⟨[(1,.v (.c (.ro .y true))),(2,.v (.c (.ro .y true))),(4,.v (.c (.ptr 9 0))),(7,.v (.c (.ptr 10 0))),(8,.v (.c (.ptr 11 0))),(9,.v (.c (.ptr 12 0))),(10,.v (.c (.ic .i64 (1)))),(31,.v (.c (.ic .i64 (1)))),(55,.v (.c (.b)))],[DY,Aa,Aa,.no,.no,.no,.no,.no,.no,.cells 30 [.ptr 0 0],Ao,Af,Af,BD,Ab,Ad,BC,.row (.a .y) 33,Ac]⟩
def Ahb:Sch:=⟨[(1,.v (.c (.ro .y true))),(2,.v (.c (.ro .y true))),(4,.v (.c (.ptr 9 0))),(7,.v (.c (.ptr 10 0))),(8,.v (.c (.ptr 11 0))),(9,.v (.c (.ptr 12 0))),(10,.v (.c (.ic .i64 (1)))),(31,.v (.c (.ic .i64 (1)))),(55,.v (.c (.b)))],[Qn,Aa,Aa,Ak,Ab,Ad,Am,.row (.a .y) 33,Ac,.cells 30 [.ptr 0 0],Ao,Af,Af,BD,Ab,Ad,BC,.row (.a .y) 33,Ac]⟩
def Ahc:Sch:=⟨[(1,.v (.c (.ro .y true))),(2,.v (.c (.ro .y true))),(4,.v (.c (.ptr 9 0))),(7,.v (.c (.ptr 10 0))),(8,.v (.c (.ptr 11 0))),(9,.v (.c (.ptr 12 0))),(10,.v (.c (.ic .i64 (1)))),(31,.v (.c (.ic .i64 (1))))],[KA,Aa,Aa,.no,.no,.no,.no,.no,.no,.cells 30 [.ptr 0 0],Ao,Af,Af,KC,KD,Ab,Ad,EE,Ab,Ad,Cb,.row (.a .y) 33,Ac,.row (.a .y) 33,Ac]⟩
def Ahd:Sch:=⟨[(1,.v (.c (.ro .y true))),(2,.v (.c (.ro .y true))),(4,.v (.c (.ptr 9 0))),(7,.v (.c (.ptr 10 0))),(8,.v (.c (.ptr 11 0))),(9,.v (.c (.ptr 12 0))),(31,.v (.c (.ic .i64 (1))))],[DY,Aa,Aa,.no,.no,.no,.no,.no,.no,.cells 30 [.ptr 0 0],Ao,Af,Af,BD,Ab,Ad,BC,.row (.a .y) 33,Ac]⟩
def Ahe:Sch:=⟨[(1,.v (.c (.ro .y true))),(2,.v (.c (.ro .y true))),(4,.v (.c (.ptr 9 0))),(7,.v (.c (.ptr 10 0))),(8,.v (.c (.ptr 11 0))),(9,.v (.c (.ptr 12 0))),(31,.v (.c (.ic .i64 (1))))],[KA,Aa,Aa,.no,.no,.no,.no,.no,.no,.cells 30 [.ptr 0 0],Ao,Af,Af,KC,KD,Ab,Ad,EE,Ab,Ad,Cb,.row (.a .y) 33,Ac,.row (.a .y) 33,Ac]⟩
def Ahf:Sch:=⟨[(1,.v (.c (.ro .y true))),(2,.v (.c (.ro .y true))),(4,.v (.c (.ptr 9 0))),(7,.v (.c (.ptr 10 0))),(8,.v (.c (.ptr 11 0))),(9,.v (.c (.ptr 12 0))),(10,.v (.c (.ic .i64 (1)))),(31,.v (.c (.ic .i64 (1)))),(55,.v (.c (.b)))],[Aw,Aa,Aa,.no,.no,.no,.no,.no,.no,.cells 30 [.ptr 0 0],Ao,Af,Af]⟩
def Abr:Sch:=⟨[(1,.v (.c (.ro .y true))),(2,.v (.c (.ro .y true))),(4,.v (.c (.ptr 9 0))),(7,.v (.c (.ptr 10 0))),(8,.v (.c (.ptr 11 0))),(9,.v (.c (.ptr 12 0))),(10,.v (.c (.ic .i64 (1)))),(31,.v (.c (.ic .i64 (1)))),(55,.v (.c (.b)))],[AK,Aa,Aa,Ak,Ab,Ad,Am,.row (.a .y) 33,Ac,.cells 30 [.ptr 0 0],Ao,Af,Af]⟩
def Abs:Sch:=⟨[(1,.v (.c (.ro .y true))),(2,.v (.c (.ro .y true))),(4,.v (.c (.ptr 9 0))),(7,.v (.c (.ptr 10 0))),(8,.v (.c (.ptr 11 0))),(9,.v (.c (.ptr 12 0))),(10,.v (.c (.ic .i64 (1)))),(31,.v (.c (.ic .i64 (1))))],[KE,Aa,Aa,.no,.no,.no,.no,.no,.no,.cells 30 [.ptr 0 0],Ao,Af,Af,BD,Ab,Ad,BC,.row (.a .y) 33,Ac]⟩
def Abt:Sch:=⟨[(1,.v (.c (.ro .y true))),(2,.v (.c (.ro .y true))),(4,.v (.c (.ptr 9 0))),(7,.v (.c (.ptr 10 0))),(8,.v (.c (.ptr 11 0))),(9,.v (.c (.ptr 12 0))),(31,.v (.c (.ic .i64 (1))))],[Aw,Aa,Aa,.no,.no,.no,.no,.no,.no,.cells 30 [.ptr 0 0],Ao,Af,Af]⟩
def Abu:Sch:=⟨[(1,.v (.c (.ro .y true))),(2,.v (.c (.ro .y true))),(4,.v (.c (.ptr 9 0))),(7,.v (.c (.ptr 10 0))),(8,.v (.c (.ptr 11 0))),(9,.v (.c (.ptr 12 0))),(31,.v (.c (.ic .i64 (1))))],[KE,Aa,Aa,.no,.no,.no,.no,.no,.no,.cells 30 [.ptr 0 0],Ao,Af,Af,BD,Ab,Ad,BC,.row (.a .y) 33,Ac]⟩
def Qs:Sch:=⟨[(4,.v (.c (.ptr 9 0))),(8,.v (.c (.ptr 10 0))),(9,.v (.c (.ptr 11 0)))],[Qo,Aa,Aa,.no,.no,.no,.no,.no,.no,.cells 30 [.ptr 0 0],Af,Af,HB,Ab,Ad,CK,.row (.a .y) 33,Ac]⟩
def Qt:Sch:=⟨[(4,.v (.c (.ptr 9 0))),(8,.v (.c (.ptr 10 0))),(9,.v (.c (.ptr 11 0)))],[Qp,Aa,Aa,.no,.no,.no,.no,.no,.no,.cells 30 [.ptr 0 0],Af,Af,BD,Hs,Ab,Ad,Ho,Ab,Ad,ED,.row (.a .y) 33,Ac,.row (.a .y) 33,Ac]⟩
def Qu:Sch:=⟨[(4,.v (.c (.ptr 9 0))),(8,.v (.c (.ptr 10 0))),(9,.v (.c (.ptr 11 0)))],[Aw,Aa,Aa,.no,.no,.no,.no,.no,.no,.cells 30 [.ptr 0 0],Af,Af]⟩
def Qv:Sch:=⟨[(4,.v (.c (.ptr 9 0))),(8,.v (.c (.ptr 10 0))),(9,.v (.c (.ptr 11 0)))],[Qq,Aa,Aa,.no,.no,.no,.no,.no,.no,.cells 30 [.ptr 0 0],Af,Af,HB,Ab,Ad,CK,.row (.a .y) 33,Ac]⟩
def Ahg (i:Bt) (j:Bt) (g:Aq) (e:Ag) (k:I3) (l:I3) (m:(I3)×Bool×I2) (n:Ae) (o:List (Int×Int×Int×Bt)) (p:I2) (q:List Bt) (r:List (Int×I4)):Option (((Aj×Ag)×(I3)×I3) ⊕ AO ⊕ AO ⊕ BB) :=
 (bd (α:=Ht ⊕ Hu) (bd (α:=Hu) (cnd g.1.1.1.1.1 (some (((i,j,(e.1.1,e.1.2.1,e.1.2.2.1,(IntKind.wrap .i64 (e.1.2.2.2+(1:Int)))),e.2),(k,l),m,n),(o,p,q),(r,g),((zTg,((0:Int),(0:Int),(0:Int)),((0:Int),(0:Int)),(0:Int),(0:Int)),zTg,(((0:Int),(0:Int)),(0:Int),(0:Int)),((0:Int),(0:Int)),(0:Int),(0:Int)),((((IntKind.wrap .i64 (e.1.2.2.2+(1:Int))),(0:Int),(0:Int)),((1:Int),(1:Int)),(0:Int),(0:Int)),((0:Int),(0:Int),(0:Int)),((0:Int),(0:Int)),(0:Int),(0:Int)),zTg,(((0:Int),(0:Int)),(0:Int),(0:Int)),((0:Int),(0:Int)),(0:Int),(0:Int))) (some (((i,j,(e.1.1,e.1.2.1,e.1.2.2.1,(IntKind.wrap .i64 (e.1.2.2.2+(1:Int)))),e.2),(k,l),m,n),(o,p,q),(r,g),((zTg,((0:Int),(0:Int),(0:Int)),((0:Int),(0:Int)),(0:Int),(0:Int)),zTg,(((0:Int),(0:Int)),(0:Int),(0:Int)),((0:Int),(0:Int)),(0:Int),(0:Int)),((((IntKind.wrap .i64 (e.1.2.2.2+(1:Int))),(0:Int),(0:Int)),((1:Int),(1:Int)),(0:Int),(0:Int)),((0:Int),(0:Int),(0:Int)),((0:Int),(0:Int)),(0:Int),(0:Int)),zTg,(((0:Int),(0:Int)),(0:Int),(0:Int)),((0:Int),(0:Int)),(0:Int),(0:Int)))) (fun d=>(bd (α:=DU) (cnd d.2.2.1.2.1.1.1.2.1 (some (((d.1.1.1,d.1.1.2.1,true),(d.1.1.2.2,d.1.2.1.1),d.1.2.1.2,d.1.2.2.1),((d.1.2.2.2,d.2.1.1),d.2.1.2),d.2.2)) (some (((d.1.1.1,d.1.1.2.1,false),(d.1.1.2.2,d.1.2.1.1),d.1.2.1.2,d.1.2.2.1),((d.1.2.2.2,d.2.1.1),d.2.1.2),d.2.2))) PR))) (fun s=>(sm s (fun b=>(bd (α:=Bc ⊕ Ci) (cnd b.2.1.1.2.1.1.1.1.2 (bd (α:=FH) (cnd b.2.1.1.2.1.1.1.2.2 (some (((b.1.1.1.1,b.1.1.1.2,true),(b.1.1.2.1,b.1.1.2.2.1),b.1.1.2.2.2,b.2.1.1.2),((b.2.1.2.1,b.2.1.2.2.1),b.2.1.2.2.2,b.2.2.1.1),(b.2.2.1.2,b.2.2.2.1),b.2.2.2.2)) (some (((b.1.1.1.1,b.1.1.1.2,false),(b.1.1.2.1,b.1.1.2.2.1),b.1.1.2.2.2,b.2.1.1.2),((b.2.1.2.1,b.2.1.2.2.1),b.2.1.2.2.2,b.2.2.1.1),(b.2.2.1.2,b.2.2.2.1),b.2.2.2.2))) Ku) (bd (α:=Ci) (bd (α:=Kv) (cnd b.2.1.1.2.1.1.1.2.2 (some (((b.1.1.1,false,b.1.1.2.1,b.1.1.2.2.1),(b.1.1.2.2.2,b.1.2.1.1),b.1.2.1.2,b.1.2.2.1,b.1.2.2.2.1),((b.1.2.2.2.2,b.2.1.1.1),b.2.1.1.2,b.2.1.2.1,b.2.1.2.2.1),(b.2.1.2.2.2,b.2.2.1),b.2.2.2)) (some (((b.1.1.1,false,b.1.1.2.1,b.1.1.2.2.1),(b.1.1.2.2.2,b.1.2.1.1),b.1.2.1.2,b.1.2.2.1,b.1.2.2.2.1),((b.1.2.2.2.2,b.2.1.1.1),b.2.1.1.2,b.2.1.2.1,b.2.1.2.2.1),(b.2.1.2.2.2,b.2.2.1),b.2.2.2))) PS) PU)) EN)) (fun c=>(bd (α:=BM ⊕ Bc) (cnd c.2.2.1.2.1.1.1.1.2 (bd (α:=DW) (cnd c.2.2.1.2.1.1.1.2.2 (some (((c.1.1.1,c.1.1.2.1),true,c.1.1.2.2),c.1.2.1,c.2.2.1.2,c.2.2.2)) (some (((c.1.1.1,c.1.1.2.1),false,c.1.1.2.2),c.1.2.1,c.2.2.1.2,c.2.2.2))) Kw) (bd (α:=Bc) (bd (α:=DU) (cnd c.2.2.1.2.1.1.1.2.2 (some (((c.1.1.1,c.1.1.2.1,false),(c.1.1.2.2,c.1.2.1.1),c.1.2.1.2,c.1.2.2.1),((c.1.2.2.2,c.2.1.1),c.2.1.2),c.2.2)) (some (((c.1.1.1,c.1.1.2.1,false),(c.1.1.2.2,c.1.2.1.1),c.1.2.1.2,c.1.2.2.1),((c.1.2.2.2,c.2.1.1),c.2.1.2),c.2.2))) PX) (fun f=>(cnd f.1.2.2.1.1.1.2.1.2 (bd (o22 f.2.1.2.1 f.2.1.2.2 f.2.2.1.1 f.2.2.1.2 f.2.2.2.1 f.2.2.2.2) (fun h=>(some (Sum.inr (f.1,(f.2.1.1,h.1.1),h.1.2,h.2.2))))) (some (Sum.inr f)))))) EO)))))
def Arq:HC:=(.s .d (.s .d (.s .d (.s .d (.s (.s .d (.b (.u 3 (.v (.s .d (.s .d (.j false [AgY,AgZ] (.s (.b (.s .d (.j false [AgX] (.s .d (.s (.s (.j false [AgW] .d) (.c (.r 6) .d)) .d))))) .d)))) (.on ⟨[(1,.v (.c (.ro .y true)))],[Abq,Aa,Aa,Ak,Ab,Ad,Am,.row (.a .y) 33,Ac,Au,Ab,Ad,At,.row (.a .y) 33,Ac]⟩ (.v (.s .d (.s .d (.j false [Ahd,Ahe] (.s (.b (.s .d (.s .d (.on ⟨[(1,.v (.c (.ro .y true)))],[FM,Aa,Aa,.no,.no,.no,.no,.no,.no,Au,Ab,Ad,At,.row (.a .y) 33,Ac]⟩ (.s (.s (.j false [Aha] .d) (.c (.r 6) .d)) .d) (.j false [Ahc] (.s (.s (.j false [Ahb] .d) (.c (.r 6) .d)) .d)))))) .d)))) (.v .d .d)) (.v (.s .d (.s .d (.j false [Abt,Abu] (.s (.b (.s .d (.s .d (.on ⟨[(1,.v (.c (.ro .y true)))],[Aw,Aa,Aa,.no,.no,.no,.no,.no,.no]⟩ (.s (.s (.j false [Ahf] .d) (.c (.r 6) .d)) .d) (.j false [Abs] (.s (.s (.j false [Abr] .d) (.c (.r 6) .d)) .d)))))) .d)))) (.v .d .d))))))) (.on ⟨[(1,.v (.c (.ro .y true)))],[FM,Aa,Aa,.no,.no,.no,.no,.no,.no,Au,Ab,Ad,At,.row (.a .y) 33,Ac]⟩ (.s .d (.s .d (.s .d (.s .d (.s .d (.s .d (.s .d (.s .d (.s .d (.s .d (.s .d (.s .d (.j false [Qs] (.s (.s .d (.c (.j false [Qs] .d) .d)) .d)))))))))))))) (.on ⟨[(1,.v (.c (.ro .y true)))],[KG,Aa,Aa,.no,.no,.no,.no,.no,.no,AL,BD,Ab,Ad,BC,Ab,Ad,Dp,.row (.a .y) 33,Ac,.row (.a .y) 33,Ac]⟩ (.s .d (.s .d (.s .d (.s .d (.s .d (.s .d (.s .d (.s .d (.s .d (.s .d (.s .d (.s .d (.j false [Qt] (.s (.s .d (.c (.j false [Qt] .d) .d)) .d)))))))))))))) (.on ⟨[(1,.v (.c (.ro .y true)))],[Aw,Aa,Aa,.no,.no,.no,.no,.no,.no]⟩ (.s .d (.s .d (.s .d (.s .d (.s .d (.s .d (.s .d (.s .d (.s .d (.s .d (.s .d (.s .d (.j false [Qu] (.s (.s .d (.c (.j false [Qu] .d) .d)) .d)))))))))))))) (.s .d (.s .d (.s .d (.s .d (.s .d (.s .d (.s .d (.s .d (.s .d (.s .d (.s .d (.s .d (.j false [Qv] (.s (.s .d (.c (.j false [Qv] .d) .d)) .d))))))))))))))))))))))
def AnX:Tbl:=(9,⟨⟨[(0,.v (.c (.ptr 0 0))),(1,.v (.c (.ro .y true))),(2,.v (.c (.ro .y true))),(3,Bo)],[AK,Aa,Aa,Ak,Ab,Ad,Am,.row (.a .y) 33,Ac]⟩,[⟨[(0,BL)],[Aw,Aa,Aa,.no,.no,.no,.no,.no,.no]⟩,⟨[(0,BL)],[FM,Aa,Aa,.no,.no,.no,.no,.no,.no,Au,Ab,Ad,At,.row (.a .y) 33,Ac]⟩,⟨[(0,BL)],[DT,Aa,Aa,.no,.no,.no,.no,.no,.no,Au,Ab,Ad,At,.row (.a .y) 33,Ac]⟩,⟨[(0,BL)],[KG,Aa,Aa,.no,.no,.no,.no,.no,.no,AL,BD,Ab,Ad,BC,Ab,Ad,Dp,.row (.a .y) 33,Ac,.row (.a .y) 33,Ac]⟩],fun t=>(Ahg t.1.1.1 t.1.1.2.1 t.1.1.2.2 t.1.2.1 t.1.2.2.1 t.1.2.2.2 t.2.1.1 t.2.1.2.1 t.2.1.2.2 t.2.2.1 t.2.2.2.1 t.2.2.2.2)⟩)::AnW
theorem Ars:TK AnX:=kc Arp Tryz.f9 Arq fun t=>by kernel_rfl
def Ahh:Sch:=⟨[(1,.v (.c (.ro .y true))),(2,.v (.c (.ro .y true))),(4,.v (.c (.ptr 9 0))),(7,.v (.c (.ptr 10 0))),(8,.v (.c (.ptr 11 0))),(9,.v (.c (.ptr 12 0))),(10,.v (.c (.ic .i64 (0)))),(31,.v (.c (.ic .i64 (0)))),(55,.v (.c (.b)))],[Aw,Aa,Aa,.no,.no,.no,.no,.no,.no,.cells 30 [.ptr 0 0],Ao,Af,Af]⟩
def Ahi:Sch:=⟨[(1,.v (.c (.ro .y true))),(2,.v (.c (.ro .y true))),(4,.v (.c (.ptr 9 0))),(7,.v (.c (.ptr 10 0))),(8,.v (.c (.ptr 11 0))),(9,.v (.c (.ptr 12 0))),(10,.v (.c (.ic .i64 (0)))),(31,.v (.c (.ic .i64 (0)))),(55,.v (.c (.b)))],[AZ,Aa,Aa,Ak,Ab,Ad,Am,.row (.a .y) 33,Ac,.cells 30 [.ptr 0 0],Ao,Af,Af]⟩
def Ahj:Sch:=⟨[(1,.v (.c (.ro .y true))),(2,.v (.c (.ro .y true))),(4,.v (.c (.ptr 9 0))),(7,.v (.c (.ptr 10 0))),(8,.v (.c (.ptr 11 0))),(9,.v (.c (.ptr 12 0))),(10,.v (.c (.ic .i64 (0)))),(31,.v (.c (.ic .i64 (0))))],[DY,Aa,Aa,.no,.no,.no,.no,.no,.no,.cells 30 [.ptr 0 0],Ao,Af,Af,BD,Ab,Ad,BC,.row (.a .y) 33,Ac]⟩
def Ahk:Sch:=⟨[(1,.v (.c (.ro .y true))),(2,.v (.c (.ro .y true))),(4,.v (.c (.ptr 9 0))),(7,.v (.c (.ptr 10 0))),(8,.v (.c (.ptr 11 0))),(9,.v (.c (.ptr 12 0))),(31,.v (.c (.ic .i64 (0))))],[Aw,Aa,Aa,.no,.no,.no,.no,.no,.no,.cells 30 [.ptr 0 0],Ao,Af,Af]⟩
def Ahl:Sch:=⟨[(1,.v (.c (.ro .y true))),(2,.v (.c (.ro .y true))),(4,.v (.c (.ptr 9 0))),(7,.v (.c (.ptr 10 0))),(8,.v (.c (.ptr 11 0))),(9,.v (.c (.ptr 12 0))),(31,.v (.c (.ic .i64 (0))))],[DY,Aa,Aa,.no,.no,.no,.no,.no,.no,.cells 30 [.ptr 0 0],Ao,Af,Af,BD,Ab,Ad,BC,.row (.a .y) 33,Ac]⟩
def Ahm:Sch:=⟨[(1,.v (.c (.ro .y true))),(2,.v (.c (.ro .y true))),(4,.v (.c (.ptr 9 0))),(7,.v (.c (.ptr 10 0))),(8,.v (.c (.ptr 11 0))),(9,.v (.c (.ptr 12 0))),(10,.v (.c (.ic .i64 (1)))),(31,.v (.c (.ic .i64 (1)))),(55,.v (.c (.b)))],[Aw,Aa,Aa,.no,.no,.no,.no,.no,.no,.cells 30 [.ptr 0 0],Ao,Af,Af]⟩
def Ahn:Sch:=⟨[(1,.v (.c (.ro .y true))),(2,.v (.c (.ro .y true))),(4,.v (.c (.ptr 9 0))),(7,.v (.c (.ptr 10 0))),(8,.v (.c (.ptr 11 0))),(9,.v (.c (.ptr 12 0))),(10,.v (.c (.ic .i64 (1)))),(31,.v (.c (.ic .i64 (1))))],[Aw,Aa,Aa,.no,.no,.no,.no,.no,.no,.cells 30 [.ptr 0 0],Ao,Af,Af]⟩
def Aho:Sch:=⟨[(1,.v (.c (.ro .y true))),(2,.v (.c (.ro .y true))),(4,.v (.c (.ptr 9 0))),(7,.v (.c (.ptr 10 0))),(8,.v (.c (.ptr 11 0))),(9,.v (.c (.ptr 12 0))),(31,.v (.c (.ic .i64 (1))))],[Aw,Aa,Aa,.no,.no,.no,.no,.no,.no,.cells 30 [.ptr 0 0],Ao,Af,Af]⟩
def Ahp:Sch:=⟨[(1,.v (.c (.ro .y true))),(2,.v (.c (.ro .y true))),(4,.v (.c (.ptr 9 0))),(7,.v (.c (.ptr 10 0))),(8,.v (.c (.ptr 11 0))),(9,.v (.c (.ptr 12 0))),(31,.v (.c (.ic .i64 (1))))],[KE,Aa,Aa,.no,.no,.no,.no,.no,.no,.cells 30 [.ptr 0 0],Ao,Af,Af,BD,Ab,Ad,BC,.row (.a .y) 33,Ac]⟩
def Ahq:Sch:=⟨[(1,.v (.c (.ro .y true))),(2,.v (.c (.ro .y true))),(4,.v (.c (.ptr 9 0))),(7,.v (.c (.ptr 10 0))),(8,.v (.c (.ptr 11 0))),(9,.v (.c (.ptr 12 0))),(10,.v (.c (.ic .i64 (1)))),(31,.v (.c (.ic .i64 (1)))),(55,.v (.c (.b)))],[DY,Aa,Aa,.no,.no,.no,.no,.no,.no,.cells 30 [.ptr 0 0],Ao,Af,Af,BD,Ab,Ad,BC,.row (.a .y) 33,Ac]⟩
def Abv:Sch:=⟨[(1,.v (.c (.ro .y true))),(2,.v (.c (.ro .y true))),(4,.v (.c (.ptr 9 0))),(7,.v (.c (.ptr 10 0))),(8,.v (.c (.ptr 11 0))),(9,.v (.c (.ptr 12 0))),(10,.v (.c (.ic .i64 (1)))),(31,.v (.c (.ic .i64 (1))))],[DY,Aa,Aa,.no,.no,.no,.no,.no,.no,.cells 30 [.ptr 0 0],Ao,Af,Af,BD,Ab,Ad,BC,.row (.a .y) 33,Ac]⟩
def Abw:Sch:=⟨[(1,.v (.c (.ro .y true))),(2,.v (.c (.ro .y true))),(4,.v (.c (.ptr 9 0))),(7,.v (.c (.ptr 10 0))),(8,.v (.c (.ptr 11 0))),(9,.v (.c (.ptr 12 0))),(31,.v (.c (.ic .i64 (1))))],[DY,Aa,Aa,.no,.no,.no,.no,.no,.no,.cells 30 [.ptr 0 0],Ao,Af,Af,BD,Ab,Ad,BC,.row (.a .y) 33,Ac]⟩
def Abx:Sch:=⟨[(1,.v (.c (.ro .y true))),(2,.v (.c (.ro .y true))),(4,.v (.c (.ptr 9 0))),(7,.v (.c (.ptr 10 0))),(8,.v (.c (.ptr 11 0))),(9,.v (.c (.ptr 12 0))),(31,.v (.c (.ic .i64 (1))))],[KA,Aa,Aa,.no,.no,.no,.no,.no,.no,.cells 30 [.ptr 0 0],Ao,Af,Af,KC,KD,Ab,Ad,EE,Ab,Ad,Cb,.row (.a .y) 33,Ac,.row (.a .y) 33,Ac]⟩
def Qw:Sch:=⟨[(4,.v (.c (.ptr 9 0))),(8,.v (.c (.ptr 10 0))),(9,.v (.c (.ptr 11 0)))],[Aw,Aa,Aa,.no,.no,.no,.no,.no,.no,.cells 30 [.ptr 0 0],Af,Af]⟩
def Qx:Sch:=⟨[(4,.v (.c (.ptr 9 0))),(8,.v (.c (.ptr 10 0))),(9,.v (.c (.ptr 11 0)))],[Qq,Aa,Aa,.no,.no,.no,.no,.no,.no,.cells 30 [.ptr 0 0],Af,Af,HB,Ab,Ad,CK,.row (.a .y) 33,Ac]⟩
def Qy:Sch:=⟨[(4,.v (.c (.ptr 9 0))),(8,.v (.c (.ptr 10 0))),(9,.v (.c (.ptr 11 0)))],[Qo,Aa,Aa,.no,.no,.no,.no,.no,.no,.cells 30 [.ptr 0 0],Af,Af,HB,Ab,Ad,CK,.row (.a .y) 33,Ac]⟩
def Qz:Sch:=⟨[(4,.v (.c (.ptr 9 0))),(8,.v (.c (.ptr 10 0))),(9,.v (.c (.ptr 11 0)))],[Qp,Aa,Aa,.no,.no,.no,.no,.no,.no,.cells 30 [.ptr 0 0],Af,Af,BD,Hs,Ab,Ad,Ho,Ab,Ad,ED,.row (.a .y) 33,Ac,.row (.a .y) 33,Ac]⟩
def Ahr (h:Bt) (i:Bt) (f:Aq) (b:Ag) (j:I3) (k:I3) (o:(I3)×Bool×I2) (p:Ae) (q:List (Int×Int×Int×Bt)) (r:I2) (s:List Bt) (u:List (Int×I4)):Option (((Aj×Ag)×(I3)×I3) ⊕ AO ⊕ AO ⊕ BB) :=
 (bd (α:=BM ⊕ Bc) (cnd f.1.1.1.1.1 (bd (α:=DW) (cnd f.1.1.1.2.1 (some (((h,i),true,(b.1.1,b.1.2.1,b.1.2.2.1,(IntKind.wrap .i64 (b.1.2.2.2+(1:Int)))),b.2),(j,k),f,((zTg,((0:Int),(0:Int),(0:Int)),((0:Int),(0:Int)),(0:Int),(0:Int)),zTg,(((0:Int),(0:Int)),(0:Int),(0:Int)),((0:Int),(0:Int)),(0:Int),(0:Int)),((((IntKind.wrap .i64 (b.1.2.2.2+(1:Int))),(0:Int),(0:Int)),((1:Int),(1:Int)),(0:Int),(0:Int)),((0:Int),(0:Int),(0:Int)),((0:Int),(0:Int)),(0:Int),(0:Int)),zTg,(((0:Int),(0:Int)),(0:Int),(0:Int)),((0:Int),(0:Int)),(0:Int),(0:Int))) (some (((h,i),false,(b.1.1,b.1.2.1,b.1.2.2.1,(IntKind.wrap .i64 (b.1.2.2.2+(1:Int)))),b.2),(j,k),f,((zTg,((0:Int),(0:Int),(0:Int)),((0:Int),(0:Int)),(0:Int),(0:Int)),zTg,(((0:Int),(0:Int)),(0:Int),(0:Int)),((0:Int),(0:Int)),(0:Int),(0:Int)),((((IntKind.wrap .i64 (b.1.2.2.2+(1:Int))),(0:Int),(0:Int)),((1:Int),(1:Int)),(0:Int),(0:Int)),((0:Int),(0:Int),(0:Int)),((0:Int),(0:Int)),(0:Int),(0:Int)),zTg,(((0:Int),(0:Int)),(0:Int),(0:Int)),((0:Int),(0:Int)),(0:Int),(0:Int)))) Qh) (bd (α:=Bc) (bd (α:=DU) (cnd f.1.1.1.2.1 (some (((h,i,false),(((b.1.1,b.1.2.1,b.1.2.2.1,(IntKind.wrap .i64 (b.1.2.2.2+(1:Int)))),b.2),j),k,o),((p,q),r,s),(u,f),((zTg,((0:Int),(0:Int),(0:Int)),((0:Int),(0:Int)),(0:Int),(0:Int)),zTg,(((0:Int),(0:Int)),(0:Int),(0:Int)),((0:Int),(0:Int)),(0:Int),(0:Int)),((((IntKind.wrap .i64 (b.1.2.2.2+(1:Int))),(0:Int),(0:Int)),((1:Int),(1:Int)),(0:Int),(0:Int)),((0:Int),(0:Int),(0:Int)),((0:Int),(0:Int)),(0:Int),(0:Int)),zTg,(((0:Int),(0:Int)),(0:Int),(0:Int)),((0:Int),(0:Int)),(0:Int),(0:Int))) (some (((h,i,false),(((b.1.1,b.1.2.1,b.1.2.2.1,(IntKind.wrap .i64 (b.1.2.2.2+(1:Int)))),b.2),j),k,o),((p,q),r,s),(u,f),((zTg,((0:Int),(0:Int),(0:Int)),((0:Int),(0:Int)),(0:Int),(0:Int)),zTg,(((0:Int),(0:Int)),(0:Int),(0:Int)),((0:Int),(0:Int)),(0:Int),(0:Int)),((((IntKind.wrap .i64 (b.1.2.2.2+(1:Int))),(0:Int),(0:Int)),((1:Int),(1:Int)),(0:Int),(0:Int)),((0:Int),(0:Int),(0:Int)),((0:Int),(0:Int)),(0:Int),(0:Int)),zTg,(((0:Int),(0:Int)),(0:Int),(0:Int)),((0:Int),(0:Int)),(0:Int),(0:Int)))) (fun c=>(cnd c.1.1.2.2 (bd (α:=BQ) o21 (fun g=>(some (((c.1.1.1,c.1.1.2.1,c.1.2.1.1),(c.1.2.1.2,c.1.2.2.1),c.2.2.1.2,c.2.2.2.1),(c.2.2.2.2,g.1.1,g.1.2.1),(g.1.2.2,g.2.1),g.2.2)))) (some (((c.1.1.1,c.1.1.2.1,c.1.2.1.1),(c.1.2.1.2,c.1.2.2.1),c.2.2.1.2,c.2.2.2.1),(c.2.2.2.2,c.1.2.2.2,c.2.1.1.1),(c.2.1.1.2,c.2.1.2.1),c.2.1.2.2,c.2.2.1.1))))) (fun e=>(cnd e.1.2.2.1.1.1.2.1.1 (bd (o22 e.2.1.2.1 e.2.1.2.2 e.2.2.1.1 e.2.2.1.2 e.2.2.2.1 e.2.2.2.2) (fun l=>(some (Sum.inr (e.1,(e.2.1.1,l.1.1),l.1.2,l.2.2))))) (some (Sum.inr e)))))) (fun v=>(sm v (fun m=>(bd (α:=BM ⊕ Bc) (bd (α:=BM) (cnd m.2.1.2.1.1.1.1.2 (some m) (some m)) Qi) EO)) (fun n=>(bd (α:=Bc ⊕ Ci) (bd (α:=Bc) (cnd n.1.2.2.1.1.1.1.1.2 (some n) (some n)) (fun d=>(bd (α:=FH) (cnd d.1.2.2.1.1.1.1.2.2 (some (((d.1.1.1,d.1.1.2.1,true),(d.1.1.2.2,d.1.2.1.1),d.1.2.1.2,d.1.2.2.1),((d.1.2.2.2,d.2.1.1),d.2.1.2),d.2.2)) (some (((d.1.1.1,d.1.1.2.1,false),(d.1.1.2.2,d.1.2.1.1),d.1.2.1.2,d.1.2.2.1),((d.1.2.2.2,d.2.1.1),d.2.1.2),d.2.2))) Ku))) EN)))))
def Art:HC:=(.s .d (.s .d (.s .d (.s .d (.s (.s .d (.b (.u 3 (.v (.s .d (.s .d (.j false [Ahk,Ahl] (.s (.b (.s .d (.s .d (.on ⟨[(0,.v (.c (.ptr 0 0)))],[Aw,Aa,Aa,.no,.no,.no,.no,.no,.no]⟩ (.s (.s (.j false [Ahh] .d) (.c (.r 6) .d)) .d) (.j false [Ahj] (.s (.s (.j false [Ahi] .d) (.c (.r 6) .d)) .d)))))) .d)))) (.on ⟨[(1,.v (.c (.ro .y true)))],[Aw,Aa,Aa,.no,.no,.no,.no,.no,.no]⟩ (.v (.s .d (.s .d (.j false [Aho,Ahp] (.s (.b (.s .d (.j false [Ahn] (.s .d (.s (.s (.j false [Ahm] .d) (.c (.r 6) .d)) .d))))) .d)))) (.v .d .d)) (.v (.s .d (.s .d (.j false [Abw,Abx] (.s (.b (.s .d (.j false [Abv] (.s .d (.s (.s (.j false [Ahq] .d) (.c (.r 6) .d)) .d))))) .d)))) (.v .d .d))))))) (.on ⟨[(1,.v (.c (.ro .y true)))],[Aw,Aa,Aa,.no,.no,.no,.no,.no,.no]⟩ (.s .d (.s .d (.s .d (.s .d (.s .d (.s .d (.s .d (.s .d (.s .d (.s .d (.s .d (.s .d (.j false [Qw] (.s (.s .d (.c (.j false [Qw] .d) .d)) .d)))))))))))))) (.on ⟨[(1,.v (.c (.ro .y true)))],[DT,Aa,Aa,.no,.no,.no,.no,.no,.no,Au,Ab,Ad,At,.row (.a .y) 33,Ac]⟩ (.s .d (.s .d (.s .d (.s .d (.s .d (.s .d (.s .d (.s .d (.s .d (.s .d (.s .d (.s .d (.j false [Qx] (.s (.s .d (.c (.j false [Qx] .d) .d)) .d)))))))))))))) (.on ⟨[(1,.v (.c (.ro .y true)))],[FM,Aa,Aa,.no,.no,.no,.no,.no,.no,Au,Ab,Ad,At,.row (.a .y) 33,Ac]⟩ (.s .d (.s .d (.s .d (.s .d (.s .d (.s .d (.s .d (.s .d (.s .d (.s .d (.s .d (.s .d (.j false [Qy] (.s (.s .d (.c (.j false [Qy] .d) .d)) .d)))))))))))))) (.s .d (.s .d (.s .d (.s .d (.s .d (.s .d (.s .d (.s .d (.s .d (.s .d (.s .d (.s .d (.j false [Qz] (.s (.s .d (.c (.j false [Qz] .d) .d)) .d))))))))))))))))))))))
def AnY:Tbl:=(9,⟨⟨[(0,.v (.c (.ptr 0 0))),(1,.v (.c (.ro .y true))),(2,.v (.c (.ro .y true))),(3,Bo)],[AZ,Aa,Aa,Ak,Ab,Ad,Am,.row (.a .y) 33,Ac]⟩,[⟨[(0,BL)],[Aw,Aa,Aa,.no,.no,.no,.no,.no,.no]⟩,⟨[(0,BL)],[FM,Aa,Aa,.no,.no,.no,.no,.no,.no,Au,Ab,Ad,At,.row (.a .y) 33,Ac]⟩,⟨[(0,BL)],[DT,Aa,Aa,.no,.no,.no,.no,.no,.no,Au,Ab,Ad,At,.row (.a .y) 33,Ac]⟩,⟨[(0,BL)],[KG,Aa,Aa,.no,.no,.no,.no,.no,.no,AL,BD,Ab,Ad,BC,Ab,Ad,Dp,.row (.a .y) 33,Ac,.row (.a .y) 33,Ac]⟩],fun t=>(Ahr t.1.1.1 t.1.1.2.1 t.1.1.2.2 t.1.2.1 t.1.2.2.1 t.1.2.2.2 t.2.1.1 t.2.1.2.1 t.2.1.2.2 t.2.2.1 t.2.2.2.1 t.2.2.2.2)⟩)::AnX
theorem Aru:TK AnY:=kc Ars Tryz.f9 Art fun t=>by kernel_rfl
end
end Go.Proofs.YtpleflcfaecojaaGreat
