/-
One computer: what stays true of it. Conditions: each lemma's own.
-/
import Derived.Test.YtpleflcfaecojaaGreatM14
namespace Go.Proofs.YtpleflcfaecojaaGreat
set_option linter.unusedVariables false
set_option linter.unusedSimpArgs false
set_option maxRecDepth 100000
open Go.RowKit
theorem cond_p {α:Type} {P:α→Prop} {b:Bool} {x y:α} (hx:P x) (hy:P y):P (cond b x y):=by cases b <;> assumption
theorem cond_pT {α:Type} {P:α→Prop} {b:Bool} {x y:α} (hx:b=true→P x) (hy:b=false→P y):P (cond b x y):=by
 cases b with
 | true=>exact hx rfl
 | false=>exact hy rfl
structure Nd.ok (n:Nd):Prop where
 inp:n.input.length≤1000
 hinp:n.hd.input.length≤400
 sin:n.se.in_.length≤2000
structure Cp.ok2 (c:Cp):Prop where
 data:∀ p∈c.ps,p.2.2.2.length≤600
 cps:c.co.ps.length≤874
 cpd:∀ x∈c.co.ps,x.length≤600
 css:c.co.ss.length≤874
 csd:∀ x∈c.co.ss,x.2.2.2.length≤2000
theorem Cp.ok.nd {c:Cp} (h:c.ok):c.nd.ok:=⟨h.inp,h.hinp,h.sin⟩
theorem Cp.ok.rest {c:Cp} (h:c.ok):c.ok2:=⟨h.data,h.cps,h.cpd,h.css,h.csd⟩
theorem ok_of {c:Cp} (h1:c.number=1∨c.number=2) (h2:c.nd.number=c.number) (h3:c.nd.ok) (h4:c.ok2):c.ok:=⟨h1,h2,h3.inp,h3.hinp,h3.sin,h4.data,h4.cps,h4.cpd,h4.css,h4.csd⟩
theorem withNd {c:Cp} (h:c.ok) (n:Nd) (nx cy:Int) (a:Bool) (b1 b2:Int) (h2:n.number=c.nd.number) (h3:n.ok):(Cp.mk c.number nx cy a b1 b2 n c.ps c.co).ok:=ok_of h.num (h2.trans h.nnum) h3 ⟨h.data,h.cps,h.cpd,h.css,h.csd⟩
theorem nhello_num (n:Nd) (cy:Int) (i:List UInt8) (a b:Int):(n.hello cy i a b).1.number=n.number:=by
 unfold Nd.hello
 exact cond_p (P:=fun z:Nd×Frm×Int=>z.1.number=n.number) rfl (cond_p (P:=fun z:Nd×Frm×Int=>z.1.number=n.number) rfl (cond_p (P:=fun z:Nd×Frm×Int=>z.1.number=n.number) rfl rfl))
theorem nhello_ok {n:Nd} (h:n.ok) {cy:Int} {i:List UInt8} (hi:i.length≤1000) {a b:Int}:(n.hello cy i a b).1.ok:=by
 unfold Nd.hello
 exact cond_p (P:=fun z:Nd×Frm×Int=>z.1.ok) h (cond_p (P:=fun z:Nd×Frm×Int=>z.1.ok) h (cond_p (P:=fun z:Nd×Frm×Int=>z.1.ok) h ⟨hi,by simp [Nd.begun,noHd],by simp [Nd.begun,noSe]⟩))
theorem heard1_num (n:Nd) (f:Frm) (came:Bool):(n.heard1 f came).number=n.number:=cond_p (P:=fun z:Nd=>z.number=n.number) rfl rfl
theorem heard1_ok {n:Nd} (h:n.ok) (f:Frm) (came:Bool):(n.heard1 f came).ok:=cond_p (P:=Nd.ok) ⟨h.inp,getHello_len _,h.sin⟩ h
theorem heard2_num (n:Nd):n.heard2.number=n.number:=cond_p (P:=fun z:Nd=>z.number=n.number) rfl rfl
theorem heard2_ok {n:Nd} (h:n.ok):n.heard2.ok:=cond_p (P:=Nd.ok) ⟨h.inp,h.hinp,h.sin⟩ ⟨h.inp,by simp [noHd],h.sin⟩
theorem heard3_num (n:Nd) (r:Int):(n.heard3 r).number=n.number:=cond_p (P:=fun z:Nd=>z.number=n.number) rfl rfl
theorem heard3_ok {n:Nd} (h:n.ok) (r:Int):(n.heard3 r).ok:=cond_p (P:=Nd.ok) ⟨h.inp,h.hinp,h.sin⟩ ⟨h.inp,h.hinp,h.sin⟩
theorem nhear_num (n:Nd) (f:Frm) (came:Bool):(n.hear f came).1.number=n.number:=by
 unfold Nd.hear
 refine cond_p (P:=fun z:Nd×Hd×Bool×Int=>z.1.number=n.number) rfl ?_
 exact (heard3_num _ _).trans ((heard2_num _).trans (heard1_num _ _ _))
theorem nhear_ok {n:Nd} (h:n.ok) (f:Frm) (came:Bool):(n.hear f came).1.ok:=by
 unfold Nd.hear
 refine cond_p (P:=fun z:Nd×Hd×Bool×Int=>z.1.ok) h ?_
 have:=heard3_ok (heard2_ok (heard1_ok h f came)) (n.heard1 f came).heard2.newRole
 exact ⟨this.inp,this.hinp,this.sin⟩
theorem nshare_num (n:Nd):n.share.1.number=n.number:=by
 unfold Nd.share
 exact cond_p (P:=fun z:Nd×Frm×Bool×Int=>z.1.number=n.number) rfl (cond_p (P:=fun z:Nd×Frm×Bool×Int=>z.1.number=n.number) rfl rfl)
theorem nshare_ok {n:Nd} (h:n.ok):n.share.1.ok:=by
 unfold Nd.share
 exact cond_p (P:=fun z:Nd×Frm×Bool×Int=>z.1.ok) h (cond_p (P:=fun z:Nd×Frm×Bool×Int=>z.1.ok) ⟨h.inp,h.hinp,h.sin⟩ ⟨h.inp,h.hinp,Nat.le_trans n.packed_len (by decide)⟩)
theorem took_num (n:Nd) (f:Frm) (came:Bool):(n.took f came).number=n.number:=cond_p (P:=fun z:Nd=>z.number=n.number) (cond_p (P:=fun z:Nd=>z.number=n.number) rfl rfl) rfl
theorem took_ok {n:Nd} (h:n.ok) {f:Frm} (hf:f.payload.length≤1100) (came:Bool):(n.took f came).ok:=cond_p (P:=Nd.ok) (cond_p (P:=Nd.ok) ⟨h.inp,h.hinp,Nat.le_trans (getSet_len _ _) (Nat.le_trans hf (by decide))⟩ ⟨h.inp,h.hinp,h.sin⟩) ⟨h.inp,h.hinp,h.sin⟩
theorem stepped_num (n:Nd) (f:Frm) (came:Bool):(n.stepped f came).number=n.number:=cond_p (P:=fun z:Nd=>z.number=n.number) rfl (cond_p (P:=fun z:Nd=>z.number=n.number) (cond_p (P:=fun z:Nd=>z.number=n.number) (took_num n f came) (took_num n f came)) rfl)
theorem stepped_ok {n:Nd} (h:n.ok) {f:Frm} (hf:f.payload.length≤1100) (came:Bool):(n.stepped f came).ok:=by
 have ht:=took_ok h hf came
 exact cond_p (P:=Nd.ok) ⟨h.inp,h.hinp,h.sin⟩ (cond_p (P:=Nd.ok) (cond_p (P:=Nd.ok) ht ⟨ht.inp,ht.hinp,ht.sin⟩) ⟨h.inp,h.hinp,h.sin⟩)
theorem nstep_num (n:Nd) (f:Frm) (came:Bool):(n.step f came).1.number=n.number:=by
 unfold Nd.step
 exact cond_p (P:=fun z:Nd×Se×Bool×Int=>z.1.number=n.number) rfl (cond_p (P:=fun z:Nd×Se×Bool×Int=>z.1.number=n.number) (stepped_num n f came) (stepped_num n f came))
theorem nstep_ok {n:Nd} (h:n.ok) {f:Frm} (hf:f.payload.length≤1100) (came:Bool):(n.step f came).1.ok:=by
 have ht:=stepped_ok h hf came
 unfold Nd.step
 exact cond_p (P:=fun z:Nd×Se×Bool×Int=>z.1.ok) h (cond_p (P:=fun z:Nd×Se×Bool×Int=>z.1.ok) ⟨ht.inp,ht.hinp,ht.sin⟩ ht)
theorem nstep_in {n:Nd} (h:n.ok) {f:Frm} (hf:f.payload.length≤1100) (came:Bool):(n.step f came).2.1.in_.length≤2000:=by
 have ht:=stepped_ok h hf came
 unfold Nd.step
 exact cond_p (P:=fun z:Nd×Se×Bool×Int=>z.2.1.in_.length≤2000) (by simp [noSe]) (cond_p (P:=fun z:Nd×Se×Bool×Int=>z.2.1.in_.length≤2000) ht.sin (by simp [noSe]))
theorem ntell_num (n:Nd) (t:Tg):(n.tell t).1.number=n.number:=by
 unfold Nd.tell
 exact cond_p (P:=fun z:Nd×Frm×Bool×Int=>z.1.number=n.number) rfl (cond_p (P:=fun z:Nd×Frm×Bool×Int=>z.1.number=n.number) rfl rfl)
theorem ntell_ok {n:Nd} (h:n.ok) (t:Tg):(n.tell t).1.ok:=by
 unfold Nd.tell
 exact cond_p (P:=fun z:Nd×Frm×Bool×Int=>z.1.ok) h (cond_p (P:=fun z:Nd×Frm×Bool×Int=>z.1.ok) ⟨h.inp,h.hinp,h.sin⟩ ⟨h.inp,h.hinp,h.sin⟩)
theorem njudge_num (n:Nd) (f:Frm) (came:Bool):(n.judge f came).1.number=n.number:=by
 unfold Nd.judge
 exact cond_p (P:=fun z:Nd×Int×Int=>z.1.number=n.number) rfl rfl
theorem njudge_ok {n:Nd} (h:n.ok) (f:Frm) (came:Bool):(n.judge f came).1.ok:=by
 unfold Nd.judge
 exact cond_p (P:=fun z:Nd×Int×Int=>z.1.ok) h ⟨h.inp,h.hinp,h.sin⟩
theorem adopt_num (n:Nd) (s:Int):(n.adopt s).1.number=n.number:=by
 unfold Nd.adopt
 exact cond_p (P:=fun z:Nd×Int=>z.1.number=n.number) rfl (cond_p (P:=fun z:Nd×Int=>z.1.number=n.number) rfl rfl)
theorem adopt_ok {n:Nd} (h:n.ok) (s:Int):(n.adopt s).1.ok:=by
 unfold Nd.adopt
 exact cond_p (P:=fun z:Nd×Int=>z.1.ok) h (cond_p (P:=fun z:Nd×Int=>z.1.ok) h ⟨h.inp,h.hinp,h.sin⟩)
theorem hello_ok {c:Cp} (h:c.ok) {cy:Int} {i:List UInt8} (hi:i.length≤1000):(c.hello cy i).1.ok:=by
 have h1:=nhello_num c.nd cy i c.w.1 c.w.2
 have h2:=nhello_ok h.nd (cy:=cy) hi (a:=c.w.1) (b:=c.w.2)
 unfold Cp.hello
 refine cond_p (P:=fun z:Cp×Frm×Int=>z.1.ok) h ?_
 unfold Cp.began
 exact cond_p (P:=fun z:Cp×Frm×Int=>z.1.ok) (withNd h _ _ _ _ _ _ h1 h2) (withNd h _ _ _ _ _ _ h1 h2)
theorem hear_ok {c:Cp} (h:c.ok) {f:Frm} {came:Bool}:(c.hear f came).1.ok:=by
 have h1:=nhear_num c.nd f came
 have h2:=nhear_ok h.nd f came
 unfold Cp.hear
 refine cond_p (P:=fun z:Cp×Int=>z.1.ok) h ?_
 unfold Cp.heard
 refine cond_p (P:=fun z:Cp×Int=>z.1.ok) (withNd h _ _ _ _ _ _ h1 h2) ?_
 have h3:(c.heard1 (c.nd.hear f came)).ok:=by
  unfold Cp.heard1
  exact cond_p (P:=Cp.ok) (reset_ok (withNd h _ _ _ _ _ _ h1 h2)) (withNd h _ _ _ _ _ _ h1 h2)
 exact withNd h3 _ _ _ _ _ _ rfl h3.nd
theorem share_ok {c:Cp} (h:c.ok):c.share.1.ok:=by
 unfold Cp.share
 exact cond_p (P:=fun z:Cp×Frm×Bool×Int=>z.1.ok) h (withNd h _ _ _ _ _ _ (nshare_num _) (nshare_ok h.nd))
theorem note_ss {c:Co} {x:Se} {came:Bool} (h:c.ss.length≤874) (hp:c.ps.length≤874):(c.note x came).ss.length≤874:=by
 unfold Co.note
 refine cond_p (P:=fun z:Co=>z.ss.length≤874) h (cond_pT (P:=fun z:Co=>z.ss.length≤874) (fun _=>Nat.zero_le _) fun hm=>?_)
 unfold Co.misses at hm
 simp only [Bool.or_eq_false_iff,decide_eq_false_iff_not] at hm
 show (c.ss++[x.t]).length≤874
 rw [List.length_append,List.length_singleton]
 omega
theorem note_csd {c:Co} {x:Se} {came:Bool} (h:∀ y∈c.ss,y.2.2.2.length≤2000) (hx:x.in_.length≤2000):∀ y∈(c.note x came).ss,y.2.2.2.length≤2000:=by
 unfold Co.note
 refine cond_p (P:=fun z:Co=>∀ y∈z.ss,y.2.2.2.length≤2000) h (cond_p (P:=fun z:Co=>∀ y∈z.ss,y.2.2.2.length≤2000) (by intro y hy;cases hy) ?_)
 intro y hy
 rcases List.mem_append.1 hy with hy | hy
 ·exact h y hy
 ·rw [List.mem_singleton] at hy;subst hy;exact hx
theorem note_ps {c:Co} {x:Se} {came:Bool}:(c.note x came).ps=c.ps∨(c.note x came).ps=[]:=by
 unfold Co.note
 exact cond_p (P:=fun z:Co=>z.ps=c.ps∨z.ps=[]) (.inl rfl) (cond_p (P:=fun z:Co=>z.ps=c.ps∨z.ps=[]) (.inr rfl) (.inl rfl))
theorem noted_ok {c:Cp} (h:c.ok) {f:Frm} (hf:f.payload.length≤1100) (came:Bool):(c.noted f came).ok:=by
 refine ok_of h.num h.nnum h.nd ⟨h.data,?_,?_,note_ss h.css h.cps,note_csd h.csd (Nat.le_trans (getSet_len _ _) (Nat.le_trans hf (by decide)))⟩
 ·show (c.co.note _ _).ps.length≤874
  rcases note_ps (c:=c.co) (x:=(getSet c.cycle f.payload).1) (came:=c.setFits f came) with e | e
  ·rw [e];exact h.cps
  ·rw [e];exact Nat.zero_le _
 ·show ∀ x∈(c.co.note _ _).ps,x.length≤600
  rcases note_ps (c:=c.co) (x:=(getSet c.cycle f.payload).1) (came:=c.setFits f came) with e | e
  ·rw [e];exact h.cpd
  ·rw [e];intro x hx;cases hx
theorem step_ok {c:Cp} (h:c.ok) {f:Frm} (hf:f.payload.length≤1100) {came:Bool}:(c.step f came).1.ok:=by
 have h1:=nstep_num c.nd f came
 have h2:=nstep_ok h.nd hf came
 unfold Cp.step
 refine cond_p (P:=fun z:Cp×Se×Bool×Int=>z.1.ok) h ?_
 have h3:=withNd h _ 4 c.cycle c.asked c.wb c.wh h1 h2
 show (c.stepped (c.nd.step f came) f came).ok
 unfold Cp.stepped
 exact cond_p (P:=Cp.ok) (noted_ok (cond_p (P:=Cp.ok) h3 (reset_ok h3)) hf came) h3
theorem step_in {c:Cp} (h:c.ok) {f:Frm} (hf:f.payload.length≤1100) {came:Bool}:(c.step f came).2.1.in_.length≤2000:=by
 have h2:=nstep_in h.nd hf came
 unfold Cp.step
 exact cond_p (P:=fun z:Cp×Se×Bool×Int=>z.2.1.in_.length≤2000) (by simp [noSe]) h2
theorem tell_ok {c:Cp} (h:c.ok) {t:Tg}:(c.tell t).1.ok:=by
 unfold Cp.tell
 exact cond_p (P:=fun z:Cp×Frm×Bool×Int=>z.1.ok) h (withNd h _ _ _ _ _ _ (ntell_num _ _) (ntell_ok h.nd _))
theorem judge_ok {c:Cp} (h:c.ok) {f:Frm} {came:Bool}:(c.judge f came).1.ok:=by
 unfold Cp.judge
 exact cond_p (P:=fun z:Cp×Int×Int=>z.1.ok) h (withNd h _ _ _ _ _ _ (njudge_num _ _ _) (njudge_ok h.nd _ _))
theorem serve_data {ps:List PT} (h:∀ p∈ps,p.2.2.2.length≤600) (base have_ steps:Int) (save:List UInt8):∀ p∈(serve ps base have_ steps save).1,p.2.2.2.length≤600:=by
 unfold serve
 refine cond_p (P:=fun z:List PT×PT×Int=>∀ p∈z.1,p.2.2.2.length≤600) h (cond_p (P:=fun z:List PT×PT×Int=>∀ p∈z.1,p.2.2.2.length≤600) h ?_)
 show ∀ p∈(split steps save).2,p.2.2.2.length≤600
 unfold split
 refine cond_p (P:=fun z:Int×List PT=>∀ p∈z.2,p.2.2.2.length≤600) (by intro p hp;cases hp) (cond_p (P:=fun z:Int×List PT=>∀ p∈z.2,p.2.2.2.length≤600) (by intro p hp;cases hp) ?_)
 intro p hp
 exact splitL_data hp
theorem serve_ok {c:Cp} (h:c.ok) {save:List UInt8}:(c.serve save).1.ok:=by
 unfold Cp.serve
 refine cond_p (P:=fun z:Cp×Frm×Bool×Int=>z.1.ok) h (cond_p (P:=fun z:Cp×Frm×Bool×Int=>z.1.ok) ?_ (withNd h _ _ _ _ _ _ rfl h.nd))
 have hd:=serve_data h.data c.wb c.wh c.nd.steps save
 unfold Cp.served
 exact cond_p (P:=fun z:Cp×Frm×Bool×Int=>z.1.ok) (ok_of h.num h.nnum h.nd ⟨hd,h.cps,h.cpd,h.css,h.csd⟩) (ok_of h.num h.nnum h.nd ⟨hd,h.cps,h.cpd,h.css,h.csd⟩)
theorem take_ok {c:Cp} (h:c.ok) {f:Frm} {came:Bool}:(c.take f came).1.ok:=by
 unfold Cp.take
 refine cond_p (P:=fun z:Cp×JobT×Bool×Int=>z.1.ok) h (cond_p (P:=fun z:Cp×JobT×Bool×Int=>z.1.ok) ?_ (withNd h _ _ _ _ _ _ rfl h.nd))
 have hg:(c.got f came).ok:=got_ok h
 refine cond_p (P:=fun z:Cp×JobT×Bool×Int=>z.1.ok) ?_ hg
 unfold Cp.jobDone
 have:=withNd hg ((c.got f came).nd.adopt (IntKind.i64.wrap ((c.got f came).co.base+((c.got f came).co.ss.length:Int)))).1 (c.got f came).next (c.got f came).cycle (c.got f came).asked (c.got f came).wb (c.got f came).wh (adopt_num _ _) (adopt_ok hg.nd _)
 exact cond_p (P:=fun z:Cp×JobT×Bool×Int=>z.1.ok) this (reset_ok this)
structure JobOk (j:JobT):Prop where
 snap:j.2.1.length≤600*874
 sets:j.2.2.length≤874
 ins:∀ x∈j.2.2,x.2.2.2.length≤2000
theorem take_job {c:Cp} (h:c.ok) {f:Frm} {came:Bool}:JobOk (c.take f came).2.1:=by
 have h0:JobOk noJob:=⟨by simp [noJob],by simp [noJob],by simp [noJob]⟩
 unfold Cp.take
 refine cond_p (P:=fun z:Cp×JobT×Bool×Int=>JobOk z.2.1) h0 (cond_p (P:=fun z:Cp×JobT×Bool×Int=>JobOk z.2.1) ?_ h0)
 have hg:(c.got f came).ok:=got_ok h
 refine cond_p (P:=fun z:Cp×JobT×Bool×Int=>JobOk z.2.1) ?_ h0
 unfold Cp.jobDone
 refine cond_p (P:=fun z:Cp×JobT×Bool×Int=>JobOk z.2.1) h0 ⟨?_,hg.css,hg.csd⟩
 show ((c.got f came).co.ps.flatten).length≤600*874
 have key:∀ l:List (List UInt8),(∀ x∈l,x.length≤600)→l.flatten.length≤600*l.length:=by
  intro l
  induction l with
  | nil=>intro _;simp
  | cons a l ih =>
   intro hl
   have h1:=hl a (by simp)
   have h2:=ih fun x hx=>hl x (by simp [hx])
   simp only [List.flatten_cons,List.length_append,List.length_cons]
   omega
 have:=key _ hg.cpd
 have:=hg.cps
 omega
structure Pr where
 init:List UInt8
 r1:Int
 r2:Int
 r3:Int
 r4:Int
 cycle:Int
 use:Tg
def Pr.e (p:Pr):((List UInt8×Int×Int)×Int×Int×Int)×(Int×Int×Int)×(Int×Int)×Int×Int:=(((p.init,p.r1,p.r2),p.r3,p.r4,p.cycle),p.use.e)
structure Ev where
 s1:Bool
 s2:Bool
 r1:Bool
 r2:Bool
 k1:Bool
 k2:Bool
 w1:Int
 w2:Int
 f10:Ft
 f11:Ft
 f12:Ft
 f13:Ft
 f20:Ft
 f21:Ft
 f22:Ft
 f23:Ft
def Ev.e (v:Ev):(((((Bool×Bool)×Bool×Bool)×(Bool×Bool)×Int×Int)×((Bool×Int)×Int×Bool)×(Int×Int)×Bool×Int)×(((Int×Bool)×Int×Int)×(Bool×Int)×Int×Bool)×((Int×Int)×Bool×Int)×(Int×Bool)×Int×Int) :=
 (((((v.s1,v.s2),v.r1,v.r2),(v.k1,v.k2),v.w1,v.w2),((v.f10.lost,v.f10.bit),v.f10.pat,v.f11.lost),(v.f11.bit,v.f11.pat),v.f12.lost,v.f12.bit),(((v.f12.pat,v.f13.lost),v.f13.bit,v.f13.pat),(v.f20.lost,v.f20.bit),v.f20.pat,v.f21.lost),((v.f21.bit,v.f21.pat),v.f22.lost,v.f22.bit),(v.f22.pat,v.f23.lost),v.f23.bit,v.f23.pat)
structure Rep where
 cycle:Int
 role1:Int
 role2:Int
 st1:Int
 st2:Int
 steps1:Int
 steps2:Int
 t1:Tg
 t2:Tg
 src:Int
 use:Tg
def Rep.e (r:Rep):(((Int×Int×Int)×(Int×Int)×Int×Int)×(Int×Int×Int)×(Int×Int)×Int×Int)×((Int×Int×Int)×(Int×Int)×Int×Int)×((Int×Int)×Int×Int)×(Int×Int)×Int×Int :=
 ((((r.cycle,r.role1,r.role2),(r.st1,r.st2),r.steps1,r.steps2),r.t1.e),r.t2.e,((r.src,r.use.lat),r.use.ver,r.use.ph),(r.use.bank,r.use.speed),r.use.alt,r.use.vs)
structure W where
 p:Pr
 m1:Mc
 m2:Mc
 c1:Cp
 c2:Cp
 r:Rep
 f1:Frm
 f2:Frm
 b1:Bool
 b2:Bool
 s1:Bool
 s2:Bool
def wire (f:Frm) (ok:Bool) (ft:Ft) (lab frm cy:Int):Frm×Bool:=cond ok (cond ((encF f).1 != 0) (noFrm,false) (receive (encF f).2 ft lab frm cy)) (noFrm,false)
theorem encF_len (f:Frm):(encF f).2.length≤1016:=by
 unfold encF
 refine cond_pT (P:=fun z:Int×List UInt8=>z.2.length≤1016) (fun _=>Nat.zero_le _) fun h=>?_
 have h:=of_decide_eq_false h
 show (hdrB f++seal4 (crcI (hdrB f))).length≤1016
 simp only [hdrB,seal4,List.length_append,List.length_cons,List.length_nil,putB_len]
 omega
theorem wire_eq {α:Type} (f:Frm) (ok:Bool) (ft:Ft) (lab frm cy:Int) (G:Frm×Bool→α) :
  cnd (!ok) (some (G (noFrm,false))) (bd (o69 f.e) (fun v2=>cnd (v2.1 != 0) (some (G (noFrm,false))) (bd (o70 v2.2 ft.e lab frm cy) (fun v4=>some (G (⟨v4.1.1,v4.1.2,v4.2.1,v4.2.2.1⟩,v4.2.2.2))))))=some (G (wire f ok ft lab frm cy)):=by
 unfold wire
 refine cndN_ext (c:=ok) (F:=G) ?_ rfl
 refine (bdS (o69_eq f)).trans ?_
 refine cnd_ext (c:=(encF f).1 != 0) (F:=G) rfl ?_
 exact bdS (o70_eq (Nat.le_trans (encF_len f) (by decide)))
theorem decF_len (q:List UInt8):(decF q).1.payload.length≤q.length:=by
 have h:=opn_len q
 unfold decF
 refine cond_p (P:=fun z:Frm×Int=>z.1.payload.length≤q.length) (Nat.zero_le _) (cond_p (P:=fun z:Frm×Int=>z.1.payload.length≤q.length) (Nat.zero_le _) (cond_p (P:=fun z:Frm×Int=>z.1.payload.length≤q.length) (Nat.zero_le _) ?_))
 show ((opn q).2.drop 12).length≤q.length
 rw [List.length_drop];omega
theorem receive_len (b:List UInt8) (ft:Ft) (lab frm cy:Int):(receive b ft lab frm cy).1.payload.length≤b.length:=by
 have h1:=carry_len b ft
 have h2:=decF_len (carry b ft).2
 unfold receive
 refine cond_p (P:=fun z:Frm×Bool=>z.1.payload.length≤b.length) ?_ (Nat.zero_le _)
 unfold arrived
 exact cond_p (P:=fun z:Frm×Bool=>z.1.payload.length≤b.length) (Nat.zero_le _) (Nat.le_trans h2 h1)
theorem wire_len (f:Frm) (ok:Bool) (ft:Ft) (lab frm cy:Int):(wire f ok ft lab frm cy).1.payload.length≤1100:=by
 unfold wire
 refine cond_p (P:=fun z:Frm×Bool=>z.1.payload.length≤1100) (cond_p (P:=fun z:Frm×Bool=>z.1.payload.length≤1100) (Nat.zero_le _) ?_) (Nat.zero_le _)
 exact Nat.le_trans (receive_len _ _ _ _ _) (Nat.le_trans (encF_len f) (by decide))
def inpC (l:List UInt8):List UInt8:=cond (decide ((l.length:Int) > 400)) [] l
theorem inpC_len (l:List UInt8):(inpC l).length≤400:=by
 unfold inpC
 exact cond_pT (P:=fun z:List UInt8=>z.length≤400) (fun _=>Nat.zero_le _) fun h=>by have:=of_decide_eq_false h;omega
def snd0 (c:Cp) (cy:Int) (l:List UInt8):Cp×Frm×Bool:=((c.hello cy (inpC l)).1,(c.hello cy (inpC l)).2.1,(c.hello cy (inpC l)).2.2==0)
def snd1 (c:Cp):Cp×Frm×Bool:=(c.share.1,c.share.2.1,c.share.2.2.1)
def snd2 (c:Cp) (t:Tg):Cp×Frm×Bool:=((c.tell t).1,(c.tell t).2.1,(c.tell t).2.2.1)
def snd3 (c:Cp) (m:Mc):Cp×Frm×Bool:=((c.serve (cond c.asked (saveB m) [])).1,(c.serve (cond c.asked (saveB m) [])).2.1,(c.serve (cond c.asked (saveB m) [])).2.2.1)
theorem snd0_ok {c:Cp} (h:c.ok) {cy:Int} {l:List UInt8}:(snd0 c cy l).1.ok:=hello_ok h (Nat.le_trans (inpC_len l) (by decide))
theorem snd1_ok {c:Cp} (h:c.ok):(snd1 c).1.ok:=share_ok h
theorem snd2_ok {c:Cp} (h:c.ok) {t:Tg}:(snd2 c t).1.ok:=tell_ok h
theorem snd3_ok {c:Cp} (h:c.ok) {m:Mc}:(snd3 c m).1.ok:=serve_ok h
def W.clr (w:W):W:={ w with f1:=noFrm,f2:=noFrm,b1:=false,b2:=false,s1:=false,s2:=false }
def W.put1 (w:W) (a:Bool) (x:Cp×Frm×Bool) (ft:Ft) (lab:Int):W:={ w with c1:=cond a x.1 w.c1,f2:=cond a (wire x.2.1 x.2.2 ft lab 1 w.p.cycle).1 w.f2,b2:=cond a (wire x.2.1 x.2.2 ft lab 1 w.p.cycle).2 w.b2 }
def W.put2 (w:W) (a:Bool) (x:Cp×Frm×Bool) (ft:Ft) (lab:Int):W:={ w with c2:=cond a x.1 w.c2,f1:=cond a (wire x.2.1 x.2.2 ft lab 2 w.p.cycle).1 w.f1,b1:=cond a (wire x.2.1 x.2.2 ft lab 2 w.p.cycle).2 w.b1 }
def W.ex0 (w:W) (a b:Bool) (v:Ev) (one two:List UInt8):W:=(w.clr.put1 a (snd0 w.c1 w.p.cycle one) v.f10 1).put2 b (snd0 w.c2 w.p.cycle two) v.f20 1
def W.ex1 (w:W) (a b:Bool) (v:Ev):W:=(w.clr.put1 a (snd1 w.c1) v.f11 2).put2 b (snd1 w.c2) v.f21 2
def W.ex2 (w:W) (a b:Bool) (v:Ev):W:=(w.clr.put1 a (snd2 w.c1 w.r.t1) v.f12 3).put2 b (snd2 w.c2 w.r.t2) v.f22 3
def W.ex3 (w:W) (a b:Bool) (v:Ev):W:=(w.clr.put1 a (snd3 w.c1 w.m1) v.f13 4).put2 b (snd3 w.c2 w.m2) v.f23 4
def W.hear (w:W) (a b:Bool):W:={ w with c1:=cond a (w.c1.hear w.f1 w.b1).1 w.c1,c2:=cond b (w.c2.hear w.f2 w.b2).1 w.c2 }
def stepA (init:List UInt8) (m:Mc) (x:Se):Mc:=(cond x.fresh (m.load init).1 m).stepM x.cycle x.in_
def Tg.wrong (t:Tg) (k:Int):Tg:={ t with bank:=lxorK .i64 t.bank k }
def W.step1 (w:W) (v:Ev) (x:Cp×Se×Bool×Int):W:={ w with c1:=x.1,m1:=cond x.2.2.1 (stepA w.p.init w.m1 x.2.1) w.m1,s1:=cond x.2.2.1 true w.s1,r:={ w.r with t1:=cond x.2.2.1 ((stepA w.p.init w.m1 x.2.1).tg.wrong v.w1) w.r.t1 } }
def W.step2 (w:W) (v:Ev) (x:Cp×Se×Bool×Int):W:={ w with c2:=x.1,m2:=cond x.2.2.1 (stepA w.p.init w.m2 x.2.1) w.m2,s2:=cond x.2.2.1 true w.s2,r:={ w.r with t2:=cond x.2.2.1 ((stepA w.p.init w.m2 x.2.1).tg.wrong v.w2) w.r.t2 } }
def W.stepA1 (w:W) (a:Bool) (v:Ev):W:=cond a (w.step1 v (w.c1.step w.f1 w.b1)) w
def W.stepA2 (w:W) (a:Bool) (v:Ev):W:=cond a (w.step2 v (w.c2.step w.f2 w.b2)) w
def W.step (w:W) (a b:Bool) (v:Ev):W:=(w.stepA1 a v).stepA2 b v
def W.judge (w:W) (a b:Bool):W:={ w with c1:=cond a (w.c1.judge w.f1 w.b1).1 w.c1,c2:=cond b (w.c2.judge w.f2 w.b2).1 w.c2,r:={ w.r with st1:=cond a (w.c1.judge w.f1 w.b1).2.1 w.r.st1,st2:=cond b (w.c2.judge w.f2 w.b2).2.1 w.r.st2 } }
def runL (m:Mc) (l:List ST):Mc:=l.foldl (fun m x=>m.stepM x.2.1 x.2.2.2) m
def tookA (m:Mc) (x:Cp×JobT×Bool×Int):Cp×Mc:=cond x.2.2.1 (cond ((m.load x.2.1.2.1).2 != 0) (x.1.drop,(m.load x.2.1.2.1).1) (x.1,runL (m.load x.2.1.2.1).1 x.2.1.2.2)) (x.1,m)
def W.take (w:W) (a b:Bool):W:={ w with c1:=cond a (tookA w.m1 (w.c1.take w.f1 w.b1)).1 w.c1,m1:=cond a (tookA w.m1 (w.c1.take w.f1 w.b1)).2 w.m1,c2:=cond b (tookA w.m2 (w.c2.take w.f2 w.b2)).1 w.c2,m2:=cond b (tookA w.m2 (w.c2.take w.f2 w.b2)).2 w.m2 }
def W.node (w:W) (a b:Bool):W:={ w with r:={ w.r with role1:=cond a w.c1.nd.role w.r.role1,steps1:=cond a w.c1.nd.steps w.r.steps1,role2:=cond b w.c2.nd.role w.r.role2,steps2:=cond b w.c2.nd.steps w.r.steps2 } }
def W.src (w:W):Int:=select w.r.st1 w.r.st2
def W.used (w:W):Tg:=cond (w.src != 0) (limit w.p.use (cond (w.src==1) w.r.t1 w.r.t2) w.p.r1 w.p.r2 w.p.r3 w.p.r4) w.p.use
def W.fin (w:W):W:={ w with p:={ w.p with use:=w.used },r:={ w.r with src:=w.src,use:=w.used } }
def W.all (w:W) (a b:Bool) (v:Ev) (one two:List UInt8):W :=
 (((((((((w.ex0 a b v one two).hear a b).ex1 a b v).step a b v).ex2 a b v).judge a b).ex3 a b v).take a b).node a b).fin
structure W.ok (w:W) (a b:Bool):Prop where
 init:w.p.init.length≤1000000
 p1:0≤w.m1.pad∧w.m1.pad≤10000
 p2:0≤w.m2.pad∧w.m2.pad≤10000
 c1:a=true→w.c1.ok
 c2:b=true→w.c2.ok
 f1:w.f1.payload.length≤1100
 f2:w.f2.payload.length≤1100
theorem tookA_ok {m:Mc} {c:Cp} (h:c.ok) {f:Frm} {came:Bool}:(tookA m (c.take f came)).1.ok:=by
 have:=take_ok h (f:=f) (came:=came)
 unfold tookA
 exact cond_p (P:=fun z:Cp×Mc=>z.1.ok) (cond_p (P:=fun z:Cp×Mc=>z.1.ok) (drop_ok this) this) this
theorem runL_pad (m:Mc) (l:List ST):(runL m l).pad=m.pad:=by
 unfold runL
 induction l generalizing m with
 | nil=>rfl
 | cons x l ih=>exact (ih _).trans (stepM_pad _ _ _)
theorem tookA_pad (m:Mc) (x:Cp×JobT×Bool×Int):(tookA m x).2.pad=m.pad:=by
 have h:=load_pad m x.2.1.2.1
 unfold tookA
 exact cond_p (P:=fun z:Cp×Mc=>z.2.pad=m.pad) (cond_p (P:=fun z:Cp×Mc=>z.2.pad=m.pad) h ((runL_pad _ _).trans h)) rfl
theorem stepA_pad (i:List UInt8) (m:Mc) (x:Se):(stepA i m x).pad=m.pad:=by
 have h:=load_pad m i
 unfold stepA
 exact (stepM_pad _ _ _).trans (cond_p (P:=fun z:Mc=>z.pad=m.pad) h rfl)
theorem ex_ok {w:W} {a b:Bool} (h:w.ok a b) {x y:Cp×Frm×Bool} {ft gt:Ft} {lab mab:Int} (hx:a=true→x.1.ok) (hy:b=true→y.1.ok):((w.clr.put1 a x ft lab).put2 b y gt mab).ok a b:=by
 refine ⟨h.init,h.p1,h.p2,fun e=>?_,fun e=>?_,?_,?_⟩
 ·subst e;exact hx rfl
 ·subst e;exact hy rfl
 ·exact cond_p (P:=fun z:Frm=>z.payload.length≤1100) (wire_len _ _ _ _ _ _) (Nat.zero_le _)
 ·exact cond_p (P:=fun z:Frm=>z.payload.length≤1100) (wire_len _ _ _ _ _ _) (Nat.zero_le _)
theorem ex0_ok {w:W} {a b:Bool} (h:w.ok a b) {v:Ev} {one two:List UInt8}:(w.ex0 a b v one two).ok a b:=ex_ok h (fun e=>snd0_ok (h.c1 e)) (fun e=>snd0_ok (h.c2 e))
theorem ex1_ok {w:W} {a b:Bool} (h:w.ok a b) {v:Ev}:(w.ex1 a b v).ok a b:=ex_ok h (fun e=>snd1_ok (h.c1 e)) (fun e=>snd1_ok (h.c2 e))
theorem ex2_ok {w:W} {a b:Bool} (h:w.ok a b) {v:Ev}:(w.ex2 a b v).ok a b:=ex_ok h (fun e=>snd2_ok (h.c1 e)) (fun e=>snd2_ok (h.c2 e))
theorem ex3_ok {w:W} {a b:Bool} (h:w.ok a b) {v:Ev}:(w.ex3 a b v).ok a b:=ex_ok h (fun e=>snd3_ok (h.c1 e)) (fun e=>snd3_ok (h.c2 e))
theorem whear_ok {w:W} {a b:Bool} (h:w.ok a b):(w.hear a b).ok a b:=⟨h.init,h.p1,h.p2,fun e=>by subst e;exact hear_ok (h.c1 rfl),fun e=>by subst e;exact hear_ok (h.c2 rfl),h.f1,h.f2⟩
theorem stepA1_ok {w:W} {a b:Bool} (h:w.ok a b) {v:Ev}:(w.stepA1 a v).ok a b:=by
 unfold W.stepA1
 refine cond_pT (P:=fun z:W=>z.ok a b) (fun e=>⟨h.init,?_,h.p2,fun _=>step_ok (h.c1 e) h.f1,h.c2,h.f1,h.f2⟩) fun _=>h
 exact cond_p (P:=fun z:Mc=>0≤z.pad∧z.pad≤10000) (by rw [stepA_pad];exact h.p1) h.p1
theorem stepA2_ok {w:W} {a b:Bool} (h:w.ok a b) {v:Ev}:(w.stepA2 b v).ok a b:=by
 unfold W.stepA2
 refine cond_pT (P:=fun z:W=>z.ok a b) (fun e=>⟨h.init,h.p1,?_,h.c1,fun _=>step_ok (h.c2 e) h.f2,h.f1,h.f2⟩) fun _=>h
 exact cond_p (P:=fun z:Mc=>0≤z.pad∧z.pad≤10000) (by rw [stepA_pad];exact h.p2) h.p2
theorem wstep_ok {w:W} {a b:Bool} (h:w.ok a b) {v:Ev}:(w.step a b v).ok a b:=stepA2_ok (stepA1_ok h)
theorem wjudge_ok {w:W} {a b:Bool} (h:w.ok a b):(w.judge a b).ok a b:=⟨h.init,h.p1,h.p2,fun e=>by subst e;exact judge_ok (h.c1 rfl),fun e=>by subst e;exact judge_ok (h.c2 rfl),h.f1,h.f2⟩
theorem wtake_ok {w:W} {a b:Bool} (h:w.ok a b):(w.take a b).ok a b:=by
 refine ⟨h.init,?_,?_,fun e=>by subst e;exact tookA_ok (h.c1 rfl),fun e=>by subst e;exact tookA_ok (h.c2 rfl),h.f1,h.f2⟩
 ·exact cond_p (P:=fun z:Mc=>0≤z.pad∧z.pad≤10000) (by rw [tookA_pad];exact h.p1) h.p1
 ·exact cond_p (P:=fun z:Mc=>0≤z.pad∧z.pad≤10000) (by rw [tookA_pad];exact h.p2) h.p2
theorem wnode_ok {w:W} {a b:Bool} (h:w.ok a b):(w.node a b).ok a b:=⟨h.init,h.p1,h.p2,h.c1,h.c2,h.f1,h.f2⟩
theorem fin_ok {w:W} {a b:Bool} (h:w.ok a b):w.fin.ok a b:=⟨h.init,h.p1,h.p2,h.c1,h.c2,h.f1,h.f2⟩
theorem all_ok {w:W} {a b:Bool} (h:w.ok a b) {v:Ev} {one two:List UInt8}:(w.all a b v one two).ok a b:=fin_ok (wnode_ok (wtake_ok (ex3_ok (wjudge_ok (ex2_ok (wstep_ok (ex1_ok (whear_ok (ex0_ok h)))))))))
theorem o84_eq {n:Nd} (h:n.ok):o84 n.e=some n.e:=by
 unfold o84
 exact (bdS (o33_eq (Nat.le_trans h.inp (by decide)))).trans ((bdS (o33_eq (Nat.le_trans h.hinp (by decide)))).trans (bdS (o33_eq (Nat.le_trans h.sin (by decide)))))
theorem o43_eq {c:Cp} (h:c.ok) (x:(Int×Int)×List (List UInt8)×List ST):o43 c.h c.nd.e c.ps x=some c.nd.e:=by
 unfold o43
 exact bdS (o84_eq h.nd)
theorem le_mil {x:Int} (h:x≤10000):x≤1000000:=by omega
theorem put1_ok {w:W} {a b:Bool} (h:w.ok a b) {x:Cp×Frm×Bool} {ft:Ft} {lab:Int} (hx:x.1.ok):(w.clr.put1 true x ft lab).ok a b :=
 ⟨h.init,h.p1,h.p2,fun _=>hx,h.c2,Nat.zero_le _,wire_len _ _ _ _ _ _⟩
theorem whear_okG {w:W} {a b x y:Bool} (h:w.ok a b):(w.hear x y).ok a b:=⟨h.init,h.p1,h.p2,fun e=>cond_p (P:=Cp.ok) (hear_ok (h.c1 e)) (h.c1 e),fun e=>cond_p (P:=Cp.ok) (hear_ok (h.c2 e)) (h.c2 e),h.f1,h.f2⟩
theorem wjudge_okG {w:W} {a b x y:Bool} (h:w.ok a b):(w.judge x y).ok a b:=⟨h.init,h.p1,h.p2,fun e=>cond_p (P:=Cp.ok) (judge_ok (h.c1 e)) (h.c1 e),fun e=>cond_p (P:=Cp.ok) (judge_ok (h.c2 e)) (h.c2 e),h.f1,h.f2⟩
theorem wnode_okG {w:W} {a b x y:Bool} (h:w.ok a b):(w.node x y).ok a b:=⟨h.init,h.p1,h.p2,h.c1,h.c2,h.f1,h.f2⟩
theorem wtake_okG {w:W} {a b x y:Bool} (h:w.ok a b):(w.take x y).ok a b:=by
 refine ⟨h.init,?_,?_,fun e=>cond_p (P:=Cp.ok) (tookA_ok (h.c1 e)) (h.c1 e),fun e=>cond_p (P:=Cp.ok) (tookA_ok (h.c2 e)) (h.c2 e),h.f1,h.f2⟩
 ·exact cond_p (P:=fun z:Mc=>0≤z.pad∧z.pad≤10000) (by rw [tookA_pad];exact h.p1) h.p1
 ·exact cond_p (P:=fun z:Mc=>0≤z.pad∧z.pad≤10000) (by rw [tookA_pad];exact h.p2) h.p2
theorem runL_succ (m:Mc) {l:List ST} {i:Nat} (h:i < l.length):(runL m (l.take i)).stepM (l.getD i (0,0,false,[])).2.1 (l.getD i (0,0,false,[])).2.2.2=runL m (l.take (i+1)):=by
 unfold runL
 rw [List.take_succ_eq_append_getElem h,List.foldl_append,getD_of h]
 rfl
theorem go_next {α β:Type} {a a':Mc} {k:Int} {k':Nat} (h:a=a') (h2:k=(k':Int)+1) (F:Mc→Int→α):some (Ctl.go (ρ:=β) (F a k))=some (Ctl.go (F a' ((k'+1:Nat):Int))):=by
 subst h;subst h2;rfl
theorem o24_eq {w:W} (h:w.ok true false) (one two:List UInt8):o24 (one,two) w.p.e w.m1.e w.m2.e w.c1.h w.c1.nd.e w.c1.ps w.c1.cz w.c1.co.ps w.c1.co.ss=some ((((((snd0 w.c1 w.p.cycle one).2.1.label,(snd0 w.c1 w.p.cycle one).2.1.from_),(snd0 w.c1 w.p.cycle one).2.1.cycle,(snd0 w.c1 w.p.cycle one).2.1.payload,(snd0 w.c1 w.p.cycle one).2.2),w.p.e),w.m1.e,w.m2.e,(snd0 w.c1 w.p.cycle one).1.h),((snd0 w.c1 w.p.cycle one).1.nd.e,(snd0 w.c1 w.p.cycle one).1.ps),(snd0 w.c1 w.p.cycle one).1.cz,(snd0 w.c1 w.p.cycle one).1.co.ps,(snd0 w.c1 w.p.cycle one).1.co.ss):=by
 unfold o24
 refine (bdS (t:=(((inpC one,(one,two),w.p.e),w.m1.e,w.m2.e,w.c1.h),(w.c1.nd.e,w.c1.ps,w.c1.cz),w.c1.co.ps,w.c1.co.ss,((0:Int),(0:Int)),(0:Int),([]:List UInt8))) ?_).trans ?_
 ·unfold inpC;exact cnd_ext (c:=decide (((one.length:Nat):Int) > 400)) (F:=fun z:List UInt8=>(((z,(one,two),w.p.e),w.m1.e,w.m2.e,w.c1.h),(w.c1.nd.e,w.c1.ps,w.c1.cz),w.c1.co.ps,w.c1.co.ss,((0:Int),(0:Int)),(0:Int),([]:List UInt8))) (X:=[]) (Y:=one) rfl rfl
 ·exact (bdS (o25_eq (c:=w.c1) (cy:=w.p.cycle) (inp:=inpC one) (Nat.le_trans (inpC_len one) (by decide)))).trans rfl
theorem o23_eq {w:W} (h:w.ok true false) (v:Ev) (one two:List UInt8):o23 v.e w.p.e w.m1.e w.m2.e w.c1.h w.c1.nd.e w.c1.ps w.c1.cz w.c1.co.ps w.c1.co.ss (one,two)=some (((((((0:Int),(0:Int)),(0:Int),([]:List UInt8),(w.ex0 true false v one two).f2.label),((w.ex0 true false v one two).f2.from_,(w.ex0 true false v one two).f2.cycle),(w.ex0 true false v one two).f2.payload,false,(w.ex0 true false v one two).b2),(w.ex0 true false v one two).p.e),(w.ex0 true false v one two).m1.e,(w.ex0 true false v one two).m2.e,(w.ex0 true false v one two).c1.h),((w.ex0 true false v one two).c1.nd.e,(w.ex0 true false v one two).c1.ps,(w.ex0 true false v one two).c1.cz),(w.ex0 true false v one two).c1.co.ps,(w.ex0 true false v one two).c1.co.ss,one,two):=by
 unfold o23
 refine (bdS (t:=((((w.clr.put1 true (snd0 w.c1 w.p.cycle one) v.f10 1).p.e,(w.clr.put1 true (snd0 w.c1 w.p.cycle one) v.f10 1).m1.e,(w.clr.put1 true (snd0 w.c1 w.p.cycle one) v.f10 1).m2.e),(w.clr.put1 true (snd0 w.c1 w.p.cycle one) v.f10 1).c1.h,(w.clr.put1 true (snd0 w.c1 w.p.cycle one) v.f10 1).c1.nd.e,(w.clr.put1 true (snd0 w.c1 w.p.cycle one) v.f10 1).c1.ps),((w.clr.put1 true (snd0 w.c1 w.p.cycle one) v.f10 1).c1.cz,(w.clr.put1 true (snd0 w.c1 w.p.cycle one) v.f10 1).c1.co.ps,(w.clr.put1 true (snd0 w.c1 w.p.cycle one) v.f10 1).c1.co.ss),((one,two),v.e),((((0:Int),(0:Int)),(0:Int),([]:List UInt8)),(w.clr.put1 true (snd0 w.c1 w.p.cycle one) v.f10 1).f2.e),false,(w.clr.put1 true (snd0 w.c1 w.p.cycle one) v.f10 1).b2)) ?_).trans rfl
 ·refine (bdS (o24_eq (w:=w) h one two)).trans ?_
  exact wire_eq (snd0 w.c1 w.p.cycle one).2.1 (snd0 w.c1 w.p.cycle one).2.2 v.f10 1 1 w.p.cycle (fun z:Frm×Bool=>(((w.clr.p.e,w.clr.m1.e,w.clr.m2.e),(snd0 w.c1 w.p.cycle one).1.h,(snd0 w.c1 w.p.cycle one).1.nd.e,(snd0 w.c1 w.p.cycle one).1.ps),((snd0 w.c1 w.p.cycle one).1.cz,(snd0 w.c1 w.p.cycle one).1.co.ps,(snd0 w.c1 w.p.cycle one).1.co.ss),((one,two),v.e),((((0:Int),(0:Int)),(0:Int),([]:List UInt8)),z.1.e),false,z.2))
theorem o29_eq {w:W} (h:w.ok true false):o29 w.p.e w.m1.e w.m2.e w.c1.h w.c1.nd.e w.c1.ps w.c1.cz w.c1.co.ps w.c1.co.ss=some ((((((snd1 w.c1).2.1.label,(snd1 w.c1).2.1.from_),(snd1 w.c1).2.1.cycle,(snd1 w.c1).2.2),w.p.e),w.m1.e,w.m2.e,(snd1 w.c1).1.h),((snd1 w.c1).1.nd.e,(snd1 w.c1).1.ps,(snd1 w.c1).1.cz),(snd1 w.c1).1.co.ps,(snd1 w.c1).1.co.ss,(snd1 w.c1).2.1.payload):=by
 unfold o29
 exact (bdS (o30_eq (h.c1 rfl))).trans rfl
theorem o23v1_eq {w:W} (h:w.ok true false) (v:Ev):o23v1 v.e w.p.e w.m1.e w.m2.e w.c1.h w.c1.nd.e w.c1.ps w.c1.cz w.c1.co.ps w.c1.co.ss=some (((((((0:Int),(0:Int)),(0:Int),([]:List UInt8),(w.ex1 true false v).f2.label),((w.ex1 true false v).f2.from_,(w.ex1 true false v).f2.cycle),(w.ex1 true false v).f2.payload,false,(w.ex1 true false v).b2),(w.ex1 true false v).p.e),(w.ex1 true false v).m1.e,(w.ex1 true false v).m2.e,(w.ex1 true false v).c1.h),((w.ex1 true false v).c1.nd.e,(w.ex1 true false v).c1.ps),(w.ex1 true false v).c1.cz,(w.ex1 true false v).c1.co.ps,(w.ex1 true false v).c1.co.ss):=by
 unfold o23v1
 refine (bdS (t:=((((w.clr.put1 true (snd1 w.c1) v.f11 2).p.e,(w.clr.put1 true (snd1 w.c1) v.f11 2).m1.e,(w.clr.put1 true (snd1 w.c1) v.f11 2).m2.e),(w.clr.put1 true (snd1 w.c1) v.f11 2).c1.h,(w.clr.put1 true (snd1 w.c1) v.f11 2).c1.nd.e,(w.clr.put1 true (snd1 w.c1) v.f11 2).c1.ps),((w.clr.put1 true (snd1 w.c1) v.f11 2).c1.cz,(w.clr.put1 true (snd1 w.c1) v.f11 2).c1.co.ps,(w.clr.put1 true (snd1 w.c1) v.f11 2).c1.co.ss),v.e,((((0:Int),(0:Int)),(0:Int),([]:List UInt8)),(w.clr.put1 true (snd1 w.c1) v.f11 2).f2.e),false,(w.clr.put1 true (snd1 w.c1) v.f11 2).b2)) ?_).trans rfl
 ·refine (bdS (o29_eq (w:=w) h)).trans ?_
  exact wire_eq (snd1 w.c1).2.1 (snd1 w.c1).2.2 v.f11 2 1 w.p.cycle (fun z:Frm×Bool=>(((w.clr.p.e,w.clr.m1.e,w.clr.m2.e),(snd1 w.c1).1.h,(snd1 w.c1).1.nd.e,(snd1 w.c1).1.ps),((snd1 w.c1).1.cz,(snd1 w.c1).1.co.ps,(snd1 w.c1).1.co.ss),v.e,((((0:Int),(0:Int)),(0:Int),([]:List UInt8)),z.1.e),false,z.2))
theorem o34_eq {w:W} (h:w.ok true false):o34 w.p.e w.m1.e w.m2.e w.c1.h w.c1.nd.e w.c1.ps w.c1.cz w.c1.co.ps w.c1.co.ss w.r.e=some ((((((snd2 w.c1 w.r.t1).2.1.label,(snd2 w.c1 w.r.t1).2.1.from_),(snd2 w.c1 w.r.t1).2.1.cycle,(snd2 w.c1 w.r.t1).2.2),w.p.e),w.m1.e,w.m2.e,(snd2 w.c1 w.r.t1).1.h),((snd2 w.c1 w.r.t1).1.nd.e,(snd2 w.c1 w.r.t1).1.ps,(snd2 w.c1 w.r.t1).1.cz),(snd2 w.c1 w.r.t1).1.co.ps,(snd2 w.c1 w.r.t1).1.co.ss,(snd2 w.c1 w.r.t1).2.1.payload):=by
 unfold o34
 exact (bdS (o35_eq (c:=w.c1) (t:=w.r.t1))).trans rfl
theorem o23v2_eq {w:W} (h:w.ok true false) (v:Ev):o23v2 v.e w.p.e w.m1.e w.m2.e w.c1.h w.c1.nd.e w.c1.ps w.c1.cz w.c1.co.ps w.c1.co.ss w.r.e=some (((((((0:Int),(0:Int)),(0:Int),([]:List UInt8),(w.ex2 true false v).f2.label),((w.ex2 true false v).f2.from_,(w.ex2 true false v).f2.cycle),(w.ex2 true false v).f2.payload,false,(w.ex2 true false v).b2),(w.ex2 true false v).p.e),(w.ex2 true false v).m1.e,(w.ex2 true false v).m2.e,(w.ex2 true false v).c1.h),((w.ex2 true false v).c1.nd.e,(w.ex2 true false v).c1.ps,(w.ex2 true false v).c1.cz),(w.ex2 true false v).c1.co.ps,(w.ex2 true false v).c1.co.ss,(w.ex2 true false v).r.e):=by
 unfold o23v2
 refine (bdS (t:=((((w.clr.put1 true (snd2 w.c1 w.r.t1) v.f12 3).p.e,(w.clr.put1 true (snd2 w.c1 w.r.t1) v.f12 3).m1.e,(w.clr.put1 true (snd2 w.c1 w.r.t1) v.f12 3).m2.e),(w.clr.put1 true (snd2 w.c1 w.r.t1) v.f12 3).c1.h,(w.clr.put1 true (snd2 w.c1 w.r.t1) v.f12 3).c1.nd.e,(w.clr.put1 true (snd2 w.c1 w.r.t1) v.f12 3).c1.ps),((w.clr.put1 true (snd2 w.c1 w.r.t1) v.f12 3).c1.cz,(w.clr.put1 true (snd2 w.c1 w.r.t1) v.f12 3).c1.co.ps,(w.clr.put1 true (snd2 w.c1 w.r.t1) v.f12 3).c1.co.ss),((w.clr.put1 true (snd2 w.c1 w.r.t1) v.f12 3).r.e,v.e),((((0:Int),(0:Int)),(0:Int),([]:List UInt8)),(w.clr.put1 true (snd2 w.c1 w.r.t1) v.f12 3).f2.e),false,(w.clr.put1 true (snd2 w.c1 w.r.t1) v.f12 3).b2)) ?_).trans rfl
 ·refine (bdS (o34_eq (w:=w) h)).trans ?_
  exact wire_eq (snd2 w.c1 w.r.t1).2.1 (snd2 w.c1 w.r.t1).2.2 v.f12 3 1 w.p.cycle (fun z:Frm×Bool=>(((w.clr.p.e,w.clr.m1.e,w.clr.m2.e),(snd2 w.c1 w.r.t1).1.h,(snd2 w.c1 w.r.t1).1.nd.e,(snd2 w.c1 w.r.t1).1.ps),((snd2 w.c1 w.r.t1).1.cz,(snd2 w.c1 w.r.t1).1.co.ps,(snd2 w.c1 w.r.t1).1.co.ss),(w.clr.r.e,v.e),((((0:Int),(0:Int)),(0:Int),([]:List UInt8)),z.1.e),false,z.2))
theorem o38_eq {w:W} (h:w.ok true false):o38 w.p.e w.m1.e w.m2.e w.c1.h w.c1.nd.e w.c1.ps w.c1.cz w.c1.co.ps w.c1.co.ss=some ((((((snd3 w.c1 w.m1).2.1.label,(snd3 w.c1 w.m1).2.1.from_),(snd3 w.c1 w.m1).2.1.cycle,(snd3 w.c1 w.m1).2.2),w.p.e),w.m1.e,w.m2.e,(snd3 w.c1 w.m1).1.h),((snd3 w.c1 w.m1).1.nd.e,(snd3 w.c1 w.m1).1.ps,(snd3 w.c1 w.m1).1.cz),(snd3 w.c1 w.m1).1.co.ps,(snd3 w.c1 w.m1).1.co.ss,(snd3 w.c1 w.m1).2.1.payload):=by
 unfold o38
 refine (bdS (t:=(((w.p.e,w.m1.e),w.m2.e,w.c1.h,w.c1.nd.e),(w.c1.ps,w.c1.cz,w.c1.co.ps),w.c1.co.ss,(((0:Int),(0:Int)),(0:Int),([]:List UInt8)),cond w.c1.asked (saveB w.m1) [])) ?_).trans ?_
 ·exact cnd_ext (c:=w.c1.asked) (F:=fun z:List UInt8=>(((w.p.e,w.m1.e),w.m2.e,w.c1.h,w.c1.nd.e),(w.c1.ps,w.c1.cz,w.c1.co.ps),w.c1.co.ss,(((0:Int),(0:Int)),(0:Int),([]:List UInt8)),z)) (X:=saveB w.m1) (Y:=[]) ((bdS (o180_eq h.p1.1 (le_mil h.p1.2))).trans rfl) rfl
 ·exact (bdS (o39_eq (c:=w.c1) (save:=cond w.c1.asked (saveB w.m1) []) (h.c1 rfl))).trans rfl
theorem o23v3_eq {w:W} (h:w.ok true false) (v:Ev):o23v3 v.e w.p.e w.m1.e w.m2.e w.c1.h w.c1.nd.e w.c1.ps w.c1.cz w.c1.co.ps w.c1.co.ss=some (((((((0:Int),(0:Int)),(0:Int),([]:List UInt8),(w.ex3 true false v).f2.label),((w.ex3 true false v).f2.from_,(w.ex3 true false v).f2.cycle),(w.ex3 true false v).f2.payload,false,(w.ex3 true false v).b2),(w.ex3 true false v).p.e),(w.ex3 true false v).m1.e,(w.ex3 true false v).m2.e,(w.ex3 true false v).c1.h),((w.ex3 true false v).c1.nd.e,(w.ex3 true false v).c1.ps),(w.ex3 true false v).c1.cz,(w.ex3 true false v).c1.co.ps,(w.ex3 true false v).c1.co.ss):=by
 unfold o23v3
 refine (bdS (t:=((((w.clr.put1 true (snd3 w.c1 w.m1) v.f13 4).p.e,(w.clr.put1 true (snd3 w.c1 w.m1) v.f13 4).m1.e,(w.clr.put1 true (snd3 w.c1 w.m1) v.f13 4).m2.e),(w.clr.put1 true (snd3 w.c1 w.m1) v.f13 4).c1.h,(w.clr.put1 true (snd3 w.c1 w.m1) v.f13 4).c1.nd.e,(w.clr.put1 true (snd3 w.c1 w.m1) v.f13 4).c1.ps),((w.clr.put1 true (snd3 w.c1 w.m1) v.f13 4).c1.cz,(w.clr.put1 true (snd3 w.c1 w.m1) v.f13 4).c1.co.ps,(w.clr.put1 true (snd3 w.c1 w.m1) v.f13 4).c1.co.ss),v.e,((((0:Int),(0:Int)),(0:Int),([]:List UInt8)),(w.clr.put1 true (snd3 w.c1 w.m1) v.f13 4).f2.e),false,(w.clr.put1 true (snd3 w.c1 w.m1) v.f13 4).b2)) ?_).trans rfl
 ·refine (bdS (o38_eq (w:=w) h)).trans ?_
  exact wire_eq (snd3 w.c1 w.m1).2.1 (snd3 w.c1 w.m1).2.2 v.f13 4 1 w.p.cycle (fun z:Frm×Bool=>(((w.clr.p.e,w.clr.m1.e,w.clr.m2.e),(snd3 w.c1 w.m1).1.h,(snd3 w.c1 w.m1).1.nd.e,(snd3 w.c1 w.m1).1.ps),((snd3 w.c1 w.m1).1.cz,(snd3 w.c1 w.m1).1.co.ps,(snd3 w.c1 w.m1).1.co.ss),v.e,((((0:Int),(0:Int)),(0:Int),([]:List UInt8)),z.1.e),false,z.2))
theorem o27_eq {w:W} (h:w.ok true false):o27 w.p.e w.m1.e w.m2.e w.c1.h w.c1.nd.e w.c1.ps w.c1.cz w.c1.co.ps w.c1.co.ss (w.f1.e,w.f2.e) (w.b1,w.b2)=some ((((w.hear true false).p.e,(w.hear true false).m1.e),(w.hear true false).m2.e,(w.hear true false).c1.h,(w.hear true false).c1.nd.e),((w.hear true false).c1.ps,(w.hear true false).c1.cz,(w.hear true false).f1.e,(w.hear true false).f2.e),((w.hear true false).b1,(w.hear true false).b2),(w.hear true false).c1.co.ps,(w.hear true false).c1.co.ss):=by
 unfold o27
 exact (bdS (o28_eq (c:=w.c1) (f:=w.f1) (came:=w.b1) (h.c1 rfl))).trans rfl
theorem o26_eq {w:W} (h:w.ok true false):o26 w.p.e w.m1.e w.m2.e w.c1.h w.c1.nd.e w.c1.ps w.c1.cz w.c1.co.ps w.c1.co.ss (w.f1.e,w.f2.e) (w.b1,w.b2)=some ((((w.hear true false).p.e,(w.hear true false).m1.e),(w.hear true false).m2.e,(w.hear true false).c1.h,(w.hear true false).c1.nd.e),((w.hear true false).c1.ps,(w.hear true false).c1.cz,(w.hear true false).f1.e,(w.hear true false).f2.e),((w.hear true false).b1,(w.hear true false).b2),(w.hear true false).c1.co.ps,(w.hear true false).c1.co.ss):=by
 unfold o26
 exact (bdS (o27_eq h)).trans rfl
theorem o31_eq {w:W} (h:w.ok true false) (v:Ev):o31 w.p.e w.m1.e w.m2.e w.c1.h w.c1.nd.e w.c1.ps w.c1.cz w.c1.co.ps w.c1.co.ss (w.f1.e,w.f2.e) (w.b1,w.b2) (w.s1,w.s2) w.r.e v.e=some ((((w.step1 v (w.c1.step w.f1 w.b1)).p.e,(w.step1 v (w.c1.step w.f1 w.b1)).m1.e,(w.step1 v (w.c1.step w.f1 w.b1)).m2.e),((w.step1 v (w.c1.step w.f1 w.b1)).c1.h,(w.step1 v (w.c1.step w.f1 w.b1)).c1.nd.e),(w.step1 v (w.c1.step w.f1 w.b1)).c1.ps,(w.step1 v (w.c1.step w.f1 w.b1)).c1.cz),(((w.step1 v (w.c1.step w.f1 w.b1)).f1.e,(w.step1 v (w.c1.step w.f1 w.b1)).f2.e),((w.step1 v (w.c1.step w.f1 w.b1)).b1,(w.step1 v (w.c1.step w.f1 w.b1)).b2),(w.step1 v (w.c1.step w.f1 w.b1)).s1,(w.step1 v (w.c1.step w.f1 w.b1)).s2),((w.step1 v (w.c1.step w.f1 w.b1)).r.e,v.e),(w.step1 v (w.c1.step w.f1 w.b1)).c1.co.ps,(w.step1 v (w.c1.step w.f1 w.b1)).c1.co.ss):=by
 unfold o31
 have hin:(w.c1.step w.f1 w.b1).2.1.in_.length≤2000:=step_in (h.c1 rfl) h.f1
 refine (bdS (o32_eq (c:=w.c1) (f:=w.f1) (came:=w.b1) (h.c1 rfl) h.f1)).trans ?_
 generalize (w.c1.step w.f1 w.b1)=x at hin ⊢
 obtain ⟨c,se,has,er⟩:=x
 cases has with
 | false=>rfl
 | true =>
  refine (cndF rfl).trans ?_
  refine (bdS (t:=((((w.p.e,(cond se.fresh (w.m1.load w.p.init).1 w.m1).e),w.m2.e,c.h),(c.nd.e,c.ps),c.cz,w.f1.e,w.f2.e),(((w.b1,w.b2),w.s1,w.s2),w.r.e,v.e),((se.steps,se.cycle,se.fresh),c.co.ps),c.co.ss,se.in_)) ?_).trans ?_
  ·exact cnd_ext (c:=se.fresh) (F:=fun z:Mc=>((((w.p.e,z.e),w.m2.e,c.h),(c.nd.e,c.ps),c.cz,w.f1.e,w.f2.e),(((w.b1,w.b2),w.s1,w.s2),w.r.e,v.e),((se.steps,se.cycle,se.fresh),c.co.ps),c.co.ss,se.in_)) (X:=(w.m1.load w.p.init).1) (Y:=w.m1) ((bdS (o33_eq (Nat.le_trans h.init (by decide)))).trans ((bdS (o179_eq (m:=w.m1) (p:=w.p.init) h.p1.1 (le_mil h.p1.2))).trans rfl)) rfl
  ·exact (bdS (o181_eq (cond se.fresh (w.m1.load w.p.init).1 w.m1) se.cycle (l:=se.in_) (Nat.le_trans hin (by decide)))).trans rfl
theorem o26v1_eq {w:W} (h:w.ok true false) (v:Ev):o26v1 w.p.e w.m1.e w.m2.e w.c1.h w.c1.nd.e w.c1.ps w.c1.cz w.c1.co.ps w.c1.co.ss (w.f1.e,w.f2.e) (w.b1,w.b2) (w.s1,w.s2) w.r.e v.e=some ((((w.step true false v).p.e,(w.step true false v).m1.e,(w.step true false v).m2.e),((w.step true false v).c1.h,(w.step true false v).c1.nd.e),(w.step true false v).c1.ps,(w.step true false v).c1.cz),(((w.step true false v).f1.e,(w.step true false v).f2.e),((w.step true false v).b1,(w.step true false v).b2),(w.step true false v).s1,(w.step true false v).s2),((w.step true false v).r.e,v.e),(w.step true false v).c1.co.ps,(w.step true false v).c1.co.ss):=by
 unfold o26v1
 exact (bdS (o31_eq h v)).trans rfl
theorem o36_eq {w:W} (h:w.ok true false):o36 w.p.e w.m1.e w.m2.e w.c1.h w.c1.nd.e w.c1.ps w.c1.cz w.c1.co.ps w.c1.co.ss (w.f1.e,w.f2.e) (w.b1,w.b2) w.r.e=some ((((w.judge true false).p.e,(w.judge true false).m1.e,(w.judge true false).m2.e),(w.judge true false).c1.h,(w.judge true false).c1.nd.e,(w.judge true false).c1.ps),((w.judge true false).c1.cz,(w.judge true false).c1.co.ps,(w.judge true false).c1.co.ss),((w.judge true false).f1.e,(w.judge true false).f2.e),((w.judge true false).b1,(w.judge true false).b2),(w.judge true false).r.e):=by
 unfold o36
 exact (bdS (o37_eq (c:=w.c1) (f:=w.f1) (came:=w.b1))).trans rfl
theorem o26v2_eq {w:W} (h:w.ok true false):o26v2 w.p.e w.m1.e w.m2.e w.c1.h w.c1.nd.e w.c1.ps w.c1.cz w.c1.co.ps w.c1.co.ss (w.f1.e,w.f2.e) (w.b1,w.b2) w.r.e=some ((((w.judge true false).p.e,(w.judge true false).m1.e,(w.judge true false).m2.e),(w.judge true false).c1.h,(w.judge true false).c1.nd.e,(w.judge true false).c1.ps),((w.judge true false).c1.cz,(w.judge true false).c1.co.ps,(w.judge true false).c1.co.ss),((w.judge true false).f1.e,(w.judge true false).f2.e),((w.judge true false).b1,(w.judge true false).b2),(w.judge true false).r.e):=by
 unfold o26v2
 exact (bdS (o36_eq h)).trans rfl
theorem o41_eq {w:W} (h:w.ok true false):o41 w.f1.e w.b1 w.p.e w.m1.e w.m2.e w.c1.h w.c1.nd.e w.c1.ps w.c1.cz w.c1.co.ps w.c1.co.ss=some (((w.p.e,(tookA w.m1 (w.c1.take w.f1 w.b1)).2.e),w.m2.e,(tookA w.m1 (w.c1.take w.f1 w.b1)).1.h),((tookA w.m1 (w.c1.take w.f1 w.b1)).1.nd.e,(tookA w.m1 (w.c1.take w.f1 w.b1)).1.ps),(tookA w.m1 (w.c1.take w.f1 w.b1)).1.cz,(tookA w.m1 (w.c1.take w.f1 w.b1)).1.co.ps,(tookA w.m1 (w.c1.take w.f1 w.b1)).1.co.ss):=by
 unfold o41
 have hj:=take_job (h.c1 rfl) (f:=w.f1) (came:=w.b1)
 refine (bdS (o83_eq (c:=w.c1) (f:=w.f1) (came:=w.b1) (h.c1 rfl) h.f1)).trans ?_
 generalize (w.c1.take w.f1 w.b1)=x at hj ⊢
 obtain ⟨c,⟨jb,sn,l⟩,has,er⟩:=x
 cases has with
 | false=>rfl
 | true =>
  have hs:l.length≤874:=hj.sets
  have hi:∀ x∈l,x.2.2.2.length≤2000:=hj.ins
  refine (cndF rfl).trans ?_
  refine (bdS (o179_eq (m:=w.m1) (p:=sn) h.p1.1 (le_mil h.p1.2))).trans ?_
  refine cnd_ext (c:=(w.m1.load sn).2 != 0) (F:=fun z:Cp×Mc=>(((w.p.e,z.2.e),w.m2.e,z.1.h),(z.1.nd.e,z.1.ps),z.1.cz,z.1.co.ps,z.1.co.ss)) (X:=(c.drop,(w.m1.load sn).1)) (Y:=(c,runL (w.m1.load sn).1 l)) ((bdS (o22_eq c)).trans rfl) ?_
  refine loop_from (fun i=>(((((l.length:Nat):Int),((i:Nat):Int),w.p.e),(runL (w.m1.load sn).1 (l.take i)).e,w.m2.e,c.h),(c.nd.e,c.ps,c.cz),l,c.co.ps,c.co.ss)) l.length rfl (fun i hi'=>?_) ?_ (by omega)
  ·have hd:(l.getD i (0,0,false,[])).2.2.2.length≤100000000:=by rw [getD_of hi'];exact Nat.le_trans (hi _ (List.getElem_mem hi')) (by decide)
   unfold o41_b0
   refine (cndT (dt (by show (i:Int) < (l.length:Int);omega))).trans ((gdT (dt (by show (0:Int)≤i∧(i:Int) < (l.length:Int);omega))).trans ((bdS (o181_eq (runL (w.m1.load sn).1 (l.take i)) (l.getD i (0,0,false,[])).2.1 (l:=(l.getD i (0,0,false,[])).2.2.2) hd)).trans ?_))
   exact go_next (runL_succ _ hi') (wr64 (by omega)) (fun (m:Mc) (k:Int)=>(((((l.length:Nat):Int),k,w.p.e),m.e,w.m2.e,c.h),(c.nd.e,c.ps,c.cz),l,c.co.ps,c.co.ss))
  ·unfold o41_b0
   refine (cndF (df (by show ¬ (l.length:Int) < (l.length:Int);omega))).trans ?_
   rw [List.take_length]
   exact dnS _
theorem o40_eq {w:W} (h:w.ok true false):o40 w.p.e w.m1.e w.m2.e w.c1.h w.c1.nd.e w.c1.ps w.c1.cz w.c1.co.ps w.c1.co.ss (w.f1.e,w.f2.e) (w.b1,w.b2)=some ((((w.take true false).p.e,(w.take true false).m1.e),(w.take true false).m2.e,(w.take true false).c1.h,(w.take true false).c1.nd.e),((w.take true false).c1.ps,(w.take true false).c1.cz,(w.take true false).f1.e,(w.take true false).f2.e),((w.take true false).b1,(w.take true false).b2),(w.take true false).c1.co.ps,(w.take true false).c1.co.ss):=by
 unfold o40
 exact (bdS (o41_eq h)).trans rfl
theorem o26v3_eq {w:W} (h:w.ok true false):o26v3 w.p.e w.m1.e w.m2.e w.c1.h w.c1.nd.e w.c1.ps w.c1.cz w.c1.co.ps w.c1.co.ss (w.f1.e,w.f2.e) (w.b1,w.b2)=some ((((w.take true false).p.e,(w.take true false).m1.e),(w.take true false).m2.e,(w.take true false).c1.h,(w.take true false).c1.nd.e),((w.take true false).c1.ps,(w.take true false).c1.cz,(w.take true false).f1.e,(w.take true false).f2.e),((w.take true false).b1,(w.take true false).b2),(w.take true false).c1.co.ps,(w.take true false).c1.co.ss):=by
 unfold o26v3
 exact (bdS (o40_eq h)).trans rfl
theorem o42_eq {w:W} (h:w.ok true false):o42 w.p.e w.m1.e w.m2.e w.c1.h w.c1.nd.e w.c1.ps (w.c1.cz,w.c1.co.ps,w.c1.co.ss) w.r.e=some (w.node true false).r.e:=by
 unfold o42
 exact (bdS (o43_eq (c:=w.c1) (h.c1 rfl) _)).trans rfl
theorem o26v4_eq {w:W} (h:w.ok true false):o26v4 w.p.e w.m1.e w.m2.e w.c1.h w.c1.nd.e w.c1.ps w.c1.cz w.c1.co.ps w.c1.co.ss w.r.e=some ((((w.node true false).p.e,(w.node true false).m1.e),(w.node true false).m2.e,(w.node true false).c1.h,(w.node true false).c1.nd.e),((w.node true false).c1.ps,(w.node true false).c1.cz),(w.node true false).c1.co.ps,(w.node true false).c1.co.ss,(w.node true false).r.e):=by
 unfold o26v4
 exact (bdS (o42_eq h)).trans rfl
theorem o24v3_eq {w:W} (h:w.ok false true) (one two:List UInt8):o24v3 (one,two) w.p.e w.m1.e w.m2.e w.c2.h w.c2.nd.e w.c2.ps w.c2.cz w.c2.co.ps w.c2.co.ss=some ((((((snd0 w.c2 w.p.cycle two).2.1.label,(snd0 w.c2 w.p.cycle two).2.1.from_),(snd0 w.c2 w.p.cycle two).2.1.cycle,(snd0 w.c2 w.p.cycle two).2.1.payload,(snd0 w.c2 w.p.cycle two).2.2),w.p.e),w.m1.e,w.m2.e,(snd0 w.c2 w.p.cycle two).1.h),((snd0 w.c2 w.p.cycle two).1.nd.e,(snd0 w.c2 w.p.cycle two).1.ps),(snd0 w.c2 w.p.cycle two).1.cz,(snd0 w.c2 w.p.cycle two).1.co.ps,(snd0 w.c2 w.p.cycle two).1.co.ss):=by
 unfold o24v3
 refine (bdS (t:=(((inpC two,(one,two),w.p.e),w.m1.e,w.m2.e,w.c2.h),(w.c2.nd.e,w.c2.ps,w.c2.cz),w.c2.co.ps,w.c2.co.ss,((0:Int),(0:Int)),(0:Int),([]:List UInt8))) ?_).trans ?_
 ·unfold inpC;exact cnd_ext (c:=decide (((two.length:Nat):Int) > 400)) (F:=fun z:List UInt8=>(((z,(one,two),w.p.e),w.m1.e,w.m2.e,w.c2.h),(w.c2.nd.e,w.c2.ps,w.c2.cz),w.c2.co.ps,w.c2.co.ss,((0:Int),(0:Int)),(0:Int),([]:List UInt8))) (X:=[]) (Y:=two) rfl rfl
 ·exact (bdS (o25_eq (c:=w.c2) (cy:=w.p.cycle) (inp:=inpC two) (Nat.le_trans (inpC_len two) (by decide)))).trans rfl
theorem o23v12_eq {w:W} (h:w.ok false true) (v:Ev) (one two:List UInt8):o23v12 v.e w.p.e w.m1.e w.m2.e w.c2.h w.c2.nd.e w.c2.ps w.c2.cz w.c2.co.ps w.c2.co.ss (one,two)=some (((((((w.ex0 false true v one two).f1.label,(w.ex0 false true v one two).f1.from_),(w.ex0 false true v one two).f1.cycle,(w.ex0 false true v one two).f1.payload,(0:Int)),((0:Int),(0:Int)),([]:List UInt8),(w.ex0 false true v one two).b1,false),(w.ex0 false true v one two).p.e),(w.ex0 false true v one two).m1.e,(w.ex0 false true v one two).m2.e,(w.ex0 false true v one two).c2.h),((w.ex0 false true v one two).c2.nd.e,(w.ex0 false true v one two).c2.ps,(w.ex0 false true v one two).c2.cz),(w.ex0 false true v one two).c2.co.ps,(w.ex0 false true v one two).c2.co.ss,one,two):=by
 unfold o23v12
 refine (bdS (t:=((((w.clr.put2 true (snd0 w.c2 w.p.cycle two) v.f20 1).p.e,(w.clr.put2 true (snd0 w.c2 w.p.cycle two) v.f20 1).m1.e,(w.clr.put2 true (snd0 w.c2 w.p.cycle two) v.f20 1).m2.e),(w.clr.put2 true (snd0 w.c2 w.p.cycle two) v.f20 1).c2.h,(w.clr.put2 true (snd0 w.c2 w.p.cycle two) v.f20 1).c2.nd.e,(w.clr.put2 true (snd0 w.c2 w.p.cycle two) v.f20 1).c2.ps),((w.clr.put2 true (snd0 w.c2 w.p.cycle two) v.f20 1).c2.cz,(w.clr.put2 true (snd0 w.c2 w.p.cycle two) v.f20 1).c2.co.ps,(w.clr.put2 true (snd0 w.c2 w.p.cycle two) v.f20 1).c2.co.ss),((one,two),v.e),((w.clr.put2 true (snd0 w.c2 w.p.cycle two) v.f20 1).f1.e,((0:Int),(0:Int)),(0:Int),([]:List UInt8)),(w.clr.put2 true (snd0 w.c2 w.p.cycle two) v.f20 1).b1,false)) ?_).trans rfl
 ·refine (bdS (o24v3_eq h one two)).trans ?_
  exact wire_eq (snd0 w.c2 w.p.cycle two).2.1 (snd0 w.c2 w.p.cycle two).2.2 v.f20 1 2 w.p.cycle (fun z:Frm×Bool=>(((w.p.e,w.m1.e,w.m2.e),(snd0 w.c2 w.p.cycle two).1.h,(snd0 w.c2 w.p.cycle two).1.nd.e,(snd0 w.c2 w.p.cycle two).1.ps),((snd0 w.c2 w.p.cycle two).1.cz,(snd0 w.c2 w.p.cycle two).1.co.ps,(snd0 w.c2 w.p.cycle two).1.co.ss),((one,two),v.e),(z.1.e,((0:Int),(0:Int)),(0:Int),([]:List UInt8)),z.2,false))
theorem o29v3_eq {w:W} (h:w.ok false true):o29v3 w.p.e w.m1.e w.m2.e w.c2.h w.c2.nd.e w.c2.ps w.c2.cz w.c2.co.ps w.c2.co.ss=some ((((((snd1 w.c2).2.1.label,(snd1 w.c2).2.1.from_),(snd1 w.c2).2.1.cycle,(snd1 w.c2).2.2),w.p.e),w.m1.e,w.m2.e,(snd1 w.c2).1.h),((snd1 w.c2).1.nd.e,(snd1 w.c2).1.ps,(snd1 w.c2).1.cz),(snd1 w.c2).1.co.ps,(snd1 w.c2).1.co.ss,(snd1 w.c2).2.1.payload):=by
 unfold o29v3
 exact (bdS (o30_eq (h.c2 rfl))).trans rfl
theorem o23v13_eq {w:W} (h:w.ok false true) (v:Ev):o23v13 v.e w.p.e w.m1.e w.m2.e w.c2.h w.c2.nd.e w.c2.ps w.c2.cz w.c2.co.ps w.c2.co.ss=some (((((((w.ex1 false true v).f1.label,(w.ex1 false true v).f1.from_),(w.ex1 false true v).f1.cycle,(w.ex1 false true v).f1.payload,(0:Int)),((0:Int),(0:Int)),([]:List UInt8),(w.ex1 false true v).b1,false),(w.ex1 false true v).p.e),(w.ex1 false true v).m1.e,(w.ex1 false true v).m2.e,(w.ex1 false true v).c2.h),((w.ex1 false true v).c2.nd.e,(w.ex1 false true v).c2.ps),(w.ex1 false true v).c2.cz,(w.ex1 false true v).c2.co.ps,(w.ex1 false true v).c2.co.ss):=by
 unfold o23v13
 refine (bdS (t:=((((w.clr.put2 true (snd1 w.c2) v.f21 2).p.e,(w.clr.put2 true (snd1 w.c2) v.f21 2).m1.e,(w.clr.put2 true (snd1 w.c2) v.f21 2).m2.e),(w.clr.put2 true (snd1 w.c2) v.f21 2).c2.h,(w.clr.put2 true (snd1 w.c2) v.f21 2).c2.nd.e,(w.clr.put2 true (snd1 w.c2) v.f21 2).c2.ps),((w.clr.put2 true (snd1 w.c2) v.f21 2).c2.cz,(w.clr.put2 true (snd1 w.c2) v.f21 2).c2.co.ps,(w.clr.put2 true (snd1 w.c2) v.f21 2).c2.co.ss),v.e,((w.clr.put2 true (snd1 w.c2) v.f21 2).f1.e,((0:Int),(0:Int)),(0:Int),([]:List UInt8)),(w.clr.put2 true (snd1 w.c2) v.f21 2).b1,false)) ?_).trans rfl
 ·refine (bdS (o29v3_eq h)).trans ?_
  exact wire_eq (snd1 w.c2).2.1 (snd1 w.c2).2.2 v.f21 2 2 w.p.cycle (fun z:Frm×Bool=>(((w.p.e,w.m1.e,w.m2.e),(snd1 w.c2).1.h,(snd1 w.c2).1.nd.e,(snd1 w.c2).1.ps),((snd1 w.c2).1.cz,(snd1 w.c2).1.co.ps,(snd1 w.c2).1.co.ss),v.e,(z.1.e,((0:Int),(0:Int)),(0:Int),([]:List UInt8)),z.2,false))
theorem o34v3_eq {w:W} (h:w.ok false true):o34v3 w.p.e w.m1.e w.m2.e w.c2.h w.c2.nd.e w.c2.ps w.c2.cz w.c2.co.ps w.c2.co.ss w.r.e=some ((((((snd2 w.c2 w.r.t2).2.1.label,(snd2 w.c2 w.r.t2).2.1.from_),(snd2 w.c2 w.r.t2).2.1.cycle,(snd2 w.c2 w.r.t2).2.2),w.p.e),w.m1.e,w.m2.e,(snd2 w.c2 w.r.t2).1.h),((snd2 w.c2 w.r.t2).1.nd.e,(snd2 w.c2 w.r.t2).1.ps,(snd2 w.c2 w.r.t2).1.cz),(snd2 w.c2 w.r.t2).1.co.ps,(snd2 w.c2 w.r.t2).1.co.ss,(snd2 w.c2 w.r.t2).2.1.payload):=by
 unfold o34v3
 exact (bdS (o35_eq (c:=w.c2) (t:=w.r.t2))).trans rfl
theorem o23v14_eq {w:W} (h:w.ok false true) (v:Ev):o23v14 v.e w.p.e w.m1.e w.m2.e w.c2.h w.c2.nd.e w.c2.ps w.c2.cz w.c2.co.ps w.c2.co.ss w.r.e=some (((((((w.ex2 false true v).f1.label,(w.ex2 false true v).f1.from_),(w.ex2 false true v).f1.cycle,(w.ex2 false true v).f1.payload,(0:Int)),((0:Int),(0:Int)),([]:List UInt8),(w.ex2 false true v).b1,false),(w.ex2 false true v).p.e),(w.ex2 false true v).m1.e,(w.ex2 false true v).m2.e,(w.ex2 false true v).c2.h),((w.ex2 false true v).c2.nd.e,(w.ex2 false true v).c2.ps,(w.ex2 false true v).c2.cz),(w.ex2 false true v).c2.co.ps,(w.ex2 false true v).c2.co.ss,(w.ex2 false true v).r.e):=by
 unfold o23v14
 refine (bdS (t:=((((w.clr.put2 true (snd2 w.c2 w.r.t2) v.f22 3).p.e,(w.clr.put2 true (snd2 w.c2 w.r.t2) v.f22 3).m1.e,(w.clr.put2 true (snd2 w.c2 w.r.t2) v.f22 3).m2.e),(w.clr.put2 true (snd2 w.c2 w.r.t2) v.f22 3).c2.h,(w.clr.put2 true (snd2 w.c2 w.r.t2) v.f22 3).c2.nd.e,(w.clr.put2 true (snd2 w.c2 w.r.t2) v.f22 3).c2.ps),((w.clr.put2 true (snd2 w.c2 w.r.t2) v.f22 3).c2.cz,(w.clr.put2 true (snd2 w.c2 w.r.t2) v.f22 3).c2.co.ps,(w.clr.put2 true (snd2 w.c2 w.r.t2) v.f22 3).c2.co.ss),((w.clr.put2 true (snd2 w.c2 w.r.t2) v.f22 3).r.e,v.e),((w.clr.put2 true (snd2 w.c2 w.r.t2) v.f22 3).f1.e,((0:Int),(0:Int)),(0:Int),([]:List UInt8)),(w.clr.put2 true (snd2 w.c2 w.r.t2) v.f22 3).b1,false)) ?_).trans rfl
 ·refine (bdS (o34v3_eq h)).trans ?_
  exact wire_eq (snd2 w.c2 w.r.t2).2.1 (snd2 w.c2 w.r.t2).2.2 v.f22 3 2 w.p.cycle (fun z:Frm×Bool=>(((w.p.e,w.m1.e,w.m2.e),(snd2 w.c2 w.r.t2).1.h,(snd2 w.c2 w.r.t2).1.nd.e,(snd2 w.c2 w.r.t2).1.ps),((snd2 w.c2 w.r.t2).1.cz,(snd2 w.c2 w.r.t2).1.co.ps,(snd2 w.c2 w.r.t2).1.co.ss),(w.r.e,v.e),(z.1.e,((0:Int),(0:Int)),(0:Int),([]:List UInt8)),z.2,false))
theorem o38v3_eq {w:W} (h:w.ok false true):o38v3 w.p.e w.m1.e w.m2.e w.c2.h w.c2.nd.e w.c2.ps w.c2.cz w.c2.co.ps w.c2.co.ss=some ((((((snd3 w.c2 w.m2).2.1.label,(snd3 w.c2 w.m2).2.1.from_),(snd3 w.c2 w.m2).2.1.cycle,(snd3 w.c2 w.m2).2.2),w.p.e),w.m1.e,w.m2.e,(snd3 w.c2 w.m2).1.h),((snd3 w.c2 w.m2).1.nd.e,(snd3 w.c2 w.m2).1.ps,(snd3 w.c2 w.m2).1.cz),(snd3 w.c2 w.m2).1.co.ps,(snd3 w.c2 w.m2).1.co.ss,(snd3 w.c2 w.m2).2.1.payload):=by
 unfold o38v3
 refine (bdS (t:=(((w.p.e,w.m1.e),w.m2.e,w.c2.h,w.c2.nd.e),(w.c2.ps,w.c2.cz,w.c2.co.ps),w.c2.co.ss,(((0:Int),(0:Int)),(0:Int),([]:List UInt8)),cond w.c2.asked (saveB w.m2) [])) ?_).trans ?_
 ·exact cnd_ext (c:=w.c2.asked) (F:=fun z:List UInt8=>(((w.p.e,w.m1.e),w.m2.e,w.c2.h,w.c2.nd.e),(w.c2.ps,w.c2.cz,w.c2.co.ps),w.c2.co.ss,(((0:Int),(0:Int)),(0:Int),([]:List UInt8)),z)) (X:=saveB w.m2) (Y:=[]) ((bdS (o180_eq h.p2.1 (le_mil h.p2.2))).trans rfl) rfl
 ·exact (bdS (o39_eq (c:=w.c2) (save:=cond w.c2.asked (saveB w.m2) []) (h.c2 rfl))).trans rfl
theorem o23v15_eq {w:W} (h:w.ok false true) (v:Ev):o23v15 v.e w.p.e w.m1.e w.m2.e w.c2.h w.c2.nd.e w.c2.ps w.c2.cz w.c2.co.ps w.c2.co.ss=some (((((((w.ex3 false true v).f1.label,(w.ex3 false true v).f1.from_),(w.ex3 false true v).f1.cycle,(w.ex3 false true v).f1.payload,(0:Int)),((0:Int),(0:Int)),([]:List UInt8),(w.ex3 false true v).b1,false),(w.ex3 false true v).p.e),(w.ex3 false true v).m1.e,(w.ex3 false true v).m2.e,(w.ex3 false true v).c2.h),((w.ex3 false true v).c2.nd.e,(w.ex3 false true v).c2.ps),(w.ex3 false true v).c2.cz,(w.ex3 false true v).c2.co.ps,(w.ex3 false true v).c2.co.ss):=by
 unfold o23v15
 refine (bdS (t:=((((w.clr.put2 true (snd3 w.c2 w.m2) v.f23 4).p.e,(w.clr.put2 true (snd3 w.c2 w.m2) v.f23 4).m1.e,(w.clr.put2 true (snd3 w.c2 w.m2) v.f23 4).m2.e),(w.clr.put2 true (snd3 w.c2 w.m2) v.f23 4).c2.h,(w.clr.put2 true (snd3 w.c2 w.m2) v.f23 4).c2.nd.e,(w.clr.put2 true (snd3 w.c2 w.m2) v.f23 4).c2.ps),((w.clr.put2 true (snd3 w.c2 w.m2) v.f23 4).c2.cz,(w.clr.put2 true (snd3 w.c2 w.m2) v.f23 4).c2.co.ps,(w.clr.put2 true (snd3 w.c2 w.m2) v.f23 4).c2.co.ss),v.e,((w.clr.put2 true (snd3 w.c2 w.m2) v.f23 4).f1.e,((0:Int),(0:Int)),(0:Int),([]:List UInt8)),(w.clr.put2 true (snd3 w.c2 w.m2) v.f23 4).b1,false)) ?_).trans rfl
 ·refine (bdS (o38v3_eq h)).trans ?_
  exact wire_eq (snd3 w.c2 w.m2).2.1 (snd3 w.c2 w.m2).2.2 v.f23 4 2 w.p.cycle (fun z:Frm×Bool=>(((w.p.e,w.m1.e,w.m2.e),(snd3 w.c2 w.m2).1.h,(snd3 w.c2 w.m2).1.nd.e,(snd3 w.c2 w.m2).1.ps),((snd3 w.c2 w.m2).1.cz,(snd3 w.c2 w.m2).1.co.ps,(snd3 w.c2 w.m2).1.co.ss),v.e,(z.1.e,((0:Int),(0:Int)),(0:Int),([]:List UInt8)),z.2,false))
theorem o27v3_eq {w:W} (h:w.ok false true):o27v3 w.p.e w.m1.e w.m2.e w.c2.h w.c2.nd.e w.c2.ps w.c2.cz w.c2.co.ps w.c2.co.ss (w.f1.e,w.f2.e) (w.b1,w.b2)=some ((((w.hear false true).p.e,(w.hear false true).m1.e),(w.hear false true).m2.e,(w.hear false true).c2.h,(w.hear false true).c2.nd.e),((w.hear false true).c2.ps,(w.hear false true).c2.cz,(w.hear false true).f1.e,(w.hear false true).f2.e),((w.hear false true).b1,(w.hear false true).b2),(w.hear false true).c2.co.ps,(w.hear false true).c2.co.ss):=by
 unfold o27v3
 exact (bdS (o28_eq (c:=w.c2) (f:=w.f2) (came:=w.b2) (h.c2 rfl))).trans rfl
theorem o26v15_eq {w:W} (h:w.ok false true):o26v15 w.p.e w.m1.e w.m2.e w.c2.h w.c2.nd.e w.c2.ps w.c2.cz w.c2.co.ps w.c2.co.ss (w.f1.e,w.f2.e) (w.b1,w.b2)=some ((((w.hear false true).p.e,(w.hear false true).m1.e),(w.hear false true).m2.e,(w.hear false true).c2.h,(w.hear false true).c2.nd.e),((w.hear false true).c2.ps,(w.hear false true).c2.cz,(w.hear false true).f1.e,(w.hear false true).f2.e),((w.hear false true).b1,(w.hear false true).b2),(w.hear false true).c2.co.ps,(w.hear false true).c2.co.ss):=by
 unfold o26v15
 exact (bdS (o27v3_eq h)).trans rfl
theorem o31v3_eq {w:W} (h:w.ok false true) (v:Ev):o31v3 w.p.e w.m1.e w.m2.e w.c2.h w.c2.nd.e w.c2.ps w.c2.cz w.c2.co.ps w.c2.co.ss (w.f1.e,w.f2.e) (w.b1,w.b2) (w.s1,w.s2) w.r.e v.e=some ((((w.step2 v (w.c2.step w.f2 w.b2)).p.e,(w.step2 v (w.c2.step w.f2 w.b2)).m1.e,(w.step2 v (w.c2.step w.f2 w.b2)).m2.e),((w.step2 v (w.c2.step w.f2 w.b2)).c2.h,(w.step2 v (w.c2.step w.f2 w.b2)).c2.nd.e),(w.step2 v (w.c2.step w.f2 w.b2)).c2.ps,(w.step2 v (w.c2.step w.f2 w.b2)).c2.cz),(((w.step2 v (w.c2.step w.f2 w.b2)).f1.e,(w.step2 v (w.c2.step w.f2 w.b2)).f2.e),((w.step2 v (w.c2.step w.f2 w.b2)).b1,(w.step2 v (w.c2.step w.f2 w.b2)).b2),(w.step2 v (w.c2.step w.f2 w.b2)).s1,(w.step2 v (w.c2.step w.f2 w.b2)).s2),((w.step2 v (w.c2.step w.f2 w.b2)).r.e,v.e),(w.step2 v (w.c2.step w.f2 w.b2)).c2.co.ps,(w.step2 v (w.c2.step w.f2 w.b2)).c2.co.ss):=by
 unfold o31v3
 have hin:(w.c2.step w.f2 w.b2).2.1.in_.length≤2000:=step_in (h.c2 rfl) h.f2
 refine (bdS (o32_eq (c:=w.c2) (f:=w.f2) (came:=w.b2) (h.c2 rfl) h.f2)).trans ?_
 generalize (w.c2.step w.f2 w.b2)=x at hin ⊢
 obtain ⟨c,se,has,er⟩:=x
 cases has with
 | false=>rfl
 | true =>
  refine (cndF rfl).trans ?_
  refine (bdS (t:=((((w.p.e,w.m1.e),(cond se.fresh (w.m2.load w.p.init).1 w.m2).e,c.h),(c.nd.e,c.ps),c.cz,w.f1.e,w.f2.e),(((w.b1,w.b2),w.s1,w.s2),w.r.e,v.e),((se.steps,se.cycle,se.fresh),c.co.ps),c.co.ss,se.in_)) ?_).trans ?_
  ·exact cnd_ext (c:=se.fresh) (F:=fun z:Mc=>((((w.p.e,w.m1.e),z.e,c.h),(c.nd.e,c.ps),c.cz,w.f1.e,w.f2.e),(((w.b1,w.b2),w.s1,w.s2),w.r.e,v.e),((se.steps,se.cycle,se.fresh),c.co.ps),c.co.ss,se.in_)) (X:=(w.m2.load w.p.init).1) (Y:=w.m2) ((bdS (o33_eq (Nat.le_trans h.init (by decide)))).trans ((bdS (o179_eq (m:=w.m2) (p:=w.p.init) h.p2.1 (le_mil h.p2.2))).trans rfl)) rfl
  ·exact (bdS (o181_eq (cond se.fresh (w.m2.load w.p.init).1 w.m2) se.cycle (l:=se.in_) (Nat.le_trans hin (by decide)))).trans rfl
theorem o26v16_eq {w:W} (h:w.ok false true) (v:Ev):o26v16 w.p.e w.m1.e w.m2.e w.c2.h w.c2.nd.e w.c2.ps w.c2.cz w.c2.co.ps w.c2.co.ss (w.f1.e,w.f2.e) (w.b1,w.b2) (w.s1,w.s2) w.r.e v.e=some ((((w.step false true v).p.e,(w.step false true v).m1.e,(w.step false true v).m2.e),((w.step false true v).c2.h,(w.step false true v).c2.nd.e),(w.step false true v).c2.ps,(w.step false true v).c2.cz),(((w.step false true v).f1.e,(w.step false true v).f2.e),((w.step false true v).b1,(w.step false true v).b2),(w.step false true v).s1,(w.step false true v).s2),((w.step false true v).r.e,v.e),(w.step false true v).c2.co.ps,(w.step false true v).c2.co.ss):=by
 unfold o26v16
 exact (bdS (o31v3_eq h v)).trans rfl
theorem o36v3_eq {w:W} (h:w.ok false true):o36v3 w.p.e w.m1.e w.m2.e w.c2.h w.c2.nd.e w.c2.ps w.c2.cz w.c2.co.ps w.c2.co.ss (w.f1.e,w.f2.e) (w.b1,w.b2) w.r.e=some ((((w.judge false true).p.e,(w.judge false true).m1.e,(w.judge false true).m2.e),(w.judge false true).c2.h,(w.judge false true).c2.nd.e,(w.judge false true).c2.ps),((w.judge false true).c2.cz,(w.judge false true).c2.co.ps,(w.judge false true).c2.co.ss),((w.judge false true).f1.e,(w.judge false true).f2.e),((w.judge false true).b1,(w.judge false true).b2),(w.judge false true).r.e):=by
 unfold o36v3
 exact (bdS (o37_eq (c:=w.c2) (f:=w.f2) (came:=w.b2))).trans rfl
theorem o26v17_eq {w:W} (h:w.ok false true):o26v17 w.p.e w.m1.e w.m2.e w.c2.h w.c2.nd.e w.c2.ps w.c2.cz w.c2.co.ps w.c2.co.ss (w.f1.e,w.f2.e) (w.b1,w.b2) w.r.e=some ((((w.judge false true).p.e,(w.judge false true).m1.e,(w.judge false true).m2.e),(w.judge false true).c2.h,(w.judge false true).c2.nd.e,(w.judge false true).c2.ps),((w.judge false true).c2.cz,(w.judge false true).c2.co.ps,(w.judge false true).c2.co.ss),((w.judge false true).f1.e,(w.judge false true).f2.e),((w.judge false true).b1,(w.judge false true).b2),(w.judge false true).r.e):=by
 unfold o26v17
 exact (bdS (o36v3_eq h)).trans rfl
theorem o41v3_eq {w:W} (h:w.ok false true):o41v3 w.f2.e w.b2 w.p.e w.m1.e w.m2.e w.c2.h w.c2.nd.e w.c2.ps w.c2.cz w.c2.co.ps w.c2.co.ss=some (((w.p.e,w.m1.e),(tookA w.m2 (w.c2.take w.f2 w.b2)).2.e,(tookA w.m2 (w.c2.take w.f2 w.b2)).1.h),((tookA w.m2 (w.c2.take w.f2 w.b2)).1.nd.e,(tookA w.m2 (w.c2.take w.f2 w.b2)).1.ps),(tookA w.m2 (w.c2.take w.f2 w.b2)).1.cz,(tookA w.m2 (w.c2.take w.f2 w.b2)).1.co.ps,(tookA w.m2 (w.c2.take w.f2 w.b2)).1.co.ss):=by
 unfold o41v3
 have hj:=take_job (h.c2 rfl) (f:=w.f2) (came:=w.b2)
 refine (bdS (o83_eq (c:=w.c2) (f:=w.f2) (came:=w.b2) (h.c2 rfl) h.f2)).trans ?_
 generalize (w.c2.take w.f2 w.b2)=x at hj ⊢
 obtain ⟨c,⟨jb,sn,l⟩,has,er⟩:=x
 cases has with
 | false=>rfl
 | true =>
  have hs:l.length≤874:=hj.sets
  have hi:∀ x∈l,x.2.2.2.length≤2000:=hj.ins
  refine (cndF rfl).trans ?_
  refine (bdS (o179_eq (m:=w.m2) (p:=sn) h.p2.1 (le_mil h.p2.2))).trans ?_
  refine cnd_ext (c:=(w.m2.load sn).2 != 0) (F:=fun z:Cp×Mc=>(((w.p.e,w.m1.e),z.2.e,z.1.h),(z.1.nd.e,z.1.ps),z.1.cz,z.1.co.ps,z.1.co.ss)) (X:=(c.drop,(w.m2.load sn).1)) (Y:=(c,runL (w.m2.load sn).1 l)) ((bdS (o22_eq c)).trans rfl) ?_
  refine loop_from (fun i=>(((((l.length:Nat):Int),((i:Nat):Int),w.p.e),w.m1.e,(runL (w.m2.load sn).1 (l.take i)).e,c.h),(c.nd.e,c.ps,c.cz),l,c.co.ps,c.co.ss)) l.length rfl (fun i hi'=>?_) ?_ (by omega)
  ·have hd:(l.getD i (0,0,false,[])).2.2.2.length≤100000000:=by rw [getD_of hi'];exact Nat.le_trans (hi _ (List.getElem_mem hi')) (by decide)
   unfold o41v3_b0
   refine (cndT (dt (by show (i:Int) < (l.length:Int);omega))).trans ((gdT (dt (by show (0:Int)≤i∧(i:Int) < (l.length:Int);omega))).trans ((bdS (o181_eq (runL (w.m2.load sn).1 (l.take i)) (l.getD i (0,0,false,[])).2.1 (l:=(l.getD i (0,0,false,[])).2.2.2) hd)).trans ?_))
   exact go_next (runL_succ _ hi') (wr64 (by omega)) (fun (m:Mc) (k:Int)=>(((((l.length:Nat):Int),k,w.p.e),w.m1.e,m.e,c.h),(c.nd.e,c.ps,c.cz),l,c.co.ps,c.co.ss))
  ·unfold o41v3_b0
   refine (cndF (df (by show ¬ (l.length:Int) < (l.length:Int);omega))).trans ?_
   rw [List.take_length]
   exact dnS _
theorem o40v3_eq {w:W} (h:w.ok false true):o40v3 w.p.e w.m1.e w.m2.e w.c2.h w.c2.nd.e w.c2.ps w.c2.cz w.c2.co.ps w.c2.co.ss (w.f1.e,w.f2.e) (w.b1,w.b2)=some ((((w.take false true).p.e,(w.take false true).m1.e),(w.take false true).m2.e,(w.take false true).c2.h,(w.take false true).c2.nd.e),((w.take false true).c2.ps,(w.take false true).c2.cz,(w.take false true).f1.e,(w.take false true).f2.e),((w.take false true).b1,(w.take false true).b2),(w.take false true).c2.co.ps,(w.take false true).c2.co.ss):=by
 unfold o40v3
 exact (bdS (o41v3_eq h)).trans rfl
theorem o26v18_eq {w:W} (h:w.ok false true):o26v18 w.p.e w.m1.e w.m2.e w.c2.h w.c2.nd.e w.c2.ps w.c2.cz w.c2.co.ps w.c2.co.ss (w.f1.e,w.f2.e) (w.b1,w.b2)=some ((((w.take false true).p.e,(w.take false true).m1.e),(w.take false true).m2.e,(w.take false true).c2.h,(w.take false true).c2.nd.e),((w.take false true).c2.ps,(w.take false true).c2.cz,(w.take false true).f1.e,(w.take false true).f2.e),((w.take false true).b1,(w.take false true).b2),(w.take false true).c2.co.ps,(w.take false true).c2.co.ss):=by
 unfold o26v18
 exact (bdS (o40v3_eq h)).trans rfl
theorem o42v3_eq {w:W} (h:w.ok false true):o42v3 w.p.e w.m1.e w.m2.e w.c2.h w.c2.nd.e w.c2.ps (w.c2.cz,w.c2.co.ps,w.c2.co.ss) w.r.e=some (w.node false true).r.e:=by
 unfold o42v3
 exact (bdS (o43_eq (c:=w.c2) (h.c2 rfl) _)).trans rfl
theorem o26v19_eq {w:W} (h:w.ok false true):o26v19 w.p.e w.m1.e w.m2.e w.c2.h w.c2.nd.e w.c2.ps w.c2.cz w.c2.co.ps w.c2.co.ss w.r.e=some ((((w.node false true).p.e,(w.node false true).m1.e),(w.node false true).m2.e,(w.node false true).c2.h,(w.node false true).c2.nd.e),((w.node false true).c2.ps,(w.node false true).c2.cz),(w.node false true).c2.co.ps,(w.node false true).c2.co.ss,(w.node false true).r.e):=by
 unfold o26v19
 exact (bdS (o42v3_eq h)).trans rfl
end Go.Proofs.YtpleflcfaecojaaGreat
