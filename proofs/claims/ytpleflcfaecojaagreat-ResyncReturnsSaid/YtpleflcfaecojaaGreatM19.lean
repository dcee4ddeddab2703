/-
One computer through a cycle: hello, hear, share. Conditions: each lemma's own.
-/
import Derived.Test.YtpleflcfaecojaaGreatM18
namespace Go.Proofs.YtpleflcfaecojaaGreat
set_option linter.unusedVariables false
set_option linter.unusedSimpArgs false
set_option maxRecDepth 100000
open Go.RowKit
structure Rdy (k K:Int) (c:Cp):Prop where
 kk:k=1∨k=2
 num:c.number=k
 nnum:c.nd.number=k
 nx:c.next=0
 nnx:c.nd.next=0
 role:1≤c.nd.role∧c.nd.role≤3
 steps:0≤c.nd.steps∧c.nd.steps≤K
 base:0≤c.co.base∧c.co.base≤K
 cps:c.co.ps.length≤874
 small:K≤1000000
def Cp.hd0 (c:Cp) (l:List UInt8):Hd:=⟨c.nd.role,c.nd.steps,c.w.1,c.w.2,inpC l⟩
def fA (c:Cp) (cy:Int) (l:List UInt8):Cp:={ c with next:=1,cycle:=cy,asked:=false,nd:=c.nd.begun cy (inpC l) }
theorem w_ok {k K:Int} {c:Cp} (h:Rdy k K c):(0≤c.w.1∧c.w.1≤K)∧(0≤c.w.2∧c.w.2≤874):=by
 have hs:=h.steps
 unfold Cp.w
 refine cond_p (P:=fun z:Int×Int=>(0≤z.1∧z.1≤K)∧(0≤z.2∧z.2≤874)) ⟨h.base,?_⟩ ⟨⟨Int.le_refl _,by omega⟩,by decide⟩
 have:=h.cps
 show (0:Int)≤(c.co.ps.length:Int)∧(c.co.ps.length:Int)≤874
 omega
theorem k_u8 {k:Int} (h:k=1∨k=2):IntKind.u8.wrap k=k:=by rcases h with rfl | rfl <;> rfl
theorem k_other {k:Int} (h:k=1∨k=2):IntKind.u8.wrap (IntKind.i64.wrap (3 - k))=3 - k:=by rcases h with rfl | rfl <;> rfl
theorem hd0_put {k K:Int} {c:Cp} (h:Rdy k K c) (l:List UInt8):putHello (c.hd0 l)=(0,helloB (c.hd0 l)):=by
 have hw:=w_ok h
 exact putHello_ok h.role h.steps.1 hw.1.1 ⟨hw.2.1,by show c.w.2≤65535;omega⟩ (inpC_len l)
theorem hd0_get {k K:Int} {c:Cp} (h:Rdy k K c) (l:List UInt8):getHello (helloB (c.hd0 l))=(c.hd0 l,0):=by
 have hw:=w_ok h
 have hs:=h.steps
 have hK:=h.small
 exact getHello_put h.role ⟨hs.1,by show c.nd.steps≤_;omega⟩ ⟨hw.1.1,by show c.w.1≤_;omega⟩ ⟨hw.2.1,by show c.w.2≤65535;omega⟩ (inpC_len l)
theorem snd0_eq {k K:Int} {c:Cp} (h:Rdy k K c) {cy:Int} (hc:0≤cy) (l:List UInt8):snd0 c cy l=(fA c cy l,⟨1,k,cy,helloB (c.hd0 l)⟩,true):=by
 have hp:=hd0_put h l
 have e:c.nd.hello cy (inpC l) c.w.1 c.w.2=(c.nd.begun cy (inpC l),⟨1,k,cy,helloB (c.hd0 l)⟩,0):=by
  unfold Nd.hello
  have hp:putHello ⟨c.nd.role,c.nd.steps,c.w.1,c.w.2,inpC l⟩=(0,helloB (c.hd0 l)):=hp
  rw [neq_f h.nnx,cond_false,df (by omega:¬ cy < 0),cond_false,hp,neq_f rfl,cond_false,h.nnum,k_u8 h.kk]
 have e2:c.hello cy (inpC l)=(fA c cy l,⟨1,k,cy,helloB (c.hd0 l)⟩,0):=by
  unfold Cp.hello
  rw [neq_f h.nx,cond_false,e]
  rfl
 unfold snd0
 rw [e2]
 rfl
def HelloCame (k cy:Int) (f:Frm) (came:Bool) (o:Option Hd):Prop :=
 (came=false∧o=none)∨(∃ h,o=some h∧came=true∧f.label=1∧f.from_=3 - k∧f.cycle=cy∧getHello f.payload=(h,0))
def alN (n:Nd) (o:Option Hd):Int:=cond o.isSome 0 (IntKind.i64.wrap (n.alone+1))
def rN (n:Nd) (o:Option Hd):Int:=decR n.number n.role n.steps (alN n o) o.isSome (o.getD noHd).role (o.getD noHd).steps
def nH (n:Nd) (o:Option Hd):Nd :=
 { n with next:=2,alone:=alN n o,hd:=o.getD noHd,is:=o.isSome,role:=rN n o,fresh:=n.role==1&&rN n o==2,steps:=cond (n.role==1&&rN n o==2) 0 (cond (rN n o==1) 0 n.steps) }
theorem fits_true {n:Nd} {k:Int} (hk:k=1∨k=2) (hn:n.number=k) {f:Frm} {l:Int} (h1:f.label=l) (h2:f.from_=3 - k) (h3:f.cycle=n.cycle):n.fits f true l=true:=by
 unfold Nd.fits
 rw [hn,k_other hk,h1,h2,h3]
 simp
theorem fits_false (n:Nd) (f:Frm) (l:Int):n.fits f false l=false:=rfl
theorem nhear_eq {n:Nd} {k:Int} (hk:k=1∨k=2) (hn:n.number=k) (h1:n.next=1) (hi:n.is=false) (hd:n.hd=noHd) {f:Frm} {came:Bool} {o:Option Hd} (ho:HelloCame k n.cycle f came o) :
  n.hear f came=(nH n o,o.getD noHd,o.isSome,0):=by
 have e2:(n.heard1 f came).heard2={ n with next:=2,alone:=alN n o,hd:=o.getD noHd,is:=o.isSome }:=by
  rcases ho with ⟨rfl,rfl⟩ | ⟨h,rfl,rfl,e1,e2,e3,e4⟩
  ·unfold Nd.heard1
   rw [fits_false,cond_false]
   unfold Nd.heard2
   rw [hi]
   simp [alN,hi]
  ·unfold Nd.heard1
   rw [fits_true hk hn e1 e2 e3,cond_true,e4]
   unfold Nd.heard2
   simp [alN]
 unfold Nd.hear
 rw [neq_f h1,cond_false,e2]
 have er:({ n with next:=2,alone:=alN n o,hd:=o.getD noHd,is:=o.isSome }:Nd).newRole=rN n o:=rfl
 rw [er]
 have e3:(({ n with next:=2,alone:=alN n o,hd:=o.getD noHd,is:=o.isSome }:Nd).heard3 (rN n o)).heard4 n.role=nH n o:=by
  unfold Nd.heard3 nH
  cases h:(rN n o==1) with
  | true =>
   have h2:rN n o=1:=by simpa using h
   simp only [h2]
   rfl
  | false=>rfl
 rw [e3]
 rfl
def fB (c:Cp) (cy:Int) (l:List UInt8) (o:Option Hd):Cp :=
 { c with next:=2,cycle:=cy,nd:=nH (c.nd.begun cy (inpC l)) o,asked:=rN (c.nd.begun cy (inpC l)) o==2&&(o.isSome&&(o.getD noHd).role==1),wb:=(o.getD noHd).base,wh:=(o.getD noHd).have_,ps:=cond (rN (c.nd.begun cy (inpC l)) o != c.nd.role) [] c.ps,co:=cond (rN (c.nd.begun cy (inpC l)) o != c.nd.role) noCo c.co }
theorem hear_eq {k K:Int} {c:Cp} (h:Rdy k K c) {cy:Int} {l:List UInt8} {f:Frm} {came:Bool} {o:Option Hd} (ho:HelloCame k cy f came o):((fA c cy l).hear f came).1=fB c cy l o:=by
 have e:=nhear_eq (n:=c.nd.begun cy (inpC l)) h.kk h.nnum rfl rfl rfl ho
 unfold Cp.hear
 have e0:(fA c cy l).next=1:=rfl
 rw [neq_f e0,cond_false]
 show ((fA c cy l).heard ((c.nd.begun cy (inpC l)).hear f came)).1=_
 rw [e]
 unfold Cp.heard
 rw [neq_f rfl,cond_false]
 unfold Cp.heard1 fB
 show (Cp.heard2 (cond (rN (c.nd.begun cy (inpC l)) o != c.nd.role) _ _) _)=_
 cases (rN (c.nd.begun cy (inpC l)) o != c.nd.role) <;> rfl
def fC (c:Cp) (cy:Int) (l:List UInt8) (o:Option Hd):Cp:={ fB c cy l o with next:=3,nd:=cond ((fB c cy l o).nd.role==2) (fB c cy l o).nd.shared { (fB c cy l o).nd with next:=3 } }
theorem snd1_eq {k K:Int} {c:Cp} (h:Rdy k K c) (cy:Int) (l:List UInt8) (o:Option Hd) :
  snd1 (fB c cy l o)=(fC c cy l o,cond ((fB c cy l o).nd.role==2) ⟨2,k,cy,(putSet (fB c cy l o).nd.shared.se).2⟩ noFrm,(fB c cy l o).nd.role==2):=by
 have e0:(fB c cy l o).next=2:=rfl
 have e1:(fB c cy l o).nd.next=2:=rfl
 have e2:IntKind.u8.wrap (fB c cy l o).nd.number=k:=(congrArg IntKind.u8.wrap h.nnum).trans (k_u8 h.kk)
 have e3:(fB c cy l o).nd.share=(cond ((fB c cy l o).nd.role==2) (fB c cy l o).nd.shared { (fB c cy l o).nd with next:=3 },cond ((fB c cy l o).nd.role==2) ⟨2,k,cy,(putSet (fB c cy l o).nd.shared.se).2⟩ noFrm,(fB c cy l o).nd.role==2,0):=by
  unfold Nd.share
  rw [neq_f e1,cond_false,e2]
  cases hr:((fB c cy l o).nd.role==2) with
  | true =>
   have:((fB c cy l o).nd.role != 2)=false:=by simp only [bne,hr];rfl
   rw [this];rfl
  | false =>
   have:((fB c cy l o).nd.role != 2)=true:=by simp only [bne,hr];rfl
   rw [this];rfl
 unfold snd1 Cp.share
 rw [neq_f e0,cond_false,e3]
 rfl
def SetCame (k cy:Int) (f:Frm) (came:Bool) (y:Option Se):Prop :=
 (came=false∧y=none)∨(came=true∧f.label=2∧f.from_=3 - k∧f.cycle=cy∧y=cond ((getSet cy f.payload).2==0) (some (getSet cy f.payload).1) none)
def tkOf (n:Nd):Option Se→Option Se
 | some s=>cond (!s.fresh&&s.steps==n.steps) (some s) none
 | none=>none
def nS (n:Nd) (t:Option Se):Nd×Se×Bool :=
 cond (n.role==2) ({ n with next:=4,has:=true,steps:=IntKind.i64.wrap (n.steps+1) },n.se,true)
  (cond (n.role==3) (match t with | some s=>({ n with next:=4,se:=s,has:=true,steps:=IntKind.i64.wrap (n.steps+1) },s,true) | none=>(({ n with next:=4 }:Nd).out,noSe,false)) ({ n with next:=4 },noSe,false))
theorem nstep_eq {n:Nd} {k:Int} (hk:k=1∨k=2) (hn:n.number=k) (h1:n.next=3) (hh:n.has=false) {f:Frm} {came:Bool} {y:Option Se} (hy:SetCame k n.cycle f came y) :
  n.step f came=((nS n (tkOf n y)).1,(nS n (tkOf n y)).2.1,(nS n (tkOf n y)).2.2,0):=by
 have ht:n.took f came=match tkOf n y with | some s=>{ n with next:=4,se:=s,has:=true } | none=>{ n with next:=4 }:=by
  unfold Nd.took
  rcases hy with ⟨rfl,rfl⟩ | ⟨rfl,e1,e2,e3,rfl⟩
  ·rw [fits_false];rfl
  ·rw [fits_true hk hn e1 e2 e3,cond_true]
   unfold Nd.okSet
   cases ((getSet n.cycle f.payload).2==0) with
   | false=>rfl
   | true =>
    rw [Bool.true_and,cond_true]
    show _=match (cond (!(getSet n.cycle f.payload).1.fresh&&(getSet n.cycle f.payload).1.steps==n.steps) (some (getSet n.cycle f.payload).1) none) with | some s=>{ n with next:=4,se:=s,has:=true } | none=>{ n with next:=4 }
    cases (!(getSet n.cycle f.payload).1.fresh&&(getSet n.cycle f.payload).1.steps==n.steps) <;> rfl
 unfold Nd.step
 rw [neq_f h1,cond_false]
 unfold Nd.stepped nS
 rw [ht]
 cases (n.role==2) with
 | true=>rfl
 | false =>
  rw [cond_false,cond_false]
  cases (n.role==3) with
  | true =>
   rw [cond_true,cond_true]
   cases tkOf n y with
   | some s=>rfl
   | none =>
    show (cond (cond n.has _ _:Nd).has _ _)=_
    rw [hh,cond_false]
    rfl
  | false =>
   rw [cond_false,cond_false]
   show (cond n.has _ _)=_
   rw [hh]
   rfl
def Co.noteO (c:Co):Option Se→Co
 | some s=>c.note s true
 | none=>cond ((c.ps.length:Int)==0) c noCo
theorem note_false (c:Co) (x:Se):c.note x false=c.noteO none:=rfl
def fD (c:Cp) (y:Option Se):Cp :=
 cond ((nS c.nd (tkOf c.nd y)).1.role==1) { (cond (c.nd.role==1) { c with next:=4,nd:=(nS c.nd (tkOf c.nd y)).1 } ({ c with next:=4,nd:=(nS c.nd (tkOf c.nd y)).1 }:Cp).reset) with co:=(cond (c.nd.role==1) c.co noCo).noteO y } { c with next:=4,nd:=(nS c.nd (tkOf c.nd y)).1 }
theorem step_eq {c:Cp} {k:Int} (hk:k=1∨k=2) (hn:c.nd.number=k) (hm:c.number=k) (h0:c.next=3) (h1:c.nd.next=3) (hh:c.nd.has=false) {cy:Int} (hc:c.cycle=cy) (hd:c.nd.cycle=cy) {f:Frm} {came:Bool} {y:Option Se} (hy:SetCame k cy f came y) :
  c.step f came=(fD c y,(nS c.nd (tkOf c.nd y)).2.1,(nS c.nd (tkOf c.nd y)).2.2,0):=by
 have e:=nstep_eq hk hn h1 hh (by rw [hd];exact hy)
 unfold Cp.step
 rw [neq_f h0,cond_false,e]
 have key:c.stepped ((nS c.nd (tkOf c.nd y)).1,(nS c.nd (tkOf c.nd y)).2.1,(nS c.nd (tkOf c.nd y)).2.2,0) f came=fD c y:=by
  unfold Cp.stepped fD
  dsimp only
  cases hr:((nS c.nd (tkOf c.nd y)).1.role==1) with
  | false=>rfl
  | true =>
   rw [cond_true,cond_true]
   have hnote:∀ d:Cp,d.cycle=cy→d.number=k→d.noted f came={ d with co:=d.co.noteO y }:=by
    intro d h1 h2
    unfold Cp.noted
    rcases hy with ⟨rfl,rfl⟩ | ⟨rfl,e1,e2,e3,rfl⟩
    ·have:d.setFits f false=false:=rfl
     rw [this,note_false]
    ·have:d.setFits f true=((getSet cy f.payload).2==0):=by
      unfold Cp.setFits
      rw [h1,h2,k_other hk,e1,e2,e3]
      simp
     rw [this,h1]
     cases ((getSet cy f.payload).2==0) with
     | true=>rfl
     | false=>rw [note_false];rfl
   cases (c.nd.role==1) with
   | true=>exact hnote { c with next:=4,nd:=(nS c.nd (tkOf c.nd y)).1 } hc hm
   | false=>exact hnote ({ c with next:=4,nd:=(nS c.nd (tkOf c.nd y)).1 }:Cp).reset hc hm
 rw [key]
def gT (c:Cp) (t:Tg):Cp:={ c with next:=5,nd:=cond c.nd.has { c.nd with next:=5,ts:=c.nd.steps,tt:=t } { c.nd with next:=5 } }
theorem ntell_eq {n:Nd} {k cy:Int} (hk:k=1∨k=2) (hn:n.number=k) (h1:n.next=4) (hc:n.cycle=cy) (t:Tg) :
  n.tell t=(cond n.has { n with next:=5,ts:=n.steps,tt:=t } { n with next:=5 },cond n.has ⟨3,k,cy,putRes n.steps t⟩ noFrm,n.has,0):=by
 obtain ⟨number,role,steps,alone,next,cycle,input,hd,is,fresh,se,has,ts,tt⟩:=n
 dsimp only at hn h1 hc
 subst hn;subst h1;subst hc
 unfold Nd.tell
 rw [k_u8 hk]
 cases has <;> rfl
theorem snd2_eq {c:Cp} {k cy:Int} (hk:k=1∨k=2) (hn:c.nd.number=k) (h0:c.next=4) (h1:c.nd.next=4) (hc:c.nd.cycle=cy) (t:Tg) :
  snd2 c t=(gT c t,cond c.nd.has ⟨3,k,cy,putRes c.nd.steps t⟩ noFrm,c.nd.has):=by
 unfold snd2 Cp.tell
 rw [neq_f h0,cond_false,ntell_eq hk hn h1 hc t]
 rfl
def gJ (c:Cp):Cp:={ c with next:=6,nd:={ c.nd with next:=0 } }
theorem judge_eq {c:Cp} (h0:c.next=5) (h1:c.nd.next=5) (f:Frm) (came:Bool) :
  (c.judge f came).1=gJ c∧(c.judge f came).2.1=cond c.nd.has (cond (c.nd.fits f came 3&&(getRes f.payload).2.2==0) (c.nd.verdict f) 3) 2:=by
 unfold Cp.judge
 rw [neq_f h0,cond_false]
 unfold Nd.judge
 rw [neq_f h1,cond_false]
 exact ⟨rfl,rfl⟩
def svOf (c:Cp) (m:Mc):List PT×PT×Int:=serve c.ps c.wb c.wh c.nd.steps (saveB m)
def gV (c:Cp) (m:Mc):Cp:={ c with next:=7,ps:=cond c.asked (svOf c m).1 c.ps }
theorem snd3_eq {c:Cp} {k:Int} (hk:k=1∨k=2) (hn:c.number=k) (h0:c.next=6) (m:Mc) :
  snd3 c m=(gV c m,cond c.asked (cond ((svOf c m).2.2 != 0) noFrm ⟨4,k,c.cycle,(encP (svOf c m).2.1).2⟩) noFrm,c.asked&&!((svOf c m).2.2 != 0)):=by
 obtain ⟨number,next,cycle,asked,wb,wh,nd,ps,co⟩:=c
 dsimp only at hn h0
 subst hn;subst h0
 unfold snd3 Cp.serve gV svOf
 cases asked with
 | false=>rfl
 | true =>
  unfold Cp.served
  rw [k_u8 hk]
  show ((cond ((serve ps wb wh nd.steps (saveB m)).2.2 != 0) _ _:Cp×Frm×Bool×Int).1,(cond ((serve ps wb wh nd.steps (saveB m)).2.2 != 0) _ _:Cp×Frm×Bool×Int).2.1,(cond ((serve ps wb wh nd.steps (saveB m)).2.2 != 0) _ _:Cp×Frm×Bool×Int).2.2.1)=(_,cond ((serve ps wb wh nd.steps (saveB m)).2.2 != 0) noFrm _,true&&!((serve ps wb wh nd.steps (saveB m)).2.2 != 0))
  cases ((serve ps wb wh nd.steps (saveB m)).2.2 != 0) <;> rfl
def PieceCame (k cy:Int) (f:Frm) (came:Bool) (p:Option PT):Prop :=
 (came=false∧p=none)∨(came=true∧f.label=4∧f.from_=3 - k∧f.cycle=cy∧p=cond ((decP f.payload).2==0) (some (decP f.payload).1) none)
def Co.takeO (c:Co):Option PT→Co
 | some p=>c.take p
 | none=>c
def gG (c:Cp) (p:Option PT):Cp:={ c with next:=0,co:=c.co.takeO p }
theorem got_eq {c:Cp} {k cy:Int} (hk:k=1∨k=2) (hn:c.number=k) (hc:c.cycle=cy) {f:Frm} {came:Bool} {p:Option PT} (hp:PieceCame k cy f came p):c.got f came=gG c p:=by
 unfold Cp.got
 rcases hp with ⟨rfl,rfl⟩ | ⟨rfl,e1,e2,e3,rfl⟩
 ·rfl
 ·have:c.pieceFits f true=true:=by
   unfold Cp.pieceFits
   rw [hn,hc,k_other hk,e1,e2,e3]
   simp
  rw [this,cond_true]
  cases ((decP f.payload).2==0) <;> rfl
theorem take_eq {c:Cp} {k cy:Int} (hk:k=1∨k=2) (hn:c.number=k) (hc:c.cycle=cy) (h0:c.next=7) {f:Frm} {came:Bool} {p:Option PT} (hp:PieceCame k cy f came p) :
  c.take f came=cond (c.nd.role==1) (cond (gG c p).co.ready (gG c p).jobDone (gG c p,noJob,false,0)) ({ c with next:=0 },noJob,false,0):=by
 unfold Cp.take
 rw [neq_f h0,cond_false,got_eq hk hn hc hp]
structure Mc.inR (m:Mc) (P:Int):Prop where
 sum:0≤m.sum∧m.sum≤18446744073709551615
 count:i64ok m.count
 pad:m.pad=P
theorem mix_in (s b:Int):0≤mix s b∧mix s b≤18446744073709551615:=u64_in_ _
theorem sumF_in:∀ (l:List UInt8) {s:Int},(0≤s∧s≤18446744073709551615)→0≤sumF s l∧sumF s l≤18446744073709551615
 | [],s,h=>h
 | b::l,s,h=>sumF_in l (mix_in _ _)
theorem stepM_in {m:Mc} {P:Int} (h:m.inR P) (cy:Int) (l:List UInt8):(m.stepM cy l).inR P :=
 ⟨sumF_in l (mix_in _ _),i64_in_ _,(stepM_pad m cy l).trans h.pad⟩
theorem runL_in {P:Int}:∀ (l:List ST) {m:Mc},m.inR P→(runL m l).inR P
 | [],m,h=>h
 | x::l,m,h=>runL_in l (stepM_in h x.2.1 x.2.2.2)
theorem load_in {m:Mc} {P:Int} (h:m.inR P) (p:List UInt8):(m.load p).1.inR P:=by
 have hr:(m.read p).inR P:=⟨u64_in_ _,i64_in_ _,(read_pad m p).trans h.pad⟩
 unfold Mc.load
 exact cond_p (P:=fun z:Mc×Int=>z.1.inR P) h (cond_p (P:=fun z:Mc×Int=>z.1.inR P) hr h)
theorem stepA_in {m:Mc} {P:Int} (h:m.inR P) (i:List UInt8) (x:Se):(stepA i m x).inR P:=by
 unfold stepA
 exact stepM_in (cond_p (P:=fun z:Mc=>z.inR P) (load_in h i) h) _ _
theorem load_save {m S:Mc} {P:Int} (h0:0≤P) (h1:P≤1000000) (hm:m.inR P) (hS:S.inR P):m.load (saveB S)=(S,0):=by
 have hl:=saveB_len S
 have hp:=hS.pad
 have hpm:=hm.pad
 have e1:getI (saveB S) 8=IntKind.i64.wrap S.sum:=by
  have:saveB S=putB (IntKind.i64.wrap S.sum) 8++(putB S.count 8++(List.range S.pad.toNat).map (padB S.sum)):=by simp [saveB]
  rw [this];exact getI_put (i64_in_ _) _
 have e2:getI ((saveB S).drop 8) 8=S.count:=by
  have:saveB S=putB (IntKind.i64.wrap S.sum) 8++(putB S.count 8++(List.range S.pad.toNat).map (padB S.sum)):=by simp [saveB]
  rw [this,drop_put];exact getI_put hS.count _
 have e3:IntKind.u64.wrap (IntKind.i64.wrap S.sum)=S.sum:=by
  have:=hS.sum
  rw [IntKind.wrap_u64,IntKind.wrap_i64];omega
 have hr:m.read (saveB S)=S:=by
  unfold Mc.read
  rw [e1,e2,e3,hpm,← hp]
 unfold Mc.load
 rw [hr,neq_f (by omega),cond_false,beq_self_eq_true,cond_true]
theorem splitL_get {b:Int} {s:List UInt8} {i:Nat} (h:i < pieces s):(splitL b s).getD i (0,0,0,[])=pcAt b s i:=by
 unfold splitL
 rw [List.getD_eq_getElem?_getD,List.getElem?_map,List.getElem?_range h]
 rfl
def dataL (s:List UInt8) (k:Nat):List (List UInt8):=(List.range k).map fun i=>(pcAt 0 s i).2.2.2
theorem dataL_succ (s:List UInt8) (k:Nat):dataL s (k+1)=dataL s k++[(pcAt 0 s k).2.2.2]:=by
 unfold dataL
 rw [List.range_succ,List.map_append]
 rfl
theorem dataL_len (s:List UInt8) (k:Nat):(dataL s k).length=k:=by simp [dataL]
theorem dataL_take (s:List UInt8):∀ k,(dataL s k).flatten=s.take (600*k)
 | 0=>by simp [dataL]
 | k+1=>by
  rw [dataL_succ,List.flatten_append,dataL_take s k]
  show s.take (600*k)++[((s.drop (600*k)).take (min (600*(k+1)) s.length - 600*k))].flatten=_
  rw [List.flatten_singleton,show 600*(k+1)=600*k+600 by omega,List.take_add]
  congr 1
  by_cases h:600*k+600≤s.length
  ·rw [Nat.min_eq_left h,Nat.add_sub_cancel_left]
  ·rw [Nat.min_eq_right (by omega)]
   rw [List.take_of_length_le (by rw [List.length_drop];omega),List.take_of_length_le (by rw [List.length_drop];omega)]
theorem dataL_all (s:List UInt8):(dataL s (pieces s)).flatten=s:=by
 rw [dataL_take,List.take_of_length_le]
 unfold pieces
 omega
def SndOk (c:Cp) (K:Int):Prop:=c.ps=[]∨∃ b s,1≤b∧b≤K∧pieces s≤874∧c.ps=splitL b s
structure Link (co:Co) (ci:Cp) (mi:Mc) (P:Int):Prop where
 ex:∃ S:Mc,S.inR P∧co.count=(pieces (saveB S):Int)∧(∃ k,1≤k∧k≤pieces (saveB S)∧co.ps=dataL (saveB S) k)∧mi=runL S co.ss∧(∀ s,ci.ps=splitL co.base s→s=saveB S)
 base:1≤co.base
 steps:ci.nd.steps=co.base+(co.ss.length:Int)
theorem splitL_inj {b:Int} {s t:List UInt8} (h:splitL b s=splitL b t):s=t:=by
 have hl:pieces s=pieces t:=by rw [← splitL_len b s,h,splitL_len]
 have e:∀ i,i < pieces s→(pcAt 0 s i).2.2.2=(pcAt 0 t i).2.2.2:=fun i hi=>by
  have h1:=splitL_get (b:=b) (s:=s) hi
  have h2:=splitL_get (b:=b) (s:=t) (by omega:i < pieces t)
  rw [h,h2] at h1
  exact (congrArg (fun z:PT=>z.2.2.2) h1).symm
 have:dataL s (pieces s)=dataL t (pieces t):=by
  rw [← hl]
  exact List.map_congr_left fun i hi=>e i (List.mem_range.1 hi)
 rw [← dataL_all s,this,dataL_all]
theorem arrive {a:Bool} {f:Frm} {ok:Bool} {ft:Ft} {lab k cy:Int} (ht:a=true→f.tidy):(cond a (wire f ok ft lab k cy).1 noFrm=noFrm∧cond a (wire f ok ft lab k cy).2 false=false) ∨
  (cond a (wire f ok ft lab k cy).1 noFrm=f∧cond a (wire f ok ft lab k cy).2 false=true∧a=true∧ok=true∧f.label=lab∧f.from_=k∧f.cycle=cy):=by
 cases a with
 | false=>exact .inl ⟨rfl,rfl⟩
 | true =>
  rcases wire_cases (ht rfl) ok ft lab k cy with e | ⟨e,e1,e2,e3,e4⟩
  ·exact .inl (by rw [e];exact ⟨rfl,rfl⟩)
  ·exact .inr (by rw [e];exact ⟨rfl,rfl,rfl,e1,e2,e3,e4⟩)
theorem tidy_of {l k cy:Int} {p:List UInt8} (hl:0≤l∧l≤255) (hk:k=1∨k=2) (hc:0≤cy∧cy≤1000000):(⟨l,k,cy,p⟩:Frm).tidy:=⟨hl,by show 0≤k∧k≤255;omega,by show -9223372036854775808≤cy∧cy≤9223372036854775807;omega⟩
theorem noFrm_tidy:noFrm.tidy:=⟨by decide,by decide,⟨by decide,by decide⟩⟩
theorem hello_came {k j K cy:Int} {c:Cp} (h:Rdy j K c) (hkj:j=3 - k) {b:Bool} {ft:Ft} (hc:0≤cy∧cy≤1000000) (l:List UInt8) :
  ∃ o,HelloCame k cy (cond b (wire ⟨1,j,cy,helloB (c.hd0 l)⟩ true ft 1 j cy).1 noFrm) (cond b (wire ⟨1,j,cy,helloB (c.hd0 l)⟩ true ft 1 j cy).2 false) o∧(o=none∨(b=true∧o=some (c.hd0 l))):=by
 rcases arrive (a:=b) (f:=⟨1,j,cy,helloB (c.hd0 l)⟩) (ok:=true) (ft:=ft) (lab:=1) (k:=j) (cy:=cy) (fun _=>tidy_of (by decide) h.kk hc) with ⟨e1,e2⟩ | ⟨e1,e2,e3,_⟩
 ·rw [e1,e2];exact ⟨none,.inl ⟨rfl,rfl⟩,.inl rfl⟩
 ·rw [e1,e2];exact ⟨some (c.hd0 l),.inr ⟨_,rfl,rfl,rfl,hkj,rfl,hd0_get h l⟩,.inr ⟨e3,rfl⟩⟩
theorem none_came (k cy:Int):HelloCame k cy noFrm false none:= .inl ⟨rfl,rfl⟩
def seOf (c:Cp) (cy:Int) (l:List UInt8) (o:Option Hd):Se:=(fB c cy l o).nd.shared.se
theorem fB_steps {k K:Int} {c:Cp} (h:Rdy k K c) (cy:Int) (l:List UInt8) (o:Option Hd):0≤(fB c cy l o).nd.steps∧(fB c cy l o).nd.steps≤K:=by
 have hs:=h.steps
 show 0≤cond _ (0:Int) (cond _ 0 c.nd.steps)∧cond _ (0:Int) (cond _ 0 c.nd.steps)≤K
 exact cond_p (P:=fun z:Int=>0≤z∧z≤K) (by omega) (cond_p (P:=fun z:Int=>0≤z∧z≤K) (by omega) hs)
theorem set_came {k j K cy:Int} {c:Cp} (h:Rdy j K c) (hkj:j=3 - k) {b:Bool} {ft:Ft} (hc:0≤cy∧cy≤1000000) (l:List UInt8) (o:Option Hd) :
  ∃ y,SetCame k cy (cond b (wire (cond ((fB c cy l o).nd.role==2) ⟨2,j,cy,(putSet (seOf c cy l o)).2⟩ noFrm) ((fB c cy l o).nd.role==2) ft 2 j cy).1 noFrm) (cond b (wire (cond ((fB c cy l o).nd.role==2) ⟨2,j,cy,(putSet (seOf c cy l o)).2⟩ noFrm) ((fB c cy l o).nd.role==2) ft 2 j cy).2 false) y ∧
   (∀ s,y=some s→b=true∧(fB c cy l o).nd.role=2∧s=seOf c cy l o):=by
 have hst:=fB_steps h cy l o
 have hK:=h.small
 rcases arrive (a:=b) (f:=cond ((fB c cy l o).nd.role==2) ⟨2,j,cy,(putSet (seOf c cy l o)).2⟩ noFrm) (ok:=(fB c cy l o).nd.role==2) (ft:=ft) (lab:=2) (k:=j) (cy:=cy) (fun _=>cond_p (P:=Frm.tidy) (tidy_of (by decide) h.kk hc) noFrm_tidy) with ⟨e1,e2⟩ | ⟨e1,e2,e3,e4,e5,e6,e7⟩
 ·rw [e1,e2];exact ⟨none,.inl ⟨rfl,rfl⟩,fun s hs=>by cases hs⟩
 ·rw [e1,e2]
  rw [e4,cond_true] at e5 e6 e7 ⊢
  refine ⟨_,.inr ⟨rfl,rfl,hkj,rfl,rfl⟩,fun s hs=>⟨e3,by simpa using e4,?_⟩⟩
  have hg:getSet cy (putSet (seOf c cy l o)).2=(noSe,4)∨(getSet cy (putSet (seOf c cy l o)).2).1=seOf c cy l o:=by
   unfold putSet
   refine cond_p (P:=fun z:Int×List UInt8=>getSet cy z.2=(noSe,4)∨(getSet cy z.2).1=seOf c cy l o) (.inl rfl) (cond_p (P:=fun z:Int×List UInt8=>getSet cy z.2=(noSe,4)∨(getSet cy z.2).1=seOf c cy l o) (.inl rfl) ?_)
   show getSet cy (setB (seOf c cy l o))=(noSe,4)∨_
   rw [getSet_put cy (x:=seOf c cy l o) (by show i64ok (fB c cy l o).nd.steps;exact ⟨by omega,by omega⟩)]
   exact cond_p (P:=fun z:Se×Int=>z=(noSe,4)∨z.1=seOf c cy l o) (.inl rfl) (.inr rfl)
  rcases hg with hg | hg
  ·dsimp only at hs;rw [hg] at hs;cases hs
  ·dsimp only at hs
   cases hz:((getSet cy (putSet (seOf c cy l o)).2).2==0) with
   | false=>rw [hz] at hs;cases hs
   | true=>rw [hz] at hs;injection hs with hs;rw [← hs];exact hg
theorem noset_came (k cy:Int):SetCame k cy noFrm false none:= .inl ⟨rfl,rfl⟩
theorem piece_came {k j cy:Int} {c:Cp} {m:Mc} (hj:j=1∨j=2) (hkj:j=3 - k) (hcy:c.cycle=cy) {b:Bool} {ft:Ft} (hc:0≤cy∧cy≤1000000) :
  ∃ p,PieceCame k cy (cond b (wire (cond c.asked (cond ((svOf c m).2.2 != 0) noFrm ⟨4,j,c.cycle,(encP (svOf c m).2.1).2⟩) noFrm) (c.asked&&!((svOf c m).2.2 != 0)) ft 4 j cy).1 noFrm) (cond b (wire (cond c.asked (cond ((svOf c m).2.2 != 0) noFrm ⟨4,j,c.cycle,(encP (svOf c m).2.1).2⟩) noFrm) (c.asked&&!((svOf c m).2.2 != 0)) ft 4 j cy).2 false) p ∧
   (∀ x,p=some x→b=true∧c.asked=true∧(svOf c m).2.2=0∧(svOf c m).2.1=x∧validP x=true):=by
 rcases arrive (a:=b) (f:=cond c.asked (cond ((svOf c m).2.2 != 0) noFrm ⟨4,j,c.cycle,(encP (svOf c m).2.1).2⟩) noFrm) (ok:=c.asked&&!((svOf c m).2.2 != 0)) (ft:=ft) (lab:=4) (k:=j) (cy:=cy) (fun _=>cond_p (P:=Frm.tidy) (cond_p (P:=Frm.tidy) noFrm_tidy (tidy_of (by decide) hj (by rw [hcy];exact hc))) noFrm_tidy) with ⟨e1,e2⟩ | ⟨e1,e2,e3,e4,e5,e6,e7⟩
 ·rw [e1,e2];exact ⟨none,.inl ⟨rfl,rfl⟩,fun s hs=>by cases hs⟩
 ·rw [e1,e2]
  simp only [Bool.and_eq_true,Bool.not_eq_true'] at e4
  rw [e4.1,e4.2,cond_true,cond_false] at e5 e6 e7 ⊢
  refine ⟨_,.inr ⟨rfl,rfl,hkj,hcy,rfl⟩,fun x hx=>⟨e3,rfl,by simpa using e4.2,?_⟩⟩
  dsimp only at hx
  cases hv:validP (svOf c m).2.1 with
  | false=>rw [decP_bad hv] at hx;cases hx
  | true =>
   rw [decP_enc hv] at hx
   injection hx with hx
   have hx:(svOf c m).2.1=x:=hx
   exact ⟨hx,by rw [← hx];exact hv⟩
theorem nopiece_came (k cy:Int):PieceCame k cy noFrm false none:= .inl ⟨rfl,rfl⟩
theorem splitL_head (b:Int) (s:List UInt8):((splitL b s).getD 0 (0,0,0,[])).1=b:=by
 rw [splitL_get (pieces_pos s)];rfl
theorem splitL_base {b c:Int} {s t:List UInt8} (h:splitL b s=splitL c t):b=c:=by
 rw [← splitL_head b s,h,splitL_head]
theorem serve_cases {c:Cp} {m:Mc} {K:Int} (hs:SndOk c K) (h0:(svOf c m).2.2=0) :
  ∃ bb ss ii,(svOf c m).1=splitL bb ss∧ii < pieces ss∧(svOf c m).2.1=pcAt bb ss ii∧pieces ss≤874∧1≤bb ∧
   ((bb=c.wb∧c.wh=((ii:Nat):Int)∧c.ps=splitL bb ss∧bb≤K)∨(bb=c.nd.steps∧ss=saveB m∧ii=0)):=by
 unfold svOf serve at h0 ⊢
 cases hh:hit c.ps c.wb c.wh with
 | true =>
  rw [cond_true]
  unfold hit at hh
  simp only [Bool.and_eq_true,decide_eq_true_eq,beq_iff_eq] at hh
  obtain ⟨g1,g2,g3,g4⟩:=hh
  rcases hs with e | ⟨b,s,b1,b2,b3,e⟩
  ·rw [e] at g1;simp at g1
  ·rw [e] at g2 g4 ⊢
   rw [splitL_head] at g2
   rw [splitL_len] at g4
   refine ⟨b,s,c.wh.toNat,rfl,by omega,splitL_get (by omega),b3,b1,.inl ⟨g2.symm,by omega,rfl,b2⟩⟩
 | false =>
  rw [hh,cond_false] at h0
  rw [cond_false]
  cases he:((split c.nd.steps (saveB m)).1 != 0) with
  | true=>rw [he,cond_true] at h0;simp only [bne_iff_ne] at he;exact absurd h0 he
  | false =>
   rw [cond_false]
   unfold split at he ⊢
   by_cases h1:(decide (c.nd.steps < 1) || decide (c.nd.steps > 2305843009213693952))=true
   ·rw [h1,cond_true] at he;cases he
   ·rw [Bool.eq_false_iff.2 h1,cond_false] at he ⊢
    by_cases h2:((saveB m).length:Int) > 524288
    ·rw [dt h2,cond_true] at he;cases he
    ·rw [df h2,cond_false]
     have h3:1≤c.nd.steps:=by simp at h1;omega
     refine ⟨c.nd.steps,saveB m,0,rfl,pieces_pos _,splitL_get (pieces_pos _),?_,h3,.inr ⟨rfl,rfl,rfl⟩⟩
     unfold pieces;omega
theorem serve_ps {c:Cp} {m:Mc} {K:Int} (hs:SndOk c K):(svOf c m).1=c.ps∨((svOf c m).1=splitL c.nd.steps (saveB m)∧1≤c.nd.steps∧pieces (saveB m)≤874):=by
 by_cases h0:(svOf c m).2.2=0
 ·obtain ⟨bb,ss,ii,e1,e2,e3,e4,e5,e6⟩:=serve_cases (m:=m) hs h0
  rcases e6 with ⟨f1,f2,f3,f4⟩ | ⟨f1,f2,f3⟩
  ·exact .inl (e1.trans f3.symm)
  ·subst f1;subst f2;exact .inr ⟨e1,e5,e4⟩
 ·left
  unfold svOf serve at h0 ⊢
  cases hh:hit c.ps c.wb c.wh with
  | true=>rfl
  | false =>
   rw [hh,cond_false] at h0
   rw [cond_false]
   cases he:((split c.nd.steps (saveB m)).1 != 0) with
   | true=>rfl
   | false=>rw [he,cond_false] at h0;exact absurd rfl h0
theorem snd_serve {c d:Cp} {m:Mc} {K:Int} (hs:SndOk c K) (hK:c.nd.steps≤K) (hd:d.ps=cond c.asked (svOf c m).1 c.ps):SndOk d K:=by
 have h:=serve_ps (m:=m) hs
 unfold SndOk
 rw [hd]
 cases c.asked with
 | false=>exact hs
 | true =>
  rw [cond_true]
  rcases h with e | ⟨e,e1,e2⟩
  ·rw [e];exact hs
  ·exact .inr ⟨_,_,e1,hK,e2,e⟩
theorem link_serve {co:Co} {ci d:Cp} {mi:Mc} {P K:Int} (hl:Link co ci mi P) (hn:co.ss≠[]) (hs:SndOk ci K) (hd:d.ps=ci.ps∨d.ps=splitL ci.nd.steps (saveB mi)) (hst:d.nd.steps=ci.nd.steps):Link co d mi P:=by
 obtain ⟨⟨S,h1,h2,h3,h4,h5⟩,hb,hsteps⟩:=hl
 refine ⟨⟨S,h1,h2,h3,h4,fun s e=>?_⟩,hb,hst.trans hsteps⟩
 rcases hd with e2 | e2
 ·exact h5 s (e2.symm.trans e)
 ·have:=splitL_base (e2.symm.trans e)
  have hpos:0 < co.ss.length:=List.length_pos_iff.2 hn
  omega
theorem link_take {co:Co} {ci d:Cp} {mi:Mc} {P K:Int} {p:Option PT} (hm:mi.inR P) (hl:co.ps≠[]→Link co ci mi P∧co.ss≠[]) (hs:SndOk ci K) (hd:d.ps=cond ci.asked (svOf ci mi).1 ci.ps) (hst:d.nd.steps=ci.nd.steps)
  (hp:∀ x,p=some x→ci.asked=true∧(svOf ci mi).2.2=0∧(svOf ci mi).2.1=x∧validP x=true)
  (hw:ci.asked=true→(ci.wh=0→ci.wb=0)∧(co.ps=[]∨(co.base=ci.wb∧(co.ps.length:Int)=ci.wh))) (hne:(co.takeO p).ps≠[]):Link (co.takeO p) d mi P:=by
 have hd2:d.ps=ci.ps∨d.ps=splitL ci.nd.steps (saveB mi):=by
  rw [hd]
  cases ci.asked with
  | false=>exact .inl rfl
  | true =>
   rcases serve_ps (m:=mi) hs with e | ⟨e,_⟩
   ·exact .inl e
   ·exact .inr e
 have same:co.ps≠[]→Link co d mi P:=fun h=>link_serve (hl h).1 (hl h).2 hs hd2 hst
 cases p with
 | none=>exact same hne
 | some x =>
  obtain ⟨ha,h0,hx,hv⟩:=hp x rfl
  obtain ⟨bb,ss,ii,e1,e2,e3,e4,e5,e6⟩:=serve_cases (m:=mi) hs h0
  rw [ha,cond_true] at hd
  have hx:x=pcAt bb ss ii:=hx.symm.trans e3
  have hw:=hw ha
  have ht:co.takeO (some x)=co.take x:=rfl
  rw [ht] at hne ⊢
  unfold Co.take at hne ⊢
  rw [hv,cond_true] at hne ⊢
  cases hf:co.fitsP x with
  | true =>
   rw [cond_true]
   unfold Co.fitsP at hf
   simp only [Bool.and_eq_true,decide_eq_true_eq,beq_iff_eq] at hf
   obtain ⟨f1,f2,f3,f4⟩:=hf
   have hne':co.ps≠[]:=fun e=>by rw [e] at f1;simp at f1
   obtain ⟨⟨⟨S,h1,h2,⟨k,k1,k2,k3⟩,h4,h5⟩,hb,hsteps⟩,hss⟩:=hl hne'
   have hpos:0 < co.ss.length:=List.length_pos_iff.2 hss
   have f2:bb=co.base:=by rw [hx] at f2;exact f2
   have f4:(ii:Int)=(co.ps.length:Int):=by rw [hx] at f4;exact f4
   have hk:co.ps.length=k:=by rw [k3,dataL_len]
   rcases e6 with ⟨g1,g2,g3,g4⟩ | ⟨g1,g2,g3⟩
   ·have hsS:ss=saveB S:=h5 ss (by rw [g3,f2])
    have hik:ii=k:=by omega
    refine ⟨⟨S,h1,h2,⟨k+1,by omega,?_,?_⟩,h4,fun s e=>?_⟩,hb,hst.trans hsteps⟩
    ·rw [hsS] at e2;omega
    ·show co.ps++[x.2.2.2]=_
     rw [k3,dataL_succ,hx,hik,hsS]
     rfl
    ·rw [hd,e1] at e
     have e:splitL bb ss=splitL co.base s:=e
     rw [f2] at e
     rw [← splitL_inj e,hsS]
   ·omega
  | false =>
   rw [hf,cond_false] at hne
   rw [cond_false]
   cases hi:(x.2.1==0) with
   | false=>rw [hi,cond_false] at hne;exact same hne
   | true =>
    rw [cond_true]
    have hi:(ii:Int)=0:=by have:=eq_of_beq hi;rw [hx] at this;exact this
    have hii:ii=0:=by omega
    rcases e6 with ⟨g1,g2,g3,g4⟩ | ⟨g1,g2,g3⟩
    ·have:=hw.1 (by omega);omega
    ·refine ⟨⟨mi,hm,?_,⟨1,Nat.le_refl 1,pieces_pos _,?_⟩,rfl,fun s e=>?_⟩,?_,?_⟩
     ·show x.2.2.1=_
      rw [hx,g2];rfl
     ·show [x.2.2.2]=_
      rw [hx,hii,g2];rfl
     ·rw [hd,e1] at e
      have e:splitL bb ss=splitL x.1 s:=e
      rw [show x.1=bb by rw [hx];rfl] at e
      rw [← splitL_inj e,g2]
     ·show 1≤x.1
      rw [hx];exact e5
     ·show d.nd.steps=x.1+(([]:List ST).length:Int)
      rw [hst,hx,← g1]
      show bb=bb+((0:Nat):Int)
      omega
theorem link_job {co:Co} {ci:Cp} {mi mj:Mc} {P:Int} (h0:0≤P) (h1:P≤10000) (hj:mj.inR P) (hl:Link co ci mi P) (hr:co.ready=true):mj.load co.ps.flatten=((mj.load co.ps.flatten).1,0)∧runL (mj.load co.ps.flatten).1 co.ss=mi:=by
 obtain ⟨⟨S,s1,s2,⟨k,k1,k2,k3⟩,s4,s5⟩,hb,hsteps⟩:=hl
 unfold Co.ready at hr
 simp only [Bool.not_eq_true',Bool.or_eq_false_iff,bne_eq_false_iff_eq] at hr
 have hk:k=pieces (saveB S):=by
  have:=hr.2
  rw [k3,dataL_len] at this
  omega
 have hf:co.ps.flatten=saveB S:=by rw [k3,hk,dataL_all]
 rw [hf,load_save h0 (by omega) hj s1]
 exact ⟨rfl,s4.symm⟩
theorem decR_rng (n r s a:Int) (h:Bool) (o t:Int):decR n r s a h o t=1∨decR n r s a h o t=2∨decR n r s a h o t=3:=by
 unfold decR
 have p1:(1:Int)=1∨(1:Int)=2∨(1:Int)=3:= .inl rfl
 have p2:(2:Int)=1∨(2:Int)=2∨(2:Int)=3:= .inr (.inl rfl)
 have p3:(3:Int)=1∨(3:Int)=2∨(3:Int)=3:= .inr (.inr rfl)
 exact cond_p (P:=fun z:Int=>z=1∨z=2∨z=3) (cond_p (P:=fun z:Int=>z=1∨z=2∨z=3) p1 p2) (cond_p (P:=fun z:Int=>z=1∨z=2∨z=3) (cond_p (P:=fun z:Int=>z=1∨z=2∨z=3) p2 (cond_p (P:=fun z:Int=>z=1∨z=2∨z=3) (cond_p (P:=fun z:Int=>z=1∨z=2∨z=3) p3 p1) (cond_p (P:=fun z:Int=>z=1∨z=2∨z=3) p1 (cond_p (P:=fun z:Int=>z=1∨z=2∨z=3) p2 p3)))) (cond_p (P:=fun z:Int=>z=1∨z=2∨z=3) p2 p1))
theorem decR_3 {n r s a:Int} {h:Bool} {o t:Int} (e:decR n r s a h o t=3):r=3∧h=true∧((o=2∧t=s)∨o=3):=by
 unfold decR at e
 cases h2:(r==2) with
 | true=>rw [h2,cond_true] at e;revert e;cases (h&&(o==2&&(decide (t > s) || (t==s&&n==2)))) <;> intro e <;> cases e
 | false =>
  rw [h2,cond_false] at e
  cases h3:(r==3) with
  | false=>rw [h3,cond_false] at e;revert e;cases ((!h&&decide (a≥3)) || (h&&(o != 2&&(o != 3&&n==1)))) <;> intro e <;> cases e
  | true =>
   rw [h3,cond_true] at e
   cases h4:(!h || (o != 2&&o != 3)) with
   | true=>rw [h4,cond_true] at e;cases e
   | false =>
    rw [h4,cond_false] at e
    simp only [Bool.or_eq_false_iff,Bool.not_eq_false',Bool.and_eq_false_iff,bne_eq_false_iff_eq] at h4
    refine ⟨eq_of_beq h3,h4.1,?_⟩
    cases h5:(o==2) with
    | true =>
     rw [h5,cond_true] at e
     cases h6:(t==s) with
     | true=>exact .inl ⟨eq_of_beq h5,eq_of_beq h6⟩
     | false=>rw [h6] at e;cases e
    | false =>
     rcases h4.2 with g | g
     ·rw [g] at h5;cases h5
     ·exact .inr g
theorem decR_lead {n s a:Int} {h:Bool} {o t:Int} (ho:h=true→o≠2):decR n 2 s a h o t=2:=by
 unfold decR
 rw [show ((2:Int)==2)=true from rfl,cond_true]
 cases h with
 | false=>rfl
 | true=>rw [beq_eq_false_iff_ne.2 (ho rfl)];rfl
def RB (c:Cp) (cy:Int) (l:List UInt8) (o:Option Hd):Int:=(fB c cy l o).nd.role
theorem RB_eq (c:Cp) (cy:Int) (l:List UInt8) (o:Option Hd):RB c cy l o=decR c.nd.number c.nd.role c.nd.steps (alN (c.nd.begun cy (inpC l)) o) o.isSome (o.getD noHd).role (o.getD noHd).steps:=rfl
theorem RB_rng (c:Cp) (cy:Int) (l:List UInt8) (o:Option Hd):RB c cy l o=1∨RB c cy l o=2∨RB c cy l o=3:=decR_rng _ _ _ _ _ _ _
theorem fC_nd (c:Cp) (cy:Int) (l:List UInt8) (o:Option Hd):(fC c cy l o).nd=cond (RB c cy l o==2) { (fB c cy l o).nd with next:=3,se:=seOf c cy l o } { (fB c cy l o).nd with next:=3 }:=rfl
theorem fC_role (c:Cp) (cy:Int) (l:List UInt8) (o:Option Hd):(fC c cy l o).nd.role=RB c cy l o:=by rw [fC_nd];exact cond_p (P:=fun z:Nd=>z.role=RB c cy l o) rfl rfl
theorem fC_steps (c:Cp) (cy:Int) (l:List UInt8) (o:Option Hd):(fC c cy l o).nd.steps=(fB c cy l o).nd.steps:=by rw [fC_nd];exact cond_p (P:=fun z:Nd=>z.steps=(fB c cy l o).nd.steps) rfl rfl
theorem fC_number (c:Cp) (cy:Int) (l:List UInt8) (o:Option Hd):(fC c cy l o).nd.number=c.nd.number:=by rw [fC_nd];exact cond_p (P:=fun z:Nd=>z.number=c.nd.number) rfl rfl
theorem fC_next (c:Cp) (cy:Int) (l:List UInt8) (o:Option Hd):(fC c cy l o).nd.next=3:=by rw [fC_nd];exact cond_p (P:=fun z:Nd=>z.next=3) rfl rfl
theorem fC_has (c:Cp) (cy:Int) (l:List UInt8) (o:Option Hd):(fC c cy l o).nd.has=false:=by rw [fC_nd];exact cond_p (P:=fun z:Nd=>z.has=false) rfl rfl
theorem fC_cycle (c:Cp) (cy:Int) (l:List UInt8) (o:Option Hd):(fC c cy l o).nd.cycle=cy:=by rw [fC_nd];exact cond_p (P:=fun z:Nd=>z.cycle=cy) rfl rfl
theorem fC_se {c:Cp} {cy:Int} {l:List UInt8} {o:Option Hd} (h:RB c cy l o=2):(fC c cy l o).nd.se=seOf c cy l o:=by rw [fC_nd,h];rfl
def nX (c:Cp) (cy:Int) (l:List UInt8) (o:Option Hd) (y:Option Se):Nd×Se×Bool:=nS (fC c cy l o).nd (tkOf (fC c cy l o).nd y)
def Dv (c:Cp) (cy:Int) (l:List UInt8) (o:Option Hd) (y:Option Se):Cp:=fD (fC c cy l o) y
def mD (init:List UInt8) (c:Cp) (cy:Int) (l:List UInt8) (o:Option Hd) (y:Option Se) (m:Mc):Mc:=cond (nX c cy l o y).2.2 (stepA init m (nX c cy l o y).2.1) m
theorem Dv_nd (c:Cp) (cy:Int) (l:List UInt8) (o:Option Hd) (y:Option Se):(Dv c cy l o y).nd=(nX c cy l o y).1:=by
 unfold Dv fD
 refine cond_p (P:=fun z:Cp=>z.nd=(nX c cy l o y).1) ?_ rfl
 show (cond _ _ _:Cp).nd=_
 exact cond_p (P:=fun z:Cp=>z.nd=(nX c cy l o y).1) rfl rfl
theorem nS_2 {n:Nd} (t:Option Se) (h:(n.role==2)=true):nS n t=({ n with next:=4,has:=true,steps:=IntKind.i64.wrap (n.steps+1) },n.se,true):=by
 unfold nS;rw [h,cond_true]
theorem nS_3 {n:Nd} (y:Option Se) (h2:(n.role==2)=false) (h3:(n.role==3)=true) :
  (∃ s,y=some s∧s.fresh=false∧s.steps=n.steps∧nS n (tkOf n y)=({ n with next:=4,se:=s,has:=true,steps:=IntKind.i64.wrap (n.steps+1) },s,true))∨nS n (tkOf n y)=(({ n with next:=4 }:Nd).out,noSe,false):=by
 unfold nS
 rw [h2,cond_false,h3,cond_true]
 cases y with
 | none=>exact .inr rfl
 | some s =>
  have e:tkOf n (some s)=cond (!s.fresh&&s.steps==n.steps) (some s) none:=rfl
  rw [e]
  cases hf:(!s.fresh&&s.steps==n.steps) with
  | false=>exact .inr rfl
  | true =>
   simp only [Bool.and_eq_true,Bool.not_eq_true',beq_iff_eq] at hf
   exact .inl ⟨s,rfl,hf.1,hf.2,rfl⟩
theorem nS_1 {n:Nd} (t:Option Se) (h2:(n.role==2)=false) (h3:(n.role==3)=false):nS n t=({ n with next:=4 },noSe,false):=by
 unfold nS;rw [h2,cond_false,h3,cond_false]
theorem nX_2 {c:Cp} {cy:Int} {l:List UInt8} {o:Option Hd} (h:RB c cy l o=2) (y:Option Se) :
  nX c cy l o y=({ (fC c cy l o).nd with next:=4,has:=true,steps:=IntKind.i64.wrap ((fC c cy l o).nd.steps+1) },seOf c cy l o,true):=by
 have e:=nS_2 (n:=(fC c cy l o).nd) (tkOf (fC c cy l o).nd y) (by rw [fC_role,h];rfl)
 exact e.trans (congrArg (fun z:Se=>(({ (fC c cy l o).nd with next:=4,has:=true,steps:=IntKind.i64.wrap ((fC c cy l o).nd.steps+1) }:Nd),z,true)) (fC_se h))
theorem nX_3 {c:Cp} {cy:Int} {l:List UInt8} {o:Option Hd} (h:RB c cy l o=3) (y:Option Se) :
  (∃ s,y=some s∧s.fresh=false∧s.steps=(fC c cy l o).nd.steps∧nX c cy l o y=({ (fC c cy l o).nd with next:=4,se:=s,has:=true,steps:=IntKind.i64.wrap ((fC c cy l o).nd.steps+1) },s,true))∨nX c cy l o y=(({ (fC c cy l o).nd with next:=4 }:Nd).out,noSe,false) :=
 nS_3 (n:=(fC c cy l o).nd) y (by rw [fC_role,h];rfl) (by rw [fC_role,h];rfl)
theorem nX_1 {c:Cp} {cy:Int} {l:List UInt8} {o:Option Hd} (h:RB c cy l o=1) (y:Option Se):nX c cy l o y=({ (fC c cy l o).nd with next:=4 },noSe,false) :=
 nS_1 (n:=(fC c cy l o).nd) _ (by rw [fC_role,h];rfl) (by rw [fC_role,h];rfl)
theorem Dv_role (c:Cp) (cy:Int) (l:List UInt8) (o:Option Hd) (y:Option Se) :
  ((Dv c cy l o y).nd.role=1)∨(RB c cy l o=2∧(Dv c cy l o y).nd.role=2)∨(RB c cy l o=3∧(Dv c cy l o y).nd.role=3):=by
 rw [Dv_nd]
 rcases RB_rng c cy l o with h | h | h
 ·rw [nX_1 h];exact .inl ((fC_role _ _ _ _).trans h)
 ·rw [nX_2 h];exact .inr (.inl ⟨h,(fC_role _ _ _ _).trans h⟩)
 ·rcases nX_3 h y with ⟨s,-,-,-,e⟩ | e
  ·rw [e];exact .inr (.inr ⟨h,(fC_role _ _ _ _).trans h⟩)
  ·rw [e];exact .inl rfl
theorem noCo_note (y:Option Se):noCo.noteO y=noCo:=by cases y <;> rfl
theorem Dv_co {c:Cp} {cy:Int} {l:List UInt8} {o:Option Hd} {y:Option Se} (hr:(Dv c cy l o y).nd.role=1) (hn:c.nd.role≠1→c.co.ps=[]) :
  (Dv c cy l o y).co=noCo∨(RB c cy l o=1∧c.nd.role=1∧(Dv c cy l o y).co=c.co.noteO y):=by
 have e:(Dv c cy l o y).co=(cond ((fC c cy l o).nd.role==1) (fC c cy l o).co noCo).noteO y:=by
  have h:((nX c cy l o y).1.role==1)=true:=by rw [← Dv_nd,hr];rfl
  unfold Dv fD
  have h:((nS (fC c cy l o).nd (tkOf (fC c cy l o).nd y)).1.role==1)=true:=h
  rw [h,cond_true]
 rw [e,fC_role]
 rcases RB_rng c cy l o with h | h | h
 ·rw [h,show ((1:Int)==1)=true from rfl,cond_true]
  have e2:(fC c cy l o).co=cond (RB c cy l o != c.nd.role) noCo c.co:=rfl
  rw [e2,h]
  by_cases h1:c.nd.role=1
  ·rw [h1];exact .inr ⟨rfl,rfl,rfl⟩
  ·have:((1:Int) != c.nd.role)=true:=by simp;exact fun e=>h1 e.symm
   rw [this,cond_true,noCo_note]
   exact .inl rfl
 ·rw [h];exact .inl (noCo_note y)
 ·rw [h];exact .inl (noCo_note y)
theorem note_cases (co:Co) (y:Option Se):(co.noteO y).ps=[]∨(∃ s,y=some s∧co.ps≠[]∧s.fresh=false∧s.steps=IntKind.i64.wrap (co.base+(co.ss.length:Int))∧co.noteO y={ co with ss:=co.ss++[s.t] }):=by
 cases y with
 | none =>
  left
  show (cond ((co.ps.length:Int)==0) co noCo).ps=[]
  cases h:((co.ps.length:Int)==0) with
  | true=>rw [cond_true];exact List.length_eq_zero_iff.1 (by have:=eq_of_beq h;omega)
  | false=>rfl
 | some s =>
  show (co.note s true).ps=[]∨_
  unfold Co.note
  cases h:((co.ps.length:Int)==0) with
  | true=>left;rw [cond_true];exact List.length_eq_zero_iff.1 (by have:=eq_of_beq h;omega)
  | false =>
   rw [cond_false]
   cases hm:co.misses s true with
   | true=>exact .inl rfl
   | false =>
    right
    unfold Co.misses at hm
    simp only [Bool.not_true,Bool.false_or,Bool.or_eq_false_iff,bne_eq_false_iff_eq,decide_eq_false_iff_not] at hm
    refine ⟨s,rfl,fun e=>?_,hm.2.1,hm.1,?_⟩
    ·rw [e] at h;cases h
    ·show co.note s true=_
     unfold Co.note
     rw [h,cond_false]
     have:co.misses s true=false:=by
      unfold Co.misses
      simp only [Bool.not_true,Bool.false_or,Bool.or_eq_false_iff,bne_eq_false_iff_eq,decide_eq_false_iff_not]
      exact hm
     rw [this,cond_false]
structure Fit (k K:Int) (c:Cp):Prop where
 rdy:Rdy k K c
 snd:SndOk c K
 emp:c.co.ps=[]→c.co.base=0
 non:c.nd.role≠1→c.co.ps=[]
structure Rel (P:Int) (ci:Cp) (mi:Mc) (b:Bool) (cj:Cp) (mj:Mc):Prop where
 foll:ci.nd.role=3→b=true∧cj.nd.role=2∧ci.nd.steps=cj.nd.steps∧mi=mj
 link:ci.nd.role=1→ci.co.ps≠[]→b=true∧cj.nd.role=2∧Link ci.co cj mj P
structure RelE (P:Int) (ci:Cp) (mi:Mc) (b:Bool) (cj:Cp) (mj:Mc):Prop where
 foll:ci.nd.role=3→b=true→cj.nd.role=1∨(cj.nd.role=2∧ci.nd.steps=cj.nd.steps∧mi=mj)
 link:ci.nd.role=1→ci.co.ps≠[]→b=true→cj.nd.role=1∨(cj.nd.role=2∧Link ci.co cj mj P)
theorem evK_cases (a s k:Bool) (c:Cp) (n:Int):(a=true∧s=false∧evK a s k c n=c)∨((evK a s k c n).nd.role=1∧(evK a s k c n).co=noCo):=by
 unfold evK
 cases a <;> cases s <;> cases k <;> first | exact .inl ⟨rfl,rfl,rfl⟩ | exact .inr ⟨rfl,rfl⟩
theorem evK_fit {a s k:Bool} {c:Cp} {n K:Int} (hn:n=1∨n=2) (h0:0≤K) (hK:K≤1000000) (h:a=true→Fit n K c):Fit n K (evK a s k c n):=by
 have hnew:Fit n K (newCp n):=⟨⟨hn,rfl,rfl,rfl,rfl,(by show (1:Int)≤1∧(1:Int)≤3;decide),⟨Int.le_refl _,h0⟩,⟨Int.le_refl _,h0⟩,Nat.zero_le _,hK⟩,.inl rfl,fun _=>rfl,fun _=>rfl⟩
 have hdrop:∀ d:Cp,Fit n K d→Fit n K d.drop:=fun d hd=>⟨⟨hn,hd.rdy.num,hd.rdy.nnum,rfl,rfl,by show (1:Int)≤1∧(1:Int)≤3;decide,⟨Int.le_refl _,h0⟩,⟨Int.le_refl _,h0⟩,Nat.zero_le _,hK⟩,.inl rfl,fun _=>rfl,fun _=>rfl⟩
 have h1:Fit n K (cond (a&&!s) c (newCp n)):=cond_pT (P:=Fit n K) (fun e=>h (by simp at e;exact e.1)) fun _=>hnew
 unfold evK
 exact cond_p (P:=Fit n K) (hdrop _ h1) h1
theorem rel_events {P:Int} {a b s t k k' r r':Bool} {ci cj:Cp} {mi mj:Mc} {n n':Int} (h:a=true→Rel P ci mi b cj mj):RelE P (evK a s k ci n) mi (evA b t r') (evK b t k' cj n') mj:=by
 have key:∀ c:Cp,c.nd.role=1∧c.co=noCo→RelE P c mi (evA b t r') (evK b t k' cj n') mj:=fun c hc=>⟨fun e=>(by rw [hc.1] at e;cases e),fun _ hne=>absurd (by rw [hc.2];rfl) hne⟩
 rcases evK_cases a s k ci n with ⟨ha,hs,e⟩ | e
 ·rw [e]
  have h:=h ha
  rcases evK_cases b t k' cj n' with ⟨hb,ht,e2⟩ | e2
  ·rw [e2]
   exact ⟨fun h1 _=> .inr (h.foll h1).2,fun h1 h2 _=> .inr (h.link h1 h2).2⟩
  ·exact ⟨fun _ _=> .inl e2.1,fun _ _ _=> .inl e2.1⟩
 ·exact key _ e
structure Mid (P:Int) (Di:Cp) (mi:Mc) (b:Bool) (Dj:Cp) (mj:Mc):Prop where
 foll:Di.nd.role=3→b=true∧Dj.nd.role=2∧Di.nd.steps=Dj.nd.steps∧mi=mj
 link:Di.nd.role=1→Di.co.ps≠[]→b=true∧Dj.nd.role=2∧Link Di.co Dj mj P∧Di.co.ss≠[]
 want:b=true→Di.nd.role=1→Dj.asked=true→(Dj.wh=0→Dj.wb=0)∧(Di.co.ps=[]∨(Di.co.base=Dj.wb∧(Di.co.ps.length:Int)=Dj.wh))
theorem fB_lead {k K:Int} {c:Cp} (cy:Int) (l:List UInt8) (o:Option Hd) (h2:c.nd.role=2) (hR:RB c cy l o=2):(fB c cy l o).nd.steps=c.nd.steps∧(fB c cy l o).ps=c.ps∧(fB c cy l o).nd.fresh=false:=by
 have hR:rN (c.nd.begun cy (inpC l)) o=2:=hR
 refine ⟨?_,?_,?_⟩
 ·show cond (c.nd.role==1&&rN (c.nd.begun cy (inpC l)) o==2) (0:Int) (cond (rN (c.nd.begun cy (inpC l)) o==1) 0 c.nd.steps)=c.nd.steps
  rw [hR,h2];rfl
 ·show cond (rN (c.nd.begun cy (inpC l)) o != c.nd.role) [] c.ps=c.ps
  rw [hR,h2];rfl
 ·show (c.nd.role==1&&rN (c.nd.begun cy (inpC l)) o==2)=false
  rw [h2];rfl
theorem Dv_lead {c:Cp} {cy:Int} {l:List UInt8} {o:Option Hd} (y:Option Se) (hR:RB c cy l o=2):Dv c cy l o y={ fC c cy l o with next:=4,nd:=(nX c cy l o y).1 }:=by
 unfold Dv fD
 have h:((nS (fC c cy l o).nd (tkOf (fC c cy l o).nd y)).1.role==1)=false:=by
  have:(nX c cy l o y).1.role=2:=by rw [nX_2 hR];exact (fC_role _ _ _ _).trans hR
  show ((nX c cy l o y).1.role==1)=false
  rw [this];rfl
 rw [h,cond_false]
 rfl
theorem mid_of {k j K P:Int} {ci cj:Cp} {mi mj:Mc} {b:Bool} {cy:Int} {li lj:List UInt8} {oi oj:Option Hd} {yi yj:Option Se} {init:List UInt8} (hi:Fit k K ci) (hj:b=true→Fit j K cj) (h:RelE P ci mi b cj mj)
  (ho:oi=none∨(b=true∧oi=some (cj.hd0 lj))) (ho2:oj=none∨oj=some (ci.hd0 li)) (hy:∀ s,yi=some s→b=true∧RB cj cy lj oj=2∧s=seOf cj cy lj oj) :
  Mid P (Dv ci cy li oi yi) (mD init ci cy li oi yi mi) b (Dv cj cy lj oj yj) (mD init cj cy lj oj yj mj):=by
 have hK:=hi.rdy.small
 have lead:b=true→cj.nd.role=2→RB cj cy lj oj=2→(Dv cj cy lj oj yj).nd.role=2∧(Dv cj cy lj oj yj).nd.steps=cj.nd.steps+1∧(Dv cj cy lj oj yj).ps=cj.ps∧(seOf cj cy lj oj).fresh=false∧(seOf cj cy lj oj).steps=cj.nd.steps∧mD init cj cy lj oj yj mj=stepA init mj (seOf cj cy lj oj):=by
  intro hb h2 hR
  obtain ⟨e1,e2,e3⟩:=fB_lead (k:=j) (K:=K) cy lj oj h2 hR
  have hs:=(hj hb).rdy.steps
  have en:(Dv cj cy lj oj yj).nd=(nX cj cy lj oj yj).1:=Dv_nd _ _ _ _ _
  rw [nX_2 hR] at en
  refine ⟨by rw [en];exact (fC_role _ _ _ _).trans hR,?_,?_,e3,e1,?_⟩
  ·rw [en]
   show IntKind.i64.wrap ((fC cj cy lj oj).nd.steps+1)=_
   rw [fC_steps,e1,wr64 (by omega)]
  ·rw [Dv_lead yj hR];exact e2
  ·unfold mD;rw [nX_2 hR];rfl
 refine ⟨fun hr=>?_,fun hr hne=>?_,fun hb hr ha=>?_⟩
 ·rcases Dv_role ci cy li oi yi with e | ⟨e,e2⟩ | ⟨e,e2⟩
  ·rw [e] at hr;cases hr
  ·rw [e2] at hr;cases hr
  ·have hd:=decR_3 (RB_eq ci cy li oi ▸ e)
   obtain ⟨d1,d2,d3⟩:=hd
   rcases ho with rfl | ⟨hb,rfl⟩
   ·cases d2
   ·have d3:(cj.nd.role=2∧cj.nd.steps=ci.nd.steps)∨cj.nd.role=3:=d3
    rcases h.foll d1 hb with f | ⟨f1,f2,f3⟩
    ·rcases d3 with ⟨g,_⟩ | g <;> (rw [f] at g;cases g)
    ·have hRj:RB cj cy lj oj=2:=by
      rw [RB_eq,f1]
      refine decR_lead fun hs=>?_
      rcases ho2 with rfl | rfl
      ·cases hs
      ·show ci.nd.role≠2
       rw [d1];decide
     obtain ⟨q1,q2,q3,q4,q5,q6⟩:=lead hb f1 hRj
     have en:(Dv ci cy li (some (cj.hd0 lj)) yi).nd=(nX ci cy li (some (cj.hd0 lj)) yi).1:=Dv_nd _ _ _ _ _
     rcases nX_3 e yi with ⟨s,g1,g2,g3,g4⟩ | g
     ·have hsi:=hi.rdy.steps
      obtain ⟨-,-,hs⟩:=hy s g1
      have hst:(fC ci cy li (some (cj.hd0 lj))).nd.steps=cj.nd.steps:=by rw [← g3,hs,q5]
      refine ⟨hb,q1,?_,?_⟩
      ·rw [en,g4,q2]
       show IntKind.i64.wrap ((fC ci cy li (some (cj.hd0 lj))).nd.steps+1)=_
       rw [hst,wr64 (by omega)]
      ·rw [q6]
       unfold mD
       rw [g4,hs,f3]
       rfl
     ·rw [en,g] at e2;cases e2
 ·rcases Dv_co hr hi.non with e | ⟨e1,e2,e3⟩
  ·rw [e] at hne;exact absurd rfl hne
  ·rw [e3] at hne ⊢
   rcases note_cases ci.co yi with g | ⟨s,g1,g2,g3,g4,g5⟩
   ·exact absurd g hne
   ·rw [g5]
    obtain ⟨hb,hR,hs⟩:=hy s g1
    have hfr:(seOf cj cy lj oj).fresh=false:=by rw [← hs];exact g3
    have hnr:cj.nd.role≠1:=by
     intro h1
     have hf:(seOf cj cy lj oj).fresh=(cj.nd.role==1&&RB cj cy lj oj==2):=rfl
     rw [hfr,h1,hR] at hf
     cases hf
    rcases h.link e2 g2 hb with f | ⟨f1,f2⟩
    ·exact absurd f hnr
    ·obtain ⟨q1,q2,q3,q4,q5,q6⟩:=lead hb f1 hR
     obtain ⟨⟨S,s1,s2,s3,s4,s5⟩,lb,ls⟩:=f2
     refine ⟨hb,q1,⟨⟨S,s1,s2,s3,?_,fun z hz=>s5 z (by rw [q3] at hz;exact hz)⟩,lb,?_⟩,by simp⟩
     ·show mD init cj cy lj oj yj mj=runL S (ci.co.ss++[s.t])
      rw [q6]
      unfold runL
      rw [List.foldl_append]
      show _=(runL S ci.co.ss).stepM s.cycle s.in_
      rw [← s4,hs]
      unfold stepA
      rw [hfr,cond_false]
     ·show (Dv cj cy lj oj yj).nd.steps=ci.co.base+((ci.co.ss++[s.t]).length:Int)
      rw [q2,List.length_append,List.length_singleton]
      omega
 ·have hask:(Dv cj cy lj oj yj).asked=(RB cj cy lj oj==2&&(oj.isSome&&(oj.getD noHd).role==1))∧(Dv cj cy lj oj yj).wb=(oj.getD noHd).base∧(Dv cj cy lj oj yj).wh=(oj.getD noHd).have_:=by
   unfold Dv fD
   refine cond_p (P:=fun z:Cp=>z.asked=(RB cj cy lj oj==2&&(oj.isSome&&(oj.getD noHd).role==1))∧z.wb=(oj.getD noHd).base∧z.wh=(oj.getD noHd).have_) ?_ ⟨rfl,rfl,rfl⟩
   show (cond _ _ _:Cp).asked=_∧(cond _ _ _:Cp).wb=_∧(cond _ _ _:Cp).wh=_
   exact cond_p (P:=fun z:Cp=>z.asked=(RB cj cy lj oj==2&&(oj.isSome&&(oj.getD noHd).role==1))∧z.wb=(oj.getD noHd).base∧z.wh=(oj.getD noHd).have_) ⟨rfl,rfl,rfl⟩ ⟨rfl,rfl,rfl⟩
  rw [hask.1] at ha
  simp only [Bool.and_eq_true,beq_iff_eq] at ha
  rcases ho2 with rfl | rfl
  ·cases ha.2.1
  ·have hrole:ci.nd.role=1:=ha.2.2
   have hwant:ci.w=ci.co.want:=by unfold Cp.w;rw [hrole];rfl
   have hb2:(Dv cj cy lj (some (ci.hd0 li)) yj).wb=ci.co.base:=by rw [hask.2.1];show ci.w.1=_;rw [hwant];rfl
   have hh2:(Dv cj cy lj (some (ci.hd0 li)) yj).wh=(ci.co.ps.length:Int):=by rw [hask.2.2];show ci.w.2=_;rw [hwant];rfl
   rw [hb2,hh2]
   refine ⟨fun e=>hi.emp (List.length_eq_zero_iff.1 (by omega)),?_⟩
   rcases Dv_co hr hi.non with e | ⟨e1,e2,e3⟩
   ·exact .inl (by rw [e];rfl)
   ·rw [e3]
    rcases note_cases ci.co yi with g | ⟨s,g1,g2,g3,g4,g5⟩
    ·exact .inl g
    ·rw [g5];exact .inr ⟨rfl,rfl⟩
structure DFit (k K cy:Int) (D:Cp):Prop where
 kk:k=1∨k=2
 num:D.number=k
 nnum:D.nd.number=k
 nx:D.next=4
 nnx:D.nd.next=4
 role:1≤D.nd.role∧D.nd.role≤3
 steps:0≤D.nd.steps∧D.nd.steps≤K+1
 base:0≤D.co.base∧D.co.base≤K
 cps:D.co.ps.length≤874
 snd:SndOk D K
 emp:D.co.ps=[]→D.co.base=0
 non:D.nd.role≠1→D.co.ps=[]
 ask:D.asked=true→D.nd.role=2
 cyc:D.cycle=cy
 ncyc:D.nd.cycle=cy
 small:K≤1000000
theorem nX_facts {k K:Int} {c:Cp} (h:Rdy k K c) (cy:Int) (l:List UInt8) (o:Option Hd) (y:Option Se) :
  (nX c cy l o y).1.number=k∧(nX c cy l o y).1.next=4∧(nX c cy l o y).1.cycle=cy∧(1≤(nX c cy l o y).1.role∧(nX c cy l o y).1.role≤3)∧(0≤(nX c cy l o y).1.steps∧(nX c cy l o y).1.steps≤K+1):=by
 have hn:(fC c cy l o).nd.number=k:=(fC_number c cy l o).trans h.nnum
 have hc:=fC_cycle c cy l o
 have hs:=fB_steps h cy l o
 rw [← fC_steps] at hs
 have hK:=h.small
 have hr:=fC_role c cy l o
 rcases RB_rng c cy l o with e | e | e
 ·rw [nX_1 e]
  refine ⟨hn,rfl,hc,?_,?_⟩
  ·show 1≤(fC c cy l o).nd.role∧(fC c cy l o).nd.role≤3
   rw [hr,e];decide
  ·show 0≤(fC c cy l o).nd.steps∧(fC c cy l o).nd.steps≤K+1
   omega
 ·rw [nX_2 e]
  refine ⟨hn,rfl,hc,?_,?_⟩
  ·show 1≤(fC c cy l o).nd.role∧(fC c cy l o).nd.role≤3
   rw [hr,e];decide
  ·show 0≤IntKind.i64.wrap ((fC c cy l o).nd.steps+1)∧IntKind.i64.wrap ((fC c cy l o).nd.steps+1)≤K+1
   rw [wr64 (by omega)];omega
 ·rcases nX_3 e y with ⟨s,-,-,-,g⟩ | g
  ·rw [g]
   refine ⟨hn,rfl,hc,?_,?_⟩
   ·show 1≤(fC c cy l o).nd.role∧(fC c cy l o).nd.role≤3
    rw [hr,e];decide
   ·show 0≤IntKind.i64.wrap ((fC c cy l o).nd.steps+1)∧IntKind.i64.wrap ((fC c cy l o).nd.steps+1)≤K+1
    rw [wr64 (by omega)];omega
  ·rw [g]
   refine ⟨hn,rfl,hc,?_,?_⟩
   ·show (1:Int)≤1∧(1:Int)≤3
    decide
   ·show (0:Int)≤0∧(0:Int)≤K+1
    have:=h.steps;omega
theorem noteO_facts {co:Co} {K:Int} (y:Option Se) (hb:0≤co.base∧co.base≤K) (hp:co.ps.length≤874) (he:co.ps=[]→co.base=0):(0≤(co.noteO y).base∧(co.noteO y).base≤K)∧(co.noteO y).ps.length≤874∧((co.noteO y).ps=[]→(co.noteO y).base=0):=by
 have h0:(0≤noCo.base∧noCo.base≤K)∧noCo.ps.length≤874∧(noCo.ps=[]→noCo.base=0):=⟨⟨Int.le_refl _,by show (0:Int)≤K;omega⟩,Nat.zero_le _,fun _=>rfl⟩
 cases y with
 | none=>exact cond_p (P:=fun z:Co=>(0≤z.base∧z.base≤K)∧z.ps.length≤874∧(z.ps=[]→z.base=0)) ⟨hb,hp,he⟩ h0
 | some s =>
  show (0≤(co.note s true).base∧(co.note s true).base≤K)∧(co.note s true).ps.length≤874∧((co.note s true).ps=[]→(co.note s true).base=0)
  unfold Co.note
  exact cond_p (P:=fun z:Co=>(0≤z.base∧z.base≤K)∧z.ps.length≤874∧(z.ps=[]→z.base=0)) ⟨hb,hp,he⟩ (cond_p (P:=fun z:Co=>(0≤z.base∧z.base≤K)∧z.ps.length≤874∧(z.ps=[]→z.base=0)) h0 ⟨hb,hp,he⟩)
theorem dfit_of {k K cy:Int} {c:Cp} (h:Fit k K c) (l:List UInt8) (o:Option Hd) (y:Option Se):DFit k K cy (Dv c cy l o y):=by
 have hf:=nX_facts h.rdy cy l o y
 have hnd:=Dv_nd c cy l o y
 have hK:=h.rdy.small
 have hs:=h.rdy.steps
 obtain ⟨f1,f2,f3,f4,f5⟩:=hf
 rw [← hnd] at f1 f2 f3 f4 f5
 have hco:(fC c cy l o).co=c.co∨(fC c cy l o).co=noCo:=cond_p (P:=fun z:Co=>z=c.co∨z=noCo) (.inr rfl) (.inl rfl)
 have hps:(fC c cy l o).ps=c.ps∨(fC c cy l o).ps=[]:=cond_p (P:=fun z:List PT=>z=c.ps∨z=[]) (.inr rfl) (.inl rfl)
 have P1:(0≤c.co.base∧c.co.base≤K)∧c.co.ps.length≤874∧(c.co.ps=[]→c.co.base=0):=⟨h.rdy.base,h.rdy.cps,h.emp⟩
 have P0:(0≤noCo.base∧noCo.base≤K)∧noCo.ps.length≤874∧(noCo.ps=[]→noCo.base=0):=⟨⟨Int.le_refl _,by show (0:Int)≤K;omega⟩,Nat.zero_le _,fun _=>rfl⟩
 have PC:(0≤(fC c cy l o).co.base∧(fC c cy l o).co.base≤K)∧(fC c cy l o).co.ps.length≤874∧((fC c cy l o).co.ps=[]→(fC c cy l o).co.base=0):=by
  rcases hco with e | e
  ·rw [e];exact P1
  ·rw [e];exact P0
 have PD:((0≤(Dv c cy l o y).co.base∧(Dv c cy l o y).co.base≤K)∧(Dv c cy l o y).co.ps.length≤874∧((Dv c cy l o y).co.ps=[]→(Dv c cy l o y).co.base=0)):=by
  unfold Dv fD
  refine cond_p (P:=fun z:Cp=>(0≤z.co.base∧z.co.base≤K)∧z.co.ps.length≤874∧(z.co.ps=[]→z.co.base=0)) ?_ PC
  show (0≤((cond _ (fC c cy l o).co noCo).noteO y).base∧_)∧_∧_
  have PE:=cond_p (P:=fun z:Co=>(0≤z.base∧z.base≤K)∧z.ps.length≤874∧(z.ps=[]→z.base=0)) (b:=(fC c cy l o).nd.role==1) PC P0
  exact noteO_facts y PE.1 PE.2.1 PE.2.2
 have base:(Dv c cy l o y).number=k∧(Dv c cy l o y).next=4∧(Dv c cy l o y).cycle=cy:=by
  unfold Dv fD
  refine cond_p (P:=fun z:Cp=>z.number=k∧z.next=4∧z.cycle=cy) ?_ ⟨h.rdy.num,rfl,rfl⟩
  show (cond _ _ _:Cp).number=k∧(cond _ _ _:Cp).next=4∧(cond _ _ _:Cp).cycle=cy
  exact cond_p (P:=fun z:Cp=>z.number=k∧z.next=4∧z.cycle=cy) ⟨h.rdy.num,rfl,rfl⟩ ⟨h.rdy.num,rfl,rfl⟩
 have snd:SndOk (Dv c cy l o y) K:=by
  have hp2:(Dv c cy l o y).ps=c.ps∨(Dv c cy l o y).ps=[]:=by
   unfold Dv fD
   refine cond_p (P:=fun z:Cp=>z.ps=c.ps∨z.ps=[]) ?_ hps
   show (cond _ _ _:Cp).ps=c.ps∨(cond _ _ _:Cp).ps=[]
   exact cond_p (P:=fun z:Cp=>z.ps=c.ps∨z.ps=[]) hps (.inr rfl)
  unfold SndOk
  rcases hp2 with e | e
  ·rw [e];exact h.snd
  ·exact .inl e
 have hask:(Dv c cy l o y).asked=(RB c cy l o==2&&(o.isSome&&(o.getD noHd).role==1)):=by
  unfold Dv fD
  refine cond_p (P:=fun z:Cp=>z.asked=(RB c cy l o==2&&(o.isSome&&(o.getD noHd).role==1))) ?_ rfl
  show (cond _ _ _:Cp).asked=_
  exact cond_p (P:=fun z:Cp=>z.asked=(RB c cy l o==2&&(o.isSome&&(o.getD noHd).role==1))) rfl rfl
 refine ⟨h.rdy.kk,base.1,f1,base.2.1,f2,f4,f5,PD.1,PD.2.1,snd,PD.2.2,fun hr=>?_,fun ha=>?_,base.2.2,f3,hK⟩
 ·
  have hne:((nS (fC c cy l o).nd (tkOf (fC c cy l o).nd y)).1.role==1)=false:=by
   rw [beq_eq_false_iff_ne]
   intro e
   exact hr (hnd ▸ e)
  have e:Dv c cy l o y={ fC c cy l o with next:=4,nd:=(nX c cy l o y).1 }:=by
   unfold Dv fD
   rw [hne,cond_false]
   rfl
  rw [e]
  show (cond (RB c cy l o != c.nd.role) noCo c.co).ps=[]
  by_cases h1:c.nd.role=1
  ·have hR:RB c cy l o≠1:=by
    intro hR
    rw [hnd,nX_1 hR] at hr
    exact hr ((fC_role _ _ _ _).trans hR)
   have:(RB c cy l o != c.nd.role)=true:=by rw [h1];simpa using hR
   rw [this];rfl
  ·exact cond_p (P:=fun z:Co=>z.ps=[]) rfl (h.non h1)
 ·rw [hask] at ha
  simp only [Bool.and_eq_true,beq_iff_eq] at ha
  rw [hnd,nX_2 ha.1]
  exact (fC_role _ _ _ _).trans ha.1
def Vv (D:Cp) (t:Tg) (m:Mc):Cp:=gV (gJ (gT D t)) m
def takeX (V:Cp) (p:Option PT):Cp×JobT×Bool×Int:=cond (V.nd.role==1) (cond (gG V p).co.ready (gG V p).jobDone (gG V p,noJob,false,0)) ({ V with next:=0 },noJob,false,0)
theorem gT_nd (D:Cp) (t:Tg):(gT D t).nd.role=D.nd.role∧(gT D t).nd.steps=D.nd.steps∧(gT D t).nd.number=D.nd.number∧(gT D t).nd.next=5∧(gT D t).nd.has=D.nd.has∧(gT D t).nd.cycle=D.nd.cycle:=by
 show (cond _ _ _:Nd).role=_∧(cond _ _ _:Nd).steps=_∧(cond _ _ _:Nd).number=_∧(cond _ _ _:Nd).next=_∧(cond _ _ _:Nd).has=_∧(cond _ _ _:Nd).cycle=_
 exact cond_p (P:=fun z:Nd=>z.role=D.nd.role∧z.steps=D.nd.steps∧z.number=D.nd.number∧z.next=5∧z.has=D.nd.has∧z.cycle=D.nd.cycle) ⟨rfl,rfl,rfl,rfl,rfl,rfl⟩ ⟨rfl,rfl,rfl,rfl,rfl,rfl⟩
theorem svOf_gJ (D:Cp) (t:Tg) (m:Mc):svOf (gJ (gT D t)) m=svOf D m:=by
 have h:=(gT_nd D t).2.1
 show serve D.ps D.wb D.wh (gT D t).nd.steps (saveB m)=serve D.ps D.wb D.wh D.nd.steps (saveB m)
 rw [h]
structure VFacts (D:Cp) (t:Tg) (m:Mc):Prop where
 role:(Vv D t m).nd.role=D.nd.role
 steps:(Vv D t m).nd.steps=D.nd.steps
 nnum:(Vv D t m).nd.number=D.nd.number
 nnx:(Vv D t m).nd.next=0
 co:(Vv D t m).co=D.co
 ps:(Vv D t m).ps=cond D.asked (svOf D m).1 D.ps
 num:(Vv D t m).number=D.number
 nx:(Vv D t m).next=7
 cyc:(Vv D t m).cycle=D.cycle
theorem vfacts (D:Cp) (t:Tg) (m:Mc):VFacts D t m:=by
 have h:=gT_nd D t
 refine ⟨h.1,h.2.1,h.2.2.1,rfl,rfl,?_,rfl,rfl,rfl⟩
 show cond D.asked (svOf (gJ (gT D t)) m).1 D.ps=_
 rw [svOf_gJ]
def Ee (D:Cp) (t:Tg) (m:Mc) (p:Option PT):Cp×Mc:=tookA m (takeX (Vv D t m) p)
theorem takeX_in (V:Cp) (p:Option PT) (h:V.nd.role≠1):takeX V p=({ V with next:=0 },noJob,false,0):=by
 unfold takeX
 rw [beq_eq_false_iff_ne.2 h,cond_false]
theorem Ee_in {D:Cp} (t:Tg) (m:Mc) (p:Option PT) (h:D.nd.role≠1):Ee D t m p=({ Vv D t m with next:=0 },m):=by
 unfold Ee
 rw [takeX_in _ _ (by rw [(vfacts D t m).role];exact h)]
 rfl
theorem Ee_out {D:Cp} {t:Tg} {m:Mc} {p:Option PT} {k K cy:Int} (hD:DFit k K cy D) (h:D.nd.role=1) :
  (Ee D t m p=(gG (Vv D t m) p,m)) ∨
  ((D.co.takeO p).ready=true∧1≤IntKind.i64.wrap ((D.co.takeO p).base+((D.co.takeO p).ss.length:Int))∧IntKind.i64.wrap ((D.co.takeO p).base+((D.co.takeO p).ss.length:Int))≤4611686018427387904 ∧
   ∃ H:Cp,H.nd.role=3∧H.nd.steps=IntKind.i64.wrap ((D.co.takeO p).base+((D.co.takeO p).ss.length:Int))∧H.number=k∧H.nd.number=k∧H.next=0∧H.nd.next=0∧H.ps=[]∧H.co=noCo ∧
    (((m.load (D.co.takeO p).ps.flatten).2=0∧Ee D t m p=(H,runL (m.load (D.co.takeO p).ps.flatten).1 (D.co.takeO p).ss))∨Ee D t m p=(H.drop,(m.load (D.co.takeO p).ps.flatten).1))):=by
 have v:=vfacts D t m
 have hG:(gG (Vv D t m) p).co=D.co.takeO p:=by show (Vv D t m).co.takeO p=_;rw [v.co]
 have e1:takeX (Vv D t m) p=cond (D.co.takeO p).ready (gG (Vv D t m) p).jobDone (gG (Vv D t m) p,noJob,false,0):=by
  unfold takeX
  rw [v.role,h,hG]
  rfl
 unfold Ee
 rw [e1]
 cases hr:(D.co.takeO p).ready with
 | false=>exact .inl rfl
 | true =>
  rw [cond_true]
  have hn:(gG (Vv D t m) p).nd.next=0:=v.nnx
  have hro:(gG (Vv D t m) p).nd.role=1:=v.role.trans h
  have ha:∀ s,(gG (Vv D t m) p).nd.adopt s=cond (decide (s < 1) || decide (s > 4611686018427387904)) ((gG (Vv D t m) p).nd,1) ({ (gG (Vv D t m) p).nd with role:=3,steps:=s },0):=by
   intro s
   unfold Nd.adopt
   rw [neq_f hn,neq_f hro]
   rfl
  unfold Cp.jobDone
  rw [hG,ha]
  cases hs:(decide (IntKind.i64.wrap ((D.co.takeO p).base+((D.co.takeO p).ss.length:Int)) < 1) || decide (IntKind.i64.wrap ((D.co.takeO p).base+((D.co.takeO p).ss.length:Int)) > 4611686018427387904)) with
  | true=>exact .inl rfl
  | false =>
   simp only [Bool.or_eq_false_iff,decide_eq_false_iff_not] at hs
   refine .inr ⟨rfl,by omega,by omega,({ gG (Vv D t m) p with nd:={ (gG (Vv D t m) p).nd with role:=3,steps:=IntKind.i64.wrap ((D.co.takeO p).base+((D.co.takeO p).ss.length:Int)) } }:Cp).reset,rfl,rfl,?_,?_,rfl,hn,rfl,rfl,?_⟩
   ·exact v.num.trans hD.num
   ·exact v.nnum.trans hD.nnum
   ·show _∨_
    rw [cond_false]
    show ((m.load (D.co.takeO p).ps.flatten).2=0∧cond ((m.load (D.co.takeO p).ps.flatten).2 != 0) _ _=_)∨cond ((m.load (D.co.takeO p).ps.flatten).2 != 0) _ _=_
    by_cases hl:(m.load (D.co.takeO p).ps.flatten).2=0
    ·exact .inl ⟨hl,by rw [neq_f hl];rfl⟩
    ·exact .inr (by rw [neq_t hl];rfl)
theorem linked_of {P k K cy:Int} {Di Dj:Cp} {mi mj:Mc} {b:Bool} {tj:Tg} {pi:Option PT} (hDi:DFit k K cy Di) (hDj:b=true→∃ j,DFit j K cy Dj) (hmj:mj.inR P) (h:Mid P Di mi b Dj mj)
  (hp:∀ x,pi=some x→b=true∧Dj.asked=true∧(svOf Dj mj).2.2=0∧(svOf Dj mj).2.1=x∧validP x=true) (hr:Di.nd.role=1) (hne:(Di.co.takeO pi).ps≠[]):b=true∧Dj.nd.role=2∧Link (Di.co.takeO pi) (Vv Dj tj mj) mj P:=by
 have hb:b=true∧Dj.nd.role=2:=by
  by_cases hc:Di.co.ps=[]
  ·cases pi with
   | none=>exact absurd hc hne
   | some x =>
    obtain ⟨g1,g2,-⟩:=hp x rfl
    obtain ⟨j,hj⟩:=hDj g1
    exact ⟨g1,hj.ask g2⟩
  ·obtain ⟨g1,g2,-⟩:=h.link hr hc
   exact ⟨g1,g2⟩
 obtain ⟨j,hj⟩:=hDj hb.1
 have v:=vfacts Dj tj mj
 exact ⟨hb.1,hb.2,link_take hmj (fun hc=>(h.link hr hc).2.2) hj.snd v.ps v.steps (fun x hx=>(hp x hx).2) (fun ha=>h.want hb.1 hr ha) hne⟩
theorem rel_end {P k K cy:Int} {Di Dj:Cp} {mi mj:Mc} {b:Bool} {ti tj:Tg} {pi pj:Option PT} (h0:0≤P) (h1:P≤10000) (hDi:DFit k K cy Di) (hDj:b=true→∃ j,DFit j K cy Dj) (hmi:mi.inR P) (hmj:mj.inR P) (h:Mid P Di mi b Dj mj)
  (hp:∀ x,pi=some x→b=true∧Dj.asked=true∧(svOf Dj mj).2.2=0∧(svOf Dj mj).2.1=x∧validP x=true) :
  Rel P (Ee Di ti mi pi).1 (Ee Di ti mi pi).2 b (Ee Dj tj mj pj).1 (Ee Dj tj mj pj).2:=by
 have lead:Dj.nd.role=2→(Ee Dj tj mj pj).1.nd.role=2∧(Ee Dj tj mj pj).1.nd.steps=Dj.nd.steps∧(Ee Dj tj mj pj).2=mj∧(Ee Dj tj mj pj).1.ps=(Vv Dj tj mj).ps:=by
  intro h2
  rw [Ee_in tj mj pj (by rw [h2];decide)]
  have v:=vfacts Dj tj mj
  exact ⟨v.role.trans h2,v.steps,rfl,rfl⟩
 by_cases hr:Di.nd.role=1
 ·
  have linked:(Di.co.takeO pi).ps≠[]→b=true∧Dj.nd.role=2∧Link (Di.co.takeO pi) (Vv Dj tj mj) mj P:=by
   intro hne
   have hb:b=true∧Dj.nd.role=2:=by
    by_cases hc:Di.co.ps=[]
    ·cases pi with
     | none=>exact absurd hc hne
     | some x =>
      obtain ⟨g1,g2,-⟩:=hp x rfl
      obtain ⟨j,hj⟩:=hDj g1
      exact ⟨g1,hj.ask g2⟩
    ·obtain ⟨g1,g2,-⟩:=h.link hr hc
     exact ⟨g1,g2⟩
   obtain ⟨j,hj⟩:=hDj hb.1
   have v:=vfacts Dj tj mj
   exact ⟨hb.1,hb.2,link_take hmj (fun hc=>(h.link hr hc).2.2) hj.snd v.ps v.steps (fun x hx=>(hp x hx).2) (fun ha=>h.want hb.1 hr ha) hne⟩
  rcases Ee_out (t:=ti) (m:=mi) (p:=pi) hDi hr with e | ⟨er,es1,es2,H,q1,q2,q3,q4,q5,q6,q7,q8,e | e⟩
  ·rw [e]
   have v:=vfacts Di ti mi
   refine ⟨fun e3=>?_,fun _ hne=>?_⟩
   ·have:(gG (Vv Di ti mi) pi).nd.role=1:=v.role.trans hr
    rw [this] at e3;cases e3
   ·have hco:(gG (Vv Di ti mi) pi).co=Di.co.takeO pi:=by show (Vv Di ti mi).co.takeO pi=_;rw [v.co]
    rw [hco] at hne ⊢
    obtain ⟨g1,g2,g3⟩:=linked hne
    obtain ⟨l1,l2,l3,l4⟩:=lead g2
    have vj:=vfacts Dj tj mj
    refine ⟨g1,l1,?_⟩
    rw [l3]
    obtain ⟨⟨S,s1,s2,s3,s4,s5⟩,lb,ls⟩:=g3
    exact ⟨⟨S,s1,s2,s3,s4,fun z hz=>s5 z (by rw [← l4];exact hz)⟩,lb,by rw [l2];rw [vj.steps] at ls;exact ls⟩
  ·rw [e.2]
   refine ⟨fun _=>?_,fun e1 _=>by rw [q1] at e1;cases e1⟩
   have hne:(Di.co.takeO pi).ps≠[]:=fun e0=>by unfold Co.ready at er;rw [e0] at er;cases er
   obtain ⟨g1,g2,g3⟩:=linked hne
   obtain ⟨l1,l2,l3,l4⟩:=lead g2
   obtain ⟨-,j2⟩:=link_job h0 h1 hmi g3 er
   have vj:=vfacts Dj tj mj
   have hst:=g3.steps
   rw [vj.steps] at hst
   obtain ⟨j,hj⟩:=hDj g1
   have hb:=hj.steps
   have hK:=hj.small
   refine ⟨g1,l1,?_,?_⟩
   ·show H.nd.steps=_
    rw [q2,l2,hst,wr64 (by omega)]
   ·rw [l3];exact j2
  ·rw [e]
   exact ⟨fun e3=>(by cases e3),fun _ hne=>absurd rfl hne⟩
 ·rw [Ee_in ti mi pi hr]
  have v:=vfacts Di ti mi
  refine ⟨fun e3=>?_,fun e1 _=>absurd (v.role.symm.trans e1) hr⟩
  obtain ⟨g1,g2,g3,g4⟩:=h.foll (v.role.symm.trans e3)
  obtain ⟨l1,l2,l3,l4⟩:=lead g2
  refine ⟨g1,l1,?_,?_⟩
  ·show (Vv Di ti mi).nd.steps=_
   rw [v.steps,l2];exact g3
  ·rw [l3];exact g4
theorem takeO_facts {co:Co} {K:Int} {p:Option PT} (hb:0≤co.base∧co.base≤K) (hp:co.ps.length≤874) (he:co.ps=[]→co.base=0) (hx:∀ x,p=some x→1≤x.1∧x.1≤K) :
  (0≤(co.takeO p).base∧(co.takeO p).base≤K)∧(co.takeO p).ps.length≤874∧((co.takeO p).ps=[]→(co.takeO p).base=0):=by
 cases p with
 | none=>exact ⟨hb,hp,he⟩
 | some x =>
  have h2:=take_bound hp x
  refine ⟨?_,h2,?_⟩
  ·show 0≤(co.take x).base∧(co.take x).base≤K
   unfold Co.take
   have:=hx x rfl
   exact cond_p (P:=fun z:Co=>0≤z.base∧z.base≤K) (cond_p (P:=fun z:Co=>0≤z.base∧z.base≤K) hb (cond_p (P:=fun z:Co=>0≤z.base∧z.base≤K) (by show 0≤x.1∧x.1≤K;omega) hb)) hb
  ·show (co.take x).ps=[]→(co.take x).base=0
   unfold Co.take
   exact cond_p (P:=fun z:Co=>z.ps=[]→z.base=0) (cond_p (P:=fun z:Co=>z.ps=[]→z.base=0) (fun e=>by simp at e) (cond_p (P:=fun z:Co=>z.ps=[]→z.base=0) (fun e=>by cases e) he)) he
theorem fit_end {k K cy:Int} {D:Cp} {t:Tg} {m:Mc} {p:Option PT} (hD:DFit k K cy D) (hK:K+1≤1000000) (hst:∀ x,p=some x→1≤x.1∧x.1≤K+1) (h0:0≤K)
  (hlim:D.nd.role=1→(D.co.takeO p).ps≠[]→(D.co.takeO p).base+((D.co.takeO p).ss.length:Int)≤K+1):Fit k (K+1) (Ee D t m p).1:=by
 have v:=vfacts D t m
 have hsnd:SndOk (Vv D t m) (K+1):=by
  have hs:SndOk D (K+1):=by
   rcases hD.snd with e | ⟨b,s,b1,b2,b3,e⟩
   ·exact .inl e
   ·exact .inr ⟨b,s,b1,by omega,b3,e⟩
  exact snd_serve hs hD.steps.2 v.ps
 by_cases hr:D.nd.role=1
 ·have hT:=takeO_facts (p:=p) (K:=K+1) ⟨hD.base.1,by have:=hD.base.2;omega⟩ hD.cps hD.emp hst
  rcases Ee_out (t:=t) (m:=m) (p:=p) hD hr with e | ⟨er,es1,es2,H,q1,q2,q3,q4,q5,q6,q7,q8,e | e⟩
  ·rw [e]
   have hco:(gG (Vv D t m) p).co=D.co.takeO p:=by show (Vv D t m).co.takeO p=_;rw [v.co]
   refine ⟨⟨hD.kk,v.num.trans hD.num,v.nnum.trans hD.nnum,rfl,v.nnx,?_,?_,by rw [hco];exact hT.1,by rw [hco];exact hT.2.1,hK⟩,hsnd,by rw [hco];exact hT.2.2,fun hn=>absurd (v.role.trans hr) hn⟩
   ·show 1≤(Vv D t m).nd.role∧(Vv D t m).nd.role≤3
    rw [v.role];exact hD.role
   ·show 0≤(Vv D t m).nd.steps∧(Vv D t m).nd.steps≤K+1
    rw [v.steps];exact hD.steps
  ·rw [e.2]
   have hne:(D.co.takeO p).ps≠[]:=fun e0=>by unfold Co.ready at er;rw [e0] at er;cases er
   have hl:=hlim hr hne
   have hw:IntKind.i64.wrap ((D.co.takeO p).base+((D.co.takeO p).ss.length:Int))=(D.co.takeO p).base+((D.co.takeO p).ss.length:Int):=by have:=hT.1.1;exact wr64 (by omega)
   refine ⟨⟨hD.kk,q3,q4,q5,q6,by show 1≤H.nd.role∧H.nd.role≤3;rw [q1];decide,?_,?_,?_,hK⟩,.inl q7,fun _=>by show H.co.base=0;rw [q8];rfl,fun _=>by show H.co.ps=[];rw [q8];rfl⟩
   ·show 0≤H.nd.steps∧H.nd.steps≤K+1
    rw [q2];rw [hw] at es1 ⊢;omega
   ·show 0≤H.co.base∧H.co.base≤K+1
    rw [q8];show (0:Int)≤0∧(0:Int)≤K+1;omega
   ·show H.co.ps.length≤874
    rw [q8];exact Nat.zero_le _
  ·rw [e]
   refine ⟨⟨hD.kk,q3,q4,rfl,rfl,by show (1:Int)≤1∧(1:Int)≤3;decide,by show (0:Int)≤0∧(0:Int)≤K+1;omega,by show (0:Int)≤0∧(0:Int)≤K+1;omega,Nat.zero_le _,hK⟩,.inl rfl,fun _=>rfl,fun _=>rfl⟩
 ·rw [Ee_in t m p hr]
  have hcp:=hD.non hr
  refine ⟨⟨hD.kk,v.num.trans hD.num,v.nnum.trans hD.nnum,rfl,v.nnx,?_,?_,?_,?_,hK⟩,hsnd,?_,fun _=>?_⟩
  ·show 1≤(Vv D t m).nd.role∧(Vv D t m).nd.role≤3
   rw [v.role];exact hD.role
  ·show 0≤(Vv D t m).nd.steps∧(Vv D t m).nd.steps≤K+1
   rw [v.steps];exact hD.steps
  ·show 0≤(Vv D t m).co.base∧(Vv D t m).co.base≤K+1
   rw [v.co];have:=hD.base;omega
  ·show (Vv D t m).co.ps.length≤874
   rw [v.co];exact hD.cps
  ·show (Vv D t m).co.ps=[]→(Vv D t m).co.base=0
   rw [v.co];exact hD.emp
  ·show (Vv D t m).co.ps=[]
   rw [v.co];exact hcp
theorem ex0_c1 (w:W) (b:Bool) (v:Ev) (one two:List UInt8) (x:Bool):((w.ex0 true b v one two).hear true x).c1=((snd0 w.c1 w.p.cycle one).1.hear (cond b (wire (snd0 w.c2 w.p.cycle two).2.1 (snd0 w.c2 w.p.cycle two).2.2 v.f20 1 2 w.p.cycle).1 noFrm) (cond b (wire (snd0 w.c2 w.p.cycle two).2.1 (snd0 w.c2 w.p.cycle two).2.2 v.f20 1 2 w.p.cycle).2 false)).1:=rfl
theorem ex0_c2 (w:W) (a:Bool) (v:Ev) (one two:List UInt8) (x:Bool):((w.ex0 a true v one two).hear x true).c2=((snd0 w.c2 w.p.cycle two).1.hear (cond a (wire (snd0 w.c1 w.p.cycle one).2.1 (snd0 w.c1 w.p.cycle one).2.2 v.f10 1 1 w.p.cycle).1 noFrm) (cond a (wire (snd0 w.c1 w.p.cycle one).2.1 (snd0 w.c1 w.p.cycle one).2.2 v.f10 1 1 w.p.cycle).2 false)).1:=rfl
theorem st_hear {w:W} {a b:Bool} {K cy:Int} (h1:a=true→Rdy 1 K w.c1) (h2:b=true→Rdy 2 K w.c2) (hw:w.p.cycle=cy) (hc:0≤cy∧cy≤1000000) (v:Ev) (one two:List UInt8) :
  ∃ o1 o2,(a=true→((w.ex0 a b v one two).hear a b).c1=fB w.c1 cy one o1)∧(b=true→((w.ex0 a b v one two).hear a b).c2=fB w.c2 cy two o2)∧(o1=none∨(b=true∧o1=some (w.c2.hd0 two)))∧(o2=none∨(a=true∧o2=some (w.c1.hd0 one))):=by
 have g1:∃ o1,(a=true→((w.ex0 a b v one two).hear a b).c1=fB w.c1 cy one o1)∧(o1=none∨(b=true∧o1=some (w.c2.hd0 two))):=by
  cases a with
  | false=>exact ⟨none,fun e=>(by cases e),.inl rfl⟩
  | true =>
   have r1:=h1 rfl
   cases hb:b with
   | false =>
    refine ⟨none,fun _=>?_,.inl rfl⟩
    rw [ex0_c1,hw,snd0_eq r1 hc.1]
    exact hear_eq r1 (none_came 1 cy)
   | true =>
    have r2:=h2 hb
    obtain ⟨o,e1,e2⟩:=hello_came (k:=1) r2 rfl (b:=true) (ft:=v.f20) hc two
    refine ⟨o,fun _=>?_,e2⟩
    rw [ex0_c1,hw,snd0_eq r1 hc.1,snd0_eq r2 hc.1]
    exact hear_eq r1 e1
 have g2:∃ o2,(b=true→((w.ex0 a b v one two).hear a b).c2=fB w.c2 cy two o2)∧(o2=none∨(a=true∧o2=some (w.c1.hd0 one))):=by
  cases b with
  | false=>exact ⟨none,fun e=>(by cases e),.inl rfl⟩
  | true =>
   have r2:=h2 rfl
   cases ha:a with
   | false =>
    refine ⟨none,fun _=>?_,.inl rfl⟩
    rw [ex0_c2,hw,snd0_eq r2 hc.1]
    exact hear_eq r2 (none_came 2 cy)
   | true =>
    have r1:=h1 ha
    obtain ⟨o,e1,e2⟩:=hello_came (k:=2) r1 rfl (b:=true) (ft:=v.f10) hc one
    refine ⟨o,fun _=>?_,e2⟩
    rw [ex0_c2,hw,snd0_eq r2 hc.1,snd0_eq r1 hc.1]
    exact hear_eq r2 e1
 obtain ⟨o1,a1,a2⟩:=g1
 obtain ⟨o2,b1,b2⟩:=g2
 exact ⟨o1,o2,a1,b1,a2,b2⟩
theorem st_share {w:W} {a b:Bool} {K cy:Int} {c1 c2:Cp} {one two:List UInt8} {o1 o2:Option Hd} (h1:a=true→Rdy 1 K c1) (h2:b=true→Rdy 2 K c2) (e1:a=true→w.c1=fB c1 cy one o1) (e2:b=true→w.c2=fB c2 cy two o2) (hw:w.p.cycle=cy) (hc:0≤cy∧cy≤1000000) (v:Ev) :
  (a=true→(w.ex1 a b v).c1=fC c1 cy one o1)∧(b=true→(w.ex1 a b v).c2=fC c2 cy two o2) ∧
  (∃ y1,(a=true→SetCame 1 cy (w.ex1 a b v).f1 (w.ex1 a b v).b1 y1)∧∀ s,y1=some s→b=true∧RB c2 cy two o2=2∧s=seOf c2 cy two o2) ∧
  (∃ y2,(b=true→SetCame 2 cy (w.ex1 a b v).f2 (w.ex1 a b v).b2 y2)∧∀ s,y2=some s→a=true∧RB c1 cy one o1=2∧s=seOf c1 cy one o1):=by
 have x1:a=true→snd1 w.c1=_:=fun ha=>(congrArg snd1 (e1 ha)).trans (snd1_eq (h1 ha) cy one o1)
 have x2:b=true→snd1 w.c2=_:=fun hb=>(congrArg snd1 (e2 hb)).trans (snd1_eq (h2 hb) cy two o2)
 have f1:(w.ex1 a b v).f1=cond b (wire (snd1 w.c2).2.1 (snd1 w.c2).2.2 v.f21 2 2 w.p.cycle).1 noFrm:=rfl
 have f2:(w.ex1 a b v).f2=cond a (wire (snd1 w.c1).2.1 (snd1 w.c1).2.2 v.f11 2 1 w.p.cycle).1 noFrm:=rfl
 have b1:(w.ex1 a b v).b1=cond b (wire (snd1 w.c2).2.1 (snd1 w.c2).2.2 v.f21 2 2 w.p.cycle).2 false:=rfl
 have b2:(w.ex1 a b v).b2=cond a (wire (snd1 w.c1).2.1 (snd1 w.c1).2.2 v.f11 2 1 w.p.cycle).2 false:=rfl
 refine ⟨fun ha=>?_,fun hb=>?_,?_,?_⟩
 ·subst ha
  show (snd1 w.c1).1=_
  rw [x1 rfl]
 ·subst hb
  show (snd1 w.c2).1=_
  rw [x2 rfl]
 ·rw [f1,b1,hw]
  cases hb:b with
  | false=>exact ⟨none,fun _=>noset_came 1 cy,fun s hs=>by cases hs⟩
  | true =>
   rw [x2 hb]
   obtain ⟨y,g1,g2⟩:=set_came (k:=1) (h2 hb) rfl (b:=true) (ft:=v.f21) hc two o2
   exact ⟨y,fun _=>g1,g2⟩
 ·rw [f2,b2,hw]
  cases ha:a with
  | false=>exact ⟨none,fun _=>noset_came 2 cy,fun s hs=>by cases hs⟩
  | true =>
   rw [x1 ha]
   obtain ⟨y,g1,g2⟩:=set_came (k:=2) (h1 ha) rfl (b:=true) (ft:=v.f11) hc one o1
   exact ⟨y,fun _=>g1,g2⟩
theorem step_c1 (w:W) (b:Bool) (v:Ev):(w.step true b v).c1=(w.c1.step w.f1 w.b1).1∧(w.step true b v).m1=cond (w.c1.step w.f1 w.b1).2.2.1 (stepA w.p.init w.m1 (w.c1.step w.f1 w.b1).2.1) w.m1:=by cases b <;> exact ⟨rfl,rfl⟩
theorem step_c2 (w:W) (a:Bool) (v:Ev):(w.step a true v).c2=(w.c2.step w.f2 w.b2).1∧(w.step a true v).m2=cond (w.c2.step w.f2 w.b2).2.2.1 (stepA w.p.init w.m2 (w.c2.step w.f2 w.b2).2.1) w.m2:=by cases a <;> exact ⟨rfl,rfl⟩
theorem step_no1 (w:W) (b:Bool) (v:Ev):(w.step false b v).m1=w.m1:=by cases b <;> rfl
theorem step_no2 (w:W) (a:Bool) (v:Ev):(w.step a false v).m2=w.m2:=by cases a <;> rfl
theorem fC_step {k K:Int} {c:Cp} (h:Rdy k K c) {cy:Int} {l:List UInt8} {o:Option Hd} {f:Frm} {came:Bool} {y:Option Se} (hy:SetCame k cy f came y) :
  (fC c cy l o).step f came=(Dv c cy l o y,(nX c cy l o y).2.1,(nX c cy l o y).2.2,0) :=
 step_eq h.kk ((fC_number c cy l o).trans h.nnum) h.num rfl (fC_next c cy l o) (fC_has c cy l o) rfl (fC_cycle c cy l o) hy
theorem st_step {w:W} {a b:Bool} {K cy:Int} {c1 c2:Cp} {one two:List UInt8} {o1 o2:Option Hd} {y1 y2:Option Se} (h1:a=true→Rdy 1 K c1) (h2:b=true→Rdy 2 K c2) (e1:a=true→w.c1=fC c1 cy one o1) (e2:b=true→w.c2=fC c2 cy two o2)
  (s1:a=true→SetCame 1 cy w.f1 w.b1 y1) (s2:b=true→SetCame 2 cy w.f2 w.b2 y2) (v:Ev) :
  (a=true→(w.step a b v).c1=Dv c1 cy one o1 y1∧(w.step a b v).m1=mD w.p.init c1 cy one o1 y1 w.m1)∧(b=true→(w.step a b v).c2=Dv c2 cy two o2 y2∧(w.step a b v).m2=mD w.p.init c2 cy two o2 y2 w.m2):=by
 refine ⟨fun ha=>?_,fun hb=>?_⟩
 ·have e:=fC_step (h1 ha) (l:=one) (o:=o1) (s1 ha)
  have c:=e1 ha
  subst ha
  have q:=step_c1 w b v
  rw [c,e] at q
  exact q
 ·have e:=fC_step (h2 hb) (l:=two) (o:=o2) (s2 hb)
  have c:=e2 hb
  subst hb
  have q:=step_c2 w a v
  rw [c,e] at q
  exact q
theorem st_late {w:W} {a b:Bool} {K cy:Int} (h1:a=true→DFit 1 K cy w.c1) (h2:b=true→DFit 2 K cy w.c2) (hw:w.p.cycle=cy) (hc:0≤cy∧cy≤1000000) (v:Ev) :
  ∃ p1 p2,(a=true→(w.late a b v).c1=(Ee w.c1 w.r.t1 w.m1 p1).1∧(w.late a b v).m1=(Ee w.c1 w.r.t1 w.m1 p1).2)∧(b=true→(w.late a b v).c2=(Ee w.c2 w.r.t2 w.m2 p2).1∧(w.late a b v).m2=(Ee w.c2 w.r.t2 w.m2 p2).2) ∧
   (∀ x,p1=some x→b=true∧w.c2.asked=true∧(svOf w.c2 w.m2).2.2=0∧(svOf w.c2 w.m2).2.1=x∧validP x=true)∧(∀ x,p2=some x→a=true∧w.c1.asked=true∧(svOf w.c1 w.m1).2.2=0∧(svOf w.c1 w.m1).2.1=x∧validP x=true):=by
 have t1:a=true→snd2 w.c1 w.r.t1=_:=fun ha=>snd2_eq (t:=w.r.t1) (h1 ha).kk (h1 ha).nnum (h1 ha).nx (h1 ha).nnx (h1 ha).ncyc
 have t2:b=true→snd2 w.c2 w.r.t2=_:=fun hb=>snd2_eq (t:=w.r.t2) (h2 hb).kk (h2 hb).nnum (h2 hb).nx (h2 hb).nnx (h2 hb).ncyc
 have j1:a=true→((w.ex2 a b v).judge a b).c1=gJ (gT w.c1 w.r.t1):=fun ha=>by
  have e:=t1 ha
  subst ha
  show ((snd2 w.c1 w.r.t1).1.judge (w.ex2 true b v).f1 (w.ex2 true b v).b1).1=_
  rw [e]
  exact (judge_eq rfl (gT_nd w.c1 w.r.t1).2.2.2.1 _ _).1
 have j2:b=true→((w.ex2 a b v).judge a b).c2=gJ (gT w.c2 w.r.t2):=fun hb=>by
  have e:=t2 hb
  subst hb
  show ((snd2 w.c2 w.r.t2).1.judge (w.ex2 a true v).f2 (w.ex2 a true v).b2).1=_
  rw [e]
  exact (judge_eq rfl (gT_nd w.c2 w.r.t2).2.2.2.1 _ _).1
 have hu:((w.ex2 a b v).judge a b).p.cycle=cy:=hw
 have hm1:((w.ex2 a b v).judge a b).m1=w.m1:=rfl
 have hm2:((w.ex2 a b v).judge a b).m2=w.m2:=rfl
 have hlate:∀ z:W,z=(w.ex2 a b v).judge a b→w.late a b v=((z.ex3 a b v).take a b).node a b:=fun z hz=>by rw [hz];rfl
 generalize (w.ex2 a b v).judge a b=u at j1 j2 hu hm1 hm2 hlate
 rw [hlate u rfl]
 have x1:a=true→snd3 u.c1 u.m1=(Vv w.c1 w.r.t1 w.m1,cond w.c1.asked (cond ((svOf w.c1 w.m1).2.2 != 0) noFrm ⟨4,1,w.c1.cycle,(encP (svOf w.c1 w.m1).2.1).2⟩) noFrm,w.c1.asked&&!((svOf w.c1 w.m1).2.2 != 0)):=fun ha=>by
  rw [j1 ha,hm1]
  have:=snd3_eq (c:=gJ (gT w.c1 w.r.t1)) (h1 ha).kk (h1 ha).num rfl w.m1
  rw [svOf_gJ] at this
  exact this
 have x2:b=true→snd3 u.c2 u.m2=(Vv w.c2 w.r.t2 w.m2,cond w.c2.asked (cond ((svOf w.c2 w.m2).2.2 != 0) noFrm ⟨4,2,w.c2.cycle,(encP (svOf w.c2 w.m2).2.1).2⟩) noFrm,w.c2.asked&&!((svOf w.c2 w.m2).2.2 != 0)):=fun hb=>by
  rw [j2 hb,hm2]
  have:=snd3_eq (c:=gJ (gT w.c2 w.r.t2)) (h2 hb).kk (h2 hb).num rfl w.m2
  rw [svOf_gJ] at this
  exact this
 have f1:(u.ex3 a b v).f1=cond b (wire (snd3 u.c2 u.m2).2.1 (snd3 u.c2 u.m2).2.2 v.f23 4 2 u.p.cycle).1 noFrm:=rfl
 have f2:(u.ex3 a b v).f2=cond a (wire (snd3 u.c1 u.m1).2.1 (snd3 u.c1 u.m1).2.2 v.f13 4 1 u.p.cycle).1 noFrm:=rfl
 have b1:(u.ex3 a b v).b1=cond b (wire (snd3 u.c2 u.m2).2.1 (snd3 u.c2 u.m2).2.2 v.f23 4 2 u.p.cycle).2 false:=rfl
 have b2:(u.ex3 a b v).b2=cond a (wire (snd3 u.c1 u.m1).2.1 (snd3 u.c1 u.m1).2.2 v.f13 4 1 u.p.cycle).2 false:=rfl
 have q1:∃ p1,(a=true→PieceCame 1 cy (u.ex3 a b v).f1 (u.ex3 a b v).b1 p1)∧∀ x,p1=some x→b=true∧w.c2.asked=true∧(svOf w.c2 w.m2).2.2=0∧(svOf w.c2 w.m2).2.1=x∧validP x=true:=by
  rw [f1,b1,hu]
  cases hb:b with
  | false=>exact ⟨none,fun _=>nopiece_came 1 cy,fun s hs=>by cases hs⟩
  | true =>
   rw [x2 hb]
   obtain ⟨p,g1,g2⟩:=piece_came (k:=1) (j:=2) (c:=w.c2) (m:=w.m2) (.inr rfl) rfl (h2 hb).cyc (b:=true) (ft:=v.f23) hc
   exact ⟨p,fun _=>g1,g2⟩
 have q2:∃ p2,(b=true→PieceCame 2 cy (u.ex3 a b v).f2 (u.ex3 a b v).b2 p2)∧∀ x,p2=some x→a=true∧w.c1.asked=true∧(svOf w.c1 w.m1).2.2=0∧(svOf w.c1 w.m1).2.1=x∧validP x=true:=by
  rw [f2,b2,hu]
  cases ha:a with
  | false=>exact ⟨none,fun _=>nopiece_came 2 cy,fun s hs=>by cases hs⟩
  | true =>
   rw [x1 ha]
   obtain ⟨p,g1,g2⟩:=piece_came (k:=2) (j:=1) (c:=w.c1) (m:=w.m1) (.inl rfl) rfl (h1 ha).cyc (b:=true) (ft:=v.f13) hc
   exact ⟨p,fun _=>g1,g2⟩
 obtain ⟨p1,g1,g2⟩:=q1
 obtain ⟨p2,k1,k2⟩:=q2
 refine ⟨p1,p2,fun ha=>?_,fun hb=>?_,g2,k2⟩
 ·have hx:=x1 ha
  have hg:=g1 ha
  have hd:=h1 ha
  have hv:=vfacts w.c1 w.r.t1 w.m1
  have ht:(Vv w.c1 w.r.t1 w.m1).take (u.ex3 a b v).f1 (u.ex3 a b v).b1=takeX (Vv w.c1 w.r.t1 w.m1) p1:=take_eq hd.kk (hv.num.trans hd.num) (hv.cyc.trans hd.cyc) hv.nx hg
  subst ha
  show (tookA u.m1 ((snd3 u.c1 u.m1).1.take (u.ex3 true b v).f1 (u.ex3 true b v).b1)).1=_∧(tookA u.m1 ((snd3 u.c1 u.m1).1.take (u.ex3 true b v).f1 (u.ex3 true b v).b1)).2=_
  rw [hx,hm1]
  rw [show ((Vv w.c1 w.r.t1 w.m1,cond w.c1.asked (cond ((svOf w.c1 w.m1).2.2 != 0) noFrm (⟨4,1,w.c1.cycle,(encP (svOf w.c1 w.m1).2.1).2⟩:Frm)) noFrm,w.c1.asked&&!((svOf w.c1 w.m1).2.2 != 0)):Cp×Frm×Bool).1=Vv w.c1 w.r.t1 w.m1 from rfl,ht]
  exact ⟨rfl,rfl⟩
 ·have hx:=x2 hb
  have hg:=k1 hb
  have hd:=h2 hb
  have hv:=vfacts w.c2 w.r.t2 w.m2
  have ht:(Vv w.c2 w.r.t2 w.m2).take (u.ex3 a b v).f2 (u.ex3 a b v).b2=takeX (Vv w.c2 w.r.t2 w.m2) p2:=take_eq hd.kk (hv.num.trans hd.num) (hv.cyc.trans hd.cyc) hv.nx hg
  subst hb
  show (tookA u.m2 ((snd3 u.c2 u.m2).1.take (u.ex3 a true v).f2 (u.ex3 a true v).b2)).1=_∧(tookA u.m2 ((snd3 u.c2 u.m2).1.take (u.ex3 a true v).f2 (u.ex3 a true v).b2)).2=_
  rw [hx,hm2]
  rw [show ((Vv w.c2 w.r.t2 w.m2,cond w.c2.asked (cond ((svOf w.c2 w.m2).2.2 != 0) noFrm (⟨4,2,w.c2.cycle,(encP (svOf w.c2 w.m2).2.1).2⟩:Frm)) noFrm,w.c2.asked&&!((svOf w.c2 w.m2).2.2 != 0)):Cp×Frm×Bool).1=Vv w.c2 w.r.t2 w.m2 from rfl,ht]
  exact ⟨rfl,rfl⟩
def tgSame (t u:Tg):Bool:=(t.lat==u.lat)&&((t.ver==u.ver)&&((t.ph==u.ph)&&((t.bank==u.bank)&&((t.speed==u.speed)&&((t.alt==u.alt)&&(t.vs==u.vs))))))
theorem tg_eq {t u:Tg} (h:t=u):(!tgSame t u)=false:=by subst h;simp [tgSame]
def pairB (q:W):Bool:=(q.r.role1==2&&q.r.role2==3) || (q.r.role1==3&&q.r.role2==2)
def AlikeA (q:W):Prop:=q.r.st1=4→q.r.st2=4→q.r.t1=q.r.t2
def saveOf (c:Cp) (m:Mc):List UInt8:=cond (c.nd.role==1) [] (saveB m)
def SameB (q:W):Prop:=pairB q=true→q.r.steps1=q.r.steps2→saveOf q.c1 q.m1=saveOf q.c2 q.m2∧saveOf q.c1 q.m1≠[]
end Go.Proofs.YtpleflcfaecojaaGreat
