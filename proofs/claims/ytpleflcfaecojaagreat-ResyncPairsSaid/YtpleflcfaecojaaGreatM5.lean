/-
The third engine, part 12f: a region that draws its order is told in one order. Conditions: each lemma's own.
-/
import Derived.Test.YtpleflcfaecojaaGreatM4
import Derived.LoopN
namespace Go.Proofs.YtpleflcfaecojaaGreat
set_option linter.unusedVariables false
set_option linter.unusedSimpArgs false
open Go.RowKit
def wantS (ops:Array Oper) (sl:List (Nat×SV)) (o:Oper):Option Bool:=match o.guard with
 | none=>some true
 | some (j,want)=>match dstAt ops j with
  | none=>none
  | some t=>match getH sl t with
   | some (.v (.c (.bool b)))=>some (b==want)
   | some .und=>some false
   | _=>none
def lookM (ops:Array Oper) (o:Oper):Nat:=uniN (bitsOf (opSlots o.op)) (match o.guard with
 | none=>0
 | some (j,_)=>match dstAt ops j with | none=>0 | some t=>bitN t)
def dstM (o:Oper):Nat:=match o.dst with | some d=>bitN d | none=>0
def areHoles (bl:List BV):Nat→Nat→Bool
 | _,0=>true
 | f,m+1=>(match bl[f]? with | some .hole=>areHoles bl (f+1) m | _=>false)
def upto:Nat→Nat→Nat
 | _,0=>0
 | f,m+1=>uniN (bitN f) (upto (f+1) m)
theorem Gt {bl:List BV}:∀ {m f:Nat},areHoles bl f m=true→∀ i,i < m→bl[f+i]? = some .hole
 | m+1,f,h,i,hi=>by
  unfold areHoles at h
  split at h
  ·rename_i e
   cases i with
   | zero=>exact e
   | succ i=>rw [show f+(i+1)=f+1+i by omega];exact Gt h i (by omega)
  ·cases h
theorem Lq:∀ {m f i:Nat},i < m→hasN (upto f m) (f+i)=true
 | m+1,f,i,hi=>by
  show hasN (uniN _ _) _=true
  rw [BT]
  cases i with
  | zero=>rw [Nat.add_zero,Er];rfl
  | succ i=>rw [show f+(i+1)=f+1+i by omega,Lq (by omega)];simp
def fstB (E:List (Nat×BV)):Nat:=bitsOf (E.map Prod.fst)
def maskE (i:Nat) (ms:List Nat):List Edge→Nat
 | []=>0
 | e::es=>cond (Region.binds .any e) (uniN (uniN (bitN e.on) (match ms[i - 1 - e.on]? with | some m=>m | none=>0)) (maskE i ms es)) (maskE i ms es)
def fwdE (i:Nat):List Edge→Bool
 | []=>true
 | e::es=>cond (Region.binds .any e) (Nat.blt e.on i&&fwdE i es) (fwdE i es)
def okRow (m:Nat) (x:F4):Nat→List F4→Bool
 | 0,[]=>true
 | i+1,y::ys=>cond (hasN m i) (okRow m x i ys) (dj x y&&okRow m x i ys)
 | _,_=>false
structure DAcc where
 f:Nat
 ms:List Nat
 fs:List F4
def addD {ρ:Type} (ops:Array Oper) (i:Nat) (o:Oper) (acc:DAcc) (f':Nat) (x:F4) (K:DAcc→Option ρ):Option ρ:=match fwdE i o.after.toList with
 | true=>(match okRow (maskE i acc.ms o.after.toList) x i acc.fs with
  | true=>K ⟨f',maskE i acc.ms o.after.toList::acc.ms,x::acc.fs⟩
  | false=>none)
 | false=>none
def doD {P:Program} (S:Stp P) (n:Nat) (ops:Array Oper) {ρ:Type} (i:Nat) (o:Oper) (acc:DAcc) (st:HSt) (K:DAcc→HSt→Option ρ):Option ρ :=
 match areHoles st.bl acc.f (S.m (restr st.sl (opSlots o.op)) o.op) with
 | true=>runD acc.f (S.t (restr st.sl (opSlots o.op)) acc.f o.op o.type) st.bl (upto acc.f (S.m (restr st.sl (opSlots o.op)) o.op)) [] fun fp E v =>
  match put n o.dst v ⟨st.sl,setUpd st.bl E⟩ with
  | some st'=>addD ops i o acc (acc.f+S.m (restr st.sl (opSlots o.op)) o.op) ⟨fp,fstB E,lookM ops o,dstM o⟩ fun acc'=>K acc' st'
  | none=>none
 | false=>none
def skD (n:Nat) (ops:Array Oper) {ρ:Type} (i:Nat) (o:Oper) (acc:DAcc) (st:HSt) (K:DAcc→HSt→Option ρ):Option ρ:=match o.dst with
 | some d=>match Nat.blt d n with | true=>addD ops i o acc acc.f ⟨0,0,lookM ops o,dstM o⟩ fun acc'=>K acc' ⟨(d,.und)::st.sl,st.bl⟩ | false=>none
 | none=>none
def evD {P:Program} (S:Stp P) (n:Nat) (ops:Array Oper) {ρ:Type}:Nat→Nat→DAcc→HSt→(HSt→Option ρ)→Option ρ
 | 0,i,acc,st,K=>match Nat.beq ops.size i with | true=>K st | false=>none
 | f+1,i,acc,st,K=>match ops[i]? with
  | none=>none
  | some o=>match o.guard with
   | none=>doD S n ops i o acc st fun acc' st'=>evD S n ops f (i+1) acc' st' K
   | some (j,want)=>match dstAt ops j with
    | none=>none
    | some t=>match getH st.sl t with
     | some (.v (.c (.bool b)))=>cnd b
       (match want with | true=>doD S n ops i o acc ⟨(t,vC (.bool true))::st.sl,st.bl⟩ (fun acc' st'=>evD S n ops f (i+1) acc' st' K) | false=>skD n ops i o acc ⟨(t,vC (.bool true))::st.sl,st.bl⟩ (fun acc' st'=>evD S n ops f (i+1) acc' st' K))
       (match want with | true=>skD n ops i o acc ⟨(t,vC (.bool false))::st.sl,st.bl⟩ (fun acc' st'=>evD S n ops f (i+1) acc' st' K) | false=>doD S n ops i o acc ⟨(t,vC (.bool false))::st.sl,st.bl⟩ (fun acc' st'=>evD S n ops f (i+1) acc' st' K))
     | some .und=>skD n ops i o acc st (fun acc' st'=>evD S n ops f (i+1) acc' st' K)
     | _=>none
section
variable {P:Program} {S:Stp P} {n:Nat} {ops:Array Oper} {ρ:Type} {r:ρ}
structure RcOk (S:Stp P) (n:Nat) (ops:Array Oper) (st:HSt) (o:Oper) (x:RcD):Prop where
 d:x.d=o.dst
 lt:∀ d,o.dst=some d→d < n
 wf:x.Wf
 sR:x.f4.sR=lookM ops o
 how:(wantS ops st.sl o=some true∧∃ f,areHoles st.bl f (S.m (restr st.sl (opSlots o.op)) o.op)=true∧(∀ i,i < S.m (restr st.sl (opSlots o.op)) o.op→hasN x.f4.bR (f+i)=true)∧TolD f (S.t (restr st.sl (opSlots o.op)) f o.op o.type) st.bl x.f4.bR x.E x.v) ∨
  (wantS ops st.sl o=some false∧x.v = .und∧x.E=[]∧∃ d,o.dst=some d)
def Closed (ops:Array Oper) (D:Nat→Bool):Prop:=∀ k o e,ops[k]? = some o→e∈o.after.toList→Region.binds .any e=true→D k=true→D e.on=true
def MaskOk (ops:Array Oper) (p m:Nat):Prop:=∀ D,Closed ops D→D p=true→∀ j,hasN m j=true→D j=true
def Fwd (ops:Array Oper) (k:Nat):Prop:=∀ o e,ops[k]? = some o→e∈o.after.toList→Region.binds .any e=true→e.on < k
def SepD (ops:Array Oper) (rc:Nat→RcD) (i j:Nat):Prop:=Apart (rc i).f4 (rc j).f4∨∀ D,Closed ops D→D i=true→D j=true
structure InvD (S:Stp P) (n:Nat) (ops:Array Oper) (st0:HSt) (i:Nat) (rc:Nat→RcD) (acc:DAcc) (st:HSt):Prop where
 ok:∀ k o,k < i→ops[k]? = some o→RcOk S n ops (stD (fun _=>true) st0 rc k) o (rc k)
 op:∀ k,k < i→∃ o,ops[k]? = some o
 fwd:∀ k,k < i→Fwd ops k
 sep:∀ k j,j < k→k < i→SepD ops rc k j
 ms:∀ p,p < i→MaskOk ops p (match acc.ms[i - 1 - p]? with | some m=>m | none=>0)
 fs:∀ p,p < i→acc.fs[i - 1 - p]? = some (rc p).f4
 eqv:Eqv st (stD (fun _=>true) st0 rc i)
theorem Il {i:Nat}:∀ {l:List Edge},fwdE i l=true→∀ e∈l,Region.binds .any e=true→e.on < i
 | x::l,h,e,he,hb=>by
  unfold fwdE at h
  rcases List.mem_cons.1 he with rfl | he
  ·rw [hb] at h
   have h:(Nat.blt e.on i&&fwdE i l)=true:=h
   simp only [Bool.and_eq_true] at h
   simpa using h.1
  ·cases hx:Region.binds .any x with
   | true =>
    rw [hx] at h
    have h:(Nat.blt x.on i&&fwdE i l)=true:=h
    simp only [Bool.and_eq_true] at h
    exact Il h.2 e he hb
   | false=>rw [hx] at h;exact Il h e he hb
theorem NT {i:Nat} {o:Oper} {ms:List Nat} (ho:ops[i]? = some o) (hms:∀ p,p < i→MaskOk ops p (match ms[i - 1 - p]? with | some m=>m | none=>0)) :
  ∀ {l:List Edge},(∀ e∈l,e∈o.after.toList)→(∀ e∈l,Region.binds .any e=true→e.on < i)→MaskOk ops i (maskE i ms l)
 | [],_,_,D,hD,hi,j,hj=>by
  have:Nat.testBit 0 j=true:=hj
  simp at this
 | x::l,h1,h2,D,hD,hi,j,hj=>by
  have ih:=NT ho hms (l:=l) (fun e he=>h1 e (List.mem_cons_of_mem _ he)) (fun e he=>h2 e (List.mem_cons_of_mem _ he)) D hD hi j
  unfold maskE at hj
  cases hx:Region.binds .any x with
  | false=>rw [hx] at hj;exact ih hj
  | true =>
   rw [hx] at hj
   have hj:hasN (uniN (uniN _ _) _) j=true:=hj
   have hon:=hD i o x ho (h1 x (List.mem_cons_self ..)) hx hi
   rw [BT,BT] at hj
   simp only [Bool.or_eq_true] at hj
   rcases hj with (hj | hj) | hj
   ·rw [NS hj];exact hon
   ·exact hms x.on (h2 x (List.mem_cons_self ..) hx) D hD hon j hj
   ·exact ih hj
theorem Ju {m:Nat} {x:F4}:∀ {i:Nat} {l:List F4},okRow m x i l=true→l.length=i∧∀ j y,j < i→l[i - 1 - j]? = some y→hasN m j=true∨Apart x y
 | 0,[],h=>⟨rfl,fun j y hj=>absurd hj (Nat.not_lt_zero j)⟩
 | 0,_::_,h=>by cases h
 | i+1,[],h=>by cases h
 | i+1,y::ys,h=>by
  unfold okRow at h
  have key:okRow m x i ys=true∧(hasN m i=true∨Apart x y):=by
   cases hm:hasN m i with
   | true=>rw [hm] at h;exact ⟨h,.inl rfl⟩
   | false =>
    rw [hm] at h
    have h:(dj x y&&okRow m x i ys)=true:=h
    simp only [Bool.and_eq_true] at h
    exact ⟨h.2,.inr (Afr h.1)⟩
  obtain ⟨ih1,ih2⟩:=Ju key.1
  refine ⟨by simp [ih1],fun j z hj hz=>?_⟩
  by_cases e:j=i
  ·subst e
   rw [show j+1 - 1 - j=0 by omega] at hz
   simp at hz
   subst hz
   exact key.2
  ·rw [show i+1 - 1 - j=(i - 1 - j)+1 by omega] at hz
   exact ih2 j z (by omega) (by simpa using hz)
def setRc (rc:Nat→RcD) (i:Nat) (x:RcD):Nat→RcD:=fun k=>cond (Nat.beq i k) x (rc k)
theorem Fd {rc:Nat→RcD} {i:Nat} {x:RcD}:setRc rc i x i=x:=by simp [setRc]
theorem Es {rc:Nat→RcD} {i k:Nat} {x:RcD} (h:i≠k):setRc rc i x k=rc k:=by
 have:Nat.beq i k=false:=by
  cases hb:Nat.beq i k with
  | false=>rfl
  | true=>exact absurd (Nat.eq_of_beq_eq_true hb) h
 simp [setRc,this]
theorem TF {st0 st st':HSt} {i:Nat} {o:Oper} {rc:Nat→RcD} {acc:DAcc} {f':Nat} {x:RcD} {K:DAcc→Option ρ} (I:InvD S n ops st0 i rc acc st) (ho:ops[i]? = some o) (hx:RcOk S n ops (stD (fun _=>true) st0 rc i) o x)
  (he:Eqv st' (apR x st)) (h:addD ops i o acc f' x.f4 K=some r):∃ rc' acc',InvD S n ops st0 (i+1) rc' acc' st'∧K acc'=some r:=by
 unfold addD at h
 split at h
 case h_2=>cases h
 rename_i hf
 split at h
 case h_2=>cases h
 rename_i hrow
 have hfw:=Il hf
 have hm:=NT ho I.ms (fun e he=>he) hfw
 obtain ⟨hl,hr⟩:=Ju hrow
 have hst:∀ k,k≤i→stD (fun _=>true) st0 (setRc rc i x) k=stD (fun _=>true) st0 rc k:=fun k hk=>XV fun j hj=>Es (by omega)
 refine ⟨setRc rc i x,_,⟨fun k o' hk ho'=>?_,fun k hk=>?_,fun k hk=>?_,fun k j hj hk=>?_,fun p hp=>?_,fun p hp=>?_,?_⟩,h⟩
 ·rw [hst k (by omega)]
  by_cases e:i=k
  ·subst e
   rw [ho] at ho';injection ho' with ho';subst ho'
   rw [Fd];exact hx
  ·rw [Es e];exact I.ok k o' (by omega) ho'
 ·by_cases e:i=k
  ·subst e;exact ⟨o,ho⟩
  ·exact I.op k (by omega)
 ·by_cases e:i=k
  ·subst e
   intro o' e' ho' he' hb'
   rw [ho] at ho';injection ho' with ho';subst ho'
   exact hfw e' he' hb'
  ·exact I.fwd k (by omega)
 ·unfold SepD
  by_cases e:i=k
  ·subst e
   rw [Fd,Es (by omega)]
   rcases hr j _ hj (I.fs j hj) with h1 | h1
   ·exact .inr fun D hD hi=>hm D hD hi j h1
   ·exact .inl h1
  ·rw [Es e,Es (by omega)]
   exact I.sep k j hj (by omega)
 ·by_cases e:i=p
  ·subst e
   rw [show i+1 - 1 - i=0 by omega]
   exact hm
  ·rw [show i+1 - 1 - p=(i - 1 - p)+1 by omega]
   exact I.ms p (by omega)
 ·by_cases e:i=p
  ·subst e
   rw [show i+1 - 1 - i=0 by omega,Fd]
   rfl
  ·rw [show i+1 - 1 - p=(i - 1 - p)+1 by omega,Es e]
   exact I.fs p (by omega)
 ·show Eqv st' (apR (setRc rc i x i) (stD _ st0 (setRc rc i x) i))
  rw [Fd,hst i (Nat.le_refl i)]
  exact he.trans (I.eqv.ap x)
theorem Lr {s t:List (Nat×SV)} {o:Oper} (h:∀ x,getH s x=getH t x):wantS ops s o=wantS ops t o:=by
 unfold wantS
 cases o.guard with
 | none=>rfl
 | some q=>dsimp only;cases dstAt ops q.1 with
  | none=>rfl
  | some t=>dsimp only;rw [h t]
theorem XW {E:List (Nat×BV)} {b:Nat} {u:BV} (h:lastE E b=some u):hasN (fstB E) b=true:=Ij (VG h)
theorem NU {o:Oper} {d:Nat} (h:o.dst=some d):hasN (dstM o) d=true:=by
 unfold dstM;rw [h];exact Er d
theorem SA {st0 st:HSt} {i:Nat} {o:Oper} {rc:Nat→RcD} {acc:DAcc} {K:DAcc→HSt→Option ρ} (I:InvD S n ops st0 i rc acc st) (ho:ops[i]? = some o) (hw:wantS ops st.sl o=some true)
  (h:doD S n ops i o acc st K=some r):∃ rc' acc' st',InvD S n ops st0 (i+1) rc' acc' st'∧K acc' st'=some r:=by
 unfold doD at h
 split at h
 case h_2=>cases h
 rename_i hh
 obtain ⟨fp,E,v,h1,h2,h3⟩:=CH h
 rw [List.nil_append] at h3
 split at h3
 case h_2=>cases h3
 rename_i st' hp
 have hlt:∀ d,o.dst=some d→d < n:=fun d hd=>by
  unfold put at hp
  rw [hd] at hp
  obtain ⟨hdn,_⟩:=condS hp
  simpa using hdn
 have hst:st'=apR ⟨o.dst,E,v,⟨fp,fstB E,lookM ops o,dstM o⟩⟩ st:=by
  unfold put at hp
  split at hp
  ·rename_i d hd
   obtain ⟨_,hp⟩:=condS hp
   injection hp with hp
   rw [← hp]
   show _=HSt.mk (putL o.dst v st.sl) _
   rw [hd];rfl
  ·rename_i hd
   injection hp with hp
   rw [← hp]
   show _=HSt.mk (putL o.dst v st.sl) _
   rw [hd];rfl
 have e1:=Fv (ts:=opSlots o.op) fun t _=>I.eqv.2 t
 obtain ⟨rc',acc',h4,h5⟩:=TF (x:=⟨o.dst,E,v,⟨fp,fstB E,lookM ops o,dstM o⟩⟩) (st':=st') I ho ⟨rfl,hlt,⟨fun b u hb=>XW hb,fun d hd=>NU hd⟩,rfl,.inl ⟨(Lr fun x=>I.eqv.2 x).symm.trans hw,acc.f,by rw [← e1,← I.eqv.1];exact hh,fun i hi=>h1 _ (Lq (by rw [e1];exact hi)),by rw [← e1,← I.eqv.1];exact h2⟩⟩ (hst ▸ .refl) h3
 exact ⟨rc',acc',st',h4,h5⟩
theorem SB {st0 st:HSt} {i:Nat} {o:Oper} {rc:Nat→RcD} {acc:DAcc} {K:DAcc→HSt→Option ρ} (I:InvD S n ops st0 i rc acc st) (ho:ops[i]? = some o) (hw:wantS ops st.sl o=some false)
  (h:skD n ops i o acc st K=some r):∃ rc' acc' st',InvD S n ops st0 (i+1) rc' acc' st'∧K acc' st'=some r:=by
 unfold skD at h
 split at h
 case h_2=>cases h
 rename_i d hd
 split at h
 case h_2=>cases h
 rename_i hdn
 obtain ⟨rc',acc',h4,h5⟩:=TF (x:=⟨o.dst,[],.und,⟨0,0,lookM ops o,dstM o⟩⟩) (st':=⟨(d,.und)::st.sl,st.bl⟩) I ho ⟨rfl,fun d' hd'=>by rw [hd] at hd';injection hd' with hd';subst hd';simpa using hdn,⟨fun b u hb=>absurd (show (none:Option BV)=some u from hb) (by simp),fun d hd=>NU hd⟩,rfl,.inr ⟨(Lr fun x=>I.eqv.2 x).symm.trans hw,rfl,rfl,d,hd⟩⟩ (by
   refine ⟨rfl,fun x=>?_⟩
   show _=getH (putL o.dst _ _) x
   rw [hd];rfl) h
 exact ⟨rc',acc',_,h4,h5⟩
theorem InvD.turn {st0 st st':HSt} {i:Nat} {rc:Nat→RcD} {acc:DAcc} (I:InvD S n ops st0 i rc acc st) (e:Eqv st' st):InvD S n ops st0 i rc acc st':=⟨I.ok,I.op,I.fwd,I.sep,I.ms,I.fs,e.trans I.eqv⟩
theorem Ls {st:HSt} {t:Nat} {b:Bool} (h:getH st.sl t=some (vC (.bool b))):Eqv ⟨(t,vC (.bool b))::st.sl,st.bl⟩ st:=by
 refine ⟨rfl,fun x=>?_⟩
 show getH ((t,_)::st.sl) x=_
 rw [VH]
 cases hb:Nat.beq t x with
 | false=>rfl
 | true =>
  have:=Nat.eq_of_beq_eq_true hb
  subst this
  exact h.symm
theorem Fe {st0:HSt} {K:HSt→Option ρ}:∀ {f i:Nat} {rc:Nat→RcD} {acc:DAcc} {st:HSt},InvD S n ops st0 i rc acc st→evD S n ops f i acc st K=some r →
  ∃ rc' acc' st',InvD S n ops st0 ops.size rc' acc' st'∧K st'=some r
 | 0,i,rc,acc,st,I,h=>by
  unfold evD at h
  split at h
  case h_2=>cases h
  rename_i e
  have e:=Nat.eq_of_beq_eq_true e
  subst e
  exact ⟨rc,acc,st,I,h⟩
 | f+1,i,rc,acc,st,I,h=>by
  unfold evD at h
  split at h
  ·cases h
  ·rename_i o ho
   split at h
   ·rename_i hg
    obtain ⟨rc',acc',st',I',h'⟩:=SA I ho (by simp [wantS,hg]) h
    exact Fe I' h'
   ·rename_i j want hg
    split at h
    ·cases h
    ·rename_i t hj
     split at h
     ·rename_i b hb
      have hwant:∀ {b':Bool} {st':HSt},getH st'.sl t=some (vC (.bool b'))→wantS ops st'.sl o=some (b'==want):=fun {b' st'} hb'=>by
       have hb':getH st'.sl t=some (.v (.c (.bool b'))):=hb'
       simp [wantS,hg,hj,hb']
      rcases Gc h with ⟨e,h2⟩ | ⟨e,h2⟩
      ·subst e
       have I2:=I.turn (Ls hb)
       have h0:getH ((t,vC (.bool true))::st.sl) t=some (vC (.bool true)):=Ep
       clear h
       split at h2
       ·obtain ⟨rc',acc',st',I',h'⟩:=SA I2 ho (by rw [hwant h0];rfl) h2
        exact Fe I' h'
       ·obtain ⟨rc',acc',st',I',h'⟩:=SB I2 ho (by rw [hwant h0];rfl) h2
        exact Fe I' h'
      ·subst e
       have I2:=I.turn (Ls hb)
       have h0:getH ((t,vC (.bool false))::st.sl) t=some (vC (.bool false)):=Ep
       clear h
       split at h2
       ·obtain ⟨rc',acc',st',I',h'⟩:=SB I2 ho (by rw [hwant h0];rfl) h2
        exact Fe I' h'
       ·obtain ⟨rc',acc',st',I',h'⟩:=SA I2 ho (by rw [hwant h0];rfl) h2
        exact Fe I' h'
     ·rename_i hb
      obtain ⟨rc',acc',st',I',h'⟩:=SB I ho (by simp [wantS,hg,hj,hb]) h
      exact Fe I' h'
     ·cases h
end
def Dl (listed:Array Bool):Nat→Bool:=fun k=>listed.getD k false
theorem AiX {listed:Array Bool} {i:Nat} (h:i < listed.size):Dl (listed.setIfInBounds i true)=setD (Dl listed) i:=by
 funext k
 by_cases e:i=k
 ·subst e
  rw [DA]
  simp [Dl,h]
 ·rw [Dy e]
  exact getD_set_ne false e
theorem Mv {listed:Array Bool} {i:Nat} (h:i < listed.size):listed.getD i true=listed.getD i false:=by simp [h]
def cntD (D:Nat→Bool):Nat→Nat
 | 0=>0
 | k+1=>cond (D k) (cntD D k) (cntD D k+1)
theorem Lt {D D':Nat→Bool}:∀ {k:Nat},(∀ j,j < k→D j=D' j)→cntD D k=cntD D' k
 | 0,_=>rfl
 | k+1,h=>by
  show cond (D k) _ _=cond (D' k) _ _
  rw [h k (Nat.lt_succ_self k),Lt fun j hj=>h j (Nat.lt_succ_of_lt hj)]
theorem NV {D:Nat→Bool} {i:Nat} (hi:D i=false):∀ {k:Nat},i < k→cntD (setD D i) k+1=cntD D k
 | 0,h=>absurd h (Nat.not_lt_zero i)
 | k+1,h=>by
  show cond (setD D i k) _ _+1=cond (D k) _ _
  by_cases e:i=k
  ·subst e
   rw [DA,hi,Lt (D':=D) fun j hj=>Dy (by omega)]
   rfl
  ·rw [Dy e]
   have:=NV hi (k:=k) (by omega)
   cases D k with
   | true=>exact this
   | false=>show cntD _ k+1+1=cntD D k+1;rw [this]
theorem Lu {D:Nat→Bool}:∀ {k:Nat},cntD D k=0→∀ j,j < k→D j=true
 | 0,_,j,hj=>absurd hj (Nat.not_lt_zero j)
 | k+1,h,j,hj=>by
  have h:cond (D k) (cntD D k) (cntD D k+1)=0:=h
  cases e:D k with
  | false=>rw [e] at h;cases h
  | true =>
   rw [e] at h
   by_cases e2:j=k
   ·subst e2;exact e
   ·exact Lu h j (by omega)
section
variable {P:Program} {S:Stp P} {n:Nat} {ops:Array Oper} {A:An} {g0:Gh} {Q:Exit→Act→World→Prop}
theorem Lv {sl:List (Nat×SV)} {o:Oper} {b:Bool} (h:wantS ops sl o=some b) {g:Gh} {ρ:Env} {own:Own} {fr:Sl} {bl:List BV} {a:Act} (hr:Rl g ρ ⟨sl,bl⟩ own fr) (hf:Fr n a fr):Region.wanted o (yielded ops a.tmps)=b:=by
 unfold wantS at h
 split at h
 ·rename_i hg
  injection h with h;subst h
  simp [Region.wanted,hg]
 ·rename_i j want hg
  split at h
  ·cases h
  ·rename_i t hj
   split at h
   ·rename_i c hc
    injection h with h;subst h
    exact Eo hg hj hc hr hf
   ·rename_i hc
    injection h with h;subst h
    exact Jr hg hj hc hr hf
   ·cases h
theorem VI {st0 st:HSt} {rc:Nat→RcD} {acc:DAcc} (I:InvD S n ops st0 ops.size rc acc st) {listed:Array Bool} (hs:listed.size=ops.size) (h:Region.ready .any ops listed=[]):∀ k,k < ops.size→Dl listed k=true:=by
 intro k
 induction k using Nat.strongRecOn with
 | _ k ih =>
  intro hk
  cases e:Dl listed k with
  | true=>rfl
  | false =>
   exfalso
   have:k∈Region.ready .any ops listed:=by
    rw [mem_ready]
    refine ⟨by rw [Mv (by omega)];exact e,?_⟩
    obtain ⟨o,ho⟩:=I.op k hk
    refine ⟨o,ho,fun x hx hb=>?_⟩
    have:=I.fwd k hk o x ho (by simpa using hx) hb
    exact ih x.on this (by omega)
   rw [h] at this
   cases this
theorem AiY {st0 st:HSt} {rc:Nat→RcD} {acc:DAcc} (I:InvD S n ops st0 ops.size rc acc st) (hK:SW (Q .normal) n A g0 (stD (fun _=>true) st0 rc ops.size)) :
  ∀ (fuel:Nat) (listed:Array Bool),listed.size=ops.size→Closed ops (Dl listed)→cntD (Dl listed) ops.size≤fuel→SW (wpAny P .any ops Q fuel listed) n A g0 (stD (Dl listed) st0 rc ops.size):=by
 have hwf:∀ j,j < ops.size→(rc j).Wf:=fun j hj=>by
  obtain ⟨o,ho⟩:=I.op j hj
  exact (I.ok j o hj ho).wf
 have hdone:∀ listed:Array Bool,(∀ k,k < ops.size→Dl listed k=true)→SW (Q .normal) n A g0 (stD (Dl listed) st0 rc ops.size):=fun listed h=>by
  rw [Jt (D':=fun _=>true) h];exact hK
 intro fuel
 induction fuel with
 | zero =>
  intro listed hs hc hn
  have hall:=Lu (Nat.le_zero.1 hn)
  intro g ρ own fr hg hA hr a w hf hw
  refine ⟨?_,hdone listed hall g ρ own fr hg hA hr a w hf hw⟩
  refine List.eq_nil_iff_forall_not_mem.2 fun i hi=>?_
  obtain ⟨h1,o,ho,_⟩:=mem_ready.1 hi
  have hi2:i < ops.size:=(Array.getElem?_eq_some_iff.1 ho).1
  rw [Mv (by omega)] at h1
  have:=hall i hi2
  unfold Dl at this
  rw [h1] at this;cases this
 | succ fuel ih =>
  intro listed hs hc hn g ρ own fr hg hA hr a w hf hw
  refine ⟨fun h0=>hdone listed (VI I hs h0) g ρ own fr hg hA hr a w hf hw,fun i hi=>?_⟩
  obtain ⟨h1,o,ho,hpre⟩:=mem_ready.1 hi
  have hi2:i < ops.size:=(Array.getElem?_eq_some_iff.1 ho).1
  rw [Mv (by omega)] at h1
  have hDi:Dl listed i=false:=h1
  have hset:=AiX (listed:=listed) (i:=i) (by omega)
  have hc2:Closed ops (setD (Dl listed) i):=fun k o' e ho' he hb hk=>by
   by_cases ek:i=k
   ·subst ek
    rw [ho] at ho';injection ho' with ho';subst ho'
    have:=hpre e (by simpa using he) hb
    by_cases ee:i=e.on
    ·rw [ee];exact DA
    ·rw [Dy ee];exact this
   ·rw [Dy ek] at hk
    have:=hc k o' e ho' he hb hk
    by_cases ee:i=e.on
    ·rw [ee];exact DA
    ·rw [Dy ee];exact this
  have later:∀ j,i < j→j < ops.size→Dl listed j=true→Apart (rc j).f4 (rc i).f4:=fun j h2 h3 h4=>by
   rcases I.sep j i h2 h3 with h | h
   ·exact h
   ·have:=h _ hc h4;rw [hDi] at this;cases this
  have before:∀ j,j < ops.size→j < i→Dl listed j=false→Apart (rc i).f4 (rc j).f4:=fun j h2 h3 h4=>by
   rcases I.sep i j h3 hi2 with h | h
   ·exact h
   ·have:=h _ hc2 DA;rw [Dy (by omega),h4] at this;cases this
  have R:=I.ok i o hi2 ho
  obtain ⟨lb,ls⟩:=Lp (st0:=st0) rfl R.sR hDi hwf later before
  rw [Nat.min_eq_left (by omega)] at lb ls
  have next:=(ih (listed.setIfInBounds i true) (by simpa using hs) (by rw [hset];exact hc2) (by rw [hset];have:=NV hDi hi2;omega))
  rw [hset] at next
  have next:=next.eqv (TE (st0:=st0) hDi hi2 hwf later).symm
  have hls:∀ t∈opSlots o.op,getH (stD (Dl listed) st0 rc ops.size).sl t=getH (stD (fun _=>true) st0 rc i).sl t:=fun t ht=>ls t (by unfold lookM;rw [BT,Ij ht];rfl)
  have hre:=Fv hls
  have hws:wantS ops (stD (Dl listed) st0 rc ops.size).sl o=wantS ops (stD (fun _=>true) st0 rc i).sl o:=by
   unfold wantS
   cases hgd:o.guard with
   | none=>rfl
   | some q =>
    obtain ⟨j,want⟩:=q
    dsimp only
    cases hj:dstAt ops j with
    | none=>rfl
    | some t =>
     dsimp only
     rw [ls t (by unfold lookM;rw [BT,hgd];dsimp only;rw [hj];dsimp only;rw [Er];simp)]
  unfold wpOp
  rw [ho]
  dsimp only
  rcases R.how with ⟨hwt,f,hh,hhb,ht⟩ | ⟨hwt,hv,hE,d,hd⟩
  ·rw [Lv (hws.trans hwt) hr hf,if_pos rfl]
   left
   have hold:=TolD.told ht (bl2:=(stD (Dl listed) st0 rc ops.size).bl) (by rw [Ge,Ge]) lb
   rw [← hre] at hold
   have heff:=S.ok (n:=n) (fun k hk=>by
    rw [hre] at hk
    rw [lb _ (hhb k hk)]
    exact Gt hh k hk) hold
   refine heff.sub (fun t sv h=>Ik h) o a w Q _ g ρ own fr rfl rfl hr hf hw fun v' g' ρ' own' w' hg' hx hs' hr' hv'=>?_
   have e:apR (rc i) (stD (Dl listed) st0 rc ops.size)=⟨putL o.dst (rc i).v (stD (Dl listed) st0 rc ops.size).sl,setUpd (stD (Dl listed) st0 rc ops.size).bl (rc i).E⟩:=by
    unfold apR;rw [R.d]
   rw [e] at next
   cases hd:o.dst with
   | none =>
    rw [hd] at next
    exact next g' ρ' own' fr (hg.trans hg') (hA.ext hx) hr' a w' hf hs'
   | some d =>
    rw [hd] at next
    exact next g' ρ' own' ((d,v')::fr) (hg.trans hg') (hA.ext hx) (hr'.put d hv') _ w' (hf.put (R.lt d hd) v') hs'
  ·rw [Lv (hws.trans hwt) hr hf,if_neg (by simp)]
   have e:apR (rc i) (stD (Dl listed) st0 rc ops.size)=⟨(d,.und)::(stD (Dl listed) st0 rc ops.size).sl,(stD (Dl listed) st0 rc ops.size).bl⟩:=by
    unfold apR;rw [R.d,hd,hv,hE];rfl
   rw [e] at next
   rw [hd]
   exact next g ρ own ((d,undef)::fr) hg hA (hr.put d rfl) _ w (hf.put (R.lt d hd) _) hw
theorem XX {ρ:Type} {r:ρ} {st:HSt} {K:HSt→Option ρ} (hm:P.follows .mixedOrders=true) {id:Nat} {f:Nat} (h:evD S n ops ops.size 0 ⟨f,[],[]⟩ st K=some r) (hK:∀ st',K st'=some r→SW (Q .normal) n A g0 st'):SW (Code.wp P (.region id ops true) Q) n A g0 st:=by
 have I0:InvD S n ops st 0 (fun _=>⟨none,[],.und,⟨0,0,0,0⟩⟩) ⟨f,[],[]⟩ st :=
  ⟨fun k _ hk=>absurd hk (Nat.not_lt_zero k),fun k hk=>absurd hk (Nat.not_lt_zero k),fun k hk=>absurd hk (Nat.not_lt_zero k),fun k j _ hk=>absurd hk (Nat.not_lt_zero k),fun k hk=>absurd hk (Nat.not_lt_zero k),fun k hk=>absurd hk (Nat.not_lt_zero k),.refl⟩
 obtain ⟨rc,acc,st',I,h'⟩:=Fe I0 h
 have hk:=(hK st' h').eqv I.eqv.symm
 have hD:Dl (Array.replicate ops.size false)=fun _=>false:=by
  funext k
  by_cases hk:k < ops.size <;> simp [Dl,Array.getElem?_replicate,hk]
 have hcnt:∀ k,cntD (fun _=>false) k≤k:=fun k=>by
  induction k with
  | zero=>exact Nat.le_refl 0
  | succ k ih=>exact Nat.succ_le_succ ih
 have hst:∀ k,stD (fun _=>false) st rc k=st:=fun k=>by
  induction k with
  | zero=>rfl
  | succ k ih=>exact ih
 have:=AiY I hk ops.size (Array.replicate ops.size false) (by simp) (by rw [hD];exact fun k o e _ _ _ h=>by cases h) (by rw [hD];exact hcnt _)
 rw [hD,hst] at this
 intro g ρ own fr hg hA hr a w hf hw
 exact wp_region_any hm (this g ρ own fr hg hA hr a w.drew hf hw.drew)
end
def cutS (t:Nat) (st:HSt):HSt:=match getH st.sl t with
 | some (.v (.c (.vw b _ l r)))=>(match st.bl[b]?,Nat.beq l 0 with
  | some (.row d et xs),true=>⟨(t,vC (.own st.bl.length))::st.sl,st.bl.set b .no++[.row d et (xs.take r)]⟩
  | _,_=>st)
 | _=>st
section
variable {n:Nat} {A:An} {g0:Gh} {K:Act→World→Prop}
theorem Fr.again {a:Act} {fr:Sl} {t:Nat} {v:Value} (hf:Fr n a fr) (h1:getS fr t=some v):Fr n a ((t,v)::fr):=⟨hf.size,hf.defers,fun s u hu=>by
 have hu:cond (Nat.beq t s) (some v) (getS fr s)=some u:=hu
 cases hb:Nat.beq t s with
 | true =>
  rw [hb] at hu
  have:=Nat.eq_of_beq_eq_true hb
  subst this
  injection hu with hu;subst hu
  exact hf.at_ _ _ h1
 | false=>rw [hb] at hu;exact hf.at_ _ _ hu⟩
theorem SW.cutS {t:Nat} {st:HSt} (k:SW K n A g0 (cutS t st)):SW K n A g0 st:=by
 unfold Go.Proofs.YtpleflcfaecojaaGreat.cutS at k
 split at k
 case h_2=>exact k
 rename_i b c l r ht
 split at k
 case h_2=>exact k
 rename_i d et xs hb hl0
 have hl0:=Nat.eq_of_beq_eq_true hl0
 subst hl0
 obtain ⟨sl,bl⟩:=st
 refine SW.holes 1 ?_
 have hb:bl[b]? = some (.row d et xs):=hb
 have hbl:=AU hb
 intro g ρ own fr hg hA hr a w hf hs
 obtain ⟨v,h1,h2⟩:=hr.slot t _ ht
 obtain ⟨hkn,rfl,hl⟩:=(h2:RealC g ρ (bl++Go.Proofs.YtpleflcfaecojaaGreat.holes 1) (.vw b c 0 r) v)
 have hb1:(bl++Go.Proofs.YtpleflcfaecojaaGreat.holes 1)[b]? = some (.row d et xs):=by rw [List.getElem?_append_left hbl];exact hb
 have hl:=(hl _ _ hb1 rfl).2
 have hlr:(xs.take r).length=r:=by rw [List.length_take];omega
 obtain ⟨k0,hk0,hB⟩:=hr.own_at hb1
 have hB:Buf g.b d.ty et (.slice (ρ b).1 xs.length (ρ b).2) k0 xs:=hB
 have hB:=hB.cut r hl
 have hf0:(bl++Go.Proofs.YtpleflcfaecojaaGreat.holes 1)[bl.length]? = some .hole:=by simp [Go.Proofs.YtpleflcfaecojaaGreat.holes]
 have hbf:b≠bl.length:=by omega
 have hno:=hr.hole_none hf0
 have hst:=hs.move (b:=b) (f:=bl.length) (k:=k0) hk0 hno hbf
 have hx:Ext ρ (bl++Go.Proofs.YtpleflcfaecojaaGreat.holes 1) ρ ((bl++Go.Proofs.YtpleflcfaecojaaGreat.holes 1).set b .no):=Ext.set_at hb1 rfl fun m hm=>by cases hm
 have hr1:=hr.setB (g':=g) (bv1:= .no) (k:=none) (.refl g) hb1 rfl (fun m hm=>by cases hm) rfl
 have hf1:((bl++Go.Proofs.YtpleflcfaecojaaGreat.holes 1).set b .no)[bl.length]? = some .hole:=by rw [Dv hbf];exact hf0
 have hx1:Ext ρ ((bl++Go.Proofs.YtpleflcfaecojaaGreat.holes 1).set b .no) (setρ ρ bl.length (ρ b)) (((bl++Go.Proofs.YtpleflcfaecojaaGreat.holes 1).set b .no).set bl.length (.row d et (xs.take r))):=Ext.set_hole hf1
 have hr2:=hr1.lay (g':=g) (bv:= .row d et (xs.take r)) (k:=k0) (e:=ρ b) (.refl g) hf1 hB
 have e:((bl++Go.Proofs.YtpleflcfaecojaaGreat.holes 1).set b .no).set bl.length (.row d et (xs.take r))=bl.set b .no++[.row d et (xs.take r)]:=by
  rw [List.set_append_left _ _ hbl,List.set_append_right _ _ (by simp)]
  simp [Go.Proofs.YtpleflcfaecojaaGreat.holes]
 rw [e] at hx1 hr2
 have hv:RealC g (setρ ρ bl.length (ρ b)) (bl.set b .no++[.row d et (xs.take r)]) (.own bl.length) (.slice (offA (ρ b).1 (ρ b).2 0 c.n) (r - 0) ((ρ b).2 - 0)):=by
  rw [FY,Nat.sub_zero,Nat.sub_zero]
  refine ⟨⟨.row d et (xs.take r),by simp,rfl⟩,r,by rw [Dc],fun bv m e1 e2=>?_⟩
  have e3:(bl.set b .no++[.row d et (xs.take r)])[bl.length]? = some (.row d et (xs.take r)):=by simp
  rw [e3] at e1;injection e1 with e1;subst e1
  have e2:some (xs.take r).length=some m:=e2
  injection e2 with e2
  omega
 exact k g (setρ ρ bl.length (ρ b)) _ _ hg (hA.ext (hx.trans hx1)) (hr2.put t hv) a w (hf.again h1) hst
theorem Rl.hole {g:Gh} {ρ:Env} {own:Own} {fr:Sl} {sl:List (Nat×SV)} {bl:List BV} {w:World} (hr:Rl g ρ ⟨sl,bl⟩ own fr) (hs:St w g own):Rl g ρ ⟨sl,bl++[.hole]⟩ (own++[none]) fr∧St w g (own++[none])∧Ext ρ bl ρ (bl++[.hole]):=by
 have hl:own.length=bl.length:=hr.len
 have hx:Ext ρ bl ρ (bl++[.hole]):=fun b bv e h2=>⟨rfl,bv,by rw [List.getElem?_append_left (AU e)];exact e,h2,fun m h=>h⟩
 refine ⟨hr.turn (.refl g) hx (by simp [hl]) fun i bv k h1 h2=>?_,hs.addNone,hx⟩
 rcases Nat.lt_or_ge i bl.length with hi | hi
 ·rw [List.getElem?_append_left hi] at h1
  rw [List.getElem?_append_left (by omega)] at h2
  exact (hr.blk i bv k h1 h2).ext (.refl g) hx
 ·have hi2:=AU h1
  simp at hi2
  have:i=bl.length:=by omega
  subst this
  simp at h1
  subst h1
  rw [← hl] at h2
  simp at h2
  exact h2.symm
theorem Rl.cutC {g:Gh} {ρ:Env} {own:Own} {fr:Sl} {sl:List (Nat×SV)} {bl:List BV} {w:World} {b r:Nat} {c d:Cd} {et:TypeId} {xs:List d.den} {v:Value} (hr:Rl g ρ ⟨sl,bl⟩ own fr) (hs:St w g own) (hb:bl[b]? = some (.row d et xs)) (hv:RealC g ρ bl (.vw b c 0 r) v) :
  ∃ ρ' own',St w g own'∧Rl g ρ' ⟨sl,bl.set b .no++[.row d et (xs.take r)]⟩ own' fr∧RealC g ρ' (bl.set b .no++[.row d et (xs.take r)]) (.own bl.length) v∧Ext ρ bl ρ' (bl.set b .no++[.row d et (xs.take r)])∧∀ j,j < bl.length→ρ' j=ρ j:=by
 obtain ⟨hkn,rfl,hl⟩:=hv
 have hbl:=AU hb
 have hl:=(hl _ _ hb rfl).2
 have hlr:(xs.take r).length=r:=by rw [List.length_take];omega
 obtain ⟨hr0,hs0,hx0⟩:=hr.hole hs
 have hb1:(bl++[BV.hole])[b]? = some (.row d et xs):=by rw [List.getElem?_append_left hbl];exact hb
 obtain ⟨k0,hk0,hB⟩:=hr0.own_at hb1
 have hB:Buf g.b d.ty et (.slice (ρ b).1 xs.length (ρ b).2) k0 xs:=hB
 have hB:=hB.cut r hl
 have hf0:(bl++[BV.hole])[bl.length]? = some .hole:=by simp
 have hbf:b≠bl.length:=by omega
 have hno:=hr0.hole_none hf0
 have hst:=hs0.move (b:=b) (f:=bl.length) (k:=k0) hk0 hno hbf
 have hx:Ext ρ (bl++[BV.hole]) ρ ((bl++[BV.hole]).set b .no):=Ext.set_at hb1 rfl fun m hm=>by cases hm
 have hr1:=hr0.setB (g':=g) (bv1:= .no) (k:=none) (.refl g) hb1 rfl (fun m hm=>by cases hm) rfl
 have hf1:((bl++[BV.hole]).set b .no)[bl.length]? = some .hole:=by rw [Dv hbf];exact hf0
 have hx1:Ext ρ ((bl++[BV.hole]).set b .no) (setρ ρ bl.length (ρ b)) (((bl++[BV.hole]).set b .no).set bl.length (.row d et (xs.take r))):=Ext.set_hole hf1
 have hr2:=hr1.lay (g':=g) (bv:= .row d et (xs.take r)) (k:=k0) (e:=ρ b) (.refl g) hf1 hB
 have e:((bl++[BV.hole]).set b .no).set bl.length (.row d et (xs.take r))=bl.set b .no++[.row d et (xs.take r)]:=by
  rw [List.set_append_left _ _ hbl,List.set_append_right _ _ (by simp)]
  simp
 rw [e] at hx1 hr2
 refine ⟨setρ ρ bl.length (ρ b),_,hst,hr2,?_,hx0.trans (hx.trans hx1),fun j hj=>FW (by omega)⟩
 rw [FY,Nat.sub_zero,Nat.sub_zero]
 refine ⟨⟨.row d et (xs.take r),by simp,rfl⟩,r,by rw [Dc],fun bv m e1 e2=>?_⟩
 have e3:(bl.set b .no++[.row d et (xs.take r)])[bl.length]? = some (.row d et (xs.take r)):=by simp
 rw [e3] at e1;injection e1 with e1;subst e1
 have e2:some (xs.take r).length=some m:=e2
 injection e2 with e2
 omega
end
inductive HC where
  | d
  | cut
  | r (m:Nat)
  | j (ex:Bool) (sc:List Sch) (h:HC)
  | on (sc:Sch) (a b:HC)
  | s (a b:HC)
  | c (a b:HC)
  | b (a:HC)
  | l (sc:List Sch) (a:HC)
  | u (k:Nat) (a:HC)
  | v (a b:HC)
def HC.s1:HC→HC | .s x _=>x | _=> .d
def HC.s2:HC→HC | .s _ y=>y | _=> .d
def HC.c1:HC→HC | .c x _=>x | _=> .d
def HC.c2:HC→HC | .c _ y=>y | _=> .d
def HC.b1:HC→HC | .b x=>x | _=> .d
def HC.l1:HC→HC | .l _ x=>x | .u _ x=>x | _=> .d
def HC.uK:HC→Option Nat | .u k _=>some k | _=>none
def HC.v1:HC→HC | .v x _=>x | x=>x
def HC.v2:HC→HC | .v _ y=>y | x=>x
def HC.lS:HC→Option (List Sch) | .l y _=>some y | _=>none
def HC.j1:HC→HC | .j _ _ x=>x | x=>x
def HC.rM:HC→Nat | .r m=>m | _=>0
def HC.jS:HC→Option (Bool×List Sch) | .j x y _=>some (x,y) | _=>none
def cutAll:List (Nat×SSh)→HSt→HSt
  | [],st=>st
  | (t,.v (.c (.own _)))::l,st=>cutAll l (cutS t st)
  | _::l,st=>cutAll l st
theorem SW.cutAll {n:Nat} {A:An} {g0:Gh} {K:Act→World→Prop}:∀ {l:List (Nat×SSh)} {st:HSt},SW K n A g0 (cutAll l st)→SW K n A g0 st
  | [],st,k=>k
  | x::l,st,k=>by
    unfold Go.Proofs.YtpleflcfaecojaaGreat.cutAll at k
    split at k
    · exact k
    · rename_i e
      injection e with e1 e2
      subst e2
      exact (SW.cutAll k).cutS
    · rename_i e
      injection e with e1 e2
      subst e2
      exact SW.cutAll k
def absD (np:Nat) (sc:Sch) (st:HSt):Option (HT sc.tr):=match absSt false sc (Sv 0 np++nones (sc.bl.length - np)) (cutAll sc.sl st) with
  | some s=>(match conSt id sc s.ds with
    | some st'=>cond (joinChk s st'.bl) (pack sc.tr s.ds) none
    | none=>none)
  | none=>none
def conT (sc:Sch) (t:HT sc.tr):Option HSt:=conSt id sc (unpack sc.tr t)
theorem TG {K:Act→World→Prop} {n:Nat} {A:An} {g0:Gh} {st:HSt} {sc:Sch} {t:HT sc.tr} (h:absD A.np sc st=some t):∃ st',conT sc t=some st'∧(SW K n A g0 st'→SW K n A g0 st):=by
  unfold absD at h
  split at h
  · rename_i s hs
    split at h
    · rename_i st' hc
      obtain ⟨hk,h⟩:=condS h
      refine ⟨st',?_,fun k=>(SW.weaken hs hc hk k).cutAll⟩
      unfold conT
      rw [Ms _ h]
      exact hc
    · cases h
  · cases h
def slotT:Operand→Bool→HSt→HSt
  | .tmp t,b,st=>⟨(t,vC (.bool b))::st.sl,st.bl⟩
  | _,_,st=>st
def ALT:List Sch→Type
  | []=>Empty
  | [s]=>HT s.tr
  | s::t::l=>HT s.tr ⊕ ALT (t::l)
def absDs (np:Nat) (st:HSt):(l:List Sch)→Option (ALT l)
  | []=>none
  | [s]=>absD np s st
  | s::t::l=>match absD np s st with
    | some x=>some (.inl x)
    | none=>match absDs np st (t::l) with | some y=>some (.inr y) | none=>none
def conTs {ρ:Type} (K:HSt→Option ρ):(l:List Sch)→ALT l→Option ρ
  | [],_=>none
  | [s],x=>match conT s x with | some st'=>K st' | none=>none
  | s::t::l,x=>sm x (fun a=>match conT s a with | some st'=>K st' | none=>none) (fun b=>conTs K (t::l) b)
theorem DM {K:Act→World→Prop} {n:Nat} {A:An} {g0:Gh} {st:HSt}:∀ {l:List Sch} {t:ALT l},absDs A.np st l=some t →
    ∃ st',(∀ {ρ:Type} {k:HSt→Option ρ} {r:ρ},conTs k l t=some r→k st'=some r)∧(SW K n A g0 st'→SW K n A g0 st)
  | [],t,h=>by cases h
  | [s],t,h=>by
    obtain ⟨st',h1,h2⟩:=TG (K:=K) (n:=n) (g0:=g0) (h:absD A.np s st=some t)
    refine ⟨st',fun {ρ k r} hk=>?_,h2⟩
    have hk:(match conT s t with | some st'=>k st' | none=>none)=some r:=hk
    rw [h1] at hk;exact hk
  | s::s2::l,t,h=>by
    unfold absDs at h
    split at h
    · rename_i x hx
      injection h with h;subst h
      obtain ⟨st',h1,h2⟩:=TG (K:=K) (n:=n) (g0:=g0) hx
      refine ⟨st',fun {ρ k r} hk=>?_,h2⟩
      have hk:(match conT s x with | some st'=>k st' | none=>none)=some r:=hk
      rw [h1] at hk;exact hk
    · split at h
      · rename_i y hy
        injection h with h;subst h
        obtain ⟨st',h1,h2⟩:=DM (K:=K) (n:=n) (g0:=g0) hy
        exact ⟨st',fun {ρ k r} hk=>h1 hk,h2⟩
      · cases h
def fitsD (np:Nat) (sc:Sch) (st:HSt):Bool:=match absSt false sc (Sv 0 np++nones (sc.bl.length - np)) (cutAll sc.sl st) with
  | some _=>true
  | none=>false
def HC.sel (np:Nat) (st:HSt):HC→HC
  | .on sc x1 x2=>match fitsD np sc st with | true=>x1.sel np st | false=>x2.sel np st
  | h=>h
noncomputable def cutX {ρ:Type} (h:HC) (y:Option ρ):Option ρ:=(fun _:Nat→Option Unit=>match h with | .cut=>none | _=>y) fun n=>sm (β:=Unit) (Sum.inl ()) (fun _=>nlO true (jd (α:=Unit) (dnO (bd (gd true (cnd true (loopO n (fun _=>none) ()) none)) some)) fun _=>none) none) fun _=>none
theorem Et {ρ:Type} {h:HC} {y:Option ρ} {r:ρ} (e:cutX h y=some r):y=some r:=by
  cases h <;> first | exact e | cases e
noncomputable def evC {P:Program} (S:Stp P) (n np:Nat):(c:Code)→HC→{ρ:Type}→HSt→(Exit→HSt→Option ρ)→Option ρ
  | .skip,h,_,st,K=>K .normal st
  | .region _ ops false,h,_,st,K=>(match (h.sel np st).jS with
    | none=>evOps S n ops ops.size 0 st (K .normal)
    | some (_,sc)=>bd (evOps S n ops ops.size 0 st fun st'=>absDs np st' sc) fun t=>conTs (K .normal) sc t)
  | .region _ ops true,h,_,st,K=>(match P.follows .mixedOrders with
    | true=>(match (h.sel np st).jS with
      | none=>evD S n ops ops.size 0 ⟨st.bl.length,[],[]⟩ ⟨st.sl,st.bl++holes (h.sel np st).rM⟩ (K .normal)
      | some (_,sc)=>bd (evD S n ops ops.size 0 ⟨st.bl.length,[],[]⟩ ⟨st.sl,st.bl++holes (h.sel np st).j1.rM⟩ fun st'=>absDs np st' sc) fun t=>conTs (K .normal) sc t)
    | false=>none)
  | .seq a b,h,_,st,K=>(match (h.sel np st).jS with
    | none=>evC S n np a (h.sel np st).s1 st fun e st'=>match e with | .normal=>cutX ((h.sel np st).s2.sel np st') (evC S n np b (h.sel np st).s2 st' K) | e=>K e st'
    | some (false,sc)=>bd (evC S n np a (h.sel np st).j1.s1 st fun e st'=>match e with | .normal=>absDs np st' sc | _=>none) fun t=>conTs (fun st'=>cutX ((h.sel np st).j1.s2.sel np st') (evC S n np b (h.sel np st).j1.s2 st' K)) sc t
    | some (true,sc)=>jd (evC S n np a (h.sel np st).j1.s1 st fun e st'=>match e with | .normal=>(match absDs np st' sc with | some t=>some (.go t) | none=>none) | e=>dnO (K e st')) fun t=>conTs (fun st'=>cutX ((h.sel np st).j1.s2.sel np st') (evC S n np b (h.sel np st).j1.s2 st' K)) sc t)
  | .cond o a b,h,_,st,K=>(match evH st.sl o with
    | some (.v (.c (.bool c)))=>cnd c (cutX (h.sel np st).c1 (evC S n np a (h.sel np st).c1 (slotT o true st) K)) (cutX (h.sel np st).c2 (evC S n np b (h.sel np st).c2 (slotT o false st) K))
    | some (.v (.c (.nb e false)))=>nlO e (evC S n np a (h.sel np st).c1 (slotT o true st) K) (evC S n np b (h.sel np st).c2 (slotT o false st) K)
    | some (.v (.c (.nb e true)))=>nlO e (evC S n np b (h.sel np st).c2 (slotT o false st) K) (evC S n np a (h.sel np st).c1 (slotT o true st) K)
    | _=>none)
  | .block i a,h,_,st,K=>evC S n np a (h.sel np st).b1 st fun e st'=>match e with | .exit j=>(match Nat.beq j i with | true=>K .normal st' | false=>K (.exit j) st') | e=>K e st'
  | .loop a,h,ρ,st,K=>(match (h.sel np st).uK with
    | some k=>Nat.rec (motive:=fun _=>HC→HSt→Option ρ) (fun _ _=>none) (fun _ ih h1 st1=>evC S n np a (h1.sel np st1).v1 st1 fun e st'=>match e with | .normal=>ih (h1.sel np st1).v2 st' | e=>K e st') k (h.sel np st).l1 st
    | none=>(match (h.sel np st).lS with
    | some sc=>match absDs np st sc with
     | none=>none
     | some t0=>loopO fuelN (fun t=>conTs (fun st1=>evC S n np a (h.sel np st).l1 st1 fun e st'=>match e with | .normal=>(match absDs np st' sc with | some t=>some (.go t) | none=>none) | e=>dnO (K e st')) sc t) t0
    | none=>none))
  | .exit i,h,_,st,K=>K (.exit i) st
  | .ret,h,_,st,K=>K .ret st
  | _,_,_,_,_=>none
section
variable {P:Program} {S:Stp P} {n:Nat}
theorem SW.mono {A:An} {K:Act→World→Prop} {g0 g1:Gh} {st:HSt} (hg:g0.le g1) (k:SW K n A g0 st):SW K n A g1 st:=fun g ρ own fr h=>k g ρ own fr (hg.trans h)
theorem Ed {A:An} {g0:Gh} {Q:Exit→Act→World→Prop} {N:Act→World→Prop} {e:Exit} {st:HSt} (he:e ≠ .normal) (k:SW (Q e) n A g0 st):SW (Exit.then N Q e) n A g0 st:=by
  cases e <;> first | exact absurd rfl he | exact k
theorem Cu:∀ (c:Code) {A:An} {g0:Gh} {h:HC} {ρ:Type} {r:ρ} {st:HSt} {K:Exit→HSt→Option ρ} {Q:Exit→Act→World→Prop},evC S n A.np c h st K=some r→(∀ e st',K e st'=some r→SW (Q e) n A g0 st')→SW (Code.wp P c Q) n A g0 st
  | .skip,A,g0,h,ρ,r,st,K,Q,hs,hK=>fun g ρ own fr hg hA hr=>Xq rfl (hK _ _ hs g ρ own fr hg hA hr)
  | .region id ops false,A,g0,h,ρ,r,st,K,Q,hs,hK=>by
    intro g ρ' own fr hg hA hr
    refine RX (ops:=ops) rfl ?_
    unfold evC at hs
    split at hs
    · exact Di (Q:=Q) (hK .normal) hs g ρ' own fr hg hA hr
    · rename_i e sc _
      obtain ⟨t,h1,h2⟩:=GL ((Jj _ _).symm.trans hs)
      refine Di (Q:=Q) (g0:=g0) (fun st' h'=>?_) h1 g ρ' own fr hg hA hr
      obtain ⟨st2,h3,h4⟩:=DM (K:=Q .normal) (n:=n) (A:=A) (g0:=g0) h'
      exact h4 (hK _ _ (h3 h2))
  | .region id ops true,A,g0,h,ρ,r,st,K,Q,hs,hK=>by
    unfold evC at hs
    split at hs
    case h_2=>cases hs
    rename_i hm
    split at hs
    · exact SW.holes _ (XX hm hs (hK .normal))
    · rename_i e sc _
      obtain ⟨t,h1,h2⟩:=GL ((Jj _ _).symm.trans hs)
      refine SW.holes _ (XX hm h1 fun st' h'=>?_)
      obtain ⟨st2,h3,h4⟩:=DM (K:=Q .normal) (n:=n) (A:=A) (g0:=g0) h'
      exact h4 (hK _ _ (h3 h2))
  | .seq a b,A,g0,h,ρ,r,st,K,Q,hs,hK=>by
    intro g ρ' own fr hg hA hr
    refine AeY rfl ?_
    unfold evC at hs
    split at hs
    · refine Cu a hs (fun e st' h'=>?_) g ρ' own fr hg hA hr
      cases e with
      | normal=>exact Cu b (Et h') hK
      | _=>exact Ed (by simp) (hK _ _ h')
    · rename_i sc _
      obtain ⟨t,h1,h2⟩:=GL ((Jj _ _).symm.trans hs)
      refine Cu a h1 (fun e st' h'=>?_) g ρ' own fr hg hA hr
      cases e with
      | normal =>
        obtain ⟨st2,h3,h4⟩:=DM (K:=Code.wp P b Q) (n:=n) (A:=A) (g0:=g0) h'
        exact h4 (Cu b (Et (h3 h2)) hK)
      | _=>cases h'
    · rename_i sc _
      obtain ⟨ctl,h1,h2,h3⟩:=Tz ((AiT _ _).symm.trans hs)
      refine Cu a h1 (fun e st' h'=>?_) g ρ' own fr hg hA hr
      cases e with
      | normal =>
        dsimp only at h'
        split at h'
        · rename_i t ht
          injection h' with h'
          obtain ⟨st2,h4,h5⟩:=DM (K:=Code.wp P b Q) (n:=n) (A:=A) (g0:=g0) ht
          have h2:=h2 t h'.symm
          exact h5 (Cu b (Et (h4 h2)) hK)
        · cases h'
      | _ =>
        obtain ⟨r',hr',h'⟩:=NK h'
        have:=h3 r' h'
        subst this
        exact Ed (by simp) (hK _ _ hr')
  | .cond o a b,A,g0,h,ρ,r,st,K,Q,hs,hK=>by
    have key:∀ (c:Bool) (g:Gh) (ρ':Env) (own:Own) (fr:Sl),g0.le g→Anch A ρ' st.bl→Rl g ρ' st own fr→evS fr o=some (.bool c)→∀ cc:Code,SW (Code.wp P cc Q) n A g0 (slotT o c st)→WPc P cc Q n g own fr:=by
        intro c g ρ' own fr hg hA hr h1 cc k
        cases o with
        | tmp t =>
          obtain ⟨sl,bl⟩:=st
          intro a w hf hs
          refine k g ρ' own ((t,.bool c)::fr) hg hA (hr.put t rfl) a w ⟨hf.size,hf.defers,fun s u hu=>?_⟩ hs
          have hu:cond (Nat.beq t s) (some (Value.bool c)) (getS fr s)=some u:=hu
          cases hb:Nat.beq t s with
          | true =>
            rw [hb] at hu
            have:=Nat.eq_of_beq_eq_true hb
            subst this
            injection hu with hu;subst hu
            exact hf.at_ _ _ h1
          | false=>rw [hb] at hu;exact hf.at_ _ _ hu
        | const _=>exact k g ρ' own fr hg hA hr
        | global _=>exact k g ρ' own fr hg hA hr
        | func _=>exact k g ρ' own fr hg hA hr
    unfold evC at hs
    split at hs
    · rename_i c hc
      intro g ρ' own fr hg hA hr
      obtain ⟨v,h1,h2⟩:=Ah hr hc
      have h2:v = .bool c:=h2
      subst h2
      rcases Gc hs with ⟨e,hs⟩ | ⟨e,hs⟩
      · subst e;exact Ei rfl h1 (fun _=>key true g ρ' own fr hg hA hr h1 a (Cu a (Et hs) hK)) (fun e2=>by cases e2)
      · subst e;exact Ei rfl h1 (fun e2=>by cases e2) (fun _=>key false g ρ' own fr hg hA hr h1 b (Cu b (Et hs) hK))
    · rename_i e hc
      intro g ρ' own fr hg hA hr
      obtain ⟨v,h1,bb,rfl,h2⟩:=Ah hr hc
      obtain ⟨hy,hx⟩:=NJ hs
      cases bb with
      | true=>exact Ei rfl h1 (fun _=>key true g ρ' own fr hg hA hr h1 a (Cu a (hx (h2 rfl)) hK)) (fun e2=>by cases e2)
      | false=>exact Ei rfl h1 (fun e2=>by cases e2) (fun _=>key false g ρ' own fr hg hA hr h1 b (Cu b hy hK))
    · rename_i e hc
      intro g ρ' own fr hg hA hr
      obtain ⟨v,h1,bb,rfl,h2⟩:=Ah hr hc
      obtain ⟨hy,hx⟩:=NJ hs
      cases bb with
      | true=>exact Ei rfl h1 (fun e2=>by cases e2) (fun _=>key false g ρ' own fr hg hA hr h1 b (Cu b (hx (h2 rfl)) hK))
      | false=>exact Ei rfl h1 (fun _=>key true g ρ' own fr hg hA hr h1 a (Cu a hy hK)) (fun e2=>by cases e2)
    · cases hs
  | .block i a,A,g0,h,ρ,r,st,K,Q,hs,hK=>by
    intro g ρ' own fr hg hA hr
    refine Vr rfl (Cu a (h:=(h.sel A.np st).b1) hs (fun e st' h'=>?_) g ρ' own fr hg hA hr)
    cases e with
    | exit j =>
      dsimp only at h'
      split at h'
      · rename_i e
        have h2':=h'
        have:=Nat.eq_of_beq_eq_true e
        subst this
        exact fun g ρ own fr hg hA hr=>RY (hK _ _ h2' g ρ own fr hg hA hr)
      · rename_i e
        have h2':=h'
        exact fun g ρ own fr hg hA hr=>RZ e (hK _ _ h2' g ρ own fr hg hA hr)
    | _=>exact hK _ _ h'
  | .loop a,A,g0,h,ρ,r,st,K,Q,hs,hK=>by
    unfold evC at hs
    split at hs
    · rename_i k _
      have key:∀ (k:Nat) (h1:HC) (st:HSt),Nat.rec (motive:=fun _=>HC→HSt→Option ρ) (fun _ _=>none) (fun _ ih h1 st1=>evC S n A.np a (h1.sel A.np st1).v1 st1 fun e st'=>match e with | .normal=>ih (h1.sel A.np st1).v2 st' | e=>K e st') k h1 st=some r→SW (Code.rounds P a Q k) n A g0 st:=by
        intro k
        induction k with
        | zero=>intro h1 st hs;cases hs
        | succ k ih =>
          intro h1 st hs
          exact Cu a (Q:=Exit.then (Code.rounds P a Q k) Q) hs fun e st' h'=>match e,h' with
            | .normal,h'=>ih _ st' h'
            | .exit i,h'=>Ed (by simp) (hK _ _ h')
            | .goto i,h'=>Ed (by simp) (hK _ _ h')
            | .ret,h'=>Ed (by simp) (hK _ _ h')
            | .panic c,h'=>Ed (by simp) (hK _ _ h')
            | .outgrown,h'=>Ed (by simp) (hK _ _ h')
      intro g ρ' own fr hg hA hr a' w' hf hw
      exact wp_loop_rounds k (key k _ _ hs g ρ' own fr hg hA hr a' w' hf hw)
    split at hs
    · rename_i sc _
      split at hs
      · cases hs
      rename_i t0 h0
      have hl:=hs
      generalize hB:(fun t=>conTs (fun st1=>evC S n A.np a (h.sel A.np st).l1 st1 fun e st'=>match e with | .normal=>(match absDs A.np st' sc with | some t=>some (.go t) | none=>none) | e=>dnO (K e st')) sc t)=B at hl
      have hst0:∃ st0,(∀ {ρ:Type} {k:HSt→Option ρ} {r:ρ},conTs k sc t0=some r→k st0=some r)∧(SW (Code.wp P (.loop a) Q) n A g0 st0→SW (Code.wp P (.loop a) Q) n A g0 st):=DM h0
      obtain ⟨st0,hc0,hw0⟩:=hst0
      refine hw0 ?_
      clear h0 hw0
      intro g ρ' own fr hg hA hr
      refine Xs (P:=P) (Q:=Q) rfl (fun g1 own1 fr1 m=>g0.le g1∧∃ (t:ALT sc) (st1:HSt) (ρ1:Env),(∀ {ρ:Type} {k:HSt→Option ρ} {r:ρ},conTs k sc t=some r→k st1=some r)∧Anch A ρ1 st1.bl∧Rl g1 ρ1 st1 own1 fr1∧loopO m B t=some r) fuelN ⟨hg,t0,st0,ρ',hc0,hA,hr,hl⟩ ?_
      rintro g1 own1 fr1 m hg1 ⟨hg01,t,st1,ρ1,hc1,hA1,hr1,hl1⟩ Qr hQr
      obtain ⟨m',ctl,em,h1,h2,h3⟩:=Afh hl1
      subst em
      rw [← hB] at h1
      have h1:=hc1 h1
      refine Cu a (g0:=g1) h1 (Q:=Exit.then Qr Q) (fun e st' h'=>?_) g1 ρ1 own1 fr1 (.refl _) hA1 hr1
      cases e with
      | normal =>
        dsimp only at h'
        split at h'
        · rename_i t' ht
          injection h' with h'
          have h2:=h2 t' h'.symm
          obtain ⟨st2,h4,h5⟩:=DM (K:=Qr) (n:=n) (A:=A) (g0:=g1) ht
          exact h5 fun g2 ρ2 own2 fr2 hg2 hA2 hr2=>hQr g2 own2 fr2 m' hg2 (Nat.lt_succ_self _) ⟨hg01.trans hg2,t',st2,ρ2,h4,hA2,hr2,h2⟩
        · cases h'
      | _ =>
        obtain ⟨r',hr',h'⟩:=NK h'
        have:=h3 r' h'
        subst this
        exact Ed (by simp) ((hK _ _ hr').mono hg01)
    · cases hs
  | .exit i,A,g0,h,ρ,r,st,K,Q,hs,hK=>fun g ρ own fr hg hA hr=>Xr rfl (hK _ _ hs g ρ own fr hg hA hr)
  | .ret,A,g0,h,ρ,r,st,K,Q,hs,hK=>fun g ρ own fr hg hA hr a w hf hw=>wp_ret (hK _ _ hs g ρ own fr hg hA hr a w hf hw)
  | .rangeFunc _ _ _ _,A,g0,h,ρ,r,st,K,Q,hs,hK=>by cases hs
  | .scope _,A,g0,h,ρ,r,st,K,Q,hs,hK=>by cases hs
  | .label _,A,g0,h,ρ,r,st,K,Q,hs,hK=>by cases hs
  | .goto _,A,g0,h,ρ,r,st,K,Q,hs,hK=>by cases hs
  | .refuse _,A,g0,h,ρ,r,st,K,Q,hs,hK=>by cases hs
end
structure FSp where
 ps:Sch
 rs:List Sch
 run:HT ps.tr→Option (ALT rs)
def altC:(l:List Sch)→ALT l→Option HSt
 | [],_=>none
 | [s],x=>conT s x
 | s::t::l,x=>match x with | .inl a=>conT s a | .inr b=>altC (t::l) b
def ghB (p:Psi):Gh:=⟨p,p,.refl p⟩
def refOk (bl:List BV) (b:Nat):Bool:=match bl[b]? with | some bv=>bv.owned | none=>false
def baseC (bl:List BV):CV→Bool
 | .int _ _=>true
 | .bool _=>true
 | .str _=>true
 | .k _=>true
 | .ptr b _=>refOk bl b
 | .own b=>refOk bl b
 | .ro _ _ m=>m
 | .fn _=>true
 | .cap f c=>baseC bl f&&baseC bl c
 | .ifc _ c=>baseC bl c
 | _=>false
def allB {α:Type} (p:α→Bool):List α→Bool
 | []=>true
 | x::l=>p x&&allB p l
def NW (bl:List BV):V1→Bool
 | .c x=>baseC bl x
 | .agg l=>allB (baseC bl) l
def baseS (bl:List BV):SV→Bool
 | .v x=>NW bl x
 | .tup l=>allB (NW bl) l
 | .und=>false
 | .any=>true
def baseB (bl:List BV):BV→Bool
 | .no=>true
 | .cells _ l=>allB (baseC bl) l
 | .row _ _ _=>true
 | _=>false
def baseSt (st:HSt):Bool:=allB (fun p=>baseS st.bl p.2) st.sl&&allB (baseB st.bl) st.bl
section
variable {g:Gh} {ρ:Env} {bl:List BV}
theorem CZ:∀ {x:CV} {v:Value},baseC bl x=true→RealC g ρ bl x v→RealC (ghB g.b) ρ bl x v
 | .int _ _,_,_,h=>h
 | .bool _,_,_,h=>h
 | .str _,_,_,h=>h
 | .k _,_,_,h=>h
 | .ptr _ _,_,_,h=>h
 | .own _,_,_,h=>h
 | .ro _ _ true,_,_,h=>h
 | .fn _,_,_,h=>h
 | .cap f c,_,hb,⟨f0,caps,vc,h1,h2,h3⟩=>by
  simp only [baseC,Bool.and_eq_true] at hb
  exact ⟨f0,caps,vc,CZ hb.1 h1,CZ hb.2 h2,h3⟩
 | .ifc t c,_,hb,⟨u,h1,h2⟩=>⟨u,CZ (x:=c) hb h1,h2⟩
theorem Da {α β:Type} {p:α→Bool} {R S:α→β→Prop} (hi:∀ x y,p x=true→R x y→S x y):∀ {l:List α} {m:List β},allB p l=true→AV R l m→AV S l m
 | [],[],_,_=>trivial
 | x::l,y::m,hp,h=>by
  simp only [allB,Bool.and_eq_true] at hp
  exact ⟨hi _ _ hp.1 h.1,Da hi hp.2 h.2⟩
 | [],_::_,_,h=>h.elim
 | _::_,[],_,h=>h.elim
theorem Fx {α:Type} {p:α→Bool}:∀ {l:List α} {x:α},allB p l=true→x∈l→p x=true
 | y::l,x,h,hm=>by
  simp only [allB,Bool.and_eq_true] at h
  rcases List.mem_cons.1 hm with rfl | hm
  ·exact h.1
  ·exact Fx h.2 hm
theorem Jv {x:V1} {v:Value} (hb:NW bl x=true) (h:Cn g ρ bl x v):Cn (ghB g.b) ρ bl x v:=by
 cases x with
 | c x=>exact CZ hb h
 | agg l =>
  obtain ⟨cs,e,h⟩:=h
  exact ⟨cs,e,Da (fun _ _=>CZ) hb h⟩
theorem SC {x:SV} {v:Value} (hb:baseS bl x=true) (h:RealS g ρ bl x v):RealS (ghB g.b) ρ bl x v:=by
 cases x with
 | v x=>exact Jv hb h
 | tup l =>
  obtain ⟨cs,e,h⟩:=h
  exact ⟨cs,e,Da (fun _ _=>Jv) hb h⟩
 | und=>cases hb
 | any=>trivial
theorem SD {bv:BV} {k:Option Bk} {e:Option Addr×Nat} (hb:baseB bl bv=true) (h:BlkR g ρ bl k e bv):BlkR (ghB g.b) ρ bl k e bv:=by
 cases bv with
 | hole=>cases hb
 | no=>exact h
 | cells t l =>
  obtain ⟨b,cs,h1,h2,h3⟩:=h
  exact ⟨b,cs,h1,h2,Da (fun _ _=>CZ) hb h3⟩
 | row c et xs=>exact h
 | fz c xs=>cases hb
 | lent l=>cases hb
theorem NX {st:HSt} {own:Own} {fr:Sl} (hb:baseSt st=true) (h:Rl g ρ st own fr):Rl (ghB g.b) ρ st own fr:=by
 simp only [baseSt,Bool.and_eq_true] at hb
 refine ⟨h.len,fun i bv k e1 e2=>SD (Fx hb.2 (List.mem_of_getElem? e1)) (h.blk i bv k e1 e2),fun t sv e=>?_,h.gi⟩
 obtain ⟨v,h1,h2⟩:=h.slot t sv e
 exact ⟨v,h1,SC (Fx (p:=fun p:Nat×SV=>baseS st.bl p.2) hb.1 (GO e)) h2⟩
end
def argH:Nat→List SV→List (Nat×SV)
 | _,[]=>[]
 | i,v::l=>(i,v)::argH (i+1) l
def isArgs:Nat→List (Nat×SSh)→Bool
 | _,[]=>true
 | i,(j,_)::l=>Nat.beq j i&&isArgs (i+1) l
def lenAt (bl:List BV) (j:Nat):Option Nat:=match bl[j]? with | some bv=>bv.len | none=>none
theorem Jw {bl:List BV} {j m:Nat} (h:lenAt bl j=some m):∃ bv,bl[j]? = some bv∧bv.len=some m:=by
 unfold lenAt at h
 split at h
 ·rename_i bv e;exact ⟨bv,e,h⟩
 ·cases h
def FOk (P:Program) (f:FuncId) (S:FSp):Prop:=∀ (t:HT S.ps.tr) (r:ALT S.rs) (st0:HSt),S.run t=some r→conT S.ps t=some st0 →
 ∀ (g:Gh) (ρ:Env) (own:Own) (vs:List Value),Rl g ρ st0 own (argS 0 vs)→vs.length=S.ps.sl.length →
  Ctr P f vs g own fun v ψ o=>∃ str ρ',altC S.rs r=some str∧baseSt str=true∧Rl (ghB ψ) ρ' str o [(0,v)]∧∀ j,j < st0.bl.length→ρ' j=ρ j∧∀ (bv:BV) (m:Nat),str.bl[j]? = some bv→bv.len=some m→lenAt st0.bl j=some m
def resH (P:Program) (st:HSt):List ResultVar→Option (List V1)
 | []=>some []
 | .tmp t::l=>match getH st.sl t,resH P st l with
  | some (.v x),some m=>some (x::m)
  | _,_=>none
 | .cell x t::l=>match getH st.sl x,resH P st l with
  | some (.v (.c (.ptr b off))),some m=>(match st.bl[b]? with
   | some (.cells _ c)=>(match readL P t c off with | some (.v y)=>some (y::m) | _=>none)
   | _=>none)
  | _,_=>none
def tupH:List V1→SV
 | [x]=> .v x
 | l=> .tup l
def resSh (rs:Sch):List Sh1:=match rs.sl with
 | [(_,.v x)]=>[x]
 | [(_,.tup l)]=>l
 | _=>[]
def cutB (c:Cd) (r:Nat) (b:Nat):BV→List BV→List BV
 | .row d et xs,bl=>bl.set b .no++[.row d et (xs.take r)]
 | _,bl=>bl
def isRowB:BV→Bool
 | .row _ _ _=>true
 | _=>false
def cutV:List Sh1→List V1→List BV→List V1×List BV
 | .c (.own _)::shs,.c (.vw b c l r)::vs,bl=>(match bl[b]? with
  | some bv=>cond (isRowB bv&&Nat.beq l 0) (.c (.own bl.length)::(cutV shs vs (cutB c r b bv bl)).1,(cutV shs vs (cutB c r b bv bl)).2) (.c (.vw b c l r)::(cutV shs vs bl).1,(cutV shs vs bl).2)
  | none=>(.c (.vw b c l r)::(cutV shs vs bl).1,(cutV shs vs bl).2))
 | _::shs,v::vs,bl=>(v::(cutV shs vs bl).1,(cutV shs vs bl).2)
 | _,vs,bl=>(vs,bl)
def absR (P:Program) (rv:List ResultVar) (np:Nat) (rs:Sch) (st:HSt):Option (HT rs.tr):=match resH P st rv with
 | some l=>(match absSt false rs (Sv 0 np++nones (rs.bl.length - np)) ⟨[(0,tupH (cutV (resSh rs) l st.bl).1)],(cutV (resSh rs) l st.bl).2⟩ with
  | some s=>(match conSt id rs s.ds with
   | some st'=>cond (joinChk s st'.bl&&(baseSt st'&&Nat.ble np st.bl.length)) (pack rs.tr s.ds) none
   | none=>none)
  | none=>none)
 | none=>none
def absA (P:Program) (rv:List ResultVar) (np:Nat) (st:HSt):(l:List Sch)→Option (ALT l)
 | []=>none
 | [s]=>absR P rv np s st
 | s::t::l=>match absR P rv np s st with
  | some x=>some (.inl x)
  | none=>match absA P rv np st (t::l) with | some y=>some (.inr y) | none=>none
noncomputable def evF {P:Program} (S:Stp P) (fn:Func) (ps:Sch) (rs:List Sch) (h:HC) (t:HT ps.tr):Option (ALT rs):=match conT ps t,fn.body with
 | some st0,some c=>evC S fn.ntmps st0.bl.length c h st0 fun e st'=>match e with
  | .normal=>absA P fn.results.toList st0.bl.length st' rs
  | .ret=>absA P fn.results.toList st0.bl.length st' rs
  | _=>none
 | _,_=>none
section
variable {P:Program} {S:Stp P}
theorem Mw {st:HSt} {g:Gh} {ρ:Env} {own:Own} {fr:Sl} (hr:Rl g ρ st own fr):∀ {rv:List ResultVar} {l:List V1},resH P st rv=some l→∃ vs,ResOk P own fr rv vs∧AV (Cn g ρ st.bl) l vs
 | [],l,h=>by injection h with h;subst h;exact ⟨[],Afd,trivial⟩
 | .tmp t::rv,l,h=>by
  unfold resH at h
  split at h
  ·rename_i x m h1 h2
   injection h with h;subst h
   obtain ⟨vs,h3,h4⟩:=Mw hr h2
   obtain ⟨v,h5,h6⟩:=hr.slot t _ h1
   exact ⟨v::vs,Afe h5 h3,h6,h4⟩
  ·cases h
 | .cell x t::rv,l,h=>by
  unfold resH at h
  split at h
  ·rename_i b off m h1 h2
   split at h
   ·rename_i t0 c hb
    split at h
    ·rename_i y hy
     injection h with h;subst h
     obtain ⟨vs,h3,h4⟩:=Mw hr h2
     obtain ⟨v,h5,_,a,ha,rfl⟩:=hr.slot x _ h1
     obtain ⟨k,hk,b0,cs,rfl,h6,h7⟩:=Rl.own_at (sl:=st.sl) (bl:=st.bl) hr hb
     rw [ha] at h6;injection h6 with h6;subst h6
     rw [Bz,Nat.zero_add] at h5
     rcases DI hy h7 with ⟨hf,u,h8,h9⟩ | ⟨us,h8,h9,h10⟩
     ·exact ⟨u::vs,Vu h5 hk rfl hf h8 h3,h9,h4⟩
     ·exact ⟨.agg us.toArray::vs,Vv h5 hk rfl h8 h9 h3,h10,h4⟩
    ·cases h
   ·cases h
  ·cases h
theorem VJ {g:Gh} {ρ:Env} {bl:List BV} {l:List V1} {vs:List Value} (h:AV (Cn g ρ bl) l vs):RealS g ρ bl (tupH l) (tupled vs):=by
 match l,vs,h with
 | [],[],_=>exact ⟨[],rfl,trivial⟩
 | [x],[v],h=>exact h.1
 | x::y::l,v::u::vs,h=>exact ⟨v::u::vs,rfl,h⟩
 | [],_::_,h=>exact h.elim
 | [_],[],h=>exact h.elim
 | [_],_::_::_,h=>exact h.2.elim
 | _::_::_,[],h=>exact h.elim
 | _::_::_,[_],h=>exact h.2.elim
theorem Aft {g:Gh} {fr:Sl} {sl:List (Nat×SV)} {w:World}:∀ {vs:List V1} {shs:List Sh1} {bl:List BV} {us:List Value} {ρ:Env} {own:Own},Rl g ρ ⟨sl,bl⟩ own fr→St w g own→AV (Cn g ρ bl) vs us →
  ∃ ρ' own',St w g own'∧Rl g ρ' ⟨sl,(cutV shs vs bl).2⟩ own' fr∧AV (Cn g ρ' (cutV shs vs bl).2) (cutV shs vs bl).1 us∧Ext ρ bl ρ' (cutV shs vs bl).2∧(∀ j,j < bl.length→ρ' j=ρ j)∧bl.length≤(cutV shs vs bl).2.length∧∀ j m,j < bl.length→lenAt (cutV shs vs bl).2 j=some m→lenAt bl j=some m:=by
 intro vs
 induction vs with
 | nil =>
  intro shs bl us ρ own hr hs h
  have e:cutV shs [] bl=([],bl):=by cases shs <;> simp [cutV]
  rw [e]
  exact ⟨ρ,own,hs,hr,h,.refl,fun _ _=>rfl,Nat.le_refl _,fun _ _ _ h=>h⟩
 | cons v vs ih =>
  intro shs bl us ρ own hr hs h
  cases us with
  | nil=>exact h.elim
  | cons u us =>
   obtain ⟨hv,h⟩:=h
   have plain:∀ shs',∃ ρ' own',St w g own'∧Rl g ρ' ⟨sl,(cutV shs' vs bl).2⟩ own' fr∧AV (Cn g ρ' (cutV shs' vs bl).2) (v::(cutV shs' vs bl).1) (u::us)∧Ext ρ bl ρ' (cutV shs' vs bl).2∧(∀ j,j < bl.length→ρ' j=ρ j)∧bl.length≤(cutV shs' vs bl).2.length∧∀ j m,j < bl.length→lenAt (cutV shs' vs bl).2 j=some m→lenAt bl j=some m:=fun shs'=>by
    obtain ⟨ρ',own',h1,h2,h3,h4,h5,h6,h7⟩:=ih (shs:=shs') hr hs h
    exact ⟨ρ',own',h1,h2,⟨hv.ext (.refl g) h4,h3⟩,h4,h5,h6,h7⟩
   unfold cutV
   split
   ·rename_i bl _ _ _ j0 shs' b c l r vs' e2
    injection e2 with e2 e3
    subst e2;subst e3
    split
    ·rename_i bv hb
     cases hc:(isRowB bv&&Nat.beq l 0) with
     | false=>exact plain shs'
     | true =>
      simp only [Bool.and_eq_true] at hc
      obtain ⟨hc1,hc2⟩:=hc
      have hc2:=Nat.eq_of_beq_eq_true hc2
      subst hc2
      cases bv with
      | row d et xs =>
       obtain ⟨ρ1,own1,h1,h2,h3,h4,h5⟩:=hr.cutC hs hb (hv:RealC g ρ bl (.vw b c 0 r) u)
       obtain ⟨ρ',own',k1,k2,k3,k4,k5,k6,k7⟩:=ih (shs:=shs') h2 h1 (h.mono fun _ _=>Cn.ext (.refl g) h4)
       have hlen:(bl.set b .no++[BV.row d et (xs.take r)]).length=bl.length+1:=by simp
       refine ⟨ρ',own',k1,k2,⟨RealC.ext (.refl g) k4 h3,k3⟩,h4.trans k4,fun j hj=>(k5 j (by omega)).trans (h5 j hj),Nat.le_trans (by omega) k6,fun j m hj hm=>?_⟩
       have:=k7 j m (by omega) hm
       unfold lenAt at this ⊢
       rw [List.getElem?_append_left (by simpa using hj)] at this
       by_cases e:b=j
       ·subst e
        rw [List.getElem?_set_self (by omega)] at this
        cases this
       ·rw [Dv e] at this
        exact this
      | _=>cases hc1
    ·exact plain shs'
   ·rename_i _ _ _ _ x shs' v' vs' _ e2
    injection e2 with e2 e3
    subst e2;subst e3
    exact plain shs'
   ·exact ⟨ρ,own,hs,hr,⟨hv,h⟩,.refl,fun _ _=>rfl,Nat.le_refl _,fun _ _ _ h=>h⟩
theorem TH {rv:List ResultVar} {np:Nat} {rs:Sch} {st:HSt} {r:HT rs.tr} (h:absR P rv np rs st=some r) {g:Gh} {ρ:Env} {own:Own} {fr:Sl} {w:World} (hr:Rl g ρ st own fr) (hs:St w g own) :
  ∃ vs g1 ρ' own1 str,ResOk P own fr rv vs∧g.le g1∧St w g1 own1∧conT rs r=some str∧baseSt str=true∧Rl (ghB g1.b) ρ' str own1 [(0,tupled vs)]∧∀ j,j < np→ρ' j=ρ j∧∀ (bv:BV) (m:Nat),str.bl[j]? = some bv→bv.len=some m→lenAt st.bl j=some m:=by
 unfold absR at h
 split at h
 ·rename_i l hl
  split at h
  ·rename_i s hsx
   split at h
   ·rename_i st' hc
    obtain ⟨hk,h⟩:=condS h
    simp only [Bool.and_eq_true] at hk
    obtain ⟨hk,hb,hnp⟩:=hk
    have hnp:=Nat.le_of_ble_eq_true hnp
    obtain ⟨vs,h1,h2⟩:=Mw (P:=P) hr hl
    obtain ⟨ρc,ownc,hsc,hrc,h2c,hxc,hρc,hlc,hlenc⟩:=Aft (shs:=resSh rs) (sl:=st.sl) hr hs h2
    have hr1:Rl g ρc ⟨[(0,tupH (cutV (resSh rs) l st.bl).1)],(cutV (resSh rs) l st.bl).2⟩ ownc [(0,tupled vs)]:=by
     refine ⟨hrc.len,hrc.blk,fun t sv e=>?_,hrc.gi⟩
     have e:cond (Nat.beq 0 t) (some (tupH (cutV (resSh rs) l st.bl).1)) none=some sv:=e
     obtain ⟨e1,e2⟩:=condS e
     injection e2 with e2;subst e2
     have:=Nat.eq_of_beq_eq_true e1
     subst this
     exact ⟨_,rfl,VJ h2c⟩
    obtain ⟨g1,ρ1,own1,h3,h4,h5,h6,h7⟩:=Jq hsx hc hk hr1 hsc
    refine ⟨vs,g1,envOf s.σ ρ1,own1,st',h1,h3,h4,?_,hb,NX hb h5,fun j hj=>?_⟩
    ·unfold conT
     rw [Ms _ h]
     exact hc
    ·have:s.σ[j]? = some (some j):=h6 j j (by
      have:=Jo np 0 j hj
      rw [Nat.zero_add] at this
      rw [List.getElem?_append_left (AU this)]
      exact this)
     have hj2:j < st.bl.length:=by omega
     refine ⟨by unfold envOf;rw [Jp this];exact (h7 j (show j < (cutV (resSh rs) l st.bl).2.length by omega)).trans (hρc j hj2),fun bv m e1 e2=>?_⟩
     obtain ⟨st2,e3,hsteps,_,_,hbl⟩:=Fu hsx
     rw [hc] at e3;injection e3 with e3;subst e3
     unfold joinChk absChk at hk
     simp only [Bool.and_eq_true] at hk
     obtain ⟨_,_,_,_,hlen⟩:=hk
     obtain ⟨_,bv',h8,_,h9⟩:=Gb (ρ:=ρ1) hbl (Nat.eq_of_beq_eq_true hlen) j j this
     rw [h8] at e1;injection e1 with e1;subst e1
     obtain ⟨bv3,e4,e5⟩:=h9 m e2
     have hj4:j < (cutV (resSh rs) l st.bl).2.length:=by omega
     have hj3:(cutV (resSh rs) l st.bl).2[j]? = some (cutV (resSh rs) l st.bl).2[j]:=List.getElem?_eq_getElem hj4
     obtain ⟨bv4,e6,e7,_⟩:=hsteps.grow.len hj3
     rw [e4] at e6;injection e6 with e6;subst e6
     refine hlenc j m hj2 ?_
     unfold lenAt
     rw [hj3]
     exact e7.symm.trans e5
   ·cases h
  ·cases h
 ·cases h
theorem TI {rv:List ResultVar} {np:Nat} {st:HSt} {g:Gh} {ρ:Env} {own:Own} {fr:Sl} {w:World} (hr:Rl g ρ st own fr) (hs:St w g own):∀ {rs:List Sch} {r:ALT rs},absA P rv np st rs=some r →
  ∃ vs g1 ρ' own1 str,ResOk P own fr rv vs∧g.le g1∧St w g1 own1∧altC rs r=some str∧baseSt str=true∧Rl (ghB g1.b) ρ' str own1 [(0,tupled vs)]∧∀ j,j < np→ρ' j=ρ j∧∀ (bv:BV) (m:Nat),str.bl[j]? = some bv→bv.len=some m→lenAt st.bl j=some m
 | [],r,h=>by cases h
 | [s],r,h=>TH h hr hs
 | s::t::l,r,h=>by
  unfold absA at h
  split at h
  ·rename_i x hx
   injection h with h;subst h
   exact TH hx hr hs
  ·split at h
   ·rename_i y hy
    injection h with h;subst h
    exact TI hr hs (rs:=t::l) hy
   ·cases h
theorem Lw {rn:Nat→Nat}:∀ {l:List BSh} {ds r:List DV} {m:List BV},conL (conB rn) l ds=some (m,r)→∀ x∈m,x.isHole=false
 | [],ds,r,m,h,x,hx=>by injection h with h;injection h with h1 h2;subst h1;cases hx
 | b::l,ds,r,m,h,x,hx=>by
  unfold conL at h
  split at h
  ·rename_i a r1 h1
   split at h
   ·rename_i m' r2 h2
    injection h with h;injection h with h3 h4;subst h3
    rcases List.mem_cons.1 hx with rfl | hx
    ·cases b <;> simp only [conB] at h1
     ·injection h1 with h1;injection h1 with h1 _;subst h1;rfl
     ·split at h1
      ·injection h1 with h1;injection h1 with h1 _;subst h1;rfl
      ·cases h1
     ·cases ds with
      | nil=>cases h1
      | cons d ds =>
       obtain ⟨dc,dx⟩:=d
       simp only [conB] at h1
       split at h1
       ·injection h1 with h1;injection h1 with h1 _;subst h1;rfl
       ·cases h1
     ·split at h1
      ·injection h1 with h1;injection h1 with h1 _;subst h1;rfl
      ·cases h1
    ·exact Lw h2 x hx
   ·cases h
  ·cases h
theorem SE {sc:Sch} {t:HT sc.tr} {st:HSt} (h:conT sc t=some st) {j:Nat} (hj:j < st.bl.length):Known st.bl j:=by
 unfold conT conSt at h
 split at h
 ·split at h
  ·rename_i b hb
   injection h with h;subst h
   exact ⟨_,List.getElem?_eq_getElem hj,Lw hb _ (List.getElem_mem hj)⟩
  ·cases h
 ·cases h
theorem AiZ {f:FuncId} {fn:Func} {ps:Sch} {rs:List Sch} {h:HC} (hf:P.funcs[f]? = some fn) (hb:fn.body.isSome=true) (hn:Nat.ble ps.sl.length fn.ntmps=true):FOk P f ⟨ps,rs,evF S fn ps rs h⟩:=by
 intro t r st0 hrun hcon g ρ own vs hr hlen
 obtain ⟨c,hb⟩:=Option.isSome_iff_exists.1 hb
 have hrun:evF S fn ps rs h t=some r:=hrun
 have hcon:conT ps t=some st0:=hcon
 unfold evF at hrun
 rw [hcon,hb] at hrun
 refine AiQ fn c fn.ntmps vs hf hb rfl (by rw [hlen];exact hn) ?_
 have hk0:∀ j,j < st0.bl.length→Known st0.bl j:=fun j hj=>SE hcon hj
 refine Cu c (A:=⟨st0.bl.length,ρ,lenAt st0.bl⟩) (g0:=g) hrun (fun e st' h'=>?_) g ρ own (argS 0 vs) (.refl _) (fun j hj=>⟨rfl,hk0 j hj,fun bv m e1 e2=>by show lenAt st0.bl j=some m;unfold lenAt;rw [e1];exact e2⟩) hr
 intro g1 ρ1 own1 fr1 hg hA hr1 a w hf hs
 have:absA P fn.results.toList st0.bl.length st' rs=some r∧(e = .normal∨e = .ret):=by
  cases e <;> first | exact ⟨h',.inl rfl⟩ | exact ⟨h',.inr rfl⟩ | cases h'
 obtain ⟨h',he⟩:=this
 obtain ⟨vs',g2,ρ',own2,str,h1,h2,h3,h4,h5,h6,h7⟩:=TI hr1 hs h'
 have hfin:RetR g (fun v ψ o=>∃ str ρ',altC rs r=some str∧baseSt str=true∧Rl (ghB ψ) ρ' str o [(0,v)]∧∀ j,j < st0.bl.length→ρ' j=ρ j∧∀ (bv:BV) (m:Nat),str.bl[j]? = some bv→bv.len=some m→lenAt st0.bl j=some m) (.returned (tupled vs')) w :=
  ⟨_,g2,own2,rfl,hg.trans h2,h3,str,ρ',h4,h5,h6,fun j hj=>⟨((h7 j hj).1).trans (hA j hj).1,fun bv m e1 e2=>by
   obtain ⟨bv',e3,e4⟩:=Jw ((h7 j hj).2 bv m e1 e2)
   exact (hA j hj).2.2 bv' m e3 e4⟩⟩
 rcases he with rfl | rfl
 ·exact ⟨hf.defers,_,IA (by simp) h1 hf hs.has,hfin⟩
 ·exact ⟨hf.defers,_,IA (by simp) h1 hf hs.has,hfin⟩
end
theorem Im:∀ {l:List BV} {i j:Nat} {ids:List Nat} {bv:BV},(maskB i ids l)[j]? = some bv→(∃ bv0,l[j]? = some bv0∧((natMem (i+j) ids=true∧bv=bv0)∨bv = .no))
 | [],_,_,_,_,h=>by simp [maskB] at h
 | b::l,i,0,ids,bv,h=>by
  simp only [maskB,List.getElem?_cons_zero,Option.some.injEq] at h
  cases hm:natMem i ids with
  | true=>rw [hm] at h;exact ⟨b,rfl,.inl ⟨rfl,h.symm⟩⟩
  | false=>rw [hm] at h;exact ⟨b,rfl,.inr h.symm⟩
 | b::l,i,j+1,ids,bv,h=>by
  simp only [maskB,List.getElem?_cons_succ] at h
  obtain ⟨bv0,h1,h2⟩:=Im h
  exact ⟨bv0,by simpa using h1,by rwa [show i+1+j=i+(j+1) by omega] at h2⟩
theorem Lx:∀ (l:List BV) (i:Nat) (ids:List Nat),(maskB i ids l).length=l.length
 | [],_,_=>rfl
 | b::l,i,ids=>by simp [maskB,Lx l (i+1) ids]
def dropIds:Nat→List Nat→Own→Own
 | _,_,[]=>[]
 | i,ids,k::l=>cond (natMem i ids) none k::dropIds (i+1) ids l
theorem Dj:∀ {l:Own} {i j:Nat} {ids:List Nat} {k:Option Bk},l[j]? = some k→(dropIds i ids l)[j]? = some (cond (natMem (i+j) ids) none k)
 | [],_,_,_,_,h=>by simp at h
 | b::l,i,0,ids,k,h=>by simp at h;subst h;rfl
 | b::l,i,j+1,ids,k,h=>by
  have:=Dj (l:=l) (i:=i+1) (j:=j) (ids:=ids) (by simpa using h)
  simp only [dropIds,List.getElem?_cons_succ,this]
  rw [show i+1+j=i+(j+1) by omega]
theorem ID:∀ (l:Own) (i:Nat) (ids:List Nat),(dropIds i ids l).length=l.length
 | [],_,_=>rfl
 | b::l,i,ids=>by simp [dropIds,ID l (i+1) ids]
theorem GP {own:Own}:(∀ (i j:Nat) (k k':Bk),own[i]? = some (some k)→own[j]? = some (some k')→k.g=k'.g→i=j)→own.ids.Nodup:=by
 induction own with
 | nil=>exact fun _=>List.nodup_nil
 | cons x l ih =>
  intro h
  have hl:=ih fun i j k k' h1 h2 e=>by
   have:=h (i+1) (j+1) k k' (by simpa using h1) (by simpa using h2) e
   omega
  rw [Own.ids_cons]
  cases x with
  | none=>simpa using hl
  | some k =>
   refine List.nodup_cons.2 ⟨fun hm=>?_,hl⟩
   obtain ⟨k',hk',e⟩:=Own.of_ids hm
   obtain ⟨j,hj⟩:=List.getElem?_of_mem hk'
   have:=h 0 (j+1) k k' rfl (by simpa using hj) e.symm
   omega
theorem XY {is:List (Option Nat)} {own:Own} {i:Nat} {k:Bk} (h:(pickP is own)[i]? = some (some k)):∃ b,is[i]? = some (some b)∧own[b]? = some (some k):=by
 unfold pickP at h
 rw [List.getElem?_map] at h
 cases e:is[i]? with
 | none=>rw [e] at h;cases h
 | some x =>
  rw [e] at h
  cases x with
  | none=>cases h
  | some b =>
   have h:some ((own[b]?).join)=some (some k):=h
   injection h with h
   cases e2:own[b]? with
   | none=>rw [e2] at h;cases h
   | some y=>rw [e2] at h;exact ⟨b,rfl,by rw [e2];exact congrArg some h⟩
theorem BW:∀ {l:List (Option Nat)} {i j b:Nat},(l.filterMap id).Nodup→l[i]? = some (some b)→l[j]? = some (some b)→i=j
 | [],_,_,_,_,h,_=>by simp at h
 | x::l,0,0,_,_,_,_=>rfl
 | x::l,0,j+1,b,hn,h1,h2=>by
  simp at h1;subst h1
  simp at hn h2
  exact absurd (List.mem_of_getElem? h2) hn.1
 | x::l,i+1,0,b,hn,h1,h2=>by
  simp at h2;subst h2
  simp at hn h1
  exact absurd (List.mem_of_getElem? h1) hn.1
 | x::l,i+1,j+1,b,hn,h1,h2=>by
  have hn':(l.filterMap id).Nodup:=by
   cases x with
   | none=>simpa using hn
   | some y=>simp at hn;exact hn.2
  have:=BW (i:=i) (j:=j) hn' (by simpa using h1) (by simpa using h2)
  omega
theorem St.part {w:World} {g:Gh} {own:Own} {is:List (Option Nat)} (h:St w g own) (hn:(is.filterMap id).Nodup):St w g (pickP is own++dropIds 0 (is.filterMap id) own):=by
 have hmem:∀ b,(∃ i,is[i]? = some (some b))↔natMem b (is.filterMap id)=true:=fun b=>by
  rw [CY]
  simp only [List.mem_filterMap,id_eq,exists_eq_right]
  exact ⟨fun ⟨i,hi⟩=>List.mem_of_getElem? hi,fun hb=>List.getElem?_of_mem hb⟩
 have hat:∀ i k,(pickP is own++dropIds 0 (is.filterMap id) own)[i]? = some (some k)→∃ b,own[b]? = some (some k)∧((i < is.length∧is[i]? = some (some b))∨(i=is.length+b∧natMem b (is.filterMap id)=false)):=by
  intro i k hi
  have hpl:(pickP is own).length=is.length:=by simp [pickP]
  rcases Nat.lt_or_ge i is.length with hlt | hge
  ·rw [List.getElem?_append_left (by omega)] at hi
   obtain ⟨b,h1,h2⟩:=XY hi
   exact ⟨b,h2,.inl ⟨hlt,h1⟩⟩
  ·rw [List.getElem?_append_right (by omega),hpl] at hi
   have hlt2:i - is.length < own.length:=by rw [← ID own 0 (is.filterMap id)];exact AU hi
   have:=Dj (i:=0) (ids:=is.filterMap id) (List.getElem?_eq_getElem hlt2)
   rw [hi,Nat.zero_add] at this
   injection this with this
   cases hm:natMem (i - is.length) (is.filterMap id) with
   | true=>rw [hm] at this;cases this
   | false =>
    rw [hm] at this
    exact ⟨i - is.length,by rw [List.getElem?_eq_getElem hlt2,← show some k=own[i - is.length] from this],.inr ⟨by omega,hm⟩⟩
 refine h.fewer (GP fun i j k k' h1 h2 e=>?_) fun k hk=>?_
 ·obtain ⟨b,e1,c1⟩:=hat i k h1
  obtain ⟨b',e2,c2⟩:=hat j k' h2
  have hbb:=GJ h.nodup e1 e2 e
  subst hbb
  rcases c1 with ⟨_,c1⟩ | ⟨c1,d1⟩ <;> rcases c2 with ⟨_,c2⟩ | ⟨c2,d2⟩
  ·exact BW hn c1 c2
  ·rw [(hmem b).1 ⟨i,c1⟩] at d2;cases d2
  ·rw [(hmem b).1 ⟨j,c2⟩] at d1;cases d1
  ·omega
 ·obtain ⟨i,hi⟩:=List.getElem?_of_mem hk
  obtain ⟨b,e1,_⟩:=hat i k hi
  exact List.mem_of_getElem? e1
theorem St.back {w:World} {g:Gh} {sel rest own':Own} (h:St w g (sel++rest)) (hp:∀ (i:Nat) (k:Bk),own'[i]? = some (some k)→(∃ j:Nat,sel[j]? = some (some k))∨(∃ j:Nat,rest[j]? = some (some k)))
  (hi:∀ (i j:Nat) (k:Bk),own'[i]? = some (some k)→own'[j]? = some (some k)→i=j):St w g own':=by
 refine h.fewer (GP fun i j k k' h1 h2 e=>?_) fun k hk=>?_
 ·have m1:some k∈sel++rest:=by
   rcases hp i k h1 with ⟨a,ha⟩ | ⟨a,ha⟩
   ·exact List.mem_append_left _ (List.mem_of_getElem? ha)
   ·exact List.mem_append_right _ (List.mem_of_getElem? ha)
  have m2:some k'∈sel++rest:=by
   rcases hp j k' h2 with ⟨a,ha⟩ | ⟨a,ha⟩
   ·exact List.mem_append_left _ (List.mem_of_getElem? ha)
   ·exact List.mem_append_right _ (List.mem_of_getElem? ha)
  obtain ⟨a,ha⟩:=List.getElem?_of_mem m1
  obtain ⟨b,hb⟩:=List.getElem?_of_mem m2
  have:=GJ h.nodup ha hb e
  subst this
  rw [ha] at hb
  injection hb with hb;injection hb with hb
  subst hb
  exact hi i j k h1 h2
 ·obtain ⟨i,hi'⟩:=List.getElem?_of_mem hk
  rcases hp i k hi' with ⟨a,ha⟩ | ⟨a,ha⟩
  ·exact List.mem_append_left _ (List.mem_of_getElem? ha)
  ·exact List.mem_append_right _ (List.mem_of_getElem? ha)
end Go.Proofs.YtpleflcfaecojaaGreat
