/-
The third engine, part 12e: the states that a region which draws its order may come to. Conditions: each lemma's own.
-/
import Derived.Test.YtpleflcfaecojaaGreatM4
import Derived.LoopN
namespace Go.Proofs.YtpleflcfaecojaaGreat
set_option linter.unusedVariables false
set_option linter.unusedSimpArgs false
open Go.RowKit
structure F4 where
 bR:Nat
 bW:Nat
 sR:Nat
 sW:Nat
def dj (x y:F4):Bool:=sepN x.bW (uniN y.bR y.bW)&&(sepN y.bW x.bR&&(sepN x.sW (uniN y.sR y.sW)&&sepN y.sW x.sR))
structure RcD where
 d:Option Nat
 E:List (Nat×BV)
 v:SV
 f4:F4
def putL (d:Option Nat) (v:SV) (sl:List (Nat×SV)):List (Nat×SV):=match d with | some d=>(d,v)::sl | none=>sl
def apR (r:RcD) (st:HSt):HSt:=⟨putL r.d r.v st.sl,setUpd st.bl r.E⟩
def stD (D:Nat→Bool) (st0:HSt) (rc:Nat→RcD):Nat→HSt
 | 0=>st0
 | k+1=>cond (D k) (apR (rc k) (stD D st0 rc k)) (stD D st0 rc k)
def Eqv (s t:HSt):Prop:=s.bl=t.bl∧∀ x,getH s.sl x=getH t.sl x
theorem Eqv.refl {s:HSt}:Eqv s s:=⟨rfl,fun _=>rfl⟩
theorem Eqv.trans {s t u:HSt} (h:Eqv s t) (k:Eqv t u):Eqv s u:=⟨h.1.trans k.1,fun x=>(h.2 x).trans (k.2 x)⟩
theorem Eqv.symm {s t:HSt} (h:Eqv s t):Eqv t s:=⟨h.1.symm,fun x=>(h.2 x).symm⟩
theorem getH_cons {d t:Nat} {v:SV} {l:List (Nat×SV)}:getH ((d,v)::l) t=cond (Nat.beq d t) (some v) (getH l t):=rfl
theorem getH_putL {d:Option Nat} {v:SV} {l:List (Nat×SV)} {t:Nat}:getH (putL d v l) t=match d with | some d=>cond (Nat.beq d t) (some v) (getH l t) | none=>getH l t:=by cases d <;> rfl
theorem Eqv.ap {s t:HSt} (h:Eqv s t) (r:RcD):Eqv (apR r s) (apR r t):=by
 refine ⟨by show setUpd _ _=setUpd _ _;rw [h.1],fun x=>?_⟩
 show getH (putL _ _ _) x=getH (putL _ _ _) x
 rw [getH_putL,getH_putL]
 cases r.d with
 | none=>exact h.2 x
 | some d=>dsimp only;rw [h.2 x]
theorem Rl.eqv {g:Gh} {ρ:Env} {own:Own} {fr:Sl} {s t:HSt} (h:Rl g ρ s own fr) (e:Eqv s t):Rl g ρ t own fr:=by
 obtain ⟨sl,bl⟩:=s
 obtain ⟨sl',bl'⟩:=t
 obtain ⟨e1,e2⟩:=e
 have e1:bl=bl':=e1
 subst e1
 exact h.sub fun t sv h=>(e2 t).trans h
theorem SW.eqv {K:Act→World→Prop} {n:Nat} {A:An} {g0:Gh} {s t:HSt} (h:SW K n A g0 t) (e:Eqv s t):SW K n A g0 s:=fun g ρ own fr hg hA hr=>h g ρ own fr hg (by rw [← e.1];exact hA) (hr.eqv e)
structure RcD.Wf (r:RcD):Prop where
 b:∀ b u,lastE r.E b=some u→hasN r.f4.bW b=true
 s:∀ d,r.d=some d→hasN r.f4.sW d=true
structure Apart (x y:F4):Prop where
 b1:∀ b,hasN x.bW b=true→hasN y.bR b=false∧hasN y.bW b=false
 b2:∀ b,hasN y.bW b=true→hasN x.bR b=false
 s1:∀ b,hasN x.sW b=true→hasN y.sR b=false∧hasN y.sW b=false
 s2:∀ b,hasN y.sW b=true→hasN x.sR b=false
theorem dj_spec {x y:F4} (h:dj x y=true):Apart x y:=by
 unfold dj at h
 simp only [Bool.and_eq_true] at h
 obtain ⟨h1,h2,h3,h4⟩:=h
 refine ⟨fun b hb=>?_,fun b hb=>sepN_spec h2 hb,fun b hb=>?_,fun b hb=>sepN_spec h4 hb⟩
 ·have:=sepN_spec h1 hb
  rw [hasN_uni,Bool.or_eq_false_iff] at this
  exact this
 ·have:=sepN_spec h3 hb
  rw [hasN_uni,Bool.or_eq_false_iff] at this
  exact this
theorem Apart.symm {x y:F4} (h:Apart x y):Apart y x:=by
 refine ⟨fun b hb=>⟨h.b2 b hb,?_⟩,fun b hb=>(h.b1 b hb).1,fun b hb=>⟨h.s2 b hb,?_⟩,fun b hb=>(h.s1 b hb).1⟩
 ·cases e:hasN x.bW b with
  | false=>rfl
  | true=>rw [(h.b1 b e).2] at hb;cases hb
 ·cases e:hasN x.sW b with
  | false=>rfl
  | true=>rw [(h.s1 b e).2] at hb;cases hb
theorem lastE_none {r:RcD} (h:r.Wf) {b:Nat} (hb:hasN r.f4.bW b=false):lastE r.E b=none:=by
 cases e:lastE r.E b with
 | none=>rfl
 | some u=>rw [h.b b u e] at hb;cases hb
theorem ap_comm {x y:RcD} {s:HSt} (hx:x.Wf) (hy:y.Wf) (h:Apart x.f4 y.f4):Eqv (apR x (apR y s)) (apR y (apR x s)):=by
 constructor
 ·show setUpd (setUpd s.bl y.E) x.E=setUpd (setUpd s.bl x.E) y.E
  refine List.ext_getElem? fun b=>?_
  rw [setUpd_get,setUpd_get,setUpd_get,setUpd_get,setUpd_lenD,setUpd_lenD]
  cases e:lastE x.E b with
  | none=>rfl
  | some u=>rw [lastE_none hy (h.b1 b (hx.b b u e)).2]
 ·intro t
  show getH (putL x.d x.v (putL y.d y.v s.sl)) t=getH (putL y.d y.v (putL x.d x.v s.sl)) t
  rw [getH_putL,getH_putL,getH_putL,getH_putL]
  cases e1:x.d with
  | none=>rfl
  | some d =>
   cases e2:y.d with
   | none=>rfl
   | some c =>
    dsimp only
    have hd:=(h.s1 d (hx.s d e1)).2
    have hc:=hy.s c e2
    cases hb:Nat.beq d t with
    | false=>rfl
    | true =>
     have:=Nat.eq_of_beq_eq_true hb
     subst this
     cases hb2:Nat.beq c d with
     | false=>rfl
     | true =>
      have:=Nat.eq_of_beq_eq_true hb2
      subst this
      rw [hc] at hd;cases hd
theorem stD_len {D:Nat→Bool} {st0:HSt} {rc:Nat→RcD}:∀ {k:Nat},(stD D st0 rc k).bl.length=st0.bl.length
 | 0=>rfl
 | k+1=>by
  show (cond (D k) _ _:HSt).bl.length=_
  cases D k with
  | false=>exact stD_len
  | true=>exact (setUpd_lenD (E:=(rc k).E)).trans stD_len
theorem stD_same {D D':Nat→Bool} {st0:HSt} {rc:Nat→RcD}:∀ {k:Nat},(∀ j,j < k→D j=D' j)→stD D st0 rc k=stD D' st0 rc k
 | 0,_=>rfl
 | k+1,h=>by
  show cond (D k) _ _=cond (D' k) _ _
  rw [h k (Nat.lt_succ_self k),stD_same fun j hj=>h j (Nat.lt_succ_of_lt hj)]
theorem stD_rc {D:Nat→Bool} {st0:HSt} {rc rc':Nat→RcD}:∀ {k:Nat},(∀ j,j < k→rc j=rc' j)→stD D st0 rc k=stD D st0 rc' k
 | 0,_=>rfl
 | k+1,h=>by
  show cond (D k) _ _=cond (D k) _ _
  rw [h k (Nat.lt_succ_self k),stD_rc fun j hj=>h j (Nat.lt_succ_of_lt hj)]
def setD (D:Nat→Bool) (i:Nat):Nat→Bool:=fun k=>cond (Nat.beq i k) true (D k)
theorem setD_self {D:Nat→Bool} {i:Nat}:setD D i i=true:=by simp [setD]
theorem setD_ne {D:Nat→Bool} {i k:Nat} (h:i≠k):setD D i k=D k:=by
 have:Nat.beq i k=false:=by
  cases hb:Nat.beq i k with
  | false=>rfl
  | true=>exact absurd (Nat.eq_of_beq_eq_true hb) h
 simp [setD,this]
theorem stD_put {D:Nat→Bool} {st0:HSt} {rc:Nat→RcD} {i:Nat} (hi:D i=false):∀ {k:Nat},i < k→(∀ j,j < k→(rc j).Wf)→(∀ j,i < j→j < k→D j=true→Apart (rc j).f4 (rc i).f4)→Eqv (stD (setD D i) st0 rc k) (apR (rc i) (stD D st0 rc k))
 | 0,h,_,_=>absurd h (Nat.not_lt_zero i)
 | k+1,h,hw,ha=>by
  rcases Nat.lt_or_ge i k with hk | hk
  ·have ih:=stD_put (st0:=st0) hi hk (fun j hj=>hw j (by omega)) fun j h1 h2=>ha j h1 (by omega)
   show Eqv (cond (setD D i k) _ _) (apR _ (cond (D k) _ _))
   rw [setD_ne (by omega)]
   cases hd:D k with
   | false=>exact ih
   | true=>exact (ih.ap (rc k)).trans (ap_comm (hw k (by omega)) (hw i (by omega)) (ha k hk (by omega) hd))
  ·have:i=k:=by omega
   subst this
   show Eqv (cond (setD D i i) _ _) (apR _ (cond (D i) _ _))
   rw [setD_self,hi,stD_same (D':=D) fun j hj=>setD_ne (by omega)]
   exact .refl
theorem stD_looks {D:Nat→Bool} {st0:HSt} {rc:Nat→RcD} {i:Nat} {bR sR:Nat} (hb:(rc i).f4.bR=bR) (hs:(rc i).f4.sR=sR) (hi:D i=false):∀ {k:Nat},(∀ j,j < k→(rc j).Wf)→(∀ j,i < j→j < k→D j=true→Apart (rc j).f4 (rc i).f4)→(∀ j,j < k→j < i→D j=false→Apart (rc i).f4 (rc j).f4) →
  (∀ b,hasN bR b=true→(stD D st0 rc k).bl[b]? = (stD (fun _=>true) st0 rc (min i k)).bl[b]?)∧∀ t,hasN sR t=true→getH (stD D st0 rc k).sl t=getH (stD (fun _=>true) st0 rc (min i k)).sl t
 | 0,_,_,_=>by rw [Nat.min_zero];exact ⟨fun _ _=>rfl,fun _ _=>rfl⟩
 | k+1,hw,h1,h2=>by
  have ih:=stD_looks (st0:=st0) hb hs hi (k:=k) (fun j hj=>hw j (by omega)) (fun j a b=>h1 j a (by omega)) (fun j a=>h2 j (by omega))
  have wk:=hw k (by omega)
  have skip:Apart (rc k).f4 (rc i).f4→∀ s:HSt,(∀ b,hasN bR b=true→(apR (rc k) s).bl[b]? = s.bl[b]?)∧∀ t,hasN sR t=true→getH (apR (rc k) s).sl t=getH s.sl t:=fun ap s=>by
   refine ⟨fun b hb2=>?_,fun t ht=>?_⟩
   ·show (setUpd s.bl (rc k).E)[b]? = _
    rw [setUpd_get,lastE_none wk]
    cases e:hasN (rc k).f4.bW b with
    | false=>rfl
    | true=>have:=(ap.b1 b e).1;rw [hb,hb2] at this;cases this
   ·show getH (putL _ _ _) t=_
    rw [getH_putL]
    cases e:(rc k).d with
    | none=>rfl
    | some d =>
     dsimp only
     cases hbq:Nat.beq d t with
     | false=>rfl
     | true =>
      have:=Nat.eq_of_beq_eq_true hbq
      subst this
      have:=(ap.s1 d (wk.s d e)).1
      rw [hs,ht] at this;cases this
  rcases Nat.lt_or_ge k i with hk | hk
  ·rw [show min i (k+1)=k+1 by omega]
   rw [show min i k=k by omega] at ih
   show (∀ b,hasN bR b=true→(cond (D k) _ _:HSt).bl[b]? = (apR _ _).bl[b]?)∧∀ t,hasN sR t=true→getH (cond (D k) _ _:HSt).sl t=getH (apR _ _).sl t
   cases hd:D k with
   | true =>
    refine ⟨fun b hb2=>?_,fun t ht=>?_⟩
    ·show (setUpd _ _)[b]? = (setUpd _ _)[b]?
     rw [setUpd_get,setUpd_get,stD_len,stD_len,ih.1 b hb2]
    ·show getH (putL _ _ _) t=getH (putL _ _ _) t
     rw [getH_putL,getH_putL,ih.2 t ht]
   | false =>
    have sk:=skip (h2 k (by omega) hk hd).symm (stD (fun _=>true) st0 rc k)
    exact ⟨fun b hb2=>(ih.1 b hb2).trans (sk.1 b hb2).symm,fun t ht=>(ih.2 t ht).trans (sk.2 t ht).symm⟩
  ·rw [show min i (k+1)=i by omega]
   rw [show min i k=i by omega] at ih
   show (∀ b,hasN bR b=true→(cond (D k) _ _:HSt).bl[b]? = _)∧∀ t,hasN sR t=true→getH (cond (D k) _ _:HSt).sl t=_
   cases hd:D k with
   | false=>exact ih
   | true =>
    have hne:i≠k:=fun e=>by subst e;rw [hi] at hd;cases hd
    have sk:=skip (h1 k (by omega) (by omega) hd) (stD D st0 rc k)
    exact ⟨fun b hb2=>(sk.1 b hb2).trans (ih.1 b hb2),fun t ht=>(sk.2 t ht).trans (ih.2 t ht)⟩
def wantS (ops:Array Oper) (sl:List (Nat×SV)) (o:Oper):Option Bool:=match o.guard with
 | none=>some true
 | some (j,want)=>match dstAt ops j with
  | none=>none
  | some t=>match getH sl t with
   | some (.v (.c (.bool b)))=>some (b==want)
   | some .und=>some false
   | _=>none
def lookM (ops:Array Oper) (o:Oper):Nat:=uniN (bitsOf (opSlots o.op)) (match o.guard with
 | none=>0
 | some (j,_)=>match dstAt ops j with | none=>0 | some t=>bitN t)
def dstM (o:Oper):Nat:=match o.dst with | some d=>bitN d | none=>0
def areHoles (bl:List BV):Nat→Nat→Bool
 | _,0=>true
 | f,m+1=>(match bl[f]? with | some .hole=>areHoles bl (f+1) m | _=>false)
def upto:Nat→Nat→Nat
 | _,0=>0
 | f,m+1=>uniN (bitN f) (upto (f+1) m)
theorem areHoles_spec {bl:List BV}:∀ {m f:Nat},areHoles bl f m=true→∀ i,i < m→bl[f+i]? = some .hole
 | m+1,f,h,i,hi=>by
  unfold areHoles at h
  split at h
  ·rename_i e
   cases i with
   | zero=>exact e
   | succ i=>rw [show f+(i+1)=f+1+i by omega];exact areHoles_spec h i (by omega)
  ·cases h
theorem upto_spec:∀ {m f i:Nat},i < m→hasN (upto f m) (f+i)=true
 | m+1,f,i,hi=>by
  show hasN (uniN _ _) _=true
  rw [hasN_uni]
  cases i with
  | zero=>rw [Nat.add_zero,hasN_bit];rfl
  | succ i=>rw [show f+(i+1)=f+1+i by omega,upto_spec (by omega)];simp
def fstB (E:List (Nat×BV)):Nat:=bitsOf (E.map Prod.fst)
def maskE (i:Nat) (ms:List Nat):List Edge→Nat
 | []=>0
 | e::es=>cond (Region.binds .any e) (uniN (uniN (bitN e.on) (match ms[i - 1 - e.on]? with | some m=>m | none=>0)) (maskE i ms es)) (maskE i ms es)
def fwdE (i:Nat):List Edge→Bool
 | []=>true
 | e::es=>cond (Region.binds .any e) (Nat.blt e.on i&&fwdE i es) (fwdE i es)
def okRow (m:Nat) (x:F4):Nat→List F4→Bool
 | 0,[]=>true
 | i+1,y::ys=>cond (hasN m i) (okRow m x i ys) (dj x y&&okRow m x i ys)
 | _,_=>false
structure DAcc where
 f:Nat
 ms:List Nat
 fs:List F4
def addD {ρ:Type} (ops:Array Oper) (i:Nat) (o:Oper) (acc:DAcc) (f':Nat) (x:F4) (K:DAcc→Option ρ):Option ρ:=match fwdE i o.after.toList with
 | true=>(match okRow (maskE i acc.ms o.after.toList) x i acc.fs with
  | true=>K ⟨f',maskE i acc.ms o.after.toList::acc.ms,x::acc.fs⟩
  | false=>none)
 | false=>none
def doD {P:Program} (S:Stp P) (n:Nat) (ops:Array Oper) {ρ:Type} (i:Nat) (o:Oper) (acc:DAcc) (st:HSt) (K:DAcc→HSt→Option ρ):Option ρ :=
 match areHoles st.bl acc.f (S.m (restr st.sl (opSlots o.op)) o.op) with
 | true=>runD acc.f (S.t (restr st.sl (opSlots o.op)) acc.f o.op o.type) st.bl (upto acc.f (S.m (restr st.sl (opSlots o.op)) o.op)) [] fun fp E v =>
  match put n o.dst v ⟨st.sl,setUpd st.bl E⟩ with
  | some st'=>addD ops i o acc (acc.f+S.m (restr st.sl (opSlots o.op)) o.op) ⟨fp,fstB E,lookM ops o,dstM o⟩ fun acc'=>K acc' st'
  | none=>none
 | false=>none
def skD (n:Nat) (ops:Array Oper) {ρ:Type} (i:Nat) (o:Oper) (acc:DAcc) (st:HSt) (K:DAcc→HSt→Option ρ):Option ρ:=match o.dst with
 | some d=>match Nat.blt d n with | true=>addD ops i o acc acc.f ⟨0,0,lookM ops o,dstM o⟩ fun acc'=>K acc' ⟨(d,.und)::st.sl,st.bl⟩ | false=>none
 | none=>none
def evD {P:Program} (S:Stp P) (n:Nat) (ops:Array Oper) {ρ:Type}:Nat→Nat→DAcc→HSt→(HSt→Option ρ)→Option ρ
 | 0,i,acc,st,K=>match Nat.beq ops.size i with | true=>K st | false=>none
 | f+1,i,acc,st,K=>match ops[i]? with
  | none=>none
  | some o=>match o.guard with
   | none=>doD S n ops i o acc st fun acc' st'=>evD S n ops f (i+1) acc' st' K
   | some (j,want)=>match dstAt ops j with
    | none=>none
    | some t=>match getH st.sl t with
     | some (.v (.c (.bool b)))=>cnd b
       (match want with | true=>doD S n ops i o acc ⟨(t,vC (.bool true))::st.sl,st.bl⟩ (fun acc' st'=>evD S n ops f (i+1) acc' st' K) | false=>skD n ops i o acc ⟨(t,vC (.bool true))::st.sl,st.bl⟩ (fun acc' st'=>evD S n ops f (i+1) acc' st' K))
       (match want with | true=>skD n ops i o acc ⟨(t,vC (.bool false))::st.sl,st.bl⟩ (fun acc' st'=>evD S n ops f (i+1) acc' st' K) | false=>doD S n ops i o acc ⟨(t,vC (.bool false))::st.sl,st.bl⟩ (fun acc' st'=>evD S n ops f (i+1) acc' st' K))
     | some .und=>skD n ops i o acc st (fun acc' st'=>evD S n ops f (i+1) acc' st' K)
     | _=>none
section
variable {P:Program} {S:Stp P} {n:Nat} {ops:Array Oper} {ρ:Type} {r:ρ}
structure RcOk (S:Stp P) (n:Nat) (ops:Array Oper) (st:HSt) (o:Oper) (x:RcD):Prop where
 d:x.d=o.dst
 lt:∀ d,o.dst=some d→d < n
 wf:x.Wf
 sR:x.f4.sR=lookM ops o
 how:(wantS ops st.sl o=some true∧∃ f,areHoles st.bl f (S.m (restr st.sl (opSlots o.op)) o.op)=true∧(∀ i,i < S.m (restr st.sl (opSlots o.op)) o.op→hasN x.f4.bR (f+i)=true)∧TolD f (S.t (restr st.sl (opSlots o.op)) f o.op o.type) st.bl x.f4.bR x.E x.v) ∨
  (wantS ops st.sl o=some false∧x.v = .und∧x.E=[]∧∃ d,o.dst=some d)
def Closed (ops:Array Oper) (D:Nat→Bool):Prop:=∀ k o e,ops[k]? = some o→e∈o.after.toList→Region.binds .any e=true→D k=true→D e.on=true
def MaskOk (ops:Array Oper) (p m:Nat):Prop:=∀ D,Closed ops D→D p=true→∀ j,hasN m j=true→D j=true
def Fwd (ops:Array Oper) (k:Nat):Prop:=∀ o e,ops[k]? = some o→e∈o.after.toList→Region.binds .any e=true→e.on < k
def SepD (ops:Array Oper) (rc:Nat→RcD) (i j:Nat):Prop:=Apart (rc i).f4 (rc j).f4∨∀ D,Closed ops D→D i=true→D j=true
structure InvD (S:Stp P) (n:Nat) (ops:Array Oper) (st0:HSt) (i:Nat) (rc:Nat→RcD) (acc:DAcc) (st:HSt):Prop where
 ok:∀ k o,k < i→ops[k]? = some o→RcOk S n ops (stD (fun _=>true) st0 rc k) o (rc k)
 op:∀ k,k < i→∃ o,ops[k]? = some o
 fwd:∀ k,k < i→Fwd ops k
 sep:∀ k j,j < k→k < i→SepD ops rc k j
 ms:∀ p,p < i→MaskOk ops p (match acc.ms[i - 1 - p]? with | some m=>m | none=>0)
 fs:∀ p,p < i→acc.fs[i - 1 - p]? = some (rc p).f4
 eqv:Eqv st (stD (fun _=>true) st0 rc i)
theorem fwdE_spec {i:Nat}:∀ {l:List Edge},fwdE i l=true→∀ e∈l,Region.binds .any e=true→e.on < i
 | x::l,h,e,he,hb=>by
  unfold fwdE at h
  rcases List.mem_cons.1 he with rfl | he
  ·rw [hb] at h
   have h:(Nat.blt e.on i&&fwdE i l)=true:=h
   simp only [Bool.and_eq_true] at h
   simpa using h.1
  ·cases hx:Region.binds .any x with
   | true =>
    rw [hx] at h
    have h:(Nat.blt x.on i&&fwdE i l)=true:=h
    simp only [Bool.and_eq_true] at h
    exact fwdE_spec h.2 e he hb
   | false=>rw [hx] at h;exact fwdE_spec h e he hb
theorem maskE_ok {i:Nat} {o:Oper} {ms:List Nat} (ho:ops[i]? = some o) (hms:∀ p,p < i→MaskOk ops p (match ms[i - 1 - p]? with | some m=>m | none=>0)) :
  ∀ {l:List Edge},(∀ e∈l,e∈o.after.toList)→(∀ e∈l,Region.binds .any e=true→e.on < i)→MaskOk ops i (maskE i ms l)
 | [],_,_,D,hD,hi,j,hj=>by
  have:Nat.testBit 0 j=true:=hj
  simp at this
 | x::l,h1,h2,D,hD,hi,j,hj=>by
  have ih:=maskE_ok ho hms (l:=l) (fun e he=>h1 e (List.mem_cons_of_mem _ he)) (fun e he=>h2 e (List.mem_cons_of_mem _ he)) D hD hi j
  unfold maskE at hj
  cases hx:Region.binds .any x with
  | false=>rw [hx] at hj;exact ih hj
  | true =>
   rw [hx] at hj
   have hj:hasN (uniN (uniN _ _) _) j=true:=hj
   have hon:=hD i o x ho (h1 x (List.mem_cons_self ..)) hx hi
   rw [hasN_uni,hasN_uni] at hj
   simp only [Bool.or_eq_true] at hj
   rcases hj with (hj | hj) | hj
   ·rw [hasN_bit_eq hj];exact hon
   ·exact hms x.on (h2 x (List.mem_cons_self ..) hx) D hD hon j hj
   ·exact ih hj
theorem okRow_spec {m:Nat} {x:F4}:∀ {i:Nat} {l:List F4},okRow m x i l=true→l.length=i∧∀ j y,j < i→l[i - 1 - j]? = some y→hasN m j=true∨Apart x y
 | 0,[],h=>⟨rfl,fun j y hj=>absurd hj (Nat.not_lt_zero j)⟩
 | 0,_::_,h=>by cases h
 | i+1,[],h=>by cases h
 | i+1,y::ys,h=>by
  unfold okRow at h
  have key:okRow m x i ys=true∧(hasN m i=true∨Apart x y):=by
   cases hm:hasN m i with
   | true=>rw [hm] at h;exact ⟨h,.inl rfl⟩
   | false =>
    rw [hm] at h
    have h:(dj x y&&okRow m x i ys)=true:=h
    simp only [Bool.and_eq_true] at h
    exact ⟨h.2,.inr (dj_spec h.1)⟩
  obtain ⟨ih1,ih2⟩:=okRow_spec key.1
  refine ⟨by simp [ih1],fun j z hj hz=>?_⟩
  by_cases e:j=i
  ·subst e
   rw [show j+1 - 1 - j=0 by omega] at hz
   simp at hz
   subst hz
   exact key.2
  ·rw [show i+1 - 1 - j=(i - 1 - j)+1 by omega] at hz
   exact ih2 j z (by omega) (by simpa using hz)
def setRc (rc:Nat→RcD) (i:Nat) (x:RcD):Nat→RcD:=fun k=>cond (Nat.beq i k) x (rc k)
theorem setRc_self {rc:Nat→RcD} {i:Nat} {x:RcD}:setRc rc i x i=x:=by simp [setRc]
theorem setRc_ne {rc:Nat→RcD} {i k:Nat} {x:RcD} (h:i≠k):setRc rc i x k=rc k:=by
 have:Nat.beq i k=false:=by
  cases hb:Nat.beq i k with
  | false=>rfl
  | true=>exact absurd (Nat.eq_of_beq_eq_true hb) h
 simp [setRc,this]
theorem addD_ok {st0 st st':HSt} {i:Nat} {o:Oper} {rc:Nat→RcD} {acc:DAcc} {f':Nat} {x:RcD} {K:DAcc→Option ρ} (I:InvD S n ops st0 i rc acc st) (ho:ops[i]? = some o) (hx:RcOk S n ops (stD (fun _=>true) st0 rc i) o x)
  (he:Eqv st' (apR x st)) (h:addD ops i o acc f' x.f4 K=some r):∃ rc' acc',InvD S n ops st0 (i+1) rc' acc' st'∧K acc'=some r:=by
 unfold addD at h
 split at h
 case h_2=>cases h
 rename_i hf
 split at h
 case h_2=>cases h
 rename_i hrow
 have hfw:=fwdE_spec hf
 have hm:=maskE_ok ho I.ms (fun e he=>he) hfw
 obtain ⟨hl,hr⟩:=okRow_spec hrow
 have hst:∀ k,k≤i→stD (fun _=>true) st0 (setRc rc i x) k=stD (fun _=>true) st0 rc k:=fun k hk=>stD_rc fun j hj=>setRc_ne (by omega)
 refine ⟨setRc rc i x,_,⟨fun k o' hk ho'=>?_,fun k hk=>?_,fun k hk=>?_,fun k j hj hk=>?_,fun p hp=>?_,fun p hp=>?_,?_⟩,h⟩
 ·rw [hst k (by omega)]
  by_cases e:i=k
  ·subst e
   rw [ho] at ho';injection ho' with ho';subst ho'
   rw [setRc_self];exact hx
  ·rw [setRc_ne e];exact I.ok k o' (by omega) ho'
 ·by_cases e:i=k
  ·subst e;exact ⟨o,ho⟩
  ·exact I.op k (by omega)
 ·by_cases e:i=k
  ·subst e
   intro o' e' ho' he' hb'
   rw [ho] at ho';injection ho' with ho';subst ho'
   exact hfw e' he' hb'
  ·exact I.fwd k (by omega)
 ·unfold SepD
  by_cases e:i=k
  ·subst e
   rw [setRc_self,setRc_ne (by omega)]
   rcases hr j _ hj (I.fs j hj) with h1 | h1
   ·exact .inr fun D hD hi=>hm D hD hi j h1
   ·exact .inl h1
  ·rw [setRc_ne e,setRc_ne (by omega)]
   exact I.sep k j hj (by omega)
 ·by_cases e:i=p
  ·subst e
   rw [show i+1 - 1 - i=0 by omega]
   exact hm
  ·rw [show i+1 - 1 - p=(i - 1 - p)+1 by omega]
   exact I.ms p (by omega)
 ·by_cases e:i=p
  ·subst e
   rw [show i+1 - 1 - i=0 by omega,setRc_self]
   rfl
  ·rw [show i+1 - 1 - p=(i - 1 - p)+1 by omega,setRc_ne e]
   exact I.fs p (by omega)
 ·show Eqv st' (apR (setRc rc i x i) (stD _ st0 (setRc rc i x) i))
  rw [setRc_self,hst i (Nat.le_refl i)]
  exact he.trans (I.eqv.ap x)
theorem wantS_eqv {s t:List (Nat×SV)} {o:Oper} (h:∀ x,getH s x=getH t x):wantS ops s o=wantS ops t o:=by
 unfold wantS
 cases o.guard with
 | none=>rfl
 | some q=>dsimp only;cases dstAt ops q.1 with
  | none=>rfl
  | some t=>dsimp only;rw [h t]
theorem fst_last {E:List (Nat×BV)} {b:Nat} {u:BV} (h:lastE E b=some u):hasN (fstB E) b=true:=hasN_bits (lastE_mem h)
theorem dstM_has {o:Oper} {d:Nat} (h:o.dst=some d):hasN (dstM o) d=true:=by
 unfold dstM;rw [h];exact hasN_bit d
theorem doD_ok {st0 st:HSt} {i:Nat} {o:Oper} {rc:Nat→RcD} {acc:DAcc} {K:DAcc→HSt→Option ρ} (I:InvD S n ops st0 i rc acc st) (ho:ops[i]? = some o) (hw:wantS ops st.sl o=some true)
  (h:doD S n ops i o acc st K=some r):∃ rc' acc' st',InvD S n ops st0 (i+1) rc' acc' st'∧K acc' st'=some r:=by
 unfold doD at h
 split at h
 case h_2=>cases h
 rename_i hh
 obtain ⟨fp,E,v,h1,h2,h3⟩:=runD_told h
 rw [List.nil_append] at h3
 split at h3
 case h_2=>cases h3
 rename_i st' hp
 have hlt:∀ d,o.dst=some d→d < n:=fun d hd=>by
  unfold put at hp
  rw [hd] at hp
  obtain ⟨hdn,_⟩:=condS hp
  simpa using hdn
 have hst:st'=apR ⟨o.dst,E,v,⟨fp,fstB E,lookM ops o,dstM o⟩⟩ st:=by
  unfold put at hp
  split at hp
  ·rename_i d hd
   obtain ⟨_,hp⟩:=condS hp
   injection hp with hp
   rw [← hp]
   show _=HSt.mk (putL o.dst v st.sl) _
   rw [hd];rfl
  ·rename_i hd
   injection hp with hp
   rw [← hp]
   show _=HSt.mk (putL o.dst v st.sl) _
   rw [hd];rfl
 have e1:=restr_congr (ts:=opSlots o.op) fun t _=>I.eqv.2 t
 obtain ⟨rc',acc',h4,h5⟩:=addD_ok (x:=⟨o.dst,E,v,⟨fp,fstB E,lookM ops o,dstM o⟩⟩) (st':=st') I ho ⟨rfl,hlt,⟨fun b u hb=>fst_last hb,fun d hd=>dstM_has hd⟩,rfl,.inl ⟨(wantS_eqv fun x=>I.eqv.2 x).symm.trans hw,acc.f,by rw [← e1,← I.eqv.1];exact hh,fun i hi=>h1 _ (upto_spec (by rw [e1];exact hi)),by rw [← e1,← I.eqv.1];exact h2⟩⟩ (hst ▸ .refl) h3
 exact ⟨rc',acc',st',h4,h5⟩
theorem skD_ok {st0 st:HSt} {i:Nat} {o:Oper} {rc:Nat→RcD} {acc:DAcc} {K:DAcc→HSt→Option ρ} (I:InvD S n ops st0 i rc acc st) (ho:ops[i]? = some o) (hw:wantS ops st.sl o=some false)
  (h:skD n ops i o acc st K=some r):∃ rc' acc' st',InvD S n ops st0 (i+1) rc' acc' st'∧K acc' st'=some r:=by
 unfold skD at h
 split at h
 case h_2=>cases h
 rename_i d hd
 split at h
 case h_2=>cases h
 rename_i hdn
 obtain ⟨rc',acc',h4,h5⟩:=addD_ok (x:=⟨o.dst,[],.und,⟨0,0,lookM ops o,dstM o⟩⟩) (st':=⟨(d,.und)::st.sl,st.bl⟩) I ho ⟨rfl,fun d' hd'=>by rw [hd] at hd';injection hd' with hd';subst hd';simpa using hdn,⟨fun b u hb=>absurd (show (none:Option BV)=some u from hb) (by simp),fun d hd=>dstM_has hd⟩,rfl,.inr ⟨(wantS_eqv fun x=>I.eqv.2 x).symm.trans hw,rfl,rfl,d,hd⟩⟩ (by
   refine ⟨rfl,fun x=>?_⟩
   show _=getH (putL o.dst _ _) x
   rw [hd];rfl) h
 exact ⟨rc',acc',_,h4,h5⟩
theorem InvD.turn {st0 st st':HSt} {i:Nat} {rc:Nat→RcD} {acc:DAcc} (I:InvD S n ops st0 i rc acc st) (e:Eqv st' st):InvD S n ops st0 i rc acc st':=⟨I.ok,I.op,I.fwd,I.sep,I.ms,I.fs,e.trans I.eqv⟩
theorem put_known {st:HSt} {t:Nat} {b:Bool} (h:getH st.sl t=some (vC (.bool b))):Eqv ⟨(t,vC (.bool b))::st.sl,st.bl⟩ st:=by
 refine ⟨rfl,fun x=>?_⟩
 show getH ((t,_)::st.sl) x=_
 rw [getH_cons]
 cases hb:Nat.beq t x with
 | false=>rfl
 | true =>
  have:=Nat.eq_of_beq_eq_true hb
  subst this
  exact h.symm
theorem evD_inv {st0:HSt} {K:HSt→Option ρ}:∀ {f i:Nat} {rc:Nat→RcD} {acc:DAcc} {st:HSt},InvD S n ops st0 i rc acc st→evD S n ops f i acc st K=some r →
  ∃ rc' acc' st',InvD S n ops st0 ops.size rc' acc' st'∧K st'=some r
 | 0,i,rc,acc,st,I,h=>by
  unfold evD at h
  split at h
  case h_2=>cases h
  rename_i e
  have e:=Nat.eq_of_beq_eq_true e
  subst e
  exact ⟨rc,acc,st,I,h⟩
 | f+1,i,rc,acc,st,I,h=>by
  unfold evD at h
  split at h
  ·cases h
  ·rename_i o ho
   split at h
   ·rename_i hg
    obtain ⟨rc',acc',st',I',h'⟩:=doD_ok I ho (by simp [wantS,hg]) h
    exact evD_inv I' h'
   ·rename_i j want hg
    split at h
    ·cases h
    ·rename_i t hj
     split at h
     ·rename_i b hb
      have hwant:∀ {b':Bool} {st':HSt},getH st'.sl t=some (vC (.bool b'))→wantS ops st'.sl o=some (b'==want):=fun {b' st'} hb'=>by
       have hb':getH st'.sl t=some (.v (.c (.bool b'))):=hb'
       simp [wantS,hg,hj,hb']
      rcases cnd_cases h with ⟨e,h2⟩ | ⟨e,h2⟩
      ·subst e
       have I2:=I.turn (put_known hb)
       have h0:getH ((t,vC (.bool true))::st.sl) t=some (vC (.bool true)):=getH_top
       clear h
       split at h2
       ·obtain ⟨rc',acc',st',I',h'⟩:=doD_ok I2 ho (by rw [hwant h0];rfl) h2
        exact evD_inv I' h'
       ·obtain ⟨rc',acc',st',I',h'⟩:=skD_ok I2 ho (by rw [hwant h0];rfl) h2
        exact evD_inv I' h'
      ·subst e
       have I2:=I.turn (put_known hb)
       have h0:getH ((t,vC (.bool false))::st.sl) t=some (vC (.bool false)):=getH_top
       clear h
       split at h2
       ·obtain ⟨rc',acc',st',I',h'⟩:=skD_ok I2 ho (by rw [hwant h0];rfl) h2
        exact evD_inv I' h'
       ·obtain ⟨rc',acc',st',I',h'⟩:=doD_ok I2 ho (by rw [hwant h0];rfl) h2
        exact evD_inv I' h'
     ·rename_i hb
      obtain ⟨rc',acc',st',I',h'⟩:=skD_ok I ho (by simp [wantS,hg,hj,hb]) h
      exact evD_inv I' h'
     ·cases h
end
def Dl (listed:Array Bool):Nat→Bool:=fun k=>listed.getD k false
theorem Dl_set {listed:Array Bool} {i:Nat} (h:i < listed.size):Dl (listed.setIfInBounds i true)=setD (Dl listed) i:=by
 funext k
 by_cases e:i=k
 ·subst e
  rw [setD_self]
  simp [Dl,h]
 ·rw [setD_ne e]
  exact getD_set_ne false e
theorem getD_in {listed:Array Bool} {i:Nat} (h:i < listed.size):listed.getD i true=listed.getD i false:=by simp [h]
def cntD (D:Nat→Bool):Nat→Nat
 | 0=>0
 | k+1=>cond (D k) (cntD D k) (cntD D k+1)
theorem cntD_same {D D':Nat→Bool}:∀ {k:Nat},(∀ j,j < k→D j=D' j)→cntD D k=cntD D' k
 | 0,_=>rfl
 | k+1,h=>by
  show cond (D k) _ _=cond (D' k) _ _
  rw [h k (Nat.lt_succ_self k),cntD_same fun j hj=>h j (Nat.lt_succ_of_lt hj)]
theorem cntD_set {D:Nat→Bool} {i:Nat} (hi:D i=false):∀ {k:Nat},i < k→cntD (setD D i) k+1=cntD D k
 | 0,h=>absurd h (Nat.not_lt_zero i)
 | k+1,h=>by
  show cond (setD D i k) _ _+1=cond (D k) _ _
  by_cases e:i=k
  ·subst e
   rw [setD_self,hi,cntD_same (D':=D) fun j hj=>setD_ne (by omega)]
   rfl
  ·rw [setD_ne e]
   have:=cntD_set hi (k:=k) (by omega)
   cases D k with
   | true=>exact this
   | false=>show cntD _ k+1+1=cntD D k+1;rw [this]
theorem cntD_zero {D:Nat→Bool}:∀ {k:Nat},cntD D k=0→∀ j,j < k→D j=true
 | 0,_,j,hj=>absurd hj (Nat.not_lt_zero j)
 | k+1,h,j,hj=>by
  have h:cond (D k) (cntD D k) (cntD D k+1)=0:=h
  cases e:D k with
  | false=>rw [e] at h;cases h
  | true =>
   rw [e] at h
   by_cases e2:j=k
   ·subst e2;exact e
   ·exact cntD_zero h j (by omega)
section
variable {P:Program} {S:Stp P} {n:Nat} {ops:Array Oper} {A:An} {g0:Gh} {Q:Exit→Act→World→Prop}
theorem wanted_of {sl:List (Nat×SV)} {o:Oper} {b:Bool} (h:wantS ops sl o=some b) {g:Gh} {ρ:Env} {own:Own} {fr:Sl} {bl:List BV} {a:Act} (hr:Rl g ρ ⟨sl,bl⟩ own fr) (hf:Fr n a fr):Region.wanted o (yielded ops a.tmps)=b:=by
 unfold wantS at h
 split at h
 ·rename_i hg
  injection h with h;subst h
  simp [Region.wanted,hg]
 ·rename_i j want hg
  split at h
  ·cases h
  ·rename_i t hj
   split at h
   ·rename_i c hc
    injection h with h;subst h
    exact wanted_at hg hj hc hr hf
   ·rename_i hc
    injection h with h;subst h
    exact wanted_und hg hj hc hr hf
   ·cases h
theorem ready_all {st0 st:HSt} {rc:Nat→RcD} {acc:DAcc} (I:InvD S n ops st0 ops.size rc acc st) {listed:Array Bool} (hs:listed.size=ops.size) (h:Region.ready .any ops listed=[]):∀ k,k < ops.size→Dl listed k=true:=by
 intro k
 induction k using Nat.strongRecOn with
 | _ k ih =>
  intro hk
  cases e:Dl listed k with
  | true=>rfl
  | false =>
   exfalso
   have:k∈Region.ready .any ops listed:=by
    rw [mem_ready]
    refine ⟨by rw [getD_in (by omega)];exact e,?_⟩
    obtain ⟨o,ho⟩:=I.op k hk
    refine ⟨o,ho,fun x hx hb=>?_⟩
    have:=I.fwd k hk o x ho (by simpa using hx) hb
    exact ih x.on this (by omega)
   rw [h] at this
   cases this
theorem any_ok {st0 st:HSt} {rc:Nat→RcD} {acc:DAcc} (I:InvD S n ops st0 ops.size rc acc st) (hK:SW (Q .normal) n A g0 (stD (fun _=>true) st0 rc ops.size)) :
  ∀ (fuel:Nat) (listed:Array Bool),listed.size=ops.size→Closed ops (Dl listed)→cntD (Dl listed) ops.size≤fuel→SW (wpAny P .any ops Q fuel listed) n A g0 (stD (Dl listed) st0 rc ops.size):=by
 have hwf:∀ j,j < ops.size→(rc j).Wf:=fun j hj=>by
  obtain ⟨o,ho⟩:=I.op j hj
  exact (I.ok j o hj ho).wf
 have hdone:∀ listed:Array Bool,(∀ k,k < ops.size→Dl listed k=true)→SW (Q .normal) n A g0 (stD (Dl listed) st0 rc ops.size):=fun listed h=>by
  rw [stD_same (D':=fun _=>true) h];exact hK
 intro fuel
 induction fuel with
 | zero =>
  intro listed hs hc hn
  have hall:=cntD_zero (Nat.le_zero.1 hn)
  intro g ρ own fr hg hA hr a w hf hw
  refine ⟨?_,hdone listed hall g ρ own fr hg hA hr a w hf hw⟩
  refine List.eq_nil_iff_forall_not_mem.2 fun i hi=>?_
  obtain ⟨h1,o,ho,_⟩:=mem_ready.1 hi
  have hi2:i < ops.size:=(Array.getElem?_eq_some_iff.1 ho).1
  rw [getD_in (by omega)] at h1
  have:=hall i hi2
  unfold Dl at this
  rw [h1] at this;cases this
 | succ fuel ih =>
  intro listed hs hc hn g ρ own fr hg hA hr a w hf hw
  refine ⟨fun h0=>hdone listed (ready_all I hs h0) g ρ own fr hg hA hr a w hf hw,fun i hi=>?_⟩
  obtain ⟨h1,o,ho,hpre⟩:=mem_ready.1 hi
  have hi2:i < ops.size:=(Array.getElem?_eq_some_iff.1 ho).1
  rw [getD_in (by omega)] at h1
  have hDi:Dl listed i=false:=h1
  have hset:=Dl_set (listed:=listed) (i:=i) (by omega)
  have hc2:Closed ops (setD (Dl listed) i):=fun k o' e ho' he hb hk=>by
   by_cases ek:i=k
   ·subst ek
    rw [ho] at ho';injection ho' with ho';subst ho'
    have:=hpre e (by simpa using he) hb
    by_cases ee:i=e.on
    ·rw [ee];exact setD_self
    ·rw [setD_ne ee];exact this
   ·rw [setD_ne ek] at hk
    have:=hc k o' e ho' he hb hk
    by_cases ee:i=e.on
    ·rw [ee];exact setD_self
    ·rw [setD_ne ee];exact this
  have later:∀ j,i < j→j < ops.size→Dl listed j=true→Apart (rc j).f4 (rc i).f4:=fun j h2 h3 h4=>by
   rcases I.sep j i h2 h3 with h | h
   ·exact h
   ·have:=h _ hc h4;rw [hDi] at this;cases this
  have before:∀ j,j < ops.size→j < i→Dl listed j=false→Apart (rc i).f4 (rc j).f4:=fun j h2 h3 h4=>by
   rcases I.sep i j h3 hi2 with h | h
   ·exact h
   ·have:=h _ hc2 setD_self;rw [setD_ne (by omega),h4] at this;cases this
  have R:=I.ok i o hi2 ho
  obtain ⟨lb,ls⟩:=stD_looks (st0:=st0) rfl R.sR hDi hwf later before
  rw [Nat.min_eq_left (by omega)] at lb ls
  have next:=(ih (listed.setIfInBounds i true) (by simpa using hs) (by rw [hset];exact hc2) (by rw [hset];have:=cntD_set hDi hi2;omega))
  rw [hset] at next
  have next:=next.eqv (stD_put (st0:=st0) hDi hi2 hwf later).symm
  have hls:∀ t∈opSlots o.op,getH (stD (Dl listed) st0 rc ops.size).sl t=getH (stD (fun _=>true) st0 rc i).sl t:=fun t ht=>ls t (by unfold lookM;rw [hasN_uni,hasN_bits ht];rfl)
  have hre:=restr_congr hls
  have hws:wantS ops (stD (Dl listed) st0 rc ops.size).sl o=wantS ops (stD (fun _=>true) st0 rc i).sl o:=by
   unfold wantS
   cases hgd:o.guard with
   | none=>rfl
   | some q =>
    obtain ⟨j,want⟩:=q
    dsimp only
    cases hj:dstAt ops j with
    | none=>rfl
    | some t =>
     dsimp only
     rw [ls t (by unfold lookM;rw [hasN_uni,hgd];dsimp only;rw [hj];dsimp only;rw [hasN_bit];simp)]
  unfold wpOp
  rw [ho]
  dsimp only
  rcases R.how with ⟨hwt,f,hh,hhb,ht⟩ | ⟨hwt,hv,hE,d,hd⟩
  ·rw [wanted_of (hws.trans hwt) hr hf,if_pos rfl]
   left
   have hold:=TolD.told ht (bl2:=(stD (Dl listed) st0 rc ops.size).bl) (by rw [stD_len,stD_len]) lb
   rw [← hre] at hold
   have heff:=S.ok (n:=n) (fun k hk=>by
    rw [hre] at hk
    rw [lb _ (hhb k hk)]
    exact areHoles_spec hh k hk) hold
   refine heff.sub (fun t sv h=>restr_get h) o a w Q _ g ρ own fr rfl rfl hr hf hw fun v' g' ρ' own' w' hg' hx hs' hr' hv'=>?_
   have e:apR (rc i) (stD (Dl listed) st0 rc ops.size)=⟨putL o.dst (rc i).v (stD (Dl listed) st0 rc ops.size).sl,setUpd (stD (Dl listed) st0 rc ops.size).bl (rc i).E⟩:=by
    unfold apR;rw [R.d]
   rw [e] at next
   cases hd:o.dst with
   | none =>
    rw [hd] at next
    exact next g' ρ' own' fr (hg.trans hg') (hA.ext hx) hr' a w' hf hs'
   | some d =>
    rw [hd] at next
    exact next g' ρ' own' ((d,v')::fr) (hg.trans hg') (hA.ext hx) (hr'.put d hv') _ w' (hf.put (R.lt d hd) v') hs'
  ·rw [wanted_of (hws.trans hwt) hr hf,if_neg (by simp)]
   have e:apR (rc i) (stD (Dl listed) st0 rc ops.size)=⟨(d,.und)::(stD (Dl listed) st0 rc ops.size).sl,(stD (Dl listed) st0 rc ops.size).bl⟩:=by
    unfold apR;rw [R.d,hd,hv,hE];rfl
   rw [e] at next
   rw [hd]
   exact next g ρ own ((d,undef)::fr) hg hA (hr.put d rfl) _ w (hf.put (R.lt d hd) _) hw
theorem evD_ok {ρ:Type} {r:ρ} {st:HSt} {K:HSt→Option ρ} (hm:P.follows .mixedOrders=true) {id:Nat} {f:Nat} (h:evD S n ops ops.size 0 ⟨f,[],[]⟩ st K=some r) (hK:∀ st',K st'=some r→SW (Q .normal) n A g0 st'):SW (Code.wp P (.region id ops true) Q) n A g0 st:=by
 have I0:InvD S n ops st 0 (fun _=>⟨none,[],.und,⟨0,0,0,0⟩⟩) ⟨f,[],[]⟩ st :=
  ⟨fun k _ hk=>absurd hk (Nat.not_lt_zero k),fun k hk=>absurd hk (Nat.not_lt_zero k),fun k hk=>absurd hk (Nat.not_lt_zero k),fun k j _ hk=>absurd hk (Nat.not_lt_zero k),fun k hk=>absurd hk (Nat.not_lt_zero k),fun k hk=>absurd hk (Nat.not_lt_zero k),.refl⟩
 obtain ⟨rc,acc,st',I,h'⟩:=evD_inv I0 h
 have hk:=(hK st' h').eqv I.eqv.symm
 have hD:Dl (Array.replicate ops.size false)=fun _=>false:=by
  funext k
  by_cases hk:k < ops.size <;> simp [Dl,Array.getElem?_replicate,hk]
 have hcnt:∀ k,cntD (fun _=>false) k≤k:=fun k=>by
  induction k with
  | zero=>exact Nat.le_refl 0
  | succ k ih=>exact Nat.succ_le_succ ih
 have hst:∀ k,stD (fun _=>false) st rc k=st:=fun k=>by
  induction k with
  | zero=>rfl
  | succ k ih=>exact ih
 have:=any_ok I hk ops.size (Array.replicate ops.size false) (by simp) (by rw [hD];exact fun k o e _ _ _ h=>by cases h) (by rw [hD];exact hcnt _)
 rw [hD,hst] at this
 intro g ρ own fr hg hA hr a w hf hw
 exact wp_region_any hm (this g ρ own fr hg hA hr a w.drew hf hw.drew)
end
def cutS (t:Nat) (st:HSt):HSt:=match getH st.sl t with
 | some (.v (.c (.vw b _ l r)))=>(match st.bl[b]?,Nat.beq l 0 with
  | some (.row d et xs),true=>⟨(t,vC (.own st.bl.length))::st.sl,st.bl.set b .no++[.row d et (xs.take r)]⟩
  | _,_=>st)
 | _=>st
section
variable {n:Nat} {A:An} {g0:Gh} {K:Act→World→Prop}
theorem Fr.again {a:Act} {fr:Sl} {t:Nat} {v:Value} (hf:Fr n a fr) (h1:getS fr t=some v):Fr n a ((t,v)::fr):=⟨hf.size,hf.defers,fun s u hu=>by
 have hu:cond (Nat.beq t s) (some v) (getS fr s)=some u:=hu
 cases hb:Nat.beq t s with
 | true =>
  rw [hb] at hu
  have:=Nat.eq_of_beq_eq_true hb
  subst this
  injection hu with hu;subst hu
  exact hf.at_ _ _ h1
 | false=>rw [hb] at hu;exact hf.at_ _ _ hu⟩
theorem SW.cutS {t:Nat} {st:HSt} (k:SW K n A g0 (cutS t st)):SW K n A g0 st:=by
 unfold Go.Proofs.YtpleflcfaecojaaGreat.cutS at k
 split at k
 case h_2=>exact k
 rename_i b c l r ht
 split at k
 case h_2=>exact k
 rename_i d et xs hb hl0
 have hl0:=Nat.eq_of_beq_eq_true hl0
 subst hl0
 obtain ⟨sl,bl⟩:=st
 refine SW.holes 1 ?_
 have hb:bl[b]? = some (.row d et xs):=hb
 have hbl:=get_lt hb
 intro g ρ own fr hg hA hr a w hf hs
 obtain ⟨v,h1,h2⟩:=hr.slot t _ ht
 obtain ⟨hkn,rfl,hl⟩:=(h2:RealC g ρ (bl++Go.Proofs.YtpleflcfaecojaaGreat.holes 1) (.vw b c 0 r) v)
 have hb1:(bl++Go.Proofs.YtpleflcfaecojaaGreat.holes 1)[b]? = some (.row d et xs):=by rw [List.getElem?_append_left hbl];exact hb
 have hl:=(hl _ _ hb1 rfl).2
 have hlr:(xs.take r).length=r:=by rw [List.length_take];omega
 obtain ⟨k0,hk0,hB⟩:=hr.own_at hb1
 have hB:Buf g.b d.ty et (.slice (ρ b).1 xs.length (ρ b).2) k0 xs:=hB
 have hB:=hB.cut r hl
 have hf0:(bl++Go.Proofs.YtpleflcfaecojaaGreat.holes 1)[bl.length]? = some .hole:=by simp [Go.Proofs.YtpleflcfaecojaaGreat.holes]
 have hbf:b≠bl.length:=by omega
 have hno:=hr.hole_none hf0
 have hst:=hs.move (b:=b) (f:=bl.length) (k:=k0) hk0 hno hbf
 have hx:Ext ρ (bl++Go.Proofs.YtpleflcfaecojaaGreat.holes 1) ρ ((bl++Go.Proofs.YtpleflcfaecojaaGreat.holes 1).set b .no):=Ext.set_at hb1 rfl fun m hm=>by cases hm
 have hr1:=hr.setB (g':=g) (bv1:= .no) (k:=none) (.refl g) hb1 rfl (fun m hm=>by cases hm) rfl
 have hf1:((bl++Go.Proofs.YtpleflcfaecojaaGreat.holes 1).set b .no)[bl.length]? = some .hole:=by rw [get_ne hbf];exact hf0
 have hx1:Ext ρ ((bl++Go.Proofs.YtpleflcfaecojaaGreat.holes 1).set b .no) (setρ ρ bl.length (ρ b)) (((bl++Go.Proofs.YtpleflcfaecojaaGreat.holes 1).set b .no).set bl.length (.row d et (xs.take r))):=Ext.set_hole hf1
 have hr2:=hr1.lay (g':=g) (bv:= .row d et (xs.take r)) (k:=k0) (e:=ρ b) (.refl g) hf1 hB
 have e:((bl++Go.Proofs.YtpleflcfaecojaaGreat.holes 1).set b .no).set bl.length (.row d et (xs.take r))=bl.set b .no++[.row d et (xs.take r)]:=by
  rw [List.set_append_left _ _ hbl,List.set_append_right _ _ (by simp)]
  simp [Go.Proofs.YtpleflcfaecojaaGreat.holes]
 rw [e] at hx1 hr2
 have hv:RealC g (setρ ρ bl.length (ρ b)) (bl.set b .no++[.row d et (xs.take r)]) (.own bl.length) (.slice (offA (ρ b).1 (ρ b).2 0 c.n) (r - 0) ((ρ b).2 - 0)):=by
  rw [offA_zero,Nat.sub_zero,Nat.sub_zero]
  refine ⟨⟨.row d et (xs.take r),by simp,rfl⟩,r,by rw [setρ_at],fun bv m e1 e2=>?_⟩
  have e3:(bl.set b .no++[.row d et (xs.take r)])[bl.length]? = some (.row d et (xs.take r)):=by simp
  rw [e3] at e1;injection e1 with e1;subst e1
  have e2:some (xs.take r).length=some m:=e2
  injection e2 with e2
  omega
 exact k g (setρ ρ bl.length (ρ b)) _ _ hg (hA.ext (hx.trans hx1)) (hr2.put t hv) a w (hf.again h1) hst
theorem Rl.hole {g:Gh} {ρ:Env} {own:Own} {fr:Sl} {sl:List (Nat×SV)} {bl:List BV} {w:World} (hr:Rl g ρ ⟨sl,bl⟩ own fr) (hs:St w g own):Rl g ρ ⟨sl,bl++[.hole]⟩ (own++[none]) fr∧St w g (own++[none])∧Ext ρ bl ρ (bl++[.hole]):=by
 have hl:own.length=bl.length:=hr.len
 have hx:Ext ρ bl ρ (bl++[.hole]):=fun b bv e h2=>⟨rfl,bv,by rw [List.getElem?_append_left (get_lt e)];exact e,h2,fun m h=>h⟩
 refine ⟨hr.turn (.refl g) hx (by simp [hl]) fun i bv k h1 h2=>?_,hs.addNone,hx⟩
 rcases Nat.lt_or_ge i bl.length with hi | hi
 ·rw [List.getElem?_append_left hi] at h1
  rw [List.getElem?_append_left (by omega)] at h2
  exact (hr.blk i bv k h1 h2).ext (.refl g) hx
 ·have hi2:=get_lt h1
  simp at hi2
  have:i=bl.length:=by omega
  subst this
  simp at h1
  subst h1
  rw [← hl] at h2
  simp at h2
  exact h2.symm
theorem Rl.cutC {g:Gh} {ρ:Env} {own:Own} {fr:Sl} {sl:List (Nat×SV)} {bl:List BV} {w:World} {b r:Nat} {c d:Cd} {et:TypeId} {xs:List d.den} {v:Value} (hr:Rl g ρ ⟨sl,bl⟩ own fr) (hs:St w g own) (hb:bl[b]? = some (.row d et xs)) (hv:RealC g ρ bl (.vw b c 0 r) v) :
  ∃ ρ' own',St w g own'∧Rl g ρ' ⟨sl,bl.set b .no++[.row d et (xs.take r)]⟩ own' fr∧RealC g ρ' (bl.set b .no++[.row d et (xs.take r)]) (.own bl.length) v∧Ext ρ bl ρ' (bl.set b .no++[.row d et (xs.take r)])∧∀ j,j < bl.length→ρ' j=ρ j:=by
 obtain ⟨hkn,rfl,hl⟩:=hv
 have hbl:=get_lt hb
 have hl:=(hl _ _ hb rfl).2
 have hlr:(xs.take r).length=r:=by rw [List.length_take];omega
 obtain ⟨hr0,hs0,hx0⟩:=hr.hole hs
 have hb1:(bl++[BV.hole])[b]? = some (.row d et xs):=by rw [List.getElem?_append_left hbl];exact hb
 obtain ⟨k0,hk0,hB⟩:=hr0.own_at hb1
 have hB:Buf g.b d.ty et (.slice (ρ b).1 xs.length (ρ b).2) k0 xs:=hB
 have hB:=hB.cut r hl
 have hf0:(bl++[BV.hole])[bl.length]? = some .hole:=by simp
 have hbf:b≠bl.length:=by omega
 have hno:=hr0.hole_none hf0
 have hst:=hs0.move (b:=b) (f:=bl.length) (k:=k0) hk0 hno hbf
 have hx:Ext ρ (bl++[BV.hole]) ρ ((bl++[BV.hole]).set b .no):=Ext.set_at hb1 rfl fun m hm=>by cases hm
 have hr1:=hr0.setB (g':=g) (bv1:= .no) (k:=none) (.refl g) hb1 rfl (fun m hm=>by cases hm) rfl
 have hf1:((bl++[BV.hole]).set b .no)[bl.length]? = some .hole:=by rw [get_ne hbf];exact hf0
 have hx1:Ext ρ ((bl++[BV.hole]).set b .no) (setρ ρ bl.length (ρ b)) (((bl++[BV.hole]).set b .no).set bl.length (.row d et (xs.take r))):=Ext.set_hole hf1
 have hr2:=hr1.lay (g':=g) (bv:= .row d et (xs.take r)) (k:=k0) (e:=ρ b) (.refl g) hf1 hB
 have e:((bl++[BV.hole]).set b .no).set bl.length (.row d et (xs.take r))=bl.set b .no++[.row d et (xs.take r)]:=by
  rw [List.set_append_left _ _ hbl,List.set_append_right _ _ (by simp)]
  simp
 rw [e] at hx1 hr2
 refine ⟨setρ ρ bl.length (ρ b),_,hst,hr2,?_,hx0.trans (hx.trans hx1),fun j hj=>setρ_ne (by omega)⟩
 rw [offA_zero,Nat.sub_zero,Nat.sub_zero]
 refine ⟨⟨.row d et (xs.take r),by simp,rfl⟩,r,by rw [setρ_at],fun bv m e1 e2=>?_⟩
 have e3:(bl.set b .no++[.row d et (xs.take r)])[bl.length]? = some (.row d et (xs.take r)):=by simp
 rw [e3] at e1;injection e1 with e1;subst e1
 have e2:some (xs.take r).length=some m:=e2
 injection e2 with e2
 omega
end
inductive HC where
  | d
  | cut
  | r (m:Nat)
  | j (ex:Bool) (sc:List Sch) (h:HC)
  | on (sc:Sch) (a b:HC)
  | s (a b:HC)
  | c (a b:HC)
  | b (a:HC)
  | l (sc:List Sch) (a:HC)
  | u (k:Nat) (a:HC)
  | v (a b:HC)
def HC.s1:HC→HC | .s x _=>x | _=> .d
def HC.s2:HC→HC | .s _ y=>y | _=> .d
def HC.c1:HC→HC | .c x _=>x | _=> .d
def HC.c2:HC→HC | .c _ y=>y | _=> .d
def HC.b1:HC→HC | .b x=>x | _=> .d
def HC.l1:HC→HC | .l _ x=>x | .u _ x=>x | _=> .d
def HC.uK:HC→Option Nat | .u k _=>some k | _=>none
def HC.v1:HC→HC | .v x _=>x | x=>x
def HC.v2:HC→HC | .v _ y=>y | x=>x
def HC.lS:HC→Option (List Sch) | .l y _=>some y | _=>none
def HC.j1:HC→HC | .j _ _ x=>x | x=>x
def HC.rM:HC→Nat | .r m=>m | _=>0
def HC.jS:HC→Option (Bool×List Sch) | .j x y _=>some (x,y) | _=>none
def cutAll:List (Nat×SSh)→HSt→HSt
  | [],st=>st
  | (t,.v (.c (.own _)))::l,st=>cutAll l (cutS t st)
  | _::l,st=>cutAll l st
theorem SW.cutAll {n:Nat} {A:An} {g0:Gh} {K:Act→World→Prop}:∀ {l:List (Nat×SSh)} {st:HSt},SW K n A g0 (cutAll l st)→SW K n A g0 st
  | [],st,k=>k
  | x::l,st,k=>by
    unfold Go.Proofs.YtpleflcfaecojaaGreat.cutAll at k
    split at k
    · exact k
    · rename_i e
      injection e with e1 e2
      subst e2
      exact (SW.cutAll k).cutS
    · rename_i e
      injection e with e1 e2
      subst e2
      exact SW.cutAll k
def absD (np:Nat) (sc:Sch) (st:HSt):Option (HT sc.tr):=match absSt false sc (sig0 0 np++nones (sc.bl.length - np)) (cutAll sc.sl st) with
  | some s=>(match conSt id sc s.ds with
    | some st'=>cond (joinChk s st'.bl) (pack sc.tr s.ds) none
    | none=>none)
  | none=>none
def conT (sc:Sch) (t:HT sc.tr):Option HSt:=conSt id sc (unpack sc.tr t)
theorem absD_ok {K:Act→World→Prop} {n:Nat} {A:An} {g0:Gh} {st:HSt} {sc:Sch} {t:HT sc.tr} (h:absD A.np sc st=some t):∃ st',conT sc t=some st'∧(SW K n A g0 st'→SW K n A g0 st):=by
  unfold absD at h
  split at h
  · rename_i s hs
    split at h
    · rename_i st' hc
      obtain ⟨hk,h⟩:=condS h
      refine ⟨st',?_,fun k=>(SW.weaken hs hc hk k).cutAll⟩
      unfold conT
      rw [pack_un _ h]
      exact hc
    · cases h
  · cases h
def slotT:Operand→Bool→HSt→HSt
  | .tmp t,b,st=>⟨(t,vC (.bool b))::st.sl,st.bl⟩
  | _,_,st=>st
def ALT:List Sch→Type
  | []=>Empty
  | [s]=>HT s.tr
  | s::t::l=>HT s.tr ⊕ ALT (t::l)
def absDs (np:Nat) (st:HSt):(l:List Sch)→Option (ALT l)
  | []=>none
  | [s]=>absD np s st
  | s::t::l=>match absD np s st with
    | some x=>some (.inl x)
    | none=>match absDs np st (t::l) with | some y=>some (.inr y) | none=>none
def conTs {ρ:Type} (K:HSt→Option ρ):(l:List Sch)→ALT l→Option ρ
  | [],_=>none
  | [s],x=>match conT s x with | some st'=>K st' | none=>none
  | s::t::l,x=>sm x (fun a=>match conT s a with | some st'=>K st' | none=>none) (fun b=>conTs K (t::l) b)
theorem absDs_ok {K:Act→World→Prop} {n:Nat} {A:An} {g0:Gh} {st:HSt}:∀ {l:List Sch} {t:ALT l},absDs A.np st l=some t →
    ∃ st',(∀ {ρ:Type} {k:HSt→Option ρ} {r:ρ},conTs k l t=some r→k st'=some r)∧(SW K n A g0 st'→SW K n A g0 st)
  | [],t,h=>by cases h
  | [s],t,h=>by
    obtain ⟨st',h1,h2⟩:=absD_ok (K:=K) (n:=n) (g0:=g0) (h:absD A.np s st=some t)
    refine ⟨st',fun {ρ k r} hk=>?_,h2⟩
    have hk:(match conT s t with | some st'=>k st' | none=>none)=some r:=hk
    rw [h1] at hk;exact hk
  | s::s2::l,t,h=>by
    unfold absDs at h
    split at h
    · rename_i x hx
      injection h with h;subst h
      obtain ⟨st',h1,h2⟩:=absD_ok (K:=K) (n:=n) (g0:=g0) hx
      refine ⟨st',fun {ρ k r} hk=>?_,h2⟩
      have hk:(match conT s x with | some st'=>k st' | none=>none)=some r:=hk
      rw [h1] at hk;exact hk
    · split at h
      · rename_i y hy
        injection h with h;subst h
        obtain ⟨st',h1,h2⟩:=absDs_ok (K:=K) (n:=n) (g0:=g0) hy
        exact ⟨st',fun {ρ k r} hk=>h1 hk,h2⟩
      · cases h
def fitsD (np:Nat) (sc:Sch) (st:HSt):Bool:=match absSt false sc (sig0 0 np++nones (sc.bl.length - np)) (cutAll sc.sl st) with
  | some _=>true
  | none=>false
def HC.sel (np:Nat) (st:HSt):HC→HC
  | .on sc x1 x2=>match fitsD np sc st with | true=>x1.sel np st | false=>x2.sel np st
  | h=>h
noncomputable def cutX {ρ:Type} (h:HC) (y:Option ρ):Option ρ:=(fun _:Nat→Option Unit=>match h with | .cut=>none | _=>y) fun n=>sm (β:=Unit) (Sum.inl ()) (fun _=>nlO true (jd (α:=Unit) (dnO (bd (gd true (cnd true (loopO n (fun _=>none) ()) none)) some)) fun _=>none) none) fun _=>none
theorem cutX_some {ρ:Type} {h:HC} {y:Option ρ} {r:ρ} (e:cutX h y=some r):y=some r:=by
  cases h <;> first | exact e | cases e
noncomputable def evC {P:Program} (S:Stp P) (n np:Nat):(c:Code)→HC→{ρ:Type}→HSt→(Exit→HSt→Option ρ)→Option ρ
  | .skip,h,_,st,K=>K .normal st
  | .region _ ops false,h,_,st,K=>(match (h.sel np st).jS with
    | none=>evOps S n ops ops.size 0 st (K .normal)
    | some (_,sc)=>bd (evOps S n ops ops.size 0 st fun st'=>absDs np st' sc) fun t=>conTs (K .normal) sc t)
  | .region _ ops true,h,_,st,K=>(match P.follows .mixedOrders with
    | true=>(match (h.sel np st).jS with
      | none=>evD S n ops ops.size 0 ⟨st.bl.length,[],[]⟩ ⟨st.sl,st.bl++holes (h.sel np st).rM⟩ (K .normal)
      | some (_,sc)=>bd (evD S n ops ops.size 0 ⟨st.bl.length,[],[]⟩ ⟨st.sl,st.bl++holes (h.sel np st).j1.rM⟩ fun st'=>absDs np st' sc) fun t=>conTs (K .normal) sc t)
    | false=>none)
  | .seq a b,h,_,st,K=>(match (h.sel np st).jS with
    | none=>evC S n np a (h.sel np st).s1 st fun e st'=>match e with | .normal=>cutX ((h.sel np st).s2.sel np st') (evC S n np b (h.sel np st).s2 st' K) | e=>K e st'
    | some (false,sc)=>bd (evC S n np a (h.sel np st).j1.s1 st fun e st'=>match e with | .normal=>absDs np st' sc | _=>none) fun t=>conTs (fun st'=>cutX ((h.sel np st).j1.s2.sel np st') (evC S n np b (h.sel np st).j1.s2 st' K)) sc t
    | some (true,sc)=>jd (evC S n np a (h.sel np st).j1.s1 st fun e st'=>match e with | .normal=>(match absDs np st' sc with | some t=>some (.go t) | none=>none) | e=>dnO (K e st')) fun t=>conTs (fun st'=>cutX ((h.sel np st).j1.s2.sel np st') (evC S n np b (h.sel np st).j1.s2 st' K)) sc t)
  | .cond o a b,h,_,st,K=>(match evH st.sl o with
    | some (.v (.c (.bool c)))=>cnd c (cutX (h.sel np st).c1 (evC S n np a (h.sel np st).c1 (slotT o true st) K)) (cutX (h.sel np st).c2 (evC S n np b (h.sel np st).c2 (slotT o false st) K))
    | some (.v (.c (.nb e false)))=>nlO e (evC S n np a (h.sel np st).c1 (slotT o true st) K) (evC S n np b (h.sel np st).c2 (slotT o false st) K)
    | some (.v (.c (.nb e true)))=>nlO e (evC S n np b (h.sel np st).c2 (slotT o false st) K) (evC S n np a (h.sel np st).c1 (slotT o true st) K)
    | _=>none)
  | .block i a,h,_,st,K=>evC S n np a (h.sel np st).b1 st fun e st'=>match e with | .exit j=>(match Nat.beq j i with | true=>K .normal st' | false=>K (.exit j) st') | e=>K e st'
  | .loop a,h,ρ,st,K=>(match (h.sel np st).uK with
    | some k=>Nat.rec (motive:=fun _=>HC→HSt→Option ρ) (fun _ _=>none) (fun _ ih h1 st1=>evC S n np a (h1.sel np st1).v1 st1 fun e st'=>match e with | .normal=>ih (h1.sel np st1).v2 st' | e=>K e st') k (h.sel np st).l1 st
    | none=>(match (h.sel np st).lS with
    | some sc=>match absDs np st sc with
     | none=>none
     | some t0=>loopO fuelN (fun t=>conTs (fun st1=>evC S n np a (h.sel np st).l1 st1 fun e st'=>match e with | .normal=>(match absDs np st' sc with | some t=>some (.go t) | none=>none) | e=>dnO (K e st')) sc t) t0
    | none=>none))
  | .exit i,h,_,st,K=>K (.exit i) st
  | .ret,h,_,st,K=>K .ret st
  | _,_,_,_,_=>none
section
variable {P:Program} {S:Stp P} {n:Nat}
theorem SW.mono {A:An} {K:Act→World→Prop} {g0 g1:Gh} {st:HSt} (hg:g0.le g1) (k:SW K n A g0 st):SW K n A g1 st:=fun g ρ own fr h=>k g ρ own fr (hg.trans h)
theorem sw_then {A:An} {g0:Gh} {Q:Exit→Act→World→Prop} {N:Act→World→Prop} {e:Exit} {st:HSt} (he:e ≠ .normal) (k:SW (Q e) n A g0 st):SW (Exit.then N Q e) n A g0 st:=by
  cases e <;> first | exact absurd rfl he | exact k
theorem evC_ok:∀ (c:Code) {A:An} {g0:Gh} {h:HC} {ρ:Type} {r:ρ} {st:HSt} {K:Exit→HSt→Option ρ} {Q:Exit→Act→World→Prop},evC S n A.np c h st K=some r→(∀ e st',K e st'=some r→SW (Q e) n A g0 st')→SW (Code.wp P c Q) n A g0 st
  | .skip,A,g0,h,ρ,r,st,K,Q,hs,hK=>fun g ρ own fr hg hA hr=>wpc_skip rfl (hK _ _ hs g ρ own fr hg hA hr)
  | .region id ops false,A,g0,h,ρ,r,st,K,Q,hs,hK=>by
    intro g ρ' own fr hg hA hr
    refine wpc_region (ops:=ops) rfl ?_
    unfold evC at hs
    split at hs
    · exact evOps_ok (Q:=Q) (hK .normal) hs g ρ' own fr hg hA hr
    · rename_i e sc _
      obtain ⟨t,h1,h2⟩:=bindO_T ((bd_def _ _).symm.trans hs)
      refine evOps_ok (Q:=Q) (g0:=g0) (fun st' h'=>?_) h1 g ρ' own fr hg hA hr
      obtain ⟨st2,h3,h4⟩:=absDs_ok (K:=Q .normal) (n:=n) (A:=A) (g0:=g0) h'
      exact h4 (hK _ _ (h3 h2))
  | .region id ops true,A,g0,h,ρ,r,st,K,Q,hs,hK=>by
    unfold evC at hs
    split at hs
    case h_2=>cases hs
    rename_i hm
    split at hs
    · exact SW.holes _ (evD_ok hm hs (hK .normal))
    · rename_i e sc _
      obtain ⟨t,h1,h2⟩:=bindO_T ((bd_def _ _).symm.trans hs)
      refine SW.holes _ (evD_ok hm h1 fun st' h'=>?_)
      obtain ⟨st2,h3,h4⟩:=absDs_ok (K:=Q .normal) (n:=n) (A:=A) (g0:=g0) h'
      exact h4 (hK _ _ (h3 h2))
  | .seq a b,A,g0,h,ρ,r,st,K,Q,hs,hK=>by
    intro g ρ' own fr hg hA hr
    refine wpc_seq rfl ?_
    unfold evC at hs
    split at hs
    · refine evC_ok a hs (fun e st' h'=>?_) g ρ' own fr hg hA hr
      cases e with
      | normal=>exact evC_ok b (cutX_some h') hK
      | _=>exact sw_then (by simp) (hK _ _ h')
    · rename_i sc _
      obtain ⟨t,h1,h2⟩:=bindO_T ((bd_def _ _).symm.trans hs)
      refine evC_ok a h1 (fun e st' h'=>?_) g ρ' own fr hg hA hr
      cases e with
      | normal =>
        obtain ⟨st2,h3,h4⟩:=absDs_ok (K:=Code.wp P b Q) (n:=n) (A:=A) (g0:=g0) h'
        exact h4 (evC_ok b (cutX_some (h3 h2)) hK)
      | _=>cases h'
    · rename_i sc _
      obtain ⟨ctl,h1,h2,h3⟩:=joinO_T ((jd_def _ _).symm.trans hs)
      refine evC_ok a h1 (fun e st' h'=>?_) g ρ' own fr hg hA hr
      cases e with
      | normal =>
        dsimp only at h'
        split at h'
        · rename_i t ht
          injection h' with h'
          obtain ⟨st2,h4,h5⟩:=absDs_ok (K:=Code.wp P b Q) (n:=n) (A:=A) (g0:=g0) ht
          have h2:=h2 t h'.symm
          exact h5 (evC_ok b (cutX_some (h4 h2)) hK)
        · cases h'
      | _ =>
        obtain ⟨r',hr',h'⟩:=dnO_some h'
        have:=h3 r' h'
        subst this
        exact sw_then (by simp) (hK _ _ hr')
  | .cond o a b,A,g0,h,ρ,r,st,K,Q,hs,hK=>by
    have key:∀ (c:Bool) (g:Gh) (ρ':Env) (own:Own) (fr:Sl),g0.le g→Anch A ρ' st.bl→Rl g ρ' st own fr→evS fr o=some (.bool c)→∀ cc:Code,SW (Code.wp P cc Q) n A g0 (slotT o c st)→WPc P cc Q n g own fr:=by
        intro c g ρ' own fr hg hA hr h1 cc k
        cases o with
        | tmp t =>
          obtain ⟨sl,bl⟩:=st
          intro a w hf hs
          refine k g ρ' own ((t,.bool c)::fr) hg hA (hr.put t rfl) a w ⟨hf.size,hf.defers,fun s u hu=>?_⟩ hs
          have hu:cond (Nat.beq t s) (some (Value.bool c)) (getS fr s)=some u:=hu
          cases hb:Nat.beq t s with
          | true =>
            rw [hb] at hu
            have:=Nat.eq_of_beq_eq_true hb
            subst this
            injection hu with hu;subst hu
            exact hf.at_ _ _ h1
          | false=>rw [hb] at hu;exact hf.at_ _ _ hu
        | const _=>exact k g ρ' own fr hg hA hr
        | global _=>exact k g ρ' own fr hg hA hr
        | func _=>exact k g ρ' own fr hg hA hr
    unfold evC at hs
    split at hs
    · rename_i c hc
      intro g ρ' own fr hg hA hr
      obtain ⟨v,h1,h2⟩:=evH_real hr hc
      have h2:v = .bool c:=h2
      subst h2
      rcases cnd_cases hs with ⟨e,hs⟩ | ⟨e,hs⟩
      · subst e;exact wpc_cond rfl h1 (fun _=>key true g ρ' own fr hg hA hr h1 a (evC_ok a (cutX_some hs) hK)) (fun e2=>by cases e2)
      · subst e;exact wpc_cond rfl h1 (fun e2=>by cases e2) (fun _=>key false g ρ' own fr hg hA hr h1 b (evC_ok b (cutX_some hs) hK))
    · rename_i e hc
      intro g ρ' own fr hg hA hr
      obtain ⟨v,h1,bb,rfl,h2⟩:=evH_real hr hc
      obtain ⟨hy,hx⟩:=nlO_some hs
      cases bb with
      | true=>exact wpc_cond rfl h1 (fun _=>key true g ρ' own fr hg hA hr h1 a (evC_ok a (hx (h2 rfl)) hK)) (fun e2=>by cases e2)
      | false=>exact wpc_cond rfl h1 (fun e2=>by cases e2) (fun _=>key false g ρ' own fr hg hA hr h1 b (evC_ok b hy hK))
    · rename_i e hc
      intro g ρ' own fr hg hA hr
      obtain ⟨v,h1,bb,rfl,h2⟩:=evH_real hr hc
      obtain ⟨hy,hx⟩:=nlO_some hs
      cases bb with
      | true=>exact wpc_cond rfl h1 (fun e2=>by cases e2) (fun _=>key false g ρ' own fr hg hA hr h1 b (evC_ok b (hx (h2 rfl)) hK))
      | false=>exact wpc_cond rfl h1 (fun _=>key true g ρ' own fr hg hA hr h1 a (evC_ok a hy hK)) (fun e2=>by cases e2)
    · cases hs
  | .block i a,A,g0,h,ρ,r,st,K,Q,hs,hK=>by
    intro g ρ' own fr hg hA hr
    refine wpc_block rfl (evC_ok a (h:=(h.sel A.np st).b1) hs (fun e st' h'=>?_) g ρ' own fr hg hA hr)
    cases e with
    | exit j =>
      dsimp only at h'
      split at h'
      · rename_i e
        have h2':=h'
        have:=Nat.eq_of_beq_eq_true e
        subst this
        exact fun g ρ own fr hg hA hr=>wpq_blockE (hK _ _ h2' g ρ own fr hg hA hr)
      · rename_i e
        have h2':=h'
        exact fun g ρ own fr hg hA hr=>wpq_blockX e (hK _ _ h2' g ρ own fr hg hA hr)
    | _=>exact hK _ _ h'
  | .loop a,A,g0,h,ρ,r,st,K,Q,hs,hK=>by
    unfold evC at hs
    split at hs
    · rename_i k _
      have key:∀ (k:Nat) (h1:HC) (st:HSt),Nat.rec (motive:=fun _=>HC→HSt→Option ρ) (fun _ _=>none) (fun _ ih h1 st1=>evC S n A.np a (h1.sel A.np st1).v1 st1 fun e st'=>match e with | .normal=>ih (h1.sel A.np st1).v2 st' | e=>K e st') k h1 st=some r→SW (Code.rounds P a Q k) n A g0 st:=by
        intro k
        induction k with
        | zero=>intro h1 st hs;cases hs
        | succ k ih =>
          intro h1 st hs
          exact evC_ok a (Q:=Exit.then (Code.rounds P a Q k) Q) hs fun e st' h'=>match e,h' with
            | .normal,h'=>ih _ st' h'
            | .exit i,h'=>sw_then (by simp) (hK _ _ h')
            | .goto i,h'=>sw_then (by simp) (hK _ _ h')
            | .ret,h'=>sw_then (by simp) (hK _ _ h')
            | .panic c,h'=>sw_then (by simp) (hK _ _ h')
            | .outgrown,h'=>sw_then (by simp) (hK _ _ h')
      intro g ρ' own fr hg hA hr a' w' hf hw
      exact wp_loop_rounds k (key k _ _ hs g ρ' own fr hg hA hr a' w' hf hw)
    split at hs
    · rename_i sc _
      split at hs
      · cases hs
      rename_i t0 h0
      have hl:=hs
      generalize hB:(fun t=>conTs (fun st1=>evC S n A.np a (h.sel A.np st).l1 st1 fun e st'=>match e with | .normal=>(match absDs A.np st' sc with | some t=>some (.go t) | none=>none) | e=>dnO (K e st')) sc t)=B at hl
      have hst0:∃ st0,(∀ {ρ:Type} {k:HSt→Option ρ} {r:ρ},conTs k sc t0=some r→k st0=some r)∧(SW (Code.wp P (.loop a) Q) n A g0 st0→SW (Code.wp P (.loop a) Q) n A g0 st):=absDs_ok h0
      obtain ⟨st0,hc0,hw0⟩:=hst0
      refine hw0 ?_
      clear h0 hw0
      intro g ρ' own fr hg hA hr
      refine wpc_loop (P:=P) (Q:=Q) rfl (fun g1 own1 fr1 m=>g0.le g1∧∃ (t:ALT sc) (st1:HSt) (ρ1:Env),(∀ {ρ:Type} {k:HSt→Option ρ} {r:ρ},conTs k sc t=some r→k st1=some r)∧Anch A ρ1 st1.bl∧Rl g1 ρ1 st1 own1 fr1∧loopO m B t=some r) fuelN ⟨hg,t0,st0,ρ',hc0,hA,hr,hl⟩ ?_
      rintro g1 own1 fr1 m hg1 ⟨hg01,t,st1,ρ1,hc1,hA1,hr1,hl1⟩ Qr hQr
      obtain ⟨m',ctl,em,h1,h2,h3⟩:=loopO_T hl1
      subst em
      rw [← hB] at h1
      have h1:=hc1 h1
      refine evC_ok a (g0:=g1) h1 (Q:=Exit.then Qr Q) (fun e st' h'=>?_) g1 ρ1 own1 fr1 (.refl _) hA1 hr1
      cases e with
      | normal =>
        dsimp only at h'
        split at h'
        · rename_i t' ht
          injection h' with h'
          have h2:=h2 t' h'.symm
          obtain ⟨st2,h4,h5⟩:=absDs_ok (K:=Qr) (n:=n) (A:=A) (g0:=g1) ht
          exact h5 fun g2 ρ2 own2 fr2 hg2 hA2 hr2=>hQr g2 own2 fr2 m' hg2 (Nat.lt_succ_self _) ⟨hg01.trans hg2,t',st2,ρ2,h4,hA2,hr2,h2⟩
        · cases h'
      | _ =>
        obtain ⟨r',hr',h'⟩:=dnO_some h'
        have:=h3 r' h'
        subst this
        exact sw_then (by simp) ((hK _ _ hr').mono hg01)
    · cases hs
  | .exit i,A,g0,h,ρ,r,st,K,Q,hs,hK=>fun g ρ own fr hg hA hr=>wpc_exit rfl (hK _ _ hs g ρ own fr hg hA hr)
  | .ret,A,g0,h,ρ,r,st,K,Q,hs,hK=>fun g ρ own fr hg hA hr a w hf hw=>wp_ret (hK _ _ hs g ρ own fr hg hA hr a w hf hw)
  | .rangeFunc _ _ _ _,A,g0,h,ρ,r,st,K,Q,hs,hK=>by cases hs
  | .scope _,A,g0,h,ρ,r,st,K,Q,hs,hK=>by cases hs
  | .label _,A,g0,h,ρ,r,st,K,Q,hs,hK=>by cases hs
  | .goto _,A,g0,h,ρ,r,st,K,Q,hs,hK=>by cases hs
  | .refuse _,A,g0,h,ρ,r,st,K,Q,hs,hK=>by cases hs
end
structure FSp where
 ps:Sch
 rs:List Sch
 run:HT ps.tr→Option (ALT rs)
def altC:(l:List Sch)→ALT l→Option HSt
 | [],_=>none
 | [s],x=>conT s x
 | s::t::l,x=>match x with | .inl a=>conT s a | .inr b=>altC (t::l) b
def ghB (p:Psi):Gh:=⟨p,p,.refl p⟩
def refOk (bl:List BV) (b:Nat):Bool:=match bl[b]? with | some bv=>bv.owned | none=>false
def baseC (bl:List BV):CV→Bool
 | .int _ _=>true
 | .bool _=>true
 | .str _=>true
 | .k _=>true
 | .ptr b _=>refOk bl b
 | .own b=>refOk bl b
 | .ro _ _ m=>m
 | .fn _=>true
 | .cap f c=>baseC bl f&&baseC bl c
 | .ifc _ c=>baseC bl c
 | _=>false
def allB {α:Type} (p:α→Bool):List α→Bool
 | []=>true
 | x::l=>p x&&allB p l
def base1 (bl:List BV):V1→Bool
 | .c x=>baseC bl x
 | .agg l=>allB (baseC bl) l
def baseS (bl:List BV):SV→Bool
 | .v x=>base1 bl x
 | .tup l=>allB (base1 bl) l
 | .und=>false
 | .any=>true
def baseB (bl:List BV):BV→Bool
 | .no=>true
 | .cells _ l=>allB (baseC bl) l
 | .row _ _ _=>true
 | _=>false
def baseSt (st:HSt):Bool:=allB (fun p=>baseS st.bl p.2) st.sl&&allB (baseB st.bl) st.bl
section
variable {g:Gh} {ρ:Env} {bl:List BV}
theorem baseC_real:∀ {x:CV} {v:Value},baseC bl x=true→RealC g ρ bl x v→RealC (ghB g.b) ρ bl x v
 | .int _ _,_,_,h=>h
 | .bool _,_,_,h=>h
 | .str _,_,_,h=>h
 | .k _,_,_,h=>h
 | .ptr _ _,_,_,h=>h
 | .own _,_,_,h=>h
 | .ro _ _ true,_,_,h=>h
 | .fn _,_,_,h=>h
 | .cap f c,_,hb,⟨f0,caps,vc,h1,h2,h3⟩=>by
  simp only [baseC,Bool.and_eq_true] at hb
  exact ⟨f0,caps,vc,baseC_real hb.1 h1,baseC_real hb.2 h2,h3⟩
 | .ifc t c,_,hb,⟨u,h1,h2⟩=>⟨u,baseC_real (x:=c) hb h1,h2⟩
theorem allB_all2 {α β:Type} {p:α→Bool} {R S:α→β→Prop} (hi:∀ x y,p x=true→R x y→S x y):∀ {l:List α} {m:List β},allB p l=true→All2 R l m→All2 S l m
 | [],[],_,_=>trivial
 | x::l,y::m,hp,h=>by
  simp only [allB,Bool.and_eq_true] at hp
  exact ⟨hi _ _ hp.1 h.1,allB_all2 hi hp.2 h.2⟩
 | [],_::_,_,h=>h.elim
 | _::_,[],_,h=>h.elim
theorem allB_get {α:Type} {p:α→Bool}:∀ {l:List α} {x:α},allB p l=true→x∈l→p x=true
 | y::l,x,h,hm=>by
  simp only [allB,Bool.and_eq_true] at h
  rcases List.mem_cons.1 hm with rfl | hm
  ·exact h.1
  ·exact allB_get h.2 hm
theorem base1_real {x:V1} {v:Value} (hb:base1 bl x=true) (h:Real1 g ρ bl x v):Real1 (ghB g.b) ρ bl x v:=by
 cases x with
 | c x=>exact baseC_real hb h
 | agg l =>
  obtain ⟨cs,e,h⟩:=h
  exact ⟨cs,e,allB_all2 (fun _ _=>baseC_real) hb h⟩
theorem baseS_real {x:SV} {v:Value} (hb:baseS bl x=true) (h:RealS g ρ bl x v):RealS (ghB g.b) ρ bl x v:=by
 cases x with
 | v x=>exact base1_real hb h
 | tup l =>
  obtain ⟨cs,e,h⟩:=h
  exact ⟨cs,e,allB_all2 (fun _ _=>base1_real) hb h⟩
 | und=>cases hb
 | any=>trivial
theorem baseB_real {bv:BV} {k:Option Bk} {e:Option Addr×Nat} (hb:baseB bl bv=true) (h:BlkR g ρ bl k e bv):BlkR (ghB g.b) ρ bl k e bv:=by
 cases bv with
 | hole=>cases hb
 | no=>exact h
 | cells t l =>
  obtain ⟨b,cs,h1,h2,h3⟩:=h
  exact ⟨b,cs,h1,h2,allB_all2 (fun _ _=>baseC_real) hb h3⟩
 | row c et xs=>exact h
 | fz c xs=>cases hb
 | lent l=>cases hb
theorem baseSt_real {st:HSt} {own:Own} {fr:Sl} (hb:baseSt st=true) (h:Rl g ρ st own fr):Rl (ghB g.b) ρ st own fr:=by
 simp only [baseSt,Bool.and_eq_true] at hb
 refine ⟨h.len,fun i bv k e1 e2=>baseB_real (allB_get hb.2 (List.mem_of_getElem? e1)) (h.blk i bv k e1 e2),fun t sv e=>?_,h.gi⟩
 obtain ⟨v,h1,h2⟩:=h.slot t sv e
 exact ⟨v,h1,baseS_real (allB_get (p:=fun p:Nat×SV=>baseS st.bl p.2) hb.1 (getH_mem e)) h2⟩
end
def argH:Nat→List SV→List (Nat×SV)
 | _,[]=>[]
 | i,v::l=>(i,v)::argH (i+1) l
def isArgs:Nat→List (Nat×SSh)→Bool
 | _,[]=>true
 | i,(j,_)::l=>Nat.beq j i&&isArgs (i+1) l
def lenAt (bl:List BV) (j:Nat):Option Nat:=match bl[j]? with | some bv=>bv.len | none=>none
theorem lenAt_some {bl:List BV} {j m:Nat} (h:lenAt bl j=some m):∃ bv,bl[j]? = some bv∧bv.len=some m:=by
 unfold lenAt at h
 split at h
 ·rename_i bv e;exact ⟨bv,e,h⟩
 ·cases h
def FOk (P:Program) (f:FuncId) (S:FSp):Prop:=∀ (t:HT S.ps.tr) (r:ALT S.rs) (st0:HSt),S.run t=some r→conT S.ps t=some st0 →
 ∀ (g:Gh) (ρ:Env) (own:Own) (vs:List Value),Rl g ρ st0 own (argS 0 vs)→vs.length=S.ps.sl.length →
  Ctr P f vs g own fun v ψ o=>∃ str ρ',altC S.rs r=some str∧baseSt str=true∧Rl (ghB ψ) ρ' str o [(0,v)]∧∀ j,j < st0.bl.length→ρ' j=ρ j∧∀ (bv:BV) (m:Nat),str.bl[j]? = some bv→bv.len=some m→lenAt st0.bl j=some m
def resH (P:Program) (st:HSt):List ResultVar→Option (List V1)
 | []=>some []
 | .tmp t::l=>match getH st.sl t,resH P st l with
  | some (.v x),some m=>some (x::m)
  | _,_=>none
 | .cell x t::l=>match getH st.sl x,resH P st l with
  | some (.v (.c (.ptr b off))),some m=>(match st.bl[b]? with
   | some (.cells _ c)=>(match readL P t c off with | some (.v y)=>some (y::m) | _=>none)
   | _=>none)
  | _,_=>none
def tupH:List V1→SV
 | [x]=> .v x
 | l=> .tup l
def resSh (rs:Sch):List Sh1:=match rs.sl with
 | [(_,.v x)]=>[x]
 | [(_,.tup l)]=>l
 | _=>[]
def cutB (c:Cd) (r:Nat) (b:Nat):BV→List BV→List BV
 | .row d et xs,bl=>bl.set b .no++[.row d et (xs.take r)]
 | _,bl=>bl
def isRowB:BV→Bool
 | .row _ _ _=>true
 | _=>false
def cutV:List Sh1→List V1→List BV→List V1×List BV
 | .c (.own _)::shs,.c (.vw b c l r)::vs,bl=>(match bl[b]? with
  | some bv=>cond (isRowB bv&&Nat.beq l 0) (.c (.own bl.length)::(cutV shs vs (cutB c r b bv bl)).1,(cutV shs vs (cutB c r b bv bl)).2) (.c (.vw b c l r)::(cutV shs vs bl).1,(cutV shs vs bl).2)
  | none=>(.c (.vw b c l r)::(cutV shs vs bl).1,(cutV shs vs bl).2))
 | _::shs,v::vs,bl=>(v::(cutV shs vs bl).1,(cutV shs vs bl).2)
 | _,vs,bl=>(vs,bl)
def absR (P:Program) (rv:List ResultVar) (np:Nat) (rs:Sch) (st:HSt):Option (HT rs.tr):=match resH P st rv with
 | some l=>(match absSt false rs (sig0 0 np++nones (rs.bl.length - np)) ⟨[(0,tupH (cutV (resSh rs) l st.bl).1)],(cutV (resSh rs) l st.bl).2⟩ with
  | some s=>(match conSt id rs s.ds with
   | some st'=>cond (joinChk s st'.bl&&(baseSt st'&&Nat.ble np st.bl.length)) (pack rs.tr s.ds) none
   | none=>none)
  | none=>none)
 | none=>none
def absA (P:Program) (rv:List ResultVar) (np:Nat) (st:HSt):(l:List Sch)→Option (ALT l)
 | []=>none
 | [s]=>absR P rv np s st
 | s::t::l=>match absR P rv np s st with
  | some x=>some (.inl x)
  | none=>match absA P rv np st (t::l) with | some y=>some (.inr y) | none=>none
noncomputable def evF {P:Program} (S:Stp P) (fn:Func) (ps:Sch) (rs:List Sch) (h:HC) (t:HT ps.tr):Option (ALT rs):=match conT ps t,fn.body with
 | some st0,some c=>evC S fn.ntmps st0.bl.length c h st0 fun e st'=>match e with
  | .normal=>absA P fn.results.toList st0.bl.length st' rs
  | .ret=>absA P fn.results.toList st0.bl.length st' rs
  | _=>none
 | _,_=>none
section
variable {P:Program} {S:Stp P}
theorem resH_ok {st:HSt} {g:Gh} {ρ:Env} {own:Own} {fr:Sl} (hr:Rl g ρ st own fr):∀ {rv:List ResultVar} {l:List V1},resH P st rv=some l→∃ vs,ResOk P own fr rv vs∧All2 (Real1 g ρ st.bl) l vs
 | [],l,h=>by injection h with h;subst h;exact ⟨[],res_nil,trivial⟩
 | .tmp t::rv,l,h=>by
  unfold resH at h
  split at h
  ·rename_i x m h1 h2
   injection h with h;subst h
   obtain ⟨vs,h3,h4⟩:=resH_ok hr h2
   obtain ⟨v,h5,h6⟩:=hr.slot t _ h1
   exact ⟨v::vs,res_tmp h5 h3,h6,h4⟩
  ·cases h
 | .cell x t::rv,l,h=>by
  unfold resH at h
  split at h
  ·rename_i b off m h1 h2
   split at h
   ·rename_i t0 c hb
    split at h
    ·rename_i y hy
     injection h with h;subst h
     obtain ⟨vs,h3,h4⟩:=resH_ok hr h2
     obtain ⟨v,h5,_,a,ha,rfl⟩:=hr.slot x _ h1
     obtain ⟨k,hk,b0,cs,rfl,h6,h7⟩:=Rl.own_at (sl:=st.sl) (bl:=st.bl) hr hb
     rw [ha] at h6;injection h6 with h6;subst h6
     rw [addr_add,Nat.zero_add] at h5
     rcases readL_real hy h7 with ⟨hf,u,h8,h9⟩ | ⟨us,h8,h9,h10⟩
     ·exact ⟨u::vs,res_cell1 h5 hk rfl hf h8 h3,h9,h4⟩
     ·exact ⟨.agg us.toArray::vs,res_cellA h5 hk rfl h8 h9 h3,h10,h4⟩
    ·cases h
   ·cases h
  ·cases h
theorem tupH_real {g:Gh} {ρ:Env} {bl:List BV} {l:List V1} {vs:List Value} (h:All2 (Real1 g ρ bl) l vs):RealS g ρ bl (tupH l) (tupled vs):=by
 match l,vs,h with
 | [],[],_=>exact ⟨[],rfl,trivial⟩
 | [x],[v],h=>exact h.1
 | x::y::l,v::u::vs,h=>exact ⟨v::u::vs,rfl,h⟩
 | [],_::_,h=>exact h.elim
 | [_],[],h=>exact h.elim
 | [_],_::_::_,h=>exact h.2.elim
 | _::_::_,[],h=>exact h.elim
 | _::_::_,[_],h=>exact h.2.elim
theorem cutV_ok {g:Gh} {fr:Sl} {sl:List (Nat×SV)} {w:World}:∀ {vs:List V1} {shs:List Sh1} {bl:List BV} {us:List Value} {ρ:Env} {own:Own},Rl g ρ ⟨sl,bl⟩ own fr→St w g own→All2 (Real1 g ρ bl) vs us →
  ∃ ρ' own',St w g own'∧Rl g ρ' ⟨sl,(cutV shs vs bl).2⟩ own' fr∧All2 (Real1 g ρ' (cutV shs vs bl).2) (cutV shs vs bl).1 us∧Ext ρ bl ρ' (cutV shs vs bl).2∧(∀ j,j < bl.length→ρ' j=ρ j)∧bl.length≤(cutV shs vs bl).2.length∧∀ j m,j < bl.length→lenAt (cutV shs vs bl).2 j=some m→lenAt bl j=some m:=by
 intro vs
 induction vs with
 | nil =>
  intro shs bl us ρ own hr hs h
  have e:cutV shs [] bl=([],bl):=by cases shs <;> simp [cutV]
  rw [e]
  exact ⟨ρ,own,hs,hr,h,.refl,fun _ _=>rfl,Nat.le_refl _,fun _ _ _ h=>h⟩
 | cons v vs ih =>
  intro shs bl us ρ own hr hs h
  cases us with
  | nil=>exact h.elim
  | cons u us =>
   obtain ⟨hv,h⟩:=h
   have plain:∀ shs',∃ ρ' own',St w g own'∧Rl g ρ' ⟨sl,(cutV shs' vs bl).2⟩ own' fr∧All2 (Real1 g ρ' (cutV shs' vs bl).2) (v::(cutV shs' vs bl).1) (u::us)∧Ext ρ bl ρ' (cutV shs' vs bl).2∧(∀ j,j < bl.length→ρ' j=ρ j)∧bl.length≤(cutV shs' vs bl).2.length∧∀ j m,j < bl.length→lenAt (cutV shs' vs bl).2 j=some m→lenAt bl j=some m:=fun shs'=>by
    obtain ⟨ρ',own',h1,h2,h3,h4,h5,h6,h7⟩:=ih (shs:=shs') hr hs h
    exact ⟨ρ',own',h1,h2,⟨hv.ext (.refl g) h4,h3⟩,h4,h5,h6,h7⟩
   unfold cutV
   split
   ·rename_i bl _ _ _ j0 shs' b c l r vs' e2
    injection e2 with e2 e3
    subst e2;subst e3
    split
    ·rename_i bv hb
     cases hc:(isRowB bv&&Nat.beq l 0) with
     | false=>exact plain shs'
     | true =>
      simp only [Bool.and_eq_true] at hc
      obtain ⟨hc1,hc2⟩:=hc
      have hc2:=Nat.eq_of_beq_eq_true hc2
      subst hc2
      cases bv with
      | row d et xs =>
       obtain ⟨ρ1,own1,h1,h2,h3,h4,h5⟩:=hr.cutC hs hb (hv:RealC g ρ bl (.vw b c 0 r) u)
       obtain ⟨ρ',own',k1,k2,k3,k4,k5,k6,k7⟩:=ih (shs:=shs') h2 h1 (h.mono fun _ _=>Real1.ext (.refl g) h4)
       have hlen:(bl.set b .no++[BV.row d et (xs.take r)]).length=bl.length+1:=by simp
       refine ⟨ρ',own',k1,k2,⟨RealC.ext (.refl g) k4 h3,k3⟩,h4.trans k4,fun j hj=>(k5 j (by omega)).trans (h5 j hj),Nat.le_trans (by omega) k6,fun j m hj hm=>?_⟩
       have:=k7 j m (by omega) hm
       unfold lenAt at this ⊢
       rw [List.getElem?_append_left (by simpa using hj)] at this
       by_cases e:b=j
       ·subst e
        rw [List.getElem?_set_self (by omega)] at this
        cases this
       ·rw [get_ne e] at this
        exact this
      | _=>cases hc1
    ·exact plain shs'
   ·rename_i _ _ _ _ x shs' v' vs' _ e2
    injection e2 with e2 e3
    subst e2;subst e3
    exact plain shs'
   ·exact ⟨ρ,own,hs,hr,⟨hv,h⟩,.refl,fun _ _=>rfl,Nat.le_refl _,fun _ _ _ h=>h⟩
theorem absR_ok {rv:List ResultVar} {np:Nat} {rs:Sch} {st:HSt} {r:HT rs.tr} (h:absR P rv np rs st=some r) {g:Gh} {ρ:Env} {own:Own} {fr:Sl} {w:World} (hr:Rl g ρ st own fr) (hs:St w g own) :
  ∃ vs g1 ρ' own1 str,ResOk P own fr rv vs∧g.le g1∧St w g1 own1∧conT rs r=some str∧baseSt str=true∧Rl (ghB g1.b) ρ' str own1 [(0,tupled vs)]∧∀ j,j < np→ρ' j=ρ j∧∀ (bv:BV) (m:Nat),str.bl[j]? = some bv→bv.len=some m→lenAt st.bl j=some m:=by
 unfold absR at h
 split at h
 ·rename_i l hl
  split at h
  ·rename_i s hsx
   split at h
   ·rename_i st' hc
    obtain ⟨hk,h⟩:=condS h
    simp only [Bool.and_eq_true] at hk
    obtain ⟨hk,hb,hnp⟩:=hk
    have hnp:=Nat.le_of_ble_eq_true hnp
    obtain ⟨vs,h1,h2⟩:=resH_ok (P:=P) hr hl
    obtain ⟨ρc,ownc,hsc,hrc,h2c,hxc,hρc,hlc,hlenc⟩:=cutV_ok (shs:=resSh rs) (sl:=st.sl) hr hs h2
    have hr1:Rl g ρc ⟨[(0,tupH (cutV (resSh rs) l st.bl).1)],(cutV (resSh rs) l st.bl).2⟩ ownc [(0,tupled vs)]:=by
     refine ⟨hrc.len,hrc.blk,fun t sv e=>?_,hrc.gi⟩
     have e:cond (Nat.beq 0 t) (some (tupH (cutV (resSh rs) l st.bl).1)) none=some sv:=e
     obtain ⟨e1,e2⟩:=condS e
     injection e2 with e2;subst e2
     have:=Nat.eq_of_beq_eq_true e1
     subst this
     exact ⟨_,rfl,tupH_real h2c⟩
    obtain ⟨g1,ρ1,own1,h3,h4,h5,h6,h7⟩:=weaken_sem hsx hc hk hr1 hsc
    refine ⟨vs,g1,envOf s.σ ρ1,own1,st',h1,h3,h4,?_,hb,baseSt_real hb h5,fun j hj=>?_⟩
    ·unfold conT
     rw [pack_un _ h]
     exact hc
    ·have:s.σ[j]? = some (some j):=h6 j j (by
      have:=sig0_get np 0 j hj
      rw [Nat.zero_add] at this
      rw [List.getElem?_append_left (get_lt this)]
      exact this)
     have hj2:j < st.bl.length:=by omega
     refine ⟨by unfold envOf;rw [sigAt_of this];exact (h7 j (show j < (cutV (resSh rs) l st.bl).2.length by omega)).trans (hρc j hj2),fun bv m e1 e2=>?_⟩
     obtain ⟨st2,e3,hsteps,_,_,hbl⟩:=absSt_ok hsx
     rw [hc] at e3;injection e3 with e3;subst e3
     unfold joinChk absChk at hk
     simp only [Bool.and_eq_true] at hk
     obtain ⟨_,_,_,_,hlen⟩:=hk
     obtain ⟨_,bv',h8,_,h9⟩:=simBs_ctx (ρ:=ρ1) hbl (Nat.eq_of_beq_eq_true hlen) j j this
     rw [h8] at e1;injection e1 with e1;subst e1
     obtain ⟨bv3,e4,e5⟩:=h9 m e2
     have hj4:j < (cutV (resSh rs) l st.bl).2.length:=by omega
     have hj3:(cutV (resSh rs) l st.bl).2[j]? = some (cutV (resSh rs) l st.bl).2[j]:=List.getElem?_eq_getElem hj4
     obtain ⟨bv4,e6,e7,_⟩:=hsteps.grow.len hj3
     rw [e4] at e6;injection e6 with e6;subst e6
     refine hlenc j m hj2 ?_
     unfold lenAt
     rw [hj3]
     exact e7.symm.trans e5
   ·cases h
  ·cases h
 ·cases h
theorem absA_ok {rv:List ResultVar} {np:Nat} {st:HSt} {g:Gh} {ρ:Env} {own:Own} {fr:Sl} {w:World} (hr:Rl g ρ st own fr) (hs:St w g own):∀ {rs:List Sch} {r:ALT rs},absA P rv np st rs=some r →
  ∃ vs g1 ρ' own1 str,ResOk P own fr rv vs∧g.le g1∧St w g1 own1∧altC rs r=some str∧baseSt str=true∧Rl (ghB g1.b) ρ' str own1 [(0,tupled vs)]∧∀ j,j < np→ρ' j=ρ j∧∀ (bv:BV) (m:Nat),str.bl[j]? = some bv→bv.len=some m→lenAt st.bl j=some m
 | [],r,h=>by cases h
 | [s],r,h=>absR_ok h hr hs
 | s::t::l,r,h=>by
  unfold absA at h
  split at h
  ·rename_i x hx
   injection h with h;subst h
   exact absR_ok hx hr hs
  ·split at h
   ·rename_i y hy
    injection h with h;subst h
    exact absA_ok hr hs (rs:=t::l) hy
   ·cases h
theorem conL_hole {rn:Nat→Nat}:∀ {l:List BSh} {ds r:List DV} {m:List BV},conL (conB rn) l ds=some (m,r)→∀ x∈m,x.isHole=false
 | [],ds,r,m,h,x,hx=>by injection h with h;injection h with h1 h2;subst h1;cases hx
 | b::l,ds,r,m,h,x,hx=>by
  unfold conL at h
  split at h
  ·rename_i a r1 h1
   split at h
   ·rename_i m' r2 h2
    injection h with h;injection h with h3 h4;subst h3
    rcases List.mem_cons.1 hx with rfl | hx
    ·cases b <;> simp only [conB] at h1
     ·injection h1 with h1;injection h1 with h1 _;subst h1;rfl
     ·split at h1
      ·injection h1 with h1;injection h1 with h1 _;subst h1;rfl
      ·cases h1
     ·cases ds with
      | nil=>cases h1
      | cons d ds =>
       obtain ⟨dc,dx⟩:=d
       simp only [conB] at h1
       split at h1
       ·injection h1 with h1;injection h1 with h1 _;subst h1;rfl
       ·cases h1
     ·split at h1
      ·injection h1 with h1;injection h1 with h1 _;subst h1;rfl
      ·cases h1
    ·exact conL_hole h2 x hx
   ·cases h
  ·cases h
theorem conT_known {sc:Sch} {t:HT sc.tr} {st:HSt} (h:conT sc t=some st) {j:Nat} (hj:j < st.bl.length):Known st.bl j:=by
 unfold conT conSt at h
 split at h
 ·split at h
  ·rename_i b hb
   injection h with h;subst h
   exact ⟨_,List.getElem?_eq_getElem hj,conL_hole hb _ (List.getElem_mem hj)⟩
  ·cases h
 ·cases h
theorem evF_ok {f:FuncId} {fn:Func} {ps:Sch} {rs:List Sch} {h:HC} (hf:P.funcs[f]? = some fn) (hb:fn.body.isSome=true) (hn:Nat.ble ps.sl.length fn.ntmps=true):FOk P f ⟨ps,rs,evF S fn ps rs h⟩:=by
 intro t r st0 hrun hcon g ρ own vs hr hlen
 obtain ⟨c,hb⟩:=Option.isSome_iff_exists.1 hb
 have hrun:evF S fn ps rs h t=some r:=hrun
 have hcon:conT ps t=some st0:=hcon
 unfold evF at hrun
 rw [hcon,hb] at hrun
 refine ctr_of fn c fn.ntmps vs hf hb rfl (by rw [hlen];exact hn) ?_
 have hk0:∀ j,j < st0.bl.length→Known st0.bl j:=fun j hj=>conT_known hcon hj
 refine evC_ok c (A:=⟨st0.bl.length,ρ,lenAt st0.bl⟩) (g0:=g) hrun (fun e st' h'=>?_) g ρ own (argS 0 vs) (.refl _) (fun j hj=>⟨rfl,hk0 j hj,fun bv m e1 e2=>by show lenAt st0.bl j=some m;unfold lenAt;rw [e1];exact e2⟩) hr
 intro g1 ρ1 own1 fr1 hg hA hr1 a w hf hs
 have:absA P fn.results.toList st0.bl.length st' rs=some r∧(e = .normal∨e = .ret):=by
  cases e <;> first | exact ⟨h',.inl rfl⟩ | exact ⟨h',.inr rfl⟩ | cases h'
 obtain ⟨h',he⟩:=this
 obtain ⟨vs',g2,ρ',own2,str,h1,h2,h3,h4,h5,h6,h7⟩:=absA_ok hr1 hs h'
 have hfin:RetR g (fun v ψ o=>∃ str ρ',altC rs r=some str∧baseSt str=true∧Rl (ghB ψ) ρ' str o [(0,v)]∧∀ j,j < st0.bl.length→ρ' j=ρ j∧∀ (bv:BV) (m:Nat),str.bl[j]? = some bv→bv.len=some m→lenAt st0.bl j=some m) (.returned (tupled vs')) w :=
  ⟨_,g2,own2,rfl,hg.trans h2,h3,str,ρ',h4,h5,h6,fun j hj=>⟨((h7 j hj).1).trans (hA j hj).1,fun bv m e1 e2=>by
   obtain ⟨bv',e3,e4⟩:=lenAt_some ((h7 j hj).2 bv m e1 e2)
   exact (hA j hj).2.2 bv' m e3 e4⟩⟩
 rcases he with rfl | rfl
 ·exact ⟨hf.defers,_,run_results (by simp) h1 hf hs.has,hfin⟩
 ·exact ⟨hf.defers,_,run_results (by simp) h1 hf hs.has,hfin⟩
end
end Go.Proofs.YtpleflcfaecojaaGreat
