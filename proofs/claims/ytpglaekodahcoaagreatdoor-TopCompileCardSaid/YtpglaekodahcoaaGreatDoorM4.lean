/-
The merge of two rows in order,as a whole,of anything. Conditions:each lemma's own.
-/
import Derived.Test.YtpglaekodahcoaaGreatDoorM3
import Derived.Test.YtpglaekodahcoaaGreatDoorProg
import Derived.Lib.Bytealg
import Derived.Lib.Walk
import Derived.Lib.Strings
import Derived.WalkKit
import Derived.Laws.Strings3
import Derived.BigCall
import Derived.Shelf.Strings.OnBuilder
import Derived.Shelf.Strconv.Itoa4
import Derived.Lib.ItoaLen
import Derived.Shelf.Strconv.ParseIntPublic10
import Derived.Shelf.Strings.Builder1
namespace Go.Proofs.YtpglaekodahcoaaGreatDoor
set_option linter.unusedVariables false
set_option linter.unusedSimpArgs false
set_option maxRecDepth 100000
open Go.RowKit
open _root_.List renaming getD->aA,mem_cons_self->aD,mem_cons_of_mem->aE,take->aI,drop->aK,eq_nil_of_length_eq_zero->aM,mem_of_getElem?->aO,nil_append->aP,nodup_nil->aQ,length_map->aV,length_cons->bB,length_set->bE
open Go.Lib renaming compareBytes->aB,indexByte->aH,countByte->aT,decDigits->aZ,parseIntB->bA,itoa->bG
open _root_.Nat renaming eq_of_beq_eq_true->aC,blt->aG,pow_succ->aS,le_refl->aU,le_trans->bD,beq->bF,mul_comm->bH,dvd_add->bI
open _root_.Int renaming toNat_natCast->aF,tmod->aL,tdiv->bC
open _root_.Array renaming getElem?_eq_some_iff->aJ
open _root_.UInt8 renaming ofNat->aN
open Go.IntKind renaming signed->aR,bits->aW,min->aX,max->aY
variable{P:Program}{f:FuncId}{vs:List Value}{ps:Sch}{c:UInt8}{α:Type}{a:Nat}{d:α}{ih:Int->Int->Int->List α->Option (List α)}{l:List α}{cmp:α->α->Option Int}{lt:α->α->Prop}
section
def SymOk(d:α)(cmp:α->α->Option Int)(lt:α->α->Prop)(f:Int->Int->Int->List α->Option (List α))(n:Nat):Prop:=∀(a m b:Nat)(l:List α),b-a<=n->a<m->m<b->b<=l.length->l.length<=1099511627776->CmpOn cmp lt l->Srt lt d l a m->Srt lt d l m b->Tot (λr=>Rr d a b l r/\Srt lt d r a b) (f (a:Int) (m:Int) (b:Int) l)
theorem WB (o:Ord3 lt) {b:Nat} (hab:a+1 < b) (hb:b<=l.length) (hl:l.length<=1099511627776) (hc:CmpOn cmp lt l) (hs:Srt lt d l (a+1) b) :
  Tot (λr=>Rr d a b l r/\Srt lt d r a b) (gSymF d cmp ih (a:Int) ((a+1:Nat):Int) (b:Int) l):=by
 unfold gSymF;rw[Ac,cndT Ba];refine tL (λs=>∃i j:Nat,s=(((a:Int),(i:Int)),(j:Int),l)/\(a<i/\i<=j/\j<=b)/\(∀p,a<p->p<i->lt (l.getD p d) (l.getD a d))/\(∀p,j<=p->p<b->¬lt (l.getD p d) (l.getD a d))) (λs=>s.2.1.toNat-s.1.2.toNat) ?_ ⟨a+1,b,rfl,by omega,λp h1 h2=>by omega,λp h1 h2=>by omega⟩ (by simp only;omega);rintro _ ⟨i,j,rfl,⟨hi,hij,hj⟩,h1,h2⟩;dsimp only;refine tC (λhlt=>?_) λhlt=>?_
 ·have hlt:=dT hlt;rw[Jr];obtain⟨v,hv,hvl⟩:=hc.at (d:=d) (i:=(i+j)/2) (j:=a) (by omega) (by omega);rw[gdT dt,bdI,gdT dt,bdI];simp only[aF];rw[bdS hv];refine tC (λh=>?_) λh=>?_
  ·have h:=hvl.1 (dT h);rw[Ac,show(((i+j)/2:Nat):Int)+1=(((i+j)/2+1:Nat):Int) by omega];refine tGo ⟨⟨(i+j)/2+1,j,rfl,by omega,λp p1 p2=>?_,h2⟩,by simp only;omega⟩;refine Classical.byContradiction λhn=>?_;exact o.ntr _ _ _ hn (hs.le o o.irr (by omega) (by omega:p<=(i+j)/2) (by omega)) h
  ·have h:¬lt _ _:=λe=>dF h (hvl.2 e);refine tGo ⟨⟨i,(i+j)/2,rfl,by omega,h1,λp p1 p2=>?_⟩,by simp only;omega⟩;exact o.ntr _ _ _ h (hs.le o o.irr (by omega) p1 p2)
 ·have hlt:=dF hlt;have e:i=j:=by omega
  subst e;refine tDn ?_;refine WA o hl (i:=i) hi hj hb h1 h2 hs λm k k1 k2 hm=>?_;dsimp only;rw[Ac (x:=(i:Int)-1)];by_cases h:k+1<i
  ·rw[cndT dt,if_pos h,Ac,gdT dt,bdI,gdT dt,bdI,gdT dt,gdT (dt (by rw[bE];omega)),show((k:Int)+1)=((k+1:Nat):Int) by omega,aF,aF];rfl
  ·rw[cndF df,if_neg h];rfl
theorem Vl (o:Ord3 lt) {m:Nat} (ham:a+1 < m) (hb:m+1<=l.length) (hl:l.length<=1099511627776) (hc:CmpOn cmp lt l) (hs:Srt lt d l a m) :
  Tot (λr=>Rr d a (m+1) l r/\Srt lt d r a (m+1)) (gSymF d cmp ih (a:Int) (m:Int) ((m+1:Nat):Int) l):=by
 unfold gSymF;rw[Ac,cndF AU,Ac,cndT Ba];refine tL (λs=>∃i j:Nat,s=(((m:Int),(i:Int)),(j:Int),l)/\(a<=i/\i<=j/\j<=m)/\(∀p,a<=p->p<i->¬lt (l.getD m d) (l.getD p d))/\(∀p,j<=p->p<m->lt (l.getD m d) (l.getD p d))) (λs=>s.2.1.toNat-s.1.2.toNat) ?_ ⟨a,m,rfl,by omega,λp h1 h2=>by omega,λp h1 h2=>by omega⟩ (by simp only;omega);rintro _ ⟨i,j,rfl,⟨hi,hij,hj⟩,h1,h2⟩;dsimp only;refine tC (λhlt=>?_) λhlt=>?_
 ·have hlt:=dT hlt;rw[Jr];obtain⟨v,hv,hvl⟩:=hc.at (d:=d) (i:=m) (j:=(i+j)/2) (by omega) (by omega);rw[gdT dt,bdI,gdT dt,bdI];simp only[aF];rw[bdS hv];refine tC (λh=>?_) λh=>?_
  ·have h:¬lt _ _:=λe=>dF (notT h) (hvl.2 e);rw[Ac,show(((i+j)/2:Nat):Int)+1=(((i+j)/2+1:Nat):Int) by omega];refine tGo ⟨⟨(i+j)/2+1,j,rfl,by omega,λp p1 p2=>?_,h2⟩,by simp only;omega⟩;exact o.ntr _ _ _ (hs.le o o.irr p1 (by omega:p<=(i+j)/2) (by omega)) h
  ·have h:=hvl.1 (dT (notF h));refine tGo ⟨⟨i,(i+j)/2,rfl,by omega,h1,λp p1 p2=>?_⟩,by simp only;omega⟩;refine Classical.byContradiction λhn=>?_;exact o.ntr _ _ _ (hs.le o o.irr (by omega:a<=(i+j)/2) p1 p2) hn h
 ·have hlt:=dF hlt;have e:i=j:=by omega
  subst e;refine tDn ?_;refine Vk o hl (i:=i) hi hj hb h1 h2 hs λx k k1 k2 hm=>?_;dsimp only;by_cases h:i<k
  ·rw[cndT dt,if_pos h,Ac,gdT dt,bdI,gdT dt,bdI,gdT dt,gdT (dt (by rw[bE];omega)),show((k:Int)-1)=((k-1:Nat):Int) by omega,aF,aF];rfl
  ·rw[cndF df,if_neg h];rfl
theorem AbP (o:Ord3 lt) {n0 m b mid st en:Nat} (hih:SymOk d cmp lt ih n0) (hn0:b - a<=n0+1) (ham:a < m) (hmb:m < b) (hb:b<=l.length) (hl:l.length<=1099511627776) (hc:CmpOn cmp lt l) (hs1:Srt lt d l a m) (hs2:Srt lt d l m b)
  (hmid:a<mid/\mid<b) (hst:a<=st/\st<=m/\st<=mid) (hen:m<=en/\en<=b/\mid<=en) (hse:st+en=mid+m)
  (X1:∀p q,a<=p->p<st->en<=q->q<b->¬lt (l.getD q d) (l.getD p d)) (X2:∀p q,m<=p->p<en->st<=q->q<m->¬lt (l.getD q d) (l.getD p d))
  {t:List α} (ht:t.Perm l) (htg:∀k,t.getD k d=if k<st then l.getD k d else if k<mid then l.getD (k-st+m) d else if k<en then l.getD (k-mid+st) d else l.getD k d) {K:Option (List α)}
  (hK:K=bd (cond (decide (a<st)&&decide (st<mid)) (ih (a:Int) (st:Int) (mid:Int) t) (some t)) λr=>cond (decide (mid<en)&&decide (en<b)) (ih (mid:Int) (en:Int) (b:Int) r) (some r)):
  Tot (λr=>Rr d a b l r/\Srt lt d r a b) K:=by
 subst hK;have htl:t.length=l.length:=ht.length_eq;have hR:Rr d a b l t:=by
  refine⟨ht,λk hk=>?_,λk k1 k2=>?_⟩
  ·rw[htg];by_cases e1:k<st
   ·rw[if_pos e1]
   ·rw[if_neg e1,if_neg (by omega),if_neg (by omega)]
  ·rw[htg];by_cases e1:k<st
   ·rw[if_pos e1];exact⟨k,k1,k2,rfl⟩
   ·rw[if_neg e1];by_cases e2:k<mid
    ·rw[if_pos e2];exact⟨_,by omega,by omega,rfl⟩
    ·rw[if_neg e2];by_cases e3:k<en
     ·rw[if_pos e3];exact⟨_,by omega,by omega,rfl⟩
     ·rw[if_neg e3];exact⟨k,k1,k2,rfl⟩
 have g1:∀k,k<st->t.getD k d=l.getD k d:=λk h=>by rw[htg,if_pos h]
 have g2:∀k,st<=k->k<mid->t.getD k d=l.getD (k-st+m) d:=λk h h2=>by rw[htg,if_neg (by omega),if_pos h2]
 have g3:∀k,mid<=k->k<en->t.getD k d=l.getD (k-mid+st) d:=λk h h2=>by rw[htg,if_neg (by omega),if_neg (by omega),if_pos h2]
 have g4:∀k,en<=k->t.getD k d=l.getD k d:=λk h=>by rw[htg,if_neg (by omega),if_neg (by omega),if_neg (by omega)]
 have s1:Srt lt d t a st:=λp q p1 p2 p3=>by rw[g1 p (by omega),g1 q p3];exact hs1 p q p1 p2 (by omega)
 have s2:Srt lt d t st mid:=λp q p1 p2 p3=>by rw[g2 p p1 (by omega),g2 q (by omega) p3];exact hs2 _ _ (by omega) (by omega) (by omega)
 have s3:Srt lt d t mid en:=λp q p1 p2 p3=>by rw[g3 p p1 (by omega),g3 q (by omega) p3];exact hs1 _ _ (by omega) (by omega) (by omega)
 have s4:Srt lt d t en b:=λp q p1 p2 p3=>by rw[g4 p p1,g4 q (by omega)];exact hs2 _ _ (by omega) (by omega) (by omega)
 have X:∀p q,a<=p->p<mid->mid<=q->q<b->¬lt (t.getD q d) (t.getD p d):=λp q p1 p2 q1 q2=>by
  by_cases e1:p<st
  ·rw[g1 p e1];by_cases e2:q<en
   ·rw[g3 q q1 e2];exact hs1 _ _ p1 (by omega) (by omega)
   ·rw[g4 q (by omega)];exact X1 _ _ p1 e1 (by omega) q2
  ·rw[g2 p (by omega) p2];by_cases e2:q<en
   ·rw[g3 q q1 e2];exact X2 _ _ (by omega) (by omega) (by omega) (by omega)
   ·rw[g4 q (by omega)];exact hs2 _ _ (by omega) (by omega) q2
 refine tB (P:=λr=>Rr d a mid t r/\Srt lt d r a mid) ?_ λr hr=>?_
 ·by_cases e:a<st/\st<mid
  ·rw[dt e.1,dt e.2];exact hih a st mid t (by omega) e.1 e.2 (by omega) (by omega) (hc.perm ht) s1 s2
  ·have:(decide (a < st)&&decide (st < mid))=false:=by
    by_cases e1:a<st
    ·rw[df (show¬st<mid from λh=>e ⟨e1,h⟩),Bool.and_false]
    ·rw[df e1,Bool.false_and]
   rw[this];refine tS ⟨Rr.refl _ _ _,?_⟩;by_cases e1:a<st
   ·have:st=mid:=by omega
    rw[this]at s1;exact s1
   ·have:st=a:=by omega
    rw[this]at s2;exact s2
 ·obtain⟨r1,r2⟩:=hr;have hrl:=r1.len;have s3':Srt lt d r mid en:=λp q p1 p2 p3=>by rw[r1.2.1 p (by omega),r1.2.1 q (by omega)];exact s3 p q p1 p2 p3
  have s4':Srt lt d r en b:=λp q p1 p2 p3=>by rw[r1.2.1 p (by omega),r1.2.1 q (by omega)];exact s4 p q p1 p2 p3
  refine tW (R:=λz=>Rr d mid b r z/\Srt lt d z mid b) ?_ λz hz=>?_
  ·by_cases e:mid<en/\en<b
   ·rw[dt e.1,dt e.2];exact hih mid en b r (by omega) e.1 e.2 (by omega) (by omega) (hc.perm (r1.1.trans ht)) s3' s4'
   ·have:(decide (mid < en)&&decide (en < b))=false:=by
     by_cases e1:mid<en
     ·rw[df (show¬en<b from λh=>e ⟨e1,h⟩),Bool.and_false]
     ·rw[df e1,Bool.false_and]
    rw[this];refine tS ⟨Rr.refl _ _ _,?_⟩;by_cases e1:mid<en
    ·have:en=b:=by omega
     rw[this]at s3';exact s3'
    ·have:en=mid:=by omega
     rw[this]at s4';exact s4'
  ·obtain⟨z1,z2⟩:=hz;refine⟨hR.trans ((r1.wide (aU _) (by omega)).trans (z1.wide (by omega) (aU _))),λp q p1 p2 p3=>?_⟩
   by_cases e1:q<mid
   ·rw[z1.2.1 p (by omega),z1.2.1 q (by omega)];exact r2 p q p1 p2 e1
   ·by_cases e2:mid<=p
    ·exact z2 p q e2 p2 p3
    ·obtain⟨j,j1,j2,j3⟩:=z1.2.2 q (by omega) p3;obtain⟨i,i1,i2,i3⟩:=r1.2.2 p p1 (by omega);rw[z1.2.1 p (by omega),j3,r1.2.1 j (by omega),i3];exact X i j i1 i2 j1 j2
end
section
theorem AbQ {st m en:Nat} (h1:st<=m) (h2:m<=en) (h3:en<=l.length) (hl:l.length<=1099511627776) :
  ∃t,t.Perm l/\(∀mid,st+en=mid+m->∀k,t.getD k d=if k<st then l.getD k d else if k<mid then l.getD (k-st+m) d else if k<en then l.getD (k-mid+st) d else l.getD k d)/\
   (st<m->m<en->gRot d (st:Int) (m:Int) (en:Int) l=some t)/\(¬(st<m/\m<en)->t=l):=by
 obtain⟨A,U,V,Z,rfl,e1,e2,e3⟩:=AlI l h1 h2 h3;refine⟨A++(V++(U++Z)),?_,λmid hm k=>?_,λa1 a2=>?_,λhn=>?_⟩
 ·refine List.Perm.append_left A ?_;rw[<-List.append_assoc,<-List.append_assoc];exact List.Perm.append_right Z List.perm_append_comm
 ·rw[AbO];by_cases c1:k<A.length
  ·rw[if_pos c1,if_pos (show k<st by omega)]
  ·rw[if_neg c1,if_neg (show¬k<st by omega)];by_cases c2:k<A.length+V.length
   ·rw[if_pos c2,if_pos (show k<mid by omega),show k+U.length=k-st+m by omega]
   ·rw[if_neg c2,if_neg (show¬k<mid by omega)];by_cases c3:k<A.length+V.length+U.length
    ·rw[if_pos c3,if_pos (show k<en by omega),show k-V.length=k-mid+st by omega]
    ·rw[if_neg c3,if_neg (show¬k<en by omega)]
 ·exact AbN A U V Z e1 e2 e3 (λh=>by rw[h]at e2;simp at e2;omega) (λh=>by rw[h]at e3;simp at e3;omega) hl
 ·by_cases c:st<m
  ·have:V=[]:=aM (by omega);rw[this,aP,aP]
  ·have:U=[]:=aM (by omega);rw[this,aP,aP]
theorem AbR (o:Ord3 lt) {n0 m b:Nat} (hih:SymOk d cmp lt ih n0) (hn0:b - a<=n0+1) (ham:a+1 < m) (hmb:m+1 < b) (hb:b<=l.length) (hl:l.length<=1099511627776) (hc:CmpOn cmp lt l) (hs1:Srt lt d l a m) (hs2:Srt lt d l m b) :
  Tot (λr=>Rr d a b l r/\Srt lt d r a b) (gSymF d cmp ih (a:Int) (m:Int) (b:Int) l):=by
 unfold gSymF;rw[Ac,cndF AU,Ac,cndF AU];rw[Jr (x:=a) (y:=b)];obtain⟨mid,hmid⟩:∃mid,mid=(a+b)/2:=⟨_,rfl⟩
 rw[<-hmid];refine tB (P:=λv=>∃lo hi:Nat,v=(((((a:Int),(m:Int)),(b:Int),(mid:Int)),(((mid+m:Nat):Int),(lo:Int)),(hi:Int),l))/\(a<=lo/\lo<=hi/\hi<=m/\hi<=mid/\mid+m<=lo+b/\m<=mid+m-hi/\mid<=mid+m-hi)/\(lo=a\/lo+b=mid+m)/\(hi=m\/hi=mid)) ?_ ?_
 ·rw[Ac (x:=(mid:Int)+(m:Int)),Ac];refine tC (λh=>?_) λh=>?_
  ·have h:=dT h;refine tS ⟨mid+m-b,mid,?_,by omega,.inr (by omega),.inr rfl⟩;rw[show(mid:Int)+(m:Int)-(b:Int)=((mid+m-b:Nat):Int) by omega,show(mid:Int)+(m:Int)=((mid+m:Nat):Int) by omega]
  ·have h:=dF h;refine tS ⟨a,m,?_,by omega,.inl rfl,.inl rfl⟩;rw[show(mid:Int)+(m:Int)=((mid+m:Nat):Int) by omega]
 rintro _ ⟨lo,hi,rfl,⟨b1,b2,b3,b4,b5,b6,b7⟩,hlo,hhi⟩;dsimp only;rw[Ac];refine tL (λs=>∃st r:Nat,s=(((((a:Int),(m:Int)),(b:Int),(mid:Int)),(((mid+m:Nat):Int),(st:Int)),(r:Int),((mid+m:Nat):Int)-1,l))/\(lo<=st/\st<=r/\r<=hi)/\(∀c,lo<=c->c<st->¬lt (l.getD (mid+m-1-c) d) (l.getD c d))/\(∀c,r<=c->c<hi->lt (l.getD (mid+m-1-c) d) (l.getD c d))) (λs=>s.2.2.1.toNat-s.2.1.2.toNat) ?_ ⟨lo,hi,rfl,by omega,λc h1 h2=>by omega,λc h1 h2=>by omega⟩ (by simp only;omega);rintro _ ⟨st,r,rfl,⟨c1,c2,c3⟩,F1,F2⟩;dsimp only;refine tC (λhlt=>?_) λhlt=>?_
 ·have hlt:=dT hlt;rw[Jr];obtain⟨c,hcd⟩:∃c,c=(st+r)/2:=⟨_,rfl⟩
  rw[<-hcd];obtain⟨v,hv,hvl⟩:=hc.at (d:=d) (i:=mid+m-1-c) (j:=c) (by omega) (by omega);rw[Ac,show((mid+m:Nat):Int)-1-(c:Int)=((mid+m-1-c:Nat):Int) by omega,gdT dt,bdI,gdT dt,bdI];simp only[aF];rw[bdS hv];refine tC (λh=>?_) λh=>?_
  ·have h:¬lt _ _:=λe=>dF (notT h) (hvl.2 e);rw[Ac,show(c:Int)+1=((c+1:Nat):Int) by omega];refine tGo ⟨⟨c+1,r,rfl,by omega,λx x1 x2=>?_,F2⟩,by simp only;omega⟩;have h1:=hs1.le o o.irr (by omega:a<=x) (by omega:x<=c) (by omega);have h2:=hs2.le o o.irr (by omega:m<=mid+m-1-c) (by omega:mid+m-1-c<=mid+m-1-x) (by omega);exact o.ntr _ _ _ (o.ntr _ _ _ h1 h) h2
  ·have h:=hvl.1 (dT (notF h));refine tGo ⟨⟨st,c,rfl,by omega,F1,λx x1 x2=>?_⟩,by simp only;omega⟩;refine Classical.byContradiction λhn=>?_;have h1:=hs1.le o o.irr (by omega:a<=c) (by omega:c<=x) (by omega);have h2:=hs2.le o o.irr (by omega:m<=mid+m-1-x) (by omega:mid+m-1-x<=mid+m-1-c) (by omega);exact o.ntr _ _ _ (o.ntr _ _ _ h1 hn) h2 h
 ·have hlt:=dF hlt;have e:st=r:=by omega
  subst e;have X1:∀p q,a<=p->p<st->mid+m-st<=q->q<b->¬lt (l.getD q d) (l.getD p d):=λp q p1 p2 q1 q2=>by have hF:=F1 (st-1) (by omega) (by omega);rw[show mid+m-1-(st-1)=mid+m-st by omega]at hF;have h1:=hs1.le o o.irr p1 (by omega:p<=st-1) (by omega);have h2:=hs2.le o o.irr (by omega:m<=mid+m-st) q1 q2;exact o.ntr _ _ _ (o.ntr _ _ _ h1 hF) h2
  have X2:∀p q,m<=p->p<mid+m-st->st<=q->q<m->¬lt (l.getD q d) (l.getD p d):=λp q p1 p2 q1 q2=>by have hF:=F2 st (by omega) (by omega);have h1:=hs2.le o o.irr p1 (by omega:p<=mid+m-1-st) (by omega);have h2:=hs1.le o o.irr (by omega:a<=st) q1 q2;exact o.ntr _ _ _ (o.ntr _ _ _ h1 (o.asy _ _ hF)) h2
  obtain⟨t,t1,t2,t3,t4⟩:=AbQ (d:=d) (l:=l) (st:=st) (m:=m) (en:=mid+m-st) (by omega) (by omega) (by omega) hl;refine tDn ?_;rw[Ac,show((mid+m:Nat):Int)-(st:Int)=((mid+m-st:Nat):Int) by omega];refine AbP o (n0:=n0) (mid:=mid) (st:=st) (en:=mid+m-st) hih hn0 (by omega) (by omega) hb hl hc hs1 hs2 (by omega) (by omega) (by omega) (by omega) X1 X2 t1 (t2 mid (by omega)) ?_;have eA:(bd (α:=((Int×Int×Int)×Int×Int×List α)) (bd (α:=((Int×Int)×Int×Int)×(Int×Int)×Bool×List α) (cnd (decide ((st:Int)<(m:Int))) (some ((((a:Int),(m:Int)),(b:Int),(mid:Int)),((st:Int),((mid+m-st:Nat):Int)),(decide ((m:Int)<((mid+m-st:Nat):Int))),l)) (some ((((a:Int),(m:Int)),(b:Int),(mid:Int)),((st:Int),((mid+m-st:Nat):Int)),false,l))) (λv33=>(cnd v33.2.2.1 (bd (α:=(List α)) (gRot d v33.2.1.1 v33.1.1.2 v33.2.1.2 v33.2.2.2) (λv34=>(some ((v33.1.1.1,v33.1.2),v33.2.1.1,v33.2.1.2,v34)))) (some ((v33.1.1.1,v33.1.2),v33.2.1.1,v33.2.1.2,v33.2.2.2))))) some)=some (((a:Int),(b:Int),(mid:Int)),(st:Int),((mid+m-st:Nat):Int),t):=by
   by_cases g1:st<m
   ·rw[cndT dt,bdI];dsimp only;by_cases g2:m<mid+m-st
    ·rw[cndT dt,bdS (t3 g1 g2),bdI]
    ·rw[cndF df,bdI,t4 (λh=>g2 h.2)]
   ·rw[cndF df,bdI];dsimp only;rw[cndF rfl,bdI,t4 (λh=>g1 h.1)]
  have eB:∀(x:Option ((Int×Int×Int)×Int×Int×List α)),bd x some=x:=λx=>by cases x<;>rfl
  rw[eB]at eA;refine(bdS eA).trans ?_;dsimp only;have k1:(bd (α:=((Int×Int×Int)×(Int×Int)×Bool×List α)) (cnd (decide ((a:Int)<(st:Int))) (some (((a:Int),(b:Int),(mid:Int)),((st:Int),((mid+m-st:Nat):Int)),(decide ((st:Int)<(mid:Int))),t)) (some (((a:Int),(b:Int),(mid:Int)),((st:Int),((mid+m-st:Nat):Int)),false,t))) (λv36=>(cnd v36.2.2.1 (bd (α:=(List α)) (ih v36.1.1 v36.2.1.1 v36.1.2.2 v36.2.2.2) (λv37=>(some (v36.1.2,v36.2.1.2,v37)))) (some (v36.1.2,v36.2.1.2,v36.2.2.2)))))=bd (cond (decide (a<st)&&decide (st<mid)) (ih (a:Int) (st:Int) (mid:Int) t) (some t)) λr=>some (((b:Int),(mid:Int)),((mid+m-st:Nat):Int),r):=by
   by_cases g1:a<st
   ·rw[cndT dt,bdI,dt g1];dsimp only;by_cases g2:st<mid
    ·rw[cndT dt,dt g2];rfl
    ·rw[cndF df,df g2];rfl
   ·rw[cndF df,bdI,df g1];dsimp only;rw[cndF rfl];rfl
  rw[k1];cases hx:(cond (decide (a<st)&&decide (st<mid)) (ih (a:Int) (st:Int) (mid:Int) t) (some t))with
  |none=>rfl
  |some z=>
   rw[bdI,bdI,bdI];dsimp only;by_cases g1:mid<mid+m-st
   ·rw[cndT dt,bdI,dt g1];dsimp only;by_cases g2:mid+m-st<b
    ·rw[cndT dt,dt g2];show bd (ih _ _ _ z) some=_;generalize ih _ _ _ z=y;cases y<;>rfl
    ·rw[cndF df,df g2];rfl
   ·rw[cndF df,bdI,df g1];dsimp only;rw[cndF rfl];rfl
theorem WC(o:Ord3 lt):∀(n k:Nat),n<k->SymOk d cmp lt (gSym d cmp k) n:=by
 intro n;induction n with
 |zero=>intro k hk a m b l h h1 h2;omega
 |succ n ih=>
  intro k hk a m b l h h1 h2 h3 h4 hc hs1 hs2;obtain⟨j,rfl⟩:∃j,k=j+1:=⟨k-1,by omega⟩
  show Tot _ (gSymF d cmp (gSym d cmp j) (a:Int) (m:Int) (b:Int) l);by_cases c1:m=a+1
  ·subst c1;exact WB o h2 h3 h4 hc hs2
  ·by_cases c2:b=m+1
   ·subst c2;exact Vl o (by omega) h3 h4 hc hs1
   ·exact AbR o (ih j (by omega)) h (by omega) (by omega) h3 h4 hc hs1 hs2
theorem Hs{t x:Nat}(h1:t∣x)(h2:t∣a)(h:x<a:=by omega):x+t<=a:=by have:=Nat.le_of_dvd (by omega) (Nat.dvd_sub h2 h1);omega
theorem KK(o:Ord3 lt)(hl:l.length<=1099511627776)(hc:CmpOn cmp lt l):Tot (λr=>r.Perm l/\Srt lt d r 0 l.length) (gStab d cmp ((l.length:Nat):Int) l):=by
 unfold gStab;refine tL (λs=>∃(a:Nat)(m:List α),s=((((l.length:Nat):Int),(a:Int)),((a+20:Nat):Int),m)/\(a<=l.length/\20∣a)/\m.Perm l/\∀x,x<a->20∣x->Srt lt d m x (x+20)) (λs=>l.length+20-s.1.2.toNat) ?_ ⟨0,l,rfl,⟨by omega,⟨0,rfl⟩⟩,List.Perm.refl _,λx h=>by omega⟩ (by simp only;omega);rintro _ ⟨a,m,rfl,⟨ha,hd⟩,hp,hs⟩;have hml:=hp.length_eq;dsimp only;refine tC (λhlt=>?_) λhlt=>tDn ?_
 ·have hlt:=dT hlt;refine tB (SQ o (by omega) (hc.perm hp) a (a+20) (by omega)) λr hr=>?_;rw[Ac,show((a+20:Nat):Int)+20=((a+20+20:Nat):Int) by omega];refine tGo ⟨⟨a+20,r,rfl,⟨by omega,bI hd ⟨1,rfl⟩⟩,hr.1.1.trans hp,λx hx hx2=>?_⟩,by simp only;omega⟩;by_cases e:x<a
  ·have:=Hs hx2 hd e;intro p q p1 p2 p3;rw[hr.1.2.1 p (by omega),hr.1.2.1 q (by omega)];exact hs x e hx2 p q p1 p2 p3
  ·have:x=a:=by
    by_cases e2:a=x
    ·exact e2.symm
    ·have:=Hs hd hx2;omega
   subst this;exact hr.2
 ·have hlt:=dF hlt;refine tB (SQ o (by omega) (hc.perm hp) a l.length ha) λr hr=>?_;have hbl:∀x,20∣x->Srt lt d r x (min (x+20) l.length):=λx hx=>by
   by_cases e:x<a
   ·have:=Hs hx hd e;intro p q p1 p2 p3;rw[hr.1.2.1 p (by omega),hr.1.2.1 q (by omega)];exact hs x e hx p q p1 p2 (by omega)
   ·exact hr.2.sub (by omega) (by omega)
  refine tL (λs=>∃(s0:Nat)(m:List α),s=(((l.length:Nat):Int),(s0:Int),m)/\(20<=s0/\s0<=l.length+l.length+20)/\m.Perm l/\∀x,s0∣x->Srt lt d m x (min (x+s0) l.length)) (λs=>l.length-s.2.1.toNat) ?_ ⟨20,r,rfl,by omega,hr.1.1.trans hp,hbl⟩ (by simp only;omega);rintro _ ⟨s0,m2,rfl,⟨hs0,hs1⟩,hp2,hq⟩;dsimp only;refine tC (λhlt2=>?_) λhlt2=>tDn (tS ⟨hp2,?_⟩)
  ·have hlt2:=dT hlt2;rw[Ac (x:=2*(s0:Int))];refine tL (λs=>∃(a:Nat)(m:List α),s=((((l.length:Nat):Int),(s0:Int)),(a:Int),((a+2*s0:Nat):Int),m)/\(a<=l.length/\2*s0∣a)/\m.Perm l/\(∀x,x<a->2*s0∣x->Srt lt d m x (x+2*s0))/\∀x,a<=x->s0∣x->Srt lt d m x (min (x+s0) l.length)) (λs=>l.length+1-s.2.1.toNat) ?_ ⟨0,m2,by simp,⟨by omega,⟨0,rfl⟩⟩,hp2,λx h=>by omega,λx _ h=>hq x h⟩ (by simp only;omega);rintro _ ⟨a2,m3,rfl,⟨ha2,hd2⟩,hp3,hA,hB⟩;have hml3:=hp3.length_eq;have ds:s0∣a2:=Nat.dvd_trans ⟨2,by omega⟩ hd2;have dss:s0∣a2+s0:=bI ds ⟨1,by omega⟩;dsimp only;rw[Ac (x:=(a2:Int)+(s0:Int))];have fin:∀r:List α,Rr d a2 (min (a2+2*s0) l.length) m3 r->∀x,x<a2->2*s0∣x->Srt lt d r x (x+2*s0):=λr hr x hx hx2=>by have:=Hs hx2 hd2 hx;intro p q p1 p2 p3;rw[hr.2.1 p (by omega),hr.2.1 q (by omega)];exact hA x hx hx2 p q p1 p2 p3
   refine tC (λhlt3=>?_) λhlt3=>?_
   ·have hlt3:=dT hlt3;have g1:=hB a2 (aU _) ds;have g2:=hB (a2+s0) (by omega) dss;rw[show min (a2+s0) l.length=a2+s0 by omega]at g1;rw[show min (a2+s0+s0) l.length=a2+2*s0 by omega]at g2;have hk:=WC (d:=d) (cmp:=cmp) o (2*s0) fuelN (by show 2*s0<18446744073709551616;omega) a2 (a2+s0) (a2+2*s0) m3 (by omega) (by omega) (by omega) (by omega) (by omega) (hc.perm hp3) g1 g2;rw[show(a2:Int)+(s0:Int)=((a2+s0:Nat):Int) by omega];refine tB hk λr hr=>?_;rw[Ac (x:=2*(s0:Int)),Ac,show((a2+2*s0:Nat):Int)+2*(s0:Int)=((a2+2*s0+2*s0:Nat):Int) by omega];have hr1:Rr d a2 (min (a2+2*s0) l.length) m3 r:=by rw[show min (a2+2*s0) l.length=a2+2*s0 by omega];exact hr.1
    refine tGo ⟨⟨a2+2*s0,r,rfl,⟨by omega,bI hd2 ⟨1,by omega⟩⟩,hr.1.1.trans hp3,λx hx hx2=>?_,λx hx hx2=>?_⟩,by simp only;omega⟩
    ·by_cases e:x<a2
     ·exact fin r hr1 x e hx2
     ·have:x=a2:=by
       by_cases e2:a2=x
       ·exact e2.symm
       ·have:=Hs hd2 hx2;omega
      subst this;exact hr.2
    ·intro p q p1 p2 p3;rw[hr.1.2.1 p (by omega),hr.1.2.1 q (by omega)];exact hB x (by omega) hx2 p q p1 p2 p3
   ·have hlt3:=dF hlt3;have fin2:∀r:List α,Rr d a2 (min (a2+2*s0) l.length) m3 r->Srt lt d r a2 l.length->∀x,2*s0∣x->Srt lt d r x (min (x+2*s0) l.length):=λr hr hr2 x hx2=>by
     by_cases e:x<a2
     ·exact(fin r hr x e hx2).sub (aU _) (by omega)
     ·exact hr2.sub (by omega) (by omega)
    refine tDn ?_;rw[Ac (x:=(s0:Int)*2)];refine tC (λhlt4=>?_) λhlt4=>?_
    ·have hlt4:=dT hlt4;have g1:=hB a2 (aU _) ds;have g2:=hB (a2+s0) (by omega) dss;rw[show min (a2+s0) l.length=a2+s0 by omega]at g1;rw[show min (a2+s0+s0) l.length=l.length by omega]at g2;have hk:=WC (d:=d) (cmp:=cmp) o l.length fuelN (by show l.length<18446744073709551616;omega) a2 (a2+s0) l.length m3 (by omega) (by omega) (by omega) (by omega) (by omega) (hc.perm hp3) g1 g2;rw[show(a2:Int)+(s0:Int)=((a2+s0:Nat):Int) by omega];refine tB hk λr hr=>?_;have hr1:Rr d a2 (min (a2+2*s0) l.length) m3 r:=by rw[show min (a2+2*s0) l.length=l.length by omega];exact hr.1
     refine tS (show CP _ _ _ from⟨⟨2*s0,r,by rw[show(s0:Int)*2=((2*s0:Nat):Int) by omega],by omega,hr.1.1.trans hp3,fin2 r hr1 hr.2⟩,by simp only;omega⟩)
    ·have hlt4:=dF hlt4;have g1:=hB a2 (aU _) ds;rw[show min (a2+s0) l.length=l.length by omega]at g1;refine tS (show CP _ _ _ from⟨⟨2*s0,m3,by rw[show(s0:Int)*2=((2*s0:Nat):Int) by omega],by omega,hp3,fin2 m3 (Rr.refl _ _ _) g1⟩,by simp only;omega⟩)
  ·have hlt2:=dF hlt2;have:=hq 0 ⟨0,rfl⟩;rw[show min (0+s0) l.length=l.length by omega]at this;exact this
end
open Go.RowKit Go.Lib
def rI:List Sch:=[⟨[(0,.v (.c (.i .i64)))],[]⟩]
theorem Nb {run:HT ps.tr->Option Int}
  (h:∀t r st0,run t=some r->conT ps t=some st0->st0.bl=[]/\∀g ρ own vs,Rl g ρ st0 own (argS 0 vs)->vs.length=ps.sl.length->inK .i64 r/\∀w,Calls P f vs.toArray w λe w'=>e= .returned (.int .i64 r)/\w'=w):FOk P f ⟨ps,rI,run⟩:=by
 intro t r st0 hr hc g ρ own vs hR hl w hs;obtain⟨h0,h⟩:=h t r st0 hr hc;obtain⟨h1,h2⟩:=h g ρ own vs hR hl;refine(h2 w).mono λe w' ⟨he,hb⟩=>⟨_,g,[],he,.refl g,⟨by rw[hb];exact hs.r,aQ,λk hk=>(by cases hk),λk hk=>(by cases hk),Sat.nil _ _⟩,⟨[(0,vC (.int .i64 r))],[]⟩,ρ,rfl,rfl,⟨rfl,λi bv k e=>(by cases e),λt sv e=>?_,hR.gi⟩,λj hj=>(by rw[h0]at hj;cases hj)⟩
 have e:cond (bF 0 t) (some (vC (.int .i64 r))) none=some sv:=e;obtain⟨e1,e2⟩:=condS e;injection e2 with e2;subst e2;have:=aC e1;subst this;exact⟨_,rfl,rfl,h1⟩
theorem two(h:vs.length=2):∃a b,vs=[a,b]:=by
 match vs,h with
 | [a,b],_=>exact⟨a,b,rfl⟩
theorem Nc(l:Bt)(c:UInt8):aH l c<(l.length:Int)\/aH l c= -1:=by
 induction l with
 |nil=>exact .inr rfl
 |cons b l ih=>
  unfold aH;have hl:((b::l).length:Int)=(l.length:Int)+1:=by simp
  split
  ·left;omega
  ·split
   ·exact .inr rfl
   ·rename_i h1 h2;rcases ih with h|h
    ·left;omega
    ·rw[h]at h2;exact absurd rfl h2
def ixB(c:UInt8):Bt->Int->Int
 | [],_=>-1
 |b::l,k=>cond (b==c) k (ixB c l (k+1))
theorem WD(c:UInt8):∀(l:Bt)(k:Int),0<=k->ixB c l k=(if aH l c= -1 then-1 else aH l c+k)
 | [],k,_=>rfl
 |b::l,k,hk=>by
  have hge:=Lib.indexByte_ge l c;unfold ixB aH;cases e:(b==c)with
  |true=>simp
  |false=>
   simp only[cond_false,Bool.false_eq_true,if_false];rw[WD c l (k+1) (by omega)];by_cases h:aH l c= -1
   ·rw[if_pos h,h];rfl
   ·have:(aH l c==-1)=false:=by simpa using h
    rw[if_neg h,this];simp only[Bool.false_eq_true,if_false];rw[if_neg (by omega)];omega
theorem KL(s:Bt):(mkS s).data.toList=s:=by simp[mkS]
def p286:Sch:=⟨[(0,.v (.c (.s))),(1,.v (.c (.i .u8)))],[]⟩
def o286(s:Bt)(c:Int):Option Int:=some (ixB (u8 c) s 0)
theorem AgO:FOk Tryz.prog 286 ⟨p286,rI,λt=>o286 t.1 t.2⟩:=Nb λ(t:Bt×Int) r st0 hr hc=>by
 obtain⟨s,c⟩:=t;have hc:some (⟨[(0,vC (.str s)),(1,vC (.int .u8 c))],[]⟩:HSt)=some st0:=hc;injection hc with hc;subst hc;refine⟨rfl,λg ρ own vs hR hl=>?_⟩
 obtain⟨a,b,rfl⟩:=two hl;obtain⟨v1,h1,h2⟩:=hR.slot 0 _ rfl;injection h1 with h1;subst h1;obtain⟨v2,h3,h4⟩:=hR.slot 1 _ rfl;injection h3 with h3;subst h3;obtain⟨h2,hls⟩:a= .string (mkS s)/\s.length<=1125899906842624:=h2;obtain⟨h4,_⟩:b= .int .u8 c/\inK .u8 c:=h4;subst h2;subst h4;have hr:some (ixB (u8 c) s 0)=some r:=hr;injection hr with hr;have hr:r=aH s (u8 c):=by
  rw[<-hr,WD _ _ _ (Int.le_refl 0)];split
  ·rename_i h;exact h.symm
  ·omega
 subst hr;have hge:=Lib.indexByte_ge s (u8 c);have hlt:=Nc s (u8 c);refine⟨by simp[inK,aX,aY,aR,aW];omega,λw=>?_⟩
 have hdata:(mkS s).data.toList=s:=by simp[mkS]
 go_enter Tryz.func286,(show(Tryz.f286).ntmps=8 from rfl)
 go_wp2
 rw[run_callFunc_extern Tryz.func308 (by kernel_rfl) (by kernel_rfl) (by kernel_rfl) (e:=Extern.BytealgIndexByte.indexByte) (by kernel_rfl),Lib.run_indexByteString];simp only[Result.andThen];rw[Oper.upon_value]
 go_wp2
 go_ret
 exact⟨rfl,rfl⟩
theorem EV:∀s c:Bt,compareBytes s c= -1\/compareBytes s c=0\/compareBytes s c=1
 | [],[]=>by simp[compareBytes]
 | [],_::_=>by simp[compareBytes]
 |_::_,[]=>by simp[compareBytes]
 |a::s,b::c=>by
  unfold compareBytes;have ih:=EV s c;split
  ·simp
  ·split
   ·simp
   ·exact ih
def p174:Sch:=⟨[(0,.v (.c (.s))),(1,.v (.c (.s)))],[]⟩
def o174(s c:Bt):Option Int:=some (compareBytes s c)
theorem AgP:FOk Tryz.prog 174 ⟨p174,rI,λt=>o174 t.1 t.2⟩:=Nb λ(t:Bt×Bt) r st0 hr hc=>by
 obtain⟨s,c⟩:=t;have hc:some (⟨[(0,vC (.str s)),(1,vC (.str c))],[]⟩:HSt)=some st0:=hc;injection hc with hc;subst hc;refine⟨rfl,λg ρ own vs hR hl=>?_⟩
 obtain⟨a,b,rfl⟩:=two hl;obtain⟨v1,h1,h2⟩:=hR.slot 0 _ rfl;injection h1 with h1;subst h1;obtain⟨v2,h3,h4⟩:=hR.slot 1 _ rfl;injection h3 with h3;subst h3;obtain⟨h2,hls⟩:a= .string (mkS s)/\s.length<=1125899906842624:=h2;obtain⟨h4,hlc⟩:b= .string (mkS c)/\c.length<=1125899906842624:=h4;subst h2;subst h4;have hr:some (compareBytes s c)=some r:=hr;injection hr with hr;subst hr;have hin:=EV s c;refine⟨by simp[inK,aX,aY,aR,aW];omega,λw=>?_⟩
 go_enter Tryz.func174,(show(Tryz.f174).ntmps=8 from rfl)
 go_wp2
 rw[run_callFunc_extern Tryz.func240 (by kernel_rfl) (by kernel_rfl) (by kernel_rfl) (e:=Extern.BytealgCompare.compare) (by kernel_rfl),Lib.run_compareString];simp only[Result.andThen];rw[Oper.upon_value]
 go_wp2
 go_ret
 simp[KL]
def p204:Sch:=⟨[(0,.v (.c (.s))),(1,.v (.c (.s)))],[]⟩
def o204(s c:Bt):Option Int:=cond (c.length==1) (some ((countByte s (c.getD 0 0):Nat):Int)) none
theorem AgQ:FOk Tryz.prog 204 ⟨p204,rI,λt=>o204 t.1 t.2⟩:=Nb λ(t:Bt×Bt) r st0 hr hc=>by
 obtain⟨s,c⟩:=t;have hc:some (⟨[(0,vC (.str s)),(1,vC (.str c))],[]⟩:HSt)=some st0:=hc;injection hc with hc;subst hc;refine⟨rfl,λg ρ own vs hR hl=>?_⟩
 obtain⟨a,b,rfl⟩:=two hl;obtain⟨v1,h1,h2⟩:=hR.slot 0 _ rfl;injection h1 with h1;subst h1;obtain⟨v2,h3,h4⟩:=hR.slot 1 _ rfl;injection h3 with h3;subst h3;obtain⟨h2,hls⟩:a= .string (mkS s)/\s.length<=1125899906842624:=h2;obtain⟨h4,hlc⟩:b= .string (mkS c)/\c.length<=1125899906842624:=h4;subst h2;subst h4;have hr:cond (c.length==1) (some ((countByte s (c.getD 0 0):Nat):Int)) none=some r:=hr;obtain⟨hc1,hr⟩:=condS hr;injection hr with hr;subst hr;have hc1:c.length=1:=by simpa using hc1
 obtain⟨x,rfl⟩:∃x,c=[x]:=by
  match c,hc1 with
  | [x],_=>exact⟨x,rfl⟩
 have hle:countByte s x<=s.length:=List.count_le_length;refine⟨by simp[inK,aX,aY,aR,aW];omega,λw=>?_⟩
 go_enter Tryz.func204,(show(Tryz.f204).ntmps=34 from rfl)
 go_wp2
 ·rw[run_callFunc_extern Tryz.func252 (by kernel_rfl) (by kernel_rfl) (by kernel_rfl) (e:=Extern.BytealgCount.count) (by kernel_rfl),Lib.run_countString];simp only[Result.andThen];rw[Oper.upon_value]
  go_wp2
  go_ret
  exact⟨rfl,rfl⟩
 ·rename_i h0;exact absurd (show 0<(mkS [x]).size by rw[Eo];exact Nat.one_pos) h0
def Fo:Go.Shelf.Ren:=⟨λ|156=>53|165=>114|166=>52|169=>62|240=>113|241=>177|276=>176|277=>241|n=>n,λ|31=>133|9=>9|3=>3|4=>4|0=>0|20=>20|72=>132|76=>136|70=>130|37=>33|75=>135|127=>217|164=>272|5=>5|80=>147|n=>n,λ|n=>n⟩
theorem Ht:Go.Proofs.Lays.n156 Tryz.prog Fo where
 mixed:=by kernel_rfl
 f156:=Tryz.func53.trans (congrArg some (by kernel_rfl))
 f165:=Tryz.func114.trans (congrArg some (by kernel_rfl))
 f166:=Tryz.func52.trans (congrArg some (by kernel_rfl))
 f169:=Tryz.func62.trans (congrArg some (by kernel_rfl))
 f240:=Tryz.func113.trans (congrArg some (by kernel_rfl))
 f241:=Tryz.func177.trans (congrArg some (by kernel_rfl))
 f276:=Tryz.func176.trans (congrArg some (by kernel_rfl))
 f277:=Tryz.func241.trans (congrArg some (by kernel_rfl))
 t0:=Tryz.underlying0
 a0:=Tryz.isAgg0
 z0:=Tryz.sizeOf0
 v0:=Tryz.zeroValue0
 t3:=Tryz.underlying3
 a3:=Tryz.isAgg3
 z3:=Tryz.sizeOf3
 v3:=Tryz.zeroValue3
 t4:=Tryz.underlying4
 a4:=Tryz.isAgg4
 z4:=Tryz.sizeOf4
 v4:=Tryz.zeroValue4
 t9:=Tryz.underlying9
 a9:=Tryz.isAgg9
 z9:=Tryz.sizeOf9
 v9:=Tryz.zeroValue9
 t20:=Tryz.underlying20
 a20:=Tryz.isAgg20
 z20:=Tryz.sizeOf20
 v20:=Tryz.zeroValue20
 t31:=Tryz.underlying133
 a31:=Tryz.isAgg133
 z31:=Tryz.sizeOf133
 v31:=Tryz.zeroValue133
 t37:=Tryz.underlying33
 a37:=Tryz.isAgg33
 z37:=Tryz.sizeOf33
 v37:=Tryz.zeroValue33
 t70:=Tryz.underlying130
 a70:=Tryz.isAgg130
 z70:=Tryz.sizeOf130
 v70:=Tryz.zeroValue130
 t72:=Tryz.underlying132
 a72:=Tryz.isAgg132
 z72:=Tryz.sizeOf132
 v72:=Tryz.zeroValue132
 t75:=Tryz.underlying135
 a75:=Tryz.isAgg135
 z75:=Tryz.sizeOf135
 v75:=Tryz.zeroValue135
 t76:=Tryz.underlying136
 a76:=Tryz.isAgg136
 z76:=Tryz.sizeOf136
 v76:=Tryz.zeroValue136
 t127:=Tryz.underlying217
 a127:=Tryz.isAgg217
 z127:=Tryz.sizeOf217
 v127:=Tryz.zeroValue217
 t164:=Tryz.underlying272
 a164:=Tryz.isAgg272
 z164:=Tryz.sizeOf272
 v164:=Tryz.zeroValue272
theorem Fp:Builder.Extra Tryz.prog Fo where
 sizeBuilder:=by kernel_rfl
 liesBuilder:=by kernel_rfl
 t5:=Tryz.underlying5
 a5:=Tryz.isAgg5
 z5:=Tryz.sizeOf5
 v5:=Tryz.zeroValue5
 infoByte:=by kernel_rfl
 cellsByte:=by kernel_rfl
 sizeByte:=by kernel_rfl
 neB5:=by decide
def rS:List Sch:=[⟨[(0,.v (.c .s))],[]⟩]
theorem Vm {run:HT ps.tr->Option (Bt)}
  (h:∀t r st0,run t=some r->conT ps t=some st0->st0.bl=[]/\∀g ρ own vs,Rl g ρ st0 own (argS 0 vs)->vs.length=ps.sl.length->r.length<=140737488355328/\∀w,g.b.le g.r->g.r.In w->Calls P f vs.toArray w λe w'=>e= .returned (.string (mkS r))/\Below w.heap.size w w'):FOk P f ⟨ps,rS,run⟩:=by
 intro t r st0 hr hc g ρ own vs hR hl w hs;obtain⟨h0,h⟩:=h t r st0 hr hc;obtain⟨h1,h2⟩:=h g ρ own vs hR hl;refine(h2 w g.br hs.r).mono λe w' ⟨he,hb⟩=>⟨_,g,[],he,.refl g,⟨⟨hb.os.trans hs.r.os,hb.tape.trans hs.r.tape,hb.output.trans hs.r.out,λb o e=>?_⟩,aQ,λk hk=>(by cases hk),λk hk=>(by cases hk),Sat.nil _ _⟩,⟨[(0,vC (.str r))],[]⟩,ρ,rfl,rfl,⟨rfl,λi bv k e=>(by cases e),λt sv e=>?_,hR.gi⟩,λj hj=>(by rw[h0]at hj;cases hj)⟩
 ·have h1:=hs.r.m b o e;have hlt:b<w.heap.size:=(aJ.1 h1).1;rw[hb.block b hlt];exact h1
 ·have e:cond (bF 0 t) (some (vC (.str r))) none=some sv:=e;obtain⟨e1,e2⟩:=condS e;injection e2 with e2;subst e2;have:=aC e1;subst this;exact⟨_,rfl,rfl,bD h1 (by decide)⟩
def jnT(sep:Bt):List Bt->Bt
 | []=>[]
 |x::l=>sep++(x++jnT sep l)
def jnS(sep:Bt):List Bt->Bt
 | []=>[]
 |x::l=>x++jnT sep l
theorem WE(sep:Bt):∀l,jnT sep l=Lib.joinTail sep l
 | []=>rfl
 |x::l=>by show sep++(x++jnT sep l)=_;rw[WE sep l];simp[Lib.joinTail]
theorem Aem(sep:Bt):∀l,jnS sep l=Lib.join l sep
 | []=>rfl
 |x::l=>by show x++jnT sep l=_;rw[WE,Lib.join_cons]
theorem OT{p:Psi}{cs:List Value}:∀{l:List Bt},Reps Cd.s.ty p cs l->cs=l.map λx=> .string (mkS x)
 | [],h=>h
 |x::l,⟨c1,c2,e,h1,h2⟩=>by obtain⟨h1,_⟩:c1=[.string (mkS x)]/\x.length<=1125899906842624:=h1;rw[e,h1,OT h2];rfl
def p53:Sch:=⟨[(0,.v (.c (.ro .s false))),(1,.v (.c (.s)))],[]⟩
def o53(l:List Bt)(sep:Bt):Option (Bt):=cond (decide ((jnS sep l).length<=140737488355328)) (some (jnS sep l)) none
theorem AlJ:FOk Tryz.prog 53 ⟨p53,rS,λt=>o53 t.1 t.2⟩:=Vm λ(t:List Bt×Bt) r st0 hr hc=>by
 obtain⟨l,sep⟩:=t;have hc:some (⟨[(0,vC (.ro .s l false)),(1,vC (.str sep))],[]⟩:HSt)=some st0:=hc;injection hc with hc;subst hc;have hr:cond (decide ((jnS sep l).length<=140737488355328)) (some (jnS sep l)) none=some r:=hr;obtain⟨hlen,hr⟩:=condS hr;have hlen:=of_decide_eq_true hlen;injection hr with hr;subst hr;refine⟨rfl,λg ρ own vs hR hl=>?_⟩
 obtain⟨a,b,rfl⟩:=two hl;obtain⟨v1,h1,h2⟩:=hR.slot 0 _ rfl;injection h1 with h1;subst h1;obtain⟨v2,h3,h4⟩:=hR.slot 1 _ rfl;injection h3 with h3;subst h3;obtain⟨A,cap,h2,ha⟩:∃A cap,a= .slice A l.length cap/\ArrM g.r g.b Cd.s.ty A cap l:=h2;obtain⟨h4,hls⟩:b= .string (mkS sep)/\sep.length<=1125899906842624:=h4;subst h2;subst h4;refine⟨hlen,λw hbr hw=>?_⟩
 have hmk:∀l:List Bt,(l.map mkS).map (λx=>x.data.toList)=l:=λl=>by
  rw[List.map_map];conv=>rhs;rw[<-List.map_id l]
  apply List.map_congr_left;intro x _;simp[mkS]
 have hj:(Lib.join ((l.map mkS).map (λx=>x.data.toList)) (mkS sep).data.toList)=jnS sep l:=by rw[hmk,KL,Aem]
 cases l with
 |nil=>
  exact(Any.strings_Join_none Ht Fp A cap (mkS sep) w).mono λe w' ⟨he,hw'⟩=>⟨he,hw'▸Below.refl _ _⟩
 |cons x l=>
  obtain⟨cs,hrep,hrow⟩:=ha.row;obtain⟨ad,rfl,hcells⟩:=hrow (Nat.succ_pos _);have hcs:=OT hrep;subst hcs;have hsp:ad.spot=none:=by
   have h0:=hcells 0 _ rfl;have h0:=hw.cell h0;unfold World.cell? at h0;have e0:(ad.add 0).spot=ad.spot:=by rw[Cb]
   split at h0
   ·rw[e0]at h0;cases e:ad.spot with
    |none=>rfl
    |some y=>rw[e]at h0;cases h0
   ·cases h0
  obtain⟨bk,o,spot⟩:=ad;subst hsp;have hc:∀(j:Nat) y,((x::l).map mkS)[j]? =some y->w.cell? ⟨bk,o+j,none⟩=some (.string y):=λj y hy=>by
   have h0:=hw.cell (hcells j (.string y) (by
    rw[List.getElem?_map]at hy⊢;cases e:(x::l)[j]? with
    |none=>rw[e]at hy;cases hy
    |some z=>rw[e]at hy;injection hy with hy;subst hy;rfl))
   rwa [AF]at h0
  have hbk:bk<w.heap.size:=by
   have h0:=hc 0 _ rfl;unfold World.cell? at h0;split at h0
   ·rename_i h1;exact(aJ.1 h1).1
   ·cases h0
  have hc1:=Any.strings_Join (P:=Tryz.prog) Ht Fp bk o cap ((x::l).map mkS) (mkS sep) w hc hbk (by rw[aV];exact ha.len) (by rw[aV];exact ha.cap) (by rw[hj];exact hlen);rw[aV,hj]at hc1;exact hc1
open Go.RowKit Go.Shelf Go.Lib
def OU:Go.Shelf.Ren:=⟨λ|173=>181|246=>242|283=>274|284=>275|285=>276|286=>277|129=>300|317=>299|318=>301|319=>302|320=>303|337=>318|338=>319|n=>n,λ|2=>2|3=>3|9=>9|4=>4|171=>339|0=>0|53=>238|37=>33|5=>5|173=>342|212=>364|51=>48|20=>20|213=>365|46=>162|232=>386|233=>387|n=>n,λ|17=>3|18=>10|19=>11|n=>n⟩
theorem AbS:Go.Proofs.LaysM.n173 Tryz.prog OU:={
 mixed:=by kernel_rfl
 f129:=Tryz.func300.trans (congrArg some (by kernel_rfl))
 f173:=Tryz.func181.trans (congrArg some (by kernel_rfl))
 f246:=Tryz.func242.trans (congrArg some (by kernel_rfl))
 f283:=Tryz.func274.trans (congrArg some (by kernel_rfl))
 f284:=Tryz.func275.trans (congrArg some (by kernel_rfl))
 f285:=Tryz.func276.trans (congrArg some (by kernel_rfl))
 f286:=Tryz.func277.trans (congrArg some (by kernel_rfl))
 f317:=Tryz.func299.trans (congrArg some (by kernel_rfl))
 f318:=Tryz.func301.trans (congrArg some (by kernel_rfl))
 f319:=Tryz.func302.trans (congrArg some (by kernel_rfl))
 f320:=Tryz.func303.trans (congrArg some (by kernel_rfl))
 f337:=Tryz.func318.trans (congrArg some (by kernel_rfl))
 f338:=Tryz.func319.trans (congrArg some (by kernel_rfl))
 t0:=Tryz.underlying0
 a0:=Tryz.isAgg0
 z0:=Tryz.sizeOf0
 v0:=Tryz.zeroValue0
 t2:=Tryz.underlying2
 a2:=Tryz.isAgg2
 z2:=Tryz.sizeOf2
 v2:=Tryz.zeroValue2
 t3:=Tryz.underlying3
 a3:=Tryz.isAgg3
 z3:=Tryz.sizeOf3
 v3:=Tryz.zeroValue3
 t4:=Tryz.underlying4
 a4:=Tryz.isAgg4
 z4:=Tryz.sizeOf4
 v4:=Tryz.zeroValue4
 t5:=Tryz.underlying5
 a5:=Tryz.isAgg5
 z5:=Tryz.sizeOf5
 v5:=Tryz.zeroValue5
 t9:=Tryz.underlying9
 a9:=Tryz.isAgg9
 z9:=Tryz.sizeOf9
 v9:=Tryz.zeroValue9
 t20:=Tryz.underlying20
 a20:=Tryz.isAgg20
 z20:=Tryz.sizeOf20
 v20:=Tryz.zeroValue20
 t37:=Tryz.underlying33
 a37:=Tryz.isAgg33
 z37:=Tryz.sizeOf33
 v37:=Tryz.zeroValue33
 t46:=Tryz.underlying162
 a46:=Tryz.isAgg162
 z46:=Tryz.sizeOf162
 v46:=Tryz.zeroValue162
 t51:=Tryz.underlying48
 a51:=Tryz.isAgg48
 z51:=Tryz.sizeOf48
 v51:=Tryz.zeroValue48
 t53:=Tryz.underlying238
 a53:=Tryz.isAgg238
 z53:=Tryz.sizeOf238
 v53:=Tryz.zeroValue238
 t171:=Tryz.underlying339
 a171:=Tryz.isAgg339
 z171:=Tryz.sizeOf339
 v171:=Tryz.zeroValue339
 t173:=Tryz.underlying342
 a173:=Tryz.isAgg342
 z173:=Tryz.sizeOf342
 v173:=Tryz.zeroValue342
 t212:=Tryz.underlying364
 a212:=Tryz.isAgg364
 z212:=Tryz.sizeOf364
 v212:=Tryz.zeroValue364
 t213:=Tryz.underlying365
 a213:=Tryz.isAgg365
 z213:=Tryz.sizeOf365
 t232:=Tryz.underlying386
 a232:=Tryz.isAgg386
 z232:=Tryz.sizeOf386
 v232:=Tryz.zeroValue386
 t233:=Tryz.underlying387
 a233:=Tryz.isAgg387
 z233:=Tryz.sizeOf387
 v233:=Tryz.zeroValue387
 g17:=by kernel_rfl
 g18:=by kernel_rfl
 g19:=by kernel_rfl
 i0:=by kernel_rfl
 i2:=by kernel_rfl
 i3:=by kernel_rfl
 i4:=by kernel_rfl
 i5:=by kernel_rfl
 i9:=by kernel_rfl
 i20:=by kernel_rfl
 i37:=by kernel_rfl
 i46:=by kernel_rfl
 i51:=by kernel_rfl
 i53:=by kernel_rfl
 i171:=by kernel_rfl
 i173:=by kernel_rfl
 i212:=by kernel_rfl
 i232:=by kernel_rfl
 i233:=by kernel_rfl
 m17:=by kernel_rfl
 m18:=by kernel_rfl
 m19:=by kernel_rfl }
theorem RG(w:World)(k:Nat)(os:Array Obj):Below w.heap.size w (Sort.grow (w.drewN k) os):=
 ⟨rfl,rfl,rfl,by show w.heap.size<=(w.heap++os).size;rw[Array.size_append];omega,λj hj=>by show(w.heap++os)[j]? =w.heap[j]?;rw[Array.getElem?_append,if_pos hj]⟩
def digF:Nat->Nat->Bt
 |0,_=>[]
 |f+1,n=>cond (aG n 10) [aN (48+n)] (digF f (n/10)++[aN (48+n%10)])
theorem Nd:∀f n,n<10^(f+1)->digF (f+1) n=aZ n
 |0,n,h=>by
  have h:n<10:=by simpa using h
  have:aG n 10=true:=by simpa using h
  unfold digF;rw[this,Lib.decDigits_one h];rfl
 |f+1,n,h=>by
  unfold digF;by_cases h1:n<10
  ·have:aG n 10=true:=by simpa using h1
   rw[this,Lib.decDigits_one h1];rfl
  ·have:aG n 10=false:=by
    cases e:aG n 10 with
    |true=>simp at e;omega
    |false=>rfl
   have e2:aZ n=aZ (n/10)++[aN (48+n%10)]:=by conv=>lhs;rw[aZ,dif_neg h1]
   rw[this,Nd f (n/10) (by rw[aS]at h;omega),e2];rfl
def itoaF(n:Int):Bt:=cond (decide (n<0)) (45::digF 20 n.natAbs) (digF 20 n.toNat)
theorem WF{n:Int}(h0: -9223372036854775808<=n)(h1:n<=9223372036854775807):itoaF n=bG n:=by
 unfold itoaF bG;by_cases h:n<0
 ·rw[if_pos h,decide_eq_true h];exact congrArg (45::·) (Nd 19 _ (by omega))
 ·rw[if_neg h,decide_eq_false h];exact Nd 19 _ (by omega)
def p181:Sch:=⟨[(0,.v (.c (.i .i64))),(1,.v (.c (.i .i64)))],[]⟩
def o181(u b:Int):Option (Bt):=cond (decide (b=10)) (some (itoaF u)) none
theorem AgR:FOk Tryz.prog 181 ⟨p181,rS,λt=>o181 t.1 t.2⟩:=by
 intro t r st0 hr hc g ρ own vs hR hl w hs;obtain⟨u,b⟩:Int×Int:=t;have e:some (⟨[(0,vC (.int .i64 u)),(1,vC (.int .i64 b))],[]⟩:HSt)=some st0:=hc;injection e with e;subst e;have hr:cond (decide (b=10)) (some (itoaF u)) none=some r:=hr;obtain⟨hb,hr⟩:=condS hr;have hb:=of_decide_eq_true hb;subst hb;injection hr with hr;subst hr;obtain⟨x,y,rfl⟩:=two hl;obtain⟨v0,h1,rfl,hk⟩:=hR.slot 0 _ rfl;obtain⟨v1,h2,rfl,_⟩:=hR.slot 1 _ rfl;injection h1 with h1;subst h1;injection h2 with h2;subst h2;simp[inK,aX,aY,aR,aW]at hk;have hw:GW w:=hR.gi.1 w (hs.r.of_le g.br);rw[WF hk.1 hk.2];have hlen:(bG u).length<=140737488355328:=by have:=Lib.itoa_length_le u hk.1 hk.2;omega
 refine(Any.strconv_FormatInt_10 AbS u hk.1 hk.2 w hw).mono λe w' ⟨he,k,os,hw'⟩=>?_;have hb:Below w.heap.size w w':=by subst hw';exact RG w k os
 refine⟨_,g,[],he,.refl g,⟨⟨hb.os.trans hs.r.os,hb.tape.trans hs.r.tape,hb.output.trans hs.r.out,λb o e=>?_⟩,aQ,λk hk=>(by cases hk),λk hk=>(by cases hk),Sat.nil _ _⟩,⟨[(0,vC (.str (bG u)))],[]⟩,ρ,rfl,rfl,⟨rfl,λi bv k e=>(by cases e),λt sv e=>?_,hR.gi⟩,λj hj=>(by cases hj)⟩
 ·have h1:=hs.r.m b o e;have hlt:b<w.heap.size:=(aJ.1 h1).1;rw[hb.block b hlt];exact h1
 ·have e:cond (bF 0 t) (some (vC (.str (bG u)))) none=some sv:=e;obtain⟨e1,e2⟩:=condS e;injection e2 with e2;subst e2;have:=aC e1;subst this;exact⟨_,rfl,rfl,bD hlen (by decide)⟩
def OV:Go.Shelf.Ren:=⟨λ|174=>259|247=>292|245=>293|287=>311|279=>312|280=>313|281=>314|282=>315|321=>322|322=>323|316=>324|171=>326|205=>325|243=>330|246=>242|283=>274|284=>275|285=>276|286=>277|129=>300|317=>299|318=>301|319=>302|320=>303|337=>318|338=>319|n=>n,λ|9=>9|3=>3|2=>2|75=>135|85=>335|4=>4|167=>373|5=>5|53=>238|175=>374|46=>162|168=>376|37=>33|0=>0|210=>384|21=>21|127=>217|145=>390|143=>388|171=>339|173=>342|212=>364|51=>48|20=>20|213=>365|232=>386|233=>387|80=>147|n=>n,λ|15=>8|16=>9|17=>3|18=>10|19=>11|n=>n⟩
theorem AbT:Go.Proofs.LaysC.n174 Tryz.prog OV:={
 mixed:=by kernel_rfl
 f129:=Tryz.func300.trans (congrArg some (by kernel_rfl))
 f171:=Tryz.func326.trans (congrArg some (by kernel_rfl))
 f174:=Tryz.func259.trans (congrArg some (by kernel_rfl))
 f205:=Tryz.func325.trans (congrArg some (by kernel_rfl))
 f243:=Tryz.func330.trans (congrArg some (by kernel_rfl))
 f245:=Tryz.func293.trans (congrArg some (by kernel_rfl))
 f246:=Tryz.func242.trans (congrArg some (by kernel_rfl))
 f247:=Tryz.func292.trans (congrArg some (by kernel_rfl))
 f279:=Tryz.func312.trans (congrArg some (by kernel_rfl))
 f280:=Tryz.func313.trans (congrArg some (by kernel_rfl))
 f281:=Tryz.func314.trans (congrArg some (by kernel_rfl))
 f282:=Tryz.func315.trans (congrArg some (by kernel_rfl))
 f283:=Tryz.func274.trans (congrArg some (by kernel_rfl))
 f284:=Tryz.func275.trans (congrArg some (by kernel_rfl))
 f285:=Tryz.func276.trans (congrArg some (by kernel_rfl))
 f286:=Tryz.func277.trans (congrArg some (by kernel_rfl))
 f287:=Tryz.func311.trans (congrArg some (by kernel_rfl))
 f316:=Tryz.func324.trans (congrArg some (by kernel_rfl))
 f317:=Tryz.func299.trans (congrArg some (by kernel_rfl))
 f318:=Tryz.func301.trans (congrArg some (by kernel_rfl))
 f319:=Tryz.func302.trans (congrArg some (by kernel_rfl))
 f320:=Tryz.func303.trans (congrArg some (by kernel_rfl))
 f321:=Tryz.func322.trans (congrArg some (by kernel_rfl))
 f322:=Tryz.func323.trans (congrArg some (by kernel_rfl))
 f337:=Tryz.func318.trans (congrArg some (by kernel_rfl))
 f338:=Tryz.func319.trans (congrArg some (by kernel_rfl))
 t0:=Tryz.underlying0
 a0:=Tryz.isAgg0
 z0:=Tryz.sizeOf0
 v0:=Tryz.zeroValue0
 t2:=Tryz.underlying2
 a2:=Tryz.isAgg2
 z2:=Tryz.sizeOf2
 v2:=Tryz.zeroValue2
 t3:=Tryz.underlying3
 a3:=Tryz.isAgg3
 z3:=Tryz.sizeOf3
 v3:=Tryz.zeroValue3
 t4:=Tryz.underlying4
 a4:=Tryz.isAgg4
 z4:=Tryz.sizeOf4
 v4:=Tryz.zeroValue4
 t5:=Tryz.underlying5
 a5:=Tryz.isAgg5
 z5:=Tryz.sizeOf5
 v5:=Tryz.zeroValue5
 t9:=Tryz.underlying9
 a9:=Tryz.isAgg9
 z9:=Tryz.sizeOf9
 v9:=Tryz.zeroValue9
 t20:=Tryz.underlying20
 a20:=Tryz.isAgg20
 z20:=Tryz.sizeOf20
 v20:=Tryz.zeroValue20
 t21:=Tryz.underlying21
 a21:=Tryz.isAgg21
 z21:=Tryz.sizeOf21
 v21:=Tryz.zeroValue21
 t37:=Tryz.underlying33
 a37:=Tryz.isAgg33
 z37:=Tryz.sizeOf33
 v37:=Tryz.zeroValue33
 t46:=Tryz.underlying162
 a46:=Tryz.isAgg162
 z46:=Tryz.sizeOf162
 v46:=Tryz.zeroValue162
 t51:=Tryz.underlying48
 a51:=Tryz.isAgg48
 z51:=Tryz.sizeOf48
 v51:=Tryz.zeroValue48
 t53:=Tryz.underlying238
 a53:=Tryz.isAgg238
 z53:=Tryz.sizeOf238
 v53:=Tryz.zeroValue238
 t75:=Tryz.underlying135
 a75:=Tryz.isAgg135
 z75:=Tryz.sizeOf135
 v75:=Tryz.zeroValue135
 t85:=Tryz.underlying335
 a85:=Tryz.isAgg335
 z85:=Tryz.sizeOf335
 v85:=Tryz.zeroValue335
 t127:=Tryz.underlying217
 a127:=Tryz.isAgg217
 z127:=Tryz.sizeOf217
 v127:=Tryz.zeroValue217
 t143:=Tryz.underlying388
 a143:=Tryz.isAgg388
 z143:=Tryz.sizeOf388
 v143:=Tryz.zeroValue388
 t145:=Tryz.underlying390
 a145:=Tryz.isAgg390
 z145:=Tryz.sizeOf390
 v145:=Tryz.zeroValue390
 t167:=Tryz.underlying373
 a167:=Tryz.isAgg373
 z167:=Tryz.sizeOf373
 v167:=Tryz.zeroValue373
 t168:=Tryz.underlying376
 a168:=Tryz.isAgg376
 z168:=Tryz.sizeOf376
 v168:=Tryz.zeroValue376
 t171:=Tryz.underlying339
 a171:=Tryz.isAgg339
 z171:=Tryz.sizeOf339
 v171:=Tryz.zeroValue339
 t173:=Tryz.underlying342
 a173:=Tryz.isAgg342
 z173:=Tryz.sizeOf342
 v173:=Tryz.zeroValue342
 t175:=Tryz.underlying374
 a175:=Tryz.isAgg374
 z175:=Tryz.sizeOf374
 v175:=Tryz.zeroValue374
 t210:=Tryz.underlying384
 a210:=Tryz.isAgg384
 z210:=Tryz.sizeOf384
 v210:=Tryz.zeroValue384
 t212:=Tryz.underlying364
 a212:=Tryz.isAgg364
 z212:=Tryz.sizeOf364
 v212:=Tryz.zeroValue364
 t213:=Tryz.underlying365
 a213:=Tryz.isAgg365
 z213:=Tryz.sizeOf365
 t232:=Tryz.underlying386
 a232:=Tryz.isAgg386
 z232:=Tryz.sizeOf386
 v232:=Tryz.zeroValue386
 t233:=Tryz.underlying387
 a233:=Tryz.isAgg387
 z233:=Tryz.sizeOf387
 v233:=Tryz.zeroValue387
 g15:=by kernel_rfl
 g16:=by kernel_rfl
 g17:=by kernel_rfl
 g18:=by kernel_rfl
 g19:=by kernel_rfl
 t80:=Tryz.underlying147
 a80:=Tryz.isAgg147
 z80:=Tryz.sizeOf147
 v80:=Tryz.zeroValue147
 i0:=by kernel_rfl
 i2:=by kernel_rfl
 i3:=by kernel_rfl
 i4:=by kernel_rfl
 i5:=by kernel_rfl
 i9:=by kernel_rfl
 i20:=by kernel_rfl
 i21:=by kernel_rfl
 i37:=by kernel_rfl
 i46:=by kernel_rfl
 i51:=by kernel_rfl
 i53:=by kernel_rfl
 i75:=by kernel_rfl
 i80:=by kernel_rfl
 i85:=by kernel_rfl
 i127:=by kernel_rfl
 i143:=by kernel_rfl
 i145:=by kernel_rfl
 i167:=by kernel_rfl
 i168:=by kernel_rfl
 i171:=by kernel_rfl
 i173:=by kernel_rfl
 i175:=by kernel_rfl
 i210:=by kernel_rfl
 i212:=by kernel_rfl
 i232:=by kernel_rfl
 i233:=by kernel_rfl
 m15:=by kernel_rfl
 m16:=by kernel_rfl
 m17:=by kernel_rfl
 m18:=by kernel_rfl
 m19:=by kernel_rfl
 c0:=by kernel_rfl
 c2:=by kernel_rfl
 c3:=by kernel_rfl
 c4:=by kernel_rfl
 c5:=by kernel_rfl
 c9:=by kernel_rfl
 c20:=by kernel_rfl
 c21:=by kernel_rfl
 c37:=by kernel_rfl
 c46:=by kernel_rfl
 c51:=by kernel_rfl
 c53:=by kernel_rfl
 c75:=by kernel_rfl
 c80:=by kernel_rfl
 c85:=by kernel_rfl
 c127:=by kernel_rfl
 c143:=by kernel_rfl
 c145:=by kernel_rfl
 c167:=by kernel_rfl
 c168:=by kernel_rfl
 c171:=by kernel_rfl
 c173:=by kernel_rfl
 c175:=by kernel_rfl
 c210:=by kernel_rfl
 c212:=by kernel_rfl
 c213:=by kernel_rfl
 c232:=by kernel_rfl
 c233:=by kernel_rfl }
def rPI:List Sch:=[⟨[(0,.tup [.c (.i .i64),.c (.cst .nilIface)])],[]⟩]
def p259:Sch:=⟨[(0,.v (.c .s)),(1,.v (.c (.i .i64))),(2,.v (.c (.i .i64)))],[]⟩
def pI(l:Bt):Option Int:=match bA 64 l with
 | .ok v=>some v
 |_=>none
def o259(l:Bt)(b z:Int):Option Int:=cond (decide (b=10/\z=64)) (match pI l with
 |some v=>cond (decide (-9223372036854775808<=v/\v<=9223372036854775807)) (some v) none
 |none=>none) none
theorem AgS{l:Bt}{v:Int}(h:pI l=some v):bA 64 l= .ok v:=by
 unfold pI at h;split at h
 ·rename_i u e;injection h with h;subst h;exact e
 ·cases h
theorem three(h:vs.length=3):∃a b c,vs=[a,b,c]:=by
 match vs,h with
 | [a,b,c],_=>exact⟨a,b,c,rfl⟩
theorem AgT:FOk Tryz.prog 259 ⟨p259,rPI,λt=>o259 t.1 t.2.1 t.2.2⟩:=by
 intro t r st0 hr hc g ρ own vs hR hl w hs;obtain⟨l,b,z⟩:Bt×Int×Int:=t;have e:some (⟨[(0,vC (.str l)),(1,vC (.int .i64 b)),(2,vC (.int .i64 z))],[]⟩:HSt)=some st0:=hc;injection e with e;subst e;have hr:cond (decide (b=10/\z=64)) (match pI l with
  |some v=>cond (decide (-9223372036854775808<=v/\v<=9223372036854775807)) (some v) none
  |none=>none) none=some r:=hr
 obtain⟨hb,hr⟩:=condS hr;obtain⟨hb,hz⟩:=of_decide_eq_true hb;subst hb;subst hz;split at hr;case h_2=>cases hr
 rename_i v hv;obtain⟨_,hr⟩:=condS hr;obtain⟨hk,hr⟩:=condS hr;have hk:=of_decide_eq_true hk;injection hr with hr;subst hr;have hv:=AgS hv;obtain⟨x,y,q,rfl⟩:=three hl;obtain⟨v0,h1,rfl,hlen⟩:=hR.slot 0 _ rfl;obtain⟨v1,h2,rfl,_⟩:=hR.slot 1 _ rfl;obtain⟨v2,h3,rfl,_⟩:=hR.slot 2 _ rfl;injection h1 with h1;subst h1;injection h2 with h2;subst h2;injection h3 with h3;subst h3;refine(Any.strconv_ParseInt_10_at64_ok AbT (mkS l) (by rw[show(mkS l).size=l.length from by simp[mkS,ByteArray.size]];omega) v (by rw[KL];exact hv) w).mono λe w' ⟨he,hw'⟩=>?_
 have hb:Below w.heap.size w w':=by
  rcases hw' with rfl|⟨t,rfl⟩
  ·exact Below.refl _ _
  ·exact Lib.bytesWorld_below w _ t
 refine⟨_,g,[],he,.refl g,⟨⟨hb.os.trans hs.r.os,hb.tape.trans hs.r.tape,hb.output.trans hs.r.out,λb o e=>?_⟩,aQ,λk hk=>(by cases hk),λk hk=>(by cases hk),Sat.nil _ _⟩,⟨[(0,.tup [.c (.int .i64 v),.c (.k .nilIface)])],[]⟩,ρ,rfl,rfl,⟨rfl,λi bv k e=>(by cases e),λt sv e=>?_,hR.gi⟩,λj hj=>(by cases hj)⟩
 ·have h1:=hs.r.m b o e;have hlt:b<w.heap.size:=(aJ.1 h1).1;rw[hb.block b hlt];exact h1
 ·have e:cond (bF 0 t) (some (SV.tup [.c (.int .i64 v),.c (.k .nilIface)])) none=some sv:=e;obtain⟨e1,e2⟩:=condS e;injection e2 with e2;subst e2;have:=aC e1;subst this;refine⟨_,rfl,[.int .i64 v,.nilIface],rfl,⟨rfl,?_⟩,⟨rfl,rfl⟩,trivial⟩
  simp[inK,aX,aY,aR,aW];exact hk
def isD(b:UInt8):Prop:=48<=b.toNat/\b.toNat<=57
def stepD(a:Nat)(b:UInt8):Nat:=10*a+(b.toNat-48)
def valF(n:Nat)(l:Bt):Nat:=l.foldl stepD n
def val(l:Bt):Nat:=valF 0 l
theorem Bz(n:Nat):valF n []=n:=by unfold valF;exact List.foldl_nil
theorem BA(n:Nat)(b:UInt8)(l:Bt):valF n (b::l)=valF (10*n+(b.toNat-48)) l:=by unfold valF;rw[List.foldl_cons,stepD]
theorem Br(l:Bt):val l=valF 0 l:=by unfold val;exact Eq.refl _
theorem Vn(n t k z:Nat):(10*n+k)*t+z=n*(t*10)+((10*0+k)*t+z):=by rw[Nat.add_mul,Nat.add_mul,bH 10 n,Nat.mul_assoc n 10 t,bH 10 t];omega
theorem Hu(l:Bt):∀(n:Nat),valF n l=n*10^l.length+val l:=by
 induction l with
 |nil=>intro n;rw[Br,Bz,Bz,List.length_nil];omega
 |cons b l ih=>
  intro n;rw[Br,BA,BA,ih (10*n+(b.toNat-48)),ih (10*0+(b.toNat-48)),bB,aS];exact Vn _ _ _ _
theorem Hv(l m:Bt):∀n,valF n (l++m)=valF (valF n l) m:=by
 induction l with
 |nil=>intro n;rw[aP,Bz]
 |cons b l ih=>intro n;rw[List.cons_append,BA,BA];exact ih _
theorem Nf:∀(l:Bt),(∀b∈l,isD b)->val l<10^l.length:=by
 intro l;induction l with
 |nil=>intro _;rw[Br,Bz];decide
 |cons b l ih=>
  intro h;have h1:=ih λc hc=>h c (aE _ hc);have h2:=h b (aD ..);rw[Br,BA,Hu,bB,aS];have h3:b.toNat-48<=9:=by have:=h2.2;omega
  have h4:(10*0+(b.toNat-48))*10^l.length<=9*10^l.length:=Nat.mul_le_mul_right _ (by omega);omega
theorem Fq{k:Nat}(h:k<256:=by omega):(aN k).toNat=k:=by rw[UInt8.toNat_ofNat'];omega
theorem KM:∀f n,n<10^f->val (digF f n)=n
 |0,n,h=>by have:n=0:=(by omega);subst this;show val []=0;rw[Br,Bz]
 |f+1,n,h=>by
  unfold digF;by_cases h1:n<10
  ·have e:aG n 10=true:=by simpa using h1
   rw[e];rw[cond_true,Br,BA,Bz,Fq];omega
  ·have e:aG n 10=false:=by
    cases e:aG n 10 with
    |true=>simp at e;omega
    |false=>rfl
   rw[e];rw[cond_false,Br];have ih:=KM f (n/10) (by rw[aS]at h;omega);rw[Br]at ih;rw[Hv,ih,BA,Bz,Fq];omega
theorem OW:∀f n,∀b∈digF f n,isD b
 |0,n=>λb hb=>by cases hb
 |f+1,n=>λb hb=>by
  unfold digF at hb;by_cases h1:n<10
  ·have e:aG n 10=true:=by simpa using h1
   rw[e]at hb;have:b=aN (48+n):=by simpa using hb
   subst this;unfold isD;rw[Fq];omega
  ·have e:aG n 10=false:=by
    cases e:aG n 10 with
    |true=>simp at e;omega
    |false=>rfl
   rw[e]at hb;rcases List.mem_append.1 hb with h|h
   ·exact OW f _ b h
   ·have:b=aN (48+n%10):=by simpa using h
    subst this;unfold isD;rw[Fq];omega
theorem OX:∀f n k,n<10^(k+1)->(digF f n).length<=k+1
 |0,n,k,h=>by simp[digF]
 |f+1,n,k,h=>by
  unfold digF;by_cases h1:n<10
  ·have e:aG n 10=true:=by simpa using h1
   rw[e];simp
  ·have e:aG n 10=false:=by
    cases e:aG n 10 with
    |true=>simp at e;omega
    |false=>rfl
   rw[e];show(digF f (n/10)++[aN (48+n%10)]).length<=k+1;cases k with
   |zero=>simp at h;omega
   |succ k=>
    have:=OX f (n/10) k (by rw[aS]at h;omega);rw[List.length_append];simp;exact this
theorem AbU(f n:Nat):digF (f+1) n≠[]:=by unfold digF;cases aG n 10<;>simp
theorem IE:∀f n,n<10^(f+1)->0<n->∃b l,digF (f+1) n=b::l/\b.toNat≠48
 |0,n,h,h0=>by
  have h:n<10:=by simpa using h
  unfold digF;have e:aG n 10=true:=by simpa using h
  rw[e];exact⟨_,_,rfl,by rw[Fq];omega⟩
 |f+1,n,h,h0=>by
  unfold digF;by_cases h1:n<10
  ·have e:aG n 10=true:=by simpa using h1
   rw[e];exact⟨_,_,rfl,by rw[Fq];omega⟩
  ·have e:aG n 10=false:=by
    cases e:aG n 10 with
    |true=>simp at e;omega
    |false=>rfl
   rw[e];obtain⟨b,l,h2,h3⟩:=IE f (n/10) (by rw[aS]at h;omega) (by omega);rw[h2];exact⟨_,_,rfl,h3⟩
theorem OY(f n:Nat)(h:n<10):digF (f+1) n=[aN (48+n)]:=by
 unfold digF;have e:aG n 10=true:=by simpa using h
 rw[e];rfl
theorem AdC:∀(l:Bt)(a:Nat),(∀b∈l,isD b)->valF a l<10^18->Lib.parseUintM (2^64-1) a l= .ok (valF a l)
 | [],a,_,_=>by rw[Bz];rfl
 |b::l,a,h,hv=>by
  have h2:=h b (aD ..);unfold Lib.parseUintM;rw[if_pos (show 48<=b.toNat/\b.toNat<=57 from h2)];have e:valF a (b::l)=valF (a*10+(b.toNat-48)) l:=by rw[BA,bH 10 a]
  rw[e]at hv⊢;have h3:=Hu l (a*10+(b.toNat-48));have h4:1<=10^l.length:=Nat.one_le_iff_ne_zero.2 (by have:=Nat.pow_pos (n:=l.length) (show 0<10 by decide);omega);have h5:a*10+(b.toNat-48)<=(a*10+(b.toNat-48))*10^l.length:=Nat.le_mul_of_pos_right _ h4;have h6:(10:Nat)^18=1000000000000000000:=by decide
  have h7:(2:Nat)^64-1=18446744073709551615:=by decide
  rw[if_neg (by omega),if_neg (by omega)];exact AdC l _ (λc hc=>h c (aE _ hc)) hv
theorem Js{l:Bt}(h:∀b∈l,isD b)(h0:l≠[])(hl:l.length<=18:=by omega):o259 l 10 64=some (val l:Int):=by
 have hv:=Nf l h;have hp:10^l.length<=10^18:=Nat.pow_le_pow_right (by decide) hl;have e1:Lib.parseUintB 64 l= .ok (val l):=by unfold Lib.parseUintB;rw[if_neg h0];exact AdC l 0 h (Nat.lt_of_lt_of_le hv hp)
 have h6:(10:Nat)^18=1000000000000000000:=by decide
 have e2:pI l=some (val l:Int):=by
  unfold pI;have:bA 64 l= .ok (val l:Int):=by
   unfold bA;cases l with
   |nil=>exact absurd rfl h0
   |cons c r=>
    have hc:=h c (aD ..);have n1:¬(c.toNat=43\/c.toNat=45):=by have:=hc.1;omega
    have n2:¬(c.toNat=45):=by have:=hc.1;omega
    dsimp only;rw[if_neg n1,e1];dsimp only;have h7:(2:Nat)^(64-1)=9223372036854775808:=by decide
    rw[if_neg (λhh=>by have:=hh.2;omega),if_neg (λhh=>n2 hh.1),if_neg n2]
  rw[this]
 unfold o259;rw[e2];dsimp only;rw[dt (⟨rfl,rfl⟩:(10:Int)=10/\(64:Int)=64),cond_true,dt,cond_true]
theorem SR{a b:UInt8}(h:a≠b):(a==b)=false:=by simpa using h
theorem OZ(c:UInt8):∀(s:Bt)(k:Int),c∉s->ixB c s k= -1
 | [],k,_=>rfl
 |b::l,k,h=>by unfold ixB;rw[SR (λe=>h (by rw[e];exact aD ..)),cond_false];exact OZ c l (k+1) λh'=>h (aE _ h')
theorem WG(c:UInt8):∀(w r:Bt)(k:Int),c∉w->ixB c (w++c::r) k=k+(w.length:Int)
 | [],r,k,_=>by show ixB c (c::r) k=_;unfold ixB;simp
 |b::l,r,k,h=>by show ixB c (b::(l++c::r)) k=_;unfold ixB;rw[SR (λe=>h (by rw[e];exact aD ..)),cond_false,WG c l r (k+1) λh'=>h (aE _ h')];simp;omega
theorem KN(c:UInt8):∀s:Bt,c∉s\/∃w r,s=w++c::r/\c∉w
 | []=> .inl (λh=>by cases h)
 |b::l=>by
  by_cases e:b=c
  ·subst e;exact .inr ⟨[],l,rfl,λh=>by cases h⟩
  ·rcases KN c l with h|⟨w,r,h1,h2⟩
   ·exact .inl λh'=>by
     rcases List.mem_cons.1 h' with h3|h3
     ·exact e h3.symm
     ·exact h h3
   ·exact .inr ⟨b::w,r,by rw [h1];rfl,λh'=>by
     rcases List.mem_cons.1 h' with h3|h3
     ·exact e h3.symm
     ·exact h2 h3⟩
theorem Pa{s:Bt}(h:c∉s):aT s c=0:=List.count_eq_zero.2 h
theorem RH{w r:Bt}(h:c∉w):aT (w++c::r) c=aT r c+1:=by unfold aT;rw[List.count_append,List.count_cons_self,List.count_eq_zero.2 h];omega
def spl(c:UInt8):Bt->List Bt
 | []=>[[]]
 |b::s=>cond (b==c) ([]::spl c s) (match spl c s with| []=>[[b]]|h::t=>(b::h)::t)
theorem AgU(c:UInt8)(s:Bt):spl c (c::s)=[]::spl c s:=by
 have:(c==c)=true:=by simp
 conv=>lhs;rw[spl]
 rw[this,cond_true]
theorem AdD{b:UInt8}(h:b≠c)(s:Bt):spl c (b::s)=(match spl c s with| []=>[[b]]|h::t=>(b::h)::t):=by
 conv=>lhs;rw[spl]
 rw[SR h,cond_false]
theorem Jt{c:UInt8}:∀{w:Bt},c∉w->spl c w=[w]
 | [],_=>rfl
 |b::l,h=>by rw[AdD (λe=>h (by rw[e];exact aD ..)),Jt λh'=>h (aE _ h')]
theorem Hw{c:UInt8}{s:Bt}:∀{w:Bt},c∉w->spl c (w++c::s)=w::spl c s
 | [],_=>AgU c s
 |b::l,h=>by rw[List.cons_append,AdD (λe=>h (by rw[e];exact aD ..)),Hw λh'=>h (aE _ h')]
theorem Hx(c:UInt8):∀(n:Nat)(s:Bt),s.length<=n->((spl c s).map List.length).sum+(spl c s).length=s.length+1/\(spl c s).length=aT s c+1:=by
 intro n;induction n with
 |zero=>intro s h;have:s=[]:=aM (by omega);subst this;exact⟨rfl,rfl⟩
 |succ n ih=>
  intro s h;rcases KN c s with h1|⟨w,r,rfl,h1⟩
  ·rw[Jt h1,Pa h1];simp
  ·rw[Hw h1,RH h1];have hl:(w++c::r).length=w.length+r.length+1:=by simp;omega
   obtain⟨e1,e2⟩:=ih r (by omega);simp only[List.map_cons,List.sum_cons,bB,hl];exact⟨by omega,by omega⟩
def Wd(w:Bt):Prop:=w≠[]/\∀b∈w,33<=b.toNat/\b.toNat<=126/\b.toNat≠35
def flds:Int->List Bt->List (Bt×Int)
 |_,[]=>[]
 |k,w::l=>(w,k)::flds (k+w.length+1) l
theorem Fs:∀(k:Int)(l:List Bt),(flds k l).map (λf=>f.1)=l
 |_,[]=>rfl
 |k,w::l=>by show w::(flds _ l).map _=_;rw[Fs]
theorem BB(k:Int)(l:List Bt):(flds k l).length=l.length:=by
 have:=congrArg List.length (Fs k l)
 rwa [aV]at this
theorem DO(a b:UInt8):a<b↔a.toNat<b.toNat:=Iff.rfl
theorem Mx:∀a:Bt,aB a a=0
 | []=>rfl
 |a::l=>by unfold aB;rw[if_neg (by rw[DO];omega),if_neg (by rw[DO];omega),Mx l]
theorem Ft:∀a b:Bt,aB a b= -1\/aB a b=0\/aB a b=1
 | [],[]=> .inr (.inl rfl)
 | [],_::_=> .inl rfl
 |_::_,[]=> .inr (.inr rfl)
 |a::xs,b::ys=>by
  unfold aB;by_cases h:a<b
  ·rw[if_pos h];exact .inl rfl
  ·rw[if_neg h];by_cases h2:b<a
   ·rw[if_pos h2];exact .inr (.inr rfl)
   ·rw[if_neg h2];exact Ft xs ys
theorem Gf:∀a b:Bt,aB a b=0->a=b
 | [],[],_=>rfl
 | [],_::_,h=>by cases h
 |_::_,[],h=>by cases h
 |a::xs,b::ys,h=>by
  unfold aB at h;by_cases h1:a<b
  ·rw[if_pos h1]at h;cases h
  ·rw[if_neg h1]at h;by_cases h2:b<a
   ·rw[if_pos h2]at h;cases h
   ·rw[if_neg h2]at h;have:a=b:=by rw[DO]at h1 h2;exact UInt8.toNat_inj.1 (by omega)
    rw[this,Gf xs ys h]
theorem KO:∀a b:Bt,aB b a= -aB a b
 | [],[]=>rfl
 | [],_::_=>rfl
 |_::_,[]=>rfl
 |a::xs,b::ys=>by
  unfold aB;by_cases h1:a<b
  ·have h2:¬b<a:=by rw[DO]at h1⊢;omega
   rw[if_pos h1,if_neg h2,if_pos h1];rfl
  ·rw[if_neg h1];by_cases h2:b<a
   ·rw[if_pos h2,if_pos h2,if_neg h1]
   ·rw[if_neg h2,if_neg h2,if_neg h1];exact KO xs ys
theorem SS:∀a b c:Bt,aB a b<=0->aB b c<=0->aB a c<=0
 | [],_,[],_,_=>by decide
 | [],_,_::_,_,_=>by show(-1:Int)<=0;decide
 |_::_,[],_,h,_=>by have:(1:Int)<=0:=h;omega
 |_::_,_::_,[],_,h=>by have:(1:Int)<=0:=h;omega
 |a::xs,b::ys,c::zs,h1,h2=>by
  unfold aB at h1 h2⊢;simp only[DO]at h1 h2⊢;by_cases e1:a.toNat<b.toNat
  ·by_cases e2:c.toNat<b.toNat
   ·rw[if_neg (by omega),if_pos e2]at h2;omega
   ·rw[if_pos (by omega)];omega
  ·rw[if_neg e1]at h1;by_cases e3:b.toNat<a.toNat
   ·rw[if_pos e3]at h1;omega
   ·rw[if_neg e3]at h1;by_cases e4:b.toNat<c.toNat
    ·rw[if_pos (by omega)];omega
    ·rw[if_neg e4]at h2;by_cases e5:c.toNat<b.toNat
     ·rw[if_pos e5]at h2;omega
     ·rw[if_neg e5]at h2;rw[if_neg (by omega),if_neg (by omega)];exact SS xs ys zs h1 h2
def p113:Sch:=⟨[(0,.v (.c (.ptr 0 0)))],[.cells 132 [.cst (.pointer none),.cst (.slice none 0 0)]]⟩
def r113:List Sch:=[⟨[(0,.tup [])],[.cells 132 [.ptr 0 0,.cst (.slice none 0 0)]]⟩]
theorem Aen:FOk Tryz.prog 113 ⟨p113,r113,λt=>some t⟩:=by
 intro t r st0 hr hc g ρ own vs hR hl w hs;have e:some (⟨[(0,vC (.ptr 0 0))],[.cells 132 [.k (.pointer none),.k (.slice none 0 0)]]⟩:HSt)=some st0:=hc;injection e with e;subst e;obtain⟨k,hk,b,cs,rfl,ha,hcs⟩:=hR.own_at (i:=0) rfl;match cs,hcs with
 | [c0,c1],⟨⟨h0,_⟩,⟨h1,_⟩,_⟩=>
 subst h0;subst h1;obtain⟨x,rfl⟩:∃x,vs=[x]:=by
  match vs,hl with
  | [x],_=>exact⟨x,rfl⟩
 obtain⟨v0,h1,_,ad,ha2,h2⟩:=hR.slot 0 _ rfl;rw[ha]at ha2;injection ha2 with ha2;subst ha2;injection h1 with h1;subst h1;subst h2;rw[Cb];have hmem:=aO hk;have hheap:=hs.has _ hmem;have hcell:=(hs.has.cell hmem 0)
 have hfz:=hs.has.frozen hmem 0 (Nat.succ_pos 1);refine(Any.Builder_copyCheck_fresh { Ht with } { Fp with } b w hcell (by have:w.heap[b]? =some (.cells #[.pointer none,.slice none 0 0] 132 (0,0)):=hheap;simp[World.shape?,this];rfl) hfz).mono λe w' ⟨he,hw⟩=>?_
 subst hw;have hst:=hs.store hk 0 (.pointer (some ⟨b,0,none⟩));have hln:own.length=1:=hR.len;refine⟨_,g,_,he,.refl g,hst,⟨[(0,.tup [])],[.cells 132 [.ptr 0 0,.k (.slice none 0 0)]]⟩,ρ,rfl,rfl,⟨by rw[bE];exact hln,λi bv k e1 e2=>?_,λt sv e=>?_,hR.gi⟩,λj hj=>?_⟩
 ·have hi:i=0:=by have:=Am e1;simpa using this
  subst hi;have e1:BV.cells 132 [.ptr 0 0,.k (.slice none 0 0)]=bv:=by simpa using e1
  subst e1;rw[List.getElem?_set,if_pos rfl,if_pos (by omega)]at e2;injection e2 with e2;subst e2;exact⟨b,_,rfl,ha,⟨⟨_,rfl,rfl⟩,_,ha,by rw[Cb]⟩,⟨rfl,rfl⟩,trivial⟩
 ·have e:cond (bF 0 t) (some (SV.tup [])) none=some sv:=e;obtain⟨e1,e2⟩:=condS e;injection e2 with e2;subst e2;have:=aC e1;subst this;exact⟨_,rfl,[],rfl,trivial⟩
 ·exact ⟨rfl,λbv m e1 e2=>by
   have hj0:j=0:=by have:j<1:=hj;omega
   subst hj0;have e1:BV.cells 132 [.ptr 0 0,.k (.slice none 0 0)]=bv:=by simpa using e1
   subst e1;cases e2⟩
def WH:Sch:=⟨[(0,.v (.c (.ptr 0 0)))],[.cells 132 [.ptr 0 0,.own 1],.row .y 5]⟩
def WI:List Sch:=[⟨[(0,.tup [])],[.cells 132 [.ptr 0 0,.own 1],.row .y 5]⟩]
theorem AbV:FOk Tryz.prog 113 ⟨WH,WI,λ(t:Bt)=>some t⟩:=by
 intro t r st0 hr hc g ρ own vs hR hl w hs;have e:some (⟨[(0,vC (.ptr 0 0))],[.cells 132 [.ptr 0 0,.own 1],.row .y 5 t]⟩:HSt)=some st0:=hc;injection e with e;subst e;have hr:some t=some r:=hr;injection hr with hr;subst hr;obtain⟨k,hk,b,cs,rfl,ha,hcs⟩:=hR.own_at (i:=0) rfl;match cs,hcs with
 | [c0,c1],⟨⟨_,ad,ha2,h0⟩,h1,_⟩=>
 rw[ha]at ha2;injection ha2 with ha2;subst ha2;rw[Cb]at h0;subst h0;obtain⟨x,rfl⟩:∃x,vs=[x]:=by
  match vs,hl with
  | [x],_=>exact⟨x,rfl⟩
 obtain⟨v0,h3,_,ad,ha2,h2⟩:=hR.slot 0 _ rfl;rw[ha]at ha2;injection ha2 with ha2;subst ha2;injection h3 with h3;subst h3;subst h2;rw[Cb];have hmem:=aO hk;have hcell:=(hs.has.cell hmem 0)
 refine(Any.Builder_copyCheck_used { Ht with } { Fp with } b w hcell).mono λe w' ⟨he,hw⟩=>?_;subst hw;have hB:=IZ (st:=⟨[(0,vC (.ptr 0 0))],[.cells 132 [.ptr 0 0,.own 1],.row .y 5 t]⟩) rfl hR;refine⟨_,g,own,he,.refl g,hs,⟨[(0,.tup [])],[.cells 132 [.ptr 0 0,.own 1],.row .y 5 t]⟩,ρ,rfl,rfl,⟨hR.len,hB.blk,λt sv e=>?_,hR.gi⟩,λj hj=>⟨rfl,λbv m e1 e2=>?_⟩⟩
 ·have e:cond (bF 0 t) (some (SV.tup [])) none=some sv:=e;obtain⟨e1,e2⟩:=condS e;injection e2 with e2;subst e2;have:=aC e1;subst this;exact⟨_,rfl,[],rfl,trivial⟩
 ·unfold lenAt;have e1:([.cells 132 [.ptr 0 0,.own 1],.row .y 5 t]:List BV)[j]? =some bv:=e1;show(match([.cells 132 [.ptr 0 0,.own 1],.row .y 5 t]:List BV)[j]? with|some bv=>bv.len|none=>none)=some m;rw[e1];exact e2
def o113:Option Unit:=some ()
theorem AgV:FOk Tryz.prog 113 ⟨p113,r113,λt=>o113⟩:=Aen
def KP(l:Bt):Option (Bt):=some l
theorem Aeo:FOk Tryz.prog 113 ⟨WH,WI,λt=>KP t⟩:=AbV
open Go.RowKit Go.Shelf Go.Lib Go.Proofs
set_option maxHeartbeats 1000000 in
set_option maxRecDepth 100000 in
theorem WJ {ρ:Ren} (L:Lays.n169 P ρ) (X:Builder.Extra P ρ) (b g cap:Nat) (fz:Nat×Nat) (p:Value) (cur:Array Value) (l:Bt) (w:World) (h0:l≠[]) (hbk:w.heap[b]? = some (.cells #[p,.slice (some ⟨g,0,none⟩) l.length cap] (ρ.t 72) (0,0))) (hg:w.heap[g]? = some (.cells cur (ρ.t 5) fz)) (hcp:l.length<=cap) (hle:l.length<=cur.size) (hmx:l.length<=9223372036854775807) (hc:∀ (j:Nat) (x:UInt8),l[j]? = some x->w.cell? ⟨g,j,none⟩=some (.int .u8 x.toNat)) :
  Calls P (ρ.f 169) #[.pointer (some ⟨b,0,none⟩)] w λe w'=>e= .returned (.string ⟨l.toArray⟩)/\w'=w.drew.freeze ⟨g,0,none⟩ l.length:=by
 have hl0:l.length≠0:=by simpa using h0
 have c1:w.drew.cell? ⟨b,1,none⟩=some (.slice (some ⟨g,0,none⟩) l.length cap):=by have:w.drew.heap[b]? =some (.cells #[p,.slice (some ⟨g,0,none⟩) l.length cap] (ρ.t 72) (0,0)):=hbk;rw[Lib.cell_of_heap this];rfl
 have hSD:(Builtin.unsafeSliceData_ #[(ρ.t 37)] (ρ.t 127) #[.slice (some ⟨g,0,none⟩) l.length cap]).run P w.drew= .ok (.pointer (some ⟨g,0,none⟩)) w.drew:=
  Lib.run_unsafeSliceData_row _ _ _ _ _ _ (by omega)
 have hUS:(Builtin.unsafeString_ #[(ρ.t 127),(ρ.t 3)] (ρ.t 9) #[.pointer (some ⟨g,0,none⟩),.int .i64 l.length]).run P w.drew= .ok (.string ⟨l.toArray⟩) (w.drew.freeze ⟨g,0,none⟩ l.length):=by refine Lib.run_unsafeString_row w.drew (ρ.t 127) (ρ.t 3) (ρ.t 9) (ρ.t 5) L.t127 X.cellsByte g cur.size (by have hg':w.drew.heap[g]? =some (.cells cur (ρ.t 5) fz):=hg;simp[World.shape?,hg']) l h0 hle hmx ?_;intro j x hx;rw[AF,Nat.zero_add];exact hc j x hx
 have mixed:=L.mixed;have t72:=L.t72;have a72:=L.a72;have z72:=L.z72;have v72:=L.v72;have u72:=run_underlying L.t72;have t70:=L.t70;have a70:=L.a70;have z70:=L.z70;have v70:=L.v70;have u70:=run_underlying L.t70;have t37:=L.t37;have a37:=L.a37;have z37:=L.z37;have v37:=L.v37;have u37:=run_underlying L.t37;have t127:=L.t127;have a127:=L.a127;have z127:=L.z127;have v127:=L.v127;have u127:=run_underlying L.t127;have t3:=L.t3;have a3:=L.a3;have z3:=L.z3;have v3:=L.v3;have u3:=run_underlying L.t3;have t9:=L.t9;have a9:=L.a9;have z9:=L.z9;have v9:=L.v9;have u9:=run_underlying L.t9;have t5:=X.t5;have a5:=X.a5;have z5:=X.z5;have v5:=X.v5;have u5:=run_underlying X.t5
 go_enter L.f169,Body.n169_ntmps ρ
 go_wp2
 go_region_o
 all_goals(go_wp2;go_ret;exact⟨rfl,rfl⟩)
def p62:Sch:=⟨[(0,.v (.c (.ptr 0 0)))],[.cells 132 [.ptr 0 0,.own 1],.row .y 5]⟩
def r62:List Sch:=[⟨[(0,.v (.c .s))],[.no,.no]⟩]
def o62(l:Bt):Option (Bt):=match l with
 | []=>none
 |_::_=>some l
theorem ST{p:Psi}:∀{xs:Bt}{cs:List Value},Reps Cd.y.ty p cs xs->∀(j:Nat)(x:UInt8),xs[j]? =some x->cs[j]? =some (.int .u8 x.toNat)
 | [],cs,h,j,x,e=>by simp at e
 |y::xs,cs,⟨c1,c2,h1,h2,h3⟩,j,x,e=>by
  have h2:c1=[.int .u8 (y.toNat:Int)]:=h2;subst h1;subst h2;cases j with
  |zero=>
   have e:y=x:=by simpa using e
   subst e;rfl
  |succ j=>exact ST h3 j x (by simpa using e)
theorem AlK:FOk Tryz.prog 62 ⟨p62,r62,λ(t:Bt)=>o62 t⟩:=by
 intro t r st0 hr hc g ρ own vs hR hl w hs;have e:some (⟨[(0,vC (.ptr 0 0))],[.cells 132 [.ptr 0 0,.own 1],.row .y 5 t]⟩:HSt)=some st0:=hc;injection e with e;subst e;have hr:o62 t=some r:=hr;have hne:t≠[]/\r=t:=by
  cases t with
  |nil=>cases hr
  |cons x l=>injection hr with hr;exact⟨List.cons_ne_nil _ _,hr.symm⟩
 obtain⟨hne,rfl⟩:=hne;obtain⟨k,hk,b,cs,rfl,ha,hcs⟩:=hR.own_at (i:=0) rfl;obtain⟨k1,hk1,hB⟩:=hR.own_at (i:=1) rfl;match cs,hcs with
 | [c0,c1],⟨⟨_,ad,ha2,h0⟩,⟨_,n,h1,hn⟩,_⟩=>
 rw[ha]at ha2;injection ha2 with ha2;subst ha2;have hn:=hn _ _ rfl rfl;subst hn;subst h0;subst h1;obtain⟨x,rfl⟩:∃x,vs=[x]:=by
  match vs,hl with
  | [x],_=>exact⟨x,rfl⟩
 obtain⟨v0,h3,_,ad,ha2,h2⟩:=hR.slot 0 _ rfl;rw[ha]at ha2;injection ha2 with ha2;subst ha2;injection h3 with h3;subst h3;subst h2;rw[Cb];rcases(hB:Buf g.b Cd.y.ty 5 (.slice (ρ 1).1 r.length (ρ 1).2) k1 r)with⟨hlen,⟨_,h4,_⟩|⟨g0,cap,cs1,sp,h4,h5,h6,h7,h8⟩⟩
 ·exact absurd h4 hne
 injection h4 with h9 _ h10;obtain⟨kb,rfl,rfl,h11,h12,fz,h13⟩:=h5.some_;have hmem:=aO hk;have hmem1:=aO hk1;have hh:=hs.has _ hmem;have hh1:=hs.has _ hmem1;rw[h13]at hh1;have hl1:cs1.length=r.length:=by rw[h6.len];exact Nat.mul_one _
 have hcap:(cs1++sp).length=cap:=by rw[h7];exact Nat.mul_one _
 have hle:r.length<=cap:=by rw[<-hcap,List.length_append];omega
 rw[h9,h10]at hh;refine(WJ (ρ:=Fo) { Ht with } Fp b kb.g cap fz _ (cs1++sp).toArray r w hne hh hh1 hle (by simp;omega) (bD hlen (by decide)) (λj x hx=>?_)).mono λe w' ⟨he,hw⟩=>?_
 ·rw[Lib.cell_of_heap hh1];have:=ST h6 j x hx;simp[List.getElem?_append_left (Am this),this]
 ·subst hw;have hfree:=hs.free kb hmem1;have hsd:=hs.drew;refine⟨_,g,[none,none],he,.refl g,⟨⟨?_,?_,?_,λb' o e=>?_⟩,aQ,λk hk=>(by simp at hk),λk hk=>(by simp at hk),⟨λk hk=>(by simp at hk),λk hk=>(by simp at hk),λk j hk=>(by simp at hk)⟩⟩,⟨[(0,vC (.str r))],[.no,.no]⟩,ρ,rfl,rfl,⟨rfl,λi bv k e1 e2=>?_,λt sv e=>?_,hR.gi⟩,λj hj=>⟨rfl,λbv m e1 e2=>?_⟩⟩
  ·unfold World.freeze;split<;>exact hsd.r.os
  ·unfold World.freeze;split<;>exact hsd.r.tape
  ·unfold World.freeze;split<;>exact hsd.r.out
  ·have h1:=hsd.r.m b' o e;have hne2:kb.g≠b':=λe2=>by rw[e2]at hfree;rw[hfree]at e;cases e
   unfold World.freeze;split
   ·exact h1
   ·show(w.drew.heap.modify kb.g _)[b']? =some o;rw[Array.getElem?_modify,if_neg hne2];exact h1
  ·match i,e1,e2 with
   |0,e1,e2=>
    have e1:BV.no=bv:=by simpa using e1
    have e2:none=k:=by simpa using e2
    subst e1;subst e2;rfl
   |1,e1,e2=>
    have e1:BV.no=bv:=by simpa using e1
    have e2:none=k:=by simpa using e2
    subst e1;subst e2;rfl
   |i+2,e1,_=>simp at e1
  ·have e:cond (bF 0 t) (some (vC (.str r))) none=some sv:=e;obtain⟨e1,e2⟩:=condS e;injection e2 with e2;subst e2;have:=aC e1;subst this;exact⟨_,rfl,rfl,bD hlen (by decide)⟩
  ·match j,e1 with
   |0,e1=>
    have e1:BV.no=bv:=by simpa using e1
    subst e1;cases e2
   |1,e1=>
    have e1:BV.no=bv:=by simpa using e1
    subst e1;cases e2
   |j+2,e1=>simp at e1
open IntKind (wrap)
abbrev Mbl:=List (Bt×Bool)
abbrev Dgl:=List (Int×Int×Int)
abbrev Fdl:=List (Bt×Int)
abbrev Rcl:=List (Int×Fdl)
abbrev Ya:Cd:= .p (.i .u8) (.p (.p (.i .i64) (.a (.p .s (.i .i64)))) (.p (.p .s (.p .s (.p (.i .u8) (.p (.p (.i .i64) (.i .i64)) (.p (.i .i64) (.i .i64)))))) (.p (.p .s (.a (.p .s (.p (.p (.i .i64) (.i .i64)) (.i .u8))))) (.p (.a (.p (.i .i64) (.a (.p .s (.i .i64))))) (.p (.p .s (.p .s (.p (.i .u8) (.a (.p (.i .u8) (.p .s (.a (.p (.i .u8) (.p .s (.p .s (.p (.i .u8) (.p .b (.p (.i .i64) (.p (.i .i64) (.p (.i .i64) (.p (.i .i64) (.p (.p (.i .i64) (.i .i64)) (.p (.i .i64) (.i .i64))))))))))))))))))) (.p (.a (.p (.i .i64) (.a (.p .s (.i .i64))))) (.a (.a (.p (.i .i64) (.a (.p .s (.i .i64))))))))))))
abbrev Yb:Cd:= .p (.i .u8) (.p .s (.p .s (.p (.i .u8) (.p .b (.p (.i .i64) (.p (.i .i64) (.p (.i .i64) (.p (.i .i64) (.p (.p (.i .i64) (.i .i64)) (.p (.i .i64) (.i .i64)))))))))))
abbrev Yc:Cd:= .p .s (.i .i64)
abbrev Yd:Cd:= .p (.i .i64) (.a Yc)
abbrev Ye:Cd:= .p (.i .i64) (.i .i64)
abbrev Yf:Cd:= .p (.i .u8) (.p .s (.a Yb))
abbrev Yg:Cd:= .p .s (.p Ye (.i .u8))
abbrev Yh:Cd:= .p .s (.p .s (.p (.i .u8) (.p Ye Ye)))
abbrev Yi:Cd:= .p .s (.p .s (.p (.i .u8) (.a Yf)))
abbrev Za:SSh:= .v (.c (.i .i64))
abbrev Zb:SSh:= .v (.c (.ptr 0 0))
abbrev Zc:SSh:= .v (.c (.b))
abbrev Zd:SSh:= .v (.c (.s))
abbrev Ze:SSh:= .v (.c (.own 0))
abbrev Zf:SSh:= .v (.c (.i .u64))
abbrev Zg:SSh:= .v (.c (.ptr 1 0))
abbrev Zh:SSh:= .v (.c (.i .u8))
abbrev Zi:SSh:= .v (.c (.ptr 2 0))
abbrev Zj:SSh:= .v (.agg [.i .i64,.i .i64])
abbrev Zk:SSh:= .v (.c (.fn 106))
abbrev Zl:SSh:= .v (.c (.own 1))
abbrev Zm:SSh:= .v (.c (.fn 47))
abbrev Zn:SSh:= .v (.c (.fn 50))
abbrev Zo:SSh:= .tup [.c (.s),.c (.i .i64)]
abbrev Zp:SSh:= .v (.c (.ro .y false))
abbrev Zq:SSh:= .tup [.c (.i .i64),.c (.i .i64)]
abbrev Zr:SSh:= .v (.c (.ptr 3 0))
abbrev Zs:SSh:= .tup []
abbrev Zt:SSh:= .tup [.c (.i .i64),.c (.b)]
abbrev Zu:SSh:= .v (.agg [.mp 0,.mp 1,.mp 2])
abbrev Zv:SSh:= .v (.c (.ro .s false))
abbrev Zw:SSh:= .v (.c (.ro .y true))
abbrev Zx:SSh:= .v (.c (.ptr 4 0))
abbrev Zy:SSh:= .v (.c (.ptr 6 0))
abbrev Zz:SSh:= .v (.c (.ptr 7 0))
abbrev ZA:SSh:= .tup [.c (.s),.c (.b)]
abbrev ZB:SSh:= .v (.c (.ptr 8 0))
abbrev TK:=TOk Tryz.prog
theorem kc{T:Tbl}(K:TOk P T)(fn:Func)(h:HC){rs:List Sch}{r:HT ps.tr->Option (ALT rs)}(e:∀t,evF (stpT P T K) fn ps rs h t=r t)(hf:P.funcs[f]? =some fn:=by kernel_rfl)(hb:fn.body.isSome=true:=by kernel_rfl)(hn:Nat.ble ps.sl.length fn.ntmps=true:=by kernel_rfl):TOk P ((f,⟨ps,rs,r⟩)::T):= .cons K (FOk.run_eq (Ks (h:=h) hf hb hn) e)
abbrev T0:Tbl:=[]
theorem K0:TOk Tryz.prog T0:= .nil
noncomputable section
def T1:Tbl:=(286,⟨p286,rI,λt=>(o286 t.1 t.2)⟩)::T0
theorem K1:TOk Tryz.prog T1:= .cons K0 AgO
def T2:Tbl:=(174,⟨p174,rI,λt=>(o174 t.1 t.2)⟩)::T1
theorem K2:TOk Tryz.prog T2:= .cons K1 AgP
def T3:Tbl:=(204,⟨p204,rI,λt=>(o204 t.1 t.2)⟩)::T2
theorem K3:TOk Tryz.prog T3:= .cons K2 AgQ
def T4:Tbl:=(53,⟨p53,rS,λt=>(o53 t.1 t.2)⟩)::T3
theorem K4:TOk Tryz.prog T4:= .cons K3 AlJ
def T5:Tbl:=(181,⟨p181,rS,λt=>(o181 t.1 t.2)⟩)::T4
theorem K5:TOk Tryz.prog T5:= .cons K4 AgR
def T6:Tbl:=(259,⟨p259,rPI,λt=>(o259 t.1 t.2.1 t.2.2)⟩)::T5
theorem K6:TOk Tryz.prog T6:= .cons K5 AgT
def T7:Tbl:=(113,⟨p113,r113,λt=>o113⟩)::T6
theorem K7:TOk Tryz.prog T7:= .cons K6 AgV
def T8:Tbl:=(113,⟨WH,WI,λt=>(KP t)⟩)::T7
theorem K8:TOk Tryz.prog T8:= .cons K7 Aeo
def T9:Tbl:=(62,⟨p62,r62,λt=>(o62 t)⟩)::T8
theorem K9:TOk Tryz.prog T9:= .cons K8 AlK
def o253(d:Bt)(c:Bt):Option Int:=
 (bd (cnd ((c.length:Int)==0) (some ((d,c),(c.length:Int),true)) (some ((d,c),(c.length:Int),(c==d)))) (λb=>(cnd b.2.2 (some (0:Int)) (cnd (b.2.1==1) (gd ((0:Int)<=0/\(0:Int)<(b.1.2.length:Int)) (bd (o286 b.1.1 ((aA b.1.2 (0:Int).toNat 0).toNat:Int)) (λe=>(some e)))) (cnd (b.2.1>=(b.1.1.length:Int)) (some (-1:Int)) none)))))
def T10:Tbl:=(253,⟨⟨[(0,Zd),(1,Zd)],[]⟩,[⟨[(0,Za)],[]⟩],λt=>(o253 t.1 t.2)⟩)::T9
theorem K10:TK T10:=kc K9 Tryz.f253 (.s .d (.s .d (.s (.b (.s (.j false [⟨[(0,Zd),(1,Zd),(5,Za),(16,Zc)],[]⟩] .d) (.c .d (.s .d (.c .d (.s .d (.c .d .cut))))))) .d))) λt=>by kernel_rfl
def o205(b:Bt)(c:Bt):Option Int:=
 (bd (o253 b c) (λd=>(some d)))
def T11:Tbl:=(205,⟨⟨[(0,Zd),(1,Zd)],[]⟩,[⟨[(0,Za)],[]⟩],λt=>(o205 t.1 t.2)⟩)::T10
theorem K11:TK T11:=kc K10 Tryz.f205 .d λt=>by kernel_rfl
abbrev Hy:Type:=(Bt×Bt×Int)×Int×Int×List Bt
def o152(g:Bt)(f:Bt)(i:Int)(h:Int):Option (List Bt):=
 (cnd (h==0) (some ([]:List Bt)) (cnd (f==([]:Bt)) none (bd (cnd (h<0) (bd (o204 g f) (λj=>(some ((g,f),i,(wrap .i64 (j+1)))))) (some ((g,f),i,h))) (λd=>(gd ((0:Int)<=(minI d.2.2 (wrap .i64 ((d.1.1.length:Int)+1)))/\(minI d.2.2 (wrap .i64 ((d.1.1.length:Int)+1)))*16<=140737488355328) (bd (loopO (σ:=Hy) fuelN (λ(b:Hy)=>(cnd (b.2.2.1<b.2.1) (bd (o205 b.1.1 b.1.2.1) (λe=>(cnd (e<0) (dnO (some (b.1.1,b.2.2))) (gd ((0:Int)<=(wrap .i64 (e+b.1.2.2))/\(wrap .i64 (e+b.1.2.2))<=(b.1.1.length:Int)) (gd ((0:Int)<=b.2.2.1/\b.2.2.1<(b.2.2.2.length:Int)) (gd ((0:Int)<=(wrap .i64 (e+(b.1.2.1.length:Int)))/\(wrap .i64 (e+(b.1.2.1.length:Int)))<=(b.1.1.length:Int)) (some (Ctl.go (((aK (wrap .i64 (e+(b.1.2.1.length:Int))).toNat b.1.1),b.1.2),b.2.1,(wrap .i64 (b.2.2.1+1)),(List.set b.2.2.2 b.2.2.1.toNat (aI (wrap .i64 (e+b.1.2.2)).toNat b.1.1))))))))))) (dnO (some (b.1.1,b.2.2))))) ((d.1.1,d.1.2,d.2.1),(wrap .i64 ((minI d.2.2 (wrap .i64 ((d.1.1.length:Int)+1)))-1)),(0:Int),(List.replicate (minI d.2.2 (wrap .i64 ((d.1.1.length:Int)+1))).toNat ([]:Bt)))) (λc=>(gd ((0:Int)<=c.2.1/\c.2.1<(c.2.2.length:Int)) (gd ((0:Int)<=(wrap .i64 (c.2.1+1))/\(wrap .i64 (c.2.1+1))<=(((List.set c.2.2 c.2.1.toNat c.1).length:Nat):Int)) (some (aI ((wrap .i64 (c.2.1+1)).toNat) (List.set c.2.2 c.2.1.toNat c.1))))))))))))
def T12:Tbl:=(152,⟨⟨[(0,Zd),(1,Zd),(2,Za),(3,Za)],[]⟩,[⟨[(0,Ze)],[.row .s 9]⟩],λt=>(o152 t.1.1 t.1.2 t.2.1 t.2.2)⟩)::T11
theorem K12:TK T12:=kc K11 Tryz.f152 (.s .d (.s .d (.s (.s .d (.c .cut .d)) (.j false [⟨[(0,Zd),(1,Zd),(2,Za),(3,Za)],[]⟩] (.s .d (.s .d (.s .d (.s .d (.s .d (.j false [⟨[(0,Zd),(9,Ze),(10,Za)],[.row .s 9]⟩] (.s (.b (.l [⟨[(0,Zd),(1,Zd),(2,Za),(3,Za),(9,Ze),(10,Za)],[.row .s 9]⟩] .d)) .d))))))))))) λt=>by kernel_rfl
def o92(b:Bt)(c:Bt):Option (List Bt):=
 (bd (o152 b c (0:Int) (-1:Int)) (λd=>(some d)))
def T13:Tbl:=(92,⟨⟨[(0,Zd),(1,Zd)],[]⟩,[⟨[(0,Ze)],[.row .s 9]⟩],λt=>(o92 t.1 t.2)⟩)::T12
theorem K13:TK T13:=kc K12 Tryz.f92 .d λt=>by kernel_rfl
def o206(c:Bt)(d:Bt):Option (Bt×Bt×Bool):=
 (bd (o253 c d) (λb=>(cnd (b>=0) (gd ((0:Int)<=b/\b<=(c.length:Int)) (gd ((0:Int)<=(wrap .i64 (b+(d.length:Int)))/\(wrap .i64 (b+(d.length:Int)))<=(c.length:Int)) (some ((aI b.toNat c),(aK (wrap .i64 (b+(d.length:Int))).toNat c),true)))) (some (c,([]:Bt),false)))))
def T14:Tbl:=(206,⟨⟨[(0,Zd),(1,Zd)],[]⟩,[⟨[(0,.tup [.c (.s),.c (.s),.c (.b)])],[]⟩],λt=>(o206 t.1 t.2)⟩)::T13
theorem K14:TK T14:=kc K13 Tryz.f206 .d λt=>by kernel_rfl
def o153(b:Bt)(c:Bt):Option (Bt×Bt×Bool):=
 (bd (o206 b c) (λd=>(some d)))
def T15:Tbl:=(153,⟨⟨[(0,Zd),(1,Zd)],[]⟩,[⟨[(0,.tup [.c (.s),.c (.s),.c (.b)])],[]⟩],λt=>(o153 t.1 t.2)⟩)::T14
theorem K15:TK T15:=kc K14 Tryz.f153 .d λt=>by kernel_rfl
def WK:SSh:= .tup [.c (.own 0),.c (.i .i64),.c (.i .i64)]
def o93(g:Bt):Option ((Int×Int)×Fdl):=
 (cnd ((g.length:Int)>200) (some (((201:Int),(3:Int)),([]:Fdl))) (loopO (σ:=Bt×Int×Int) fuelN (λ(c:Bt×Int×Int)=>(cnd (c.2.2<c.2.1) (bd (gd ((0:Int)<=c.2.2/\c.2.2<(c.1.length:Int)) (cnd (((aA c.1 c.2.2.toNat 0).toNat:Int)<32) (some ((c.1,c.2.2),c.2.1,c.2.2,true)) (gd ((0:Int)<=c.2.2/\c.2.2<(c.1.length:Int)) (some ((c.1,c.2.2),c.2.1,c.2.2,(decide (((aA c.1 c.2.2.toNat 0).toNat:Int)>126))))))) (λf=>(cnd f.2.2.2 (dnO (some (((wrap .i64 (f.1.2+1)),(4:Int)),([]:Fdl)))) (some (Ctl.go (f.1.1,f.2.1,(wrap .i64 (f.2.2.1+1)))))))) (dnO (bd (o153 c.1 ([35]:Bt)) (λh=>(loopO (σ:=Bt×Int×Fdl) fuelN (λ(d:Bt×Int×Fdl)=>(cnd (d.2.1<(d.1.length:Int)) (gd ((0:Int)<=d.2.1/\d.2.1<(d.1.length:Int)) (cnd (((aA d.1 d.2.1.toNat 0).toNat:Int)==32) (some (Ctl.go (d.1,(wrap .i64 (d.2.1+1)),d.2.2))) (loopO (σ:=(Bt×Int)×Int×Fdl) fuelN (λ(e:(Bt×Int)×Int×Fdl)=>(bd (cnd (e.1.2<(e.1.1.length:Int)) (gd ((0:Int)<=e.1.2/\e.1.2<(e.1.1.length:Int)) (some (e.1,e.2.1,(((aA e.1.1 e.1.2.toNat 0).toNat:Int)!=32),e.2.2))) (some (e.1,e.2.1,false,e.2.2))) (λb=>(cnd b.2.2.1 (some (Ctl.go ((b.1.1,(wrap .i64 (b.1.2+1))),b.2.1,b.2.2.2))) (dnO (gd ((0:Int)<=b.2.1/\b.2.1<=b.1.2/\b.1.2<=(b.1.1.length:Int)) (gd ((b.2.2.2.length+([((aI (b.1.2.toNat-b.2.1.toNat) (aK b.2.1.toNat b.1.1)),(wrap .i64 (b.2.1+1)))]:Fdl).length)*24<=140737488355328) (some (Ctl.go (b.1.1,b.1.2,(b.2.2.2++([((aI (b.1.2.toNat-b.2.1.toNat) (aK b.2.1.toNat b.1.1)),(wrap .i64 (b.2.1+1)))]:Fdl)))))))))))) ((d.1,d.2.1),d.2)))) (dnO (some (((0:Int),(0:Int)),d.2.2))))) (h.1,(0:Int),([]:Fdl)))))))) (g,(g.length:Int),(0:Int))))
def T16:Tbl:=(93,⟨⟨[(0,Zd)],[]⟩,[⟨[(0,WK)],[.row Yc 189]⟩],λt=>(o93 t)⟩)::T15
theorem K16:TK T16:=kc K15 Tryz.f93 (.s .d (.s .d (.s (.s .d (.b (.l [⟨[(0,Zd),(13,Za),(14,Za)],[]⟩] (.s .d (.s .d (.s (.b (.s .d (.s (.j false [⟨[(0,Zd),(5,Za),(13,Za),(14,Za),(26,Zc)],[]⟩] .d) .d))) .d)))))) (.s .d (.s .d (.s (.s .d (.b (.l [⟨[(0,Zd),(6,Ze),(7,Za)],[.row Yc 189]⟩] (.s .d (.b (.s .d (.s .d (.s (.b (.l [⟨[(0,Zd),(6,Ze),(7,Za),(8,Za)],[.row Yc 189]⟩] (.s (.s (.j false [⟨[(0,Zd),(6,Ze),(7,Za),(8,Za),(56,Zc)],[.row Yc 189]⟩] .d) .d) .d))) .d)))))))) .d)))))) λt=>by kernel_rfl
def WL:BSh:= .row Yd 120
def Ap:BSh:= .row (.p (.i .i64) Ye) 112
def WM:SSh:= .tup [.c (.ro Yd true),.c (.ro (.p (.i .i64) Ye) true)]
abbrev WN:Type:=Rcl×Dgl
abbrev Pb:Type:=(Int×Int)×Rcl×Dgl×List Bt
def o42(d:Bt):Option WN:=
 (cnd ((d.length:Int)>262144) (some (([]:Rcl),([((1:Int),((1:Int),(3:Int)))]:Dgl))) (bd (o92 d ([10]:Bt)) (λe=>(loopO (σ:=Pb) fuelN (λ(b:Pb)=>(cnd (b.1.2<b.1.1) (gd ((0:Int)<=b.1.2/\b.1.2<(b.2.2.2.length:Int)) (bd (o93 (aA b.2.2.2 b.1.2.toNat ([]:Bt))) (λc=>(cnd (c.1.2 !=0) (cnd ((b.2.2.1.length:Int)<50) (gd ((b.2.2.1.length+([((wrap .i64 (b.1.2+1)),(c.1.1,c.1.2))]:Dgl).length)*24<=140737488355328) (some (Ctl.go ((b.1.1,(wrap .i64 (b.1.2+1))),b.2.1,(b.2.2.1++([((wrap .i64 (b.1.2+1)),(c.1.1,c.1.2))]:Dgl)),b.2.2.2)))) (some (Ctl.go ((b.1.1,(wrap .i64 (b.1.2+1))),b.2)))) (cnd ((c.2.length:Int)>0) (gd ((b.2.1.length+([((wrap .i64 (b.1.2+1)),c.2)]:Rcl).length)*32<=140737488355328) (some (Ctl.go ((b.1.1,(wrap .i64 (b.1.2+1))),(b.2.1++([((wrap .i64 (b.1.2+1)),c.2)]:Rcl)),b.2.2)))) (some (Ctl.go ((b.1.1,(wrap .i64 (b.1.2+1))),b.2)))))))) (dnO (some (b.2.1,b.2.2.1))))) (((e.length:Int),(0:Int)),([]:Rcl),([]:Dgl),e)))))
def T17:Tbl:=(42,⟨⟨[(0,Zd)],[]⟩,[⟨[(0,WM)],[]⟩],λt=>(o42 t)⟩)::T16
theorem K17:TK T17:=kc K16 Tryz.f42 (.s .d (.s .d (.s .d (.s .d (.s (.s .d (.b (.l [⟨[(4,Ze),(5,Zl),(17,.v (.c (.own 2))),(18,Za),(19,Za)],[WL,Ap,.row .s 9]⟩] .d))) .d))))) λt=>by kernel_rfl
def Ex:SSh:= .v (.agg [.i .i64,.ro Yc false])
def WO:BSh:= .cells 299 [.i .i64,.own 1,.ic .i64 (0),.ic .i64 (1),.ic .i64 (0),.ic .i64 (0),.ic .i64 (0)]
def o154(b:Int×Fdl):Option (Int×Fdl):=
 (gd (b.2.length*24<=140737488355328) (some b))
def T18:Tbl:=(154,⟨⟨[(0,Ex)],[]⟩,[⟨[(0,Zb)],[WO,.row Yc 189]⟩],λt=>(o154 t)⟩)::T17
theorem K18:TK T18:=kc K17 Tryz.f154 (.s .d (.s (.r 2) .d)) λt=>by kernel_rfl
def Hz:BSh:= .lent [.i .i64,.ro Yc false,.i .i64,.i .i64,.i .i64,.i .i64,.i .i64]
abbrev Fu:Type:=(Int×Fdl×Int)×(Int×Int)×Int×Int
def o217(b:Fu):Option Bool:=
 (some (b.2.2.2 !=0))
def T19:Tbl:=(217,⟨⟨[(0,Zb)],[Hz]⟩,[⟨[(0,Zc)],[.no]⟩],λt=>(o217 t)⟩)::T18
theorem K19:TK T19:=kc K18 Tryz.f217 .d λt=>by kernel_rfl
def Ax:BSh:= .cells 299 [.i .i64,.own 1,.i .i64,.i .i64,.i .i64,.i .i64,.i .i64]
abbrev KQ:Type:=((Int×Int×Int)×Int×Int×Int)×Fdl
abbrev HA:Type:=(Int×Int)×((Int×Int×Int)×Int×Int×Int)×Fdl
def o211(f:Int)(d:Int)(b:(Int×Int×Int)×Int×Int×Int)(e:Fdl):Option KQ:=
 (bd (bd (o217 ((b.1.1,e,b.1.2.1),(b.1.2.2,b.2.1),b.2.2)) (λg=>(cnd (!g) (some ((f,d),(d !=0),b,e)) (some ((f,d),false,b,e))))) (λc=>(cnd c.2.1 (some ((c.2.2.1.1,c.2.2.1.1.1,c.1),c.2.2.2)) (some c.2.2))))
def T20:Tbl:=(211,⟨⟨[(0,Zb),(1,Za),(2,Za)],[Ax,.row Yc 189]⟩,[⟨[(0,Zs)],[Ax,.row Yc 189]⟩],λt=>(o211 t.1.1 t.1.2 t.2.1 t.2.2)⟩)::T19
theorem K20:TK T20:=kc K19 Tryz.f211 (.s (.j false [⟨[(0,Zb),(1,Za),(2,Za),(12,Zc)],[Ax,.row Yc 189]⟩] .d) .d) λt=>by kernel_rfl
abbrev WP:Type:=(Bt×Bool)×((Int×Int×Int)×Int×Int×Int)×Fdl
abbrev DP:Type:=Int×((Int×Int×Int)×Int×Int×Int)×Fdl
def o207(b:(Int×Int×Int)×Int×Int×Int)(c:Fdl):Option WP:=
 (bd (o217 ((b.1.1,c,b.1.2.1),(b.1.2.2,b.2.1),b.2.2)) (λg=>(cnd g (some ((([]:Bt),false),b,c)) (cnd (b.1.2.1==(c.length:Int)) (bd (cnd ((c.length:Int)>0) (gd ((0:Int)<=(wrap .i64 ((c.length:Int)-1))/\(wrap .i64 ((c.length:Int)-1))<(c.length:Int)) (bd (some (aA c ((wrap .i64 ((c.length:Int)-1)).toNat) (([]:Bt),(0:Int)))) (λe=>(some ((wrap .i64 (e.2+(e.1.length:Int))),b,c))))) (some ((1:Int),b,c))) (λd=>(bd (o211 d.1 (4:Int) d.2.1 d.2.2) (λh=>(some ((([]:Bt),false),h)))))) (gd ((0:Int)<=b.1.2.1/\b.1.2.1<(c.length:Int)) (bd (some (aA c b.1.2.1.toNat (([]:Bt),(0:Int)))) (λf=>(some ((f.1,true),((b.1.1,(wrap .i64 (b.1.2.1+1)),f.2),b.2),c)))))))))
def T21:Tbl:=(207,⟨⟨[(0,Zb)],[Ax,.row Yc 189]⟩,[⟨[(0,ZA)],[Ax,.row Yc 189]⟩],λt=>(o207 t.1 t.2)⟩)::T20
theorem K21:TK T21:=kc K20 Tryz.f207 (.s .d (.s .d (.s .d (.s (.s .d (.c (.s .d (.j false [⟨[(0,Zb),(5,Za)],[Ax,.row Yc 189]⟩] .d)) .d)) (.s (.r 1) .d))))) λt=>by kernel_rfl
abbrev KR:Type:=Bt×((Int×Int×Int)×Int×Int×Int)×Fdl
def o155(c:(Int×Int×Int)×Int×Int×Int)(d:Fdl):Option KR:=
 (bd (o207 c d) (λb=>(some (b.1.1,b.2))))
def T22:Tbl:=(155,⟨⟨[(0,Zb)],[Ax,.row Yc 189]⟩,[⟨[(0,Zd)],[Ax,.row Yc 189]⟩],λt=>(o155 t.1 t.2)⟩)::T21
theorem K22:TK T22:=kc K21 Tryz.f155 .d λt=>by kernel_rfl
def o130(c:Bt)(f:Int):Option Bool:=
 (bd (cnd ((c.length:Int)==0) (some (c,true)) (cnd ((c.length:Int)>f) (some (c,true)) (gd ((0:Int)<=0/\(0:Int)<(c.length:Int)) (cnd (((aA c (0:Int).toNat 0).toNat:Int)<65) (some (c,true)) (gd ((0:Int)<=0/\(0:Int)<(c.length:Int)) (some (c,(decide (((aA c (0:Int).toNat 0).toNat:Int)>90))))))))) (λe=>(cnd e.2 (some false) (loopO (σ:=Bt×Int×Int) fuelN (λ(b:Bt×Int×Int)=>(cnd (b.2.2<b.2.1) (bd (gd ((0:Int)<=b.2.2/\b.2.2<(b.1.length:Int)) (cnd (((aA b.1 b.2.2.toNat 0).toNat:Int)<65) (gd ((0:Int)<=b.2.2/\b.2.2<(b.1.length:Int)) (cnd (((aA b.1 b.2.2.toNat 0).toNat:Int)<48) (some ((b.1,b.2.1),b.2.2,true)) (gd ((0:Int)<=b.2.2/\b.2.2<(b.1.length:Int)) (some ((b.1,b.2.1),b.2.2,(decide (((aA b.1 b.2.2.toNat 0).toNat:Int)>57))))))) (gd ((0:Int)<=b.2.2/\b.2.2<(b.1.length:Int)) (cnd (((aA b.1 b.2.2.toNat 0).toNat:Int)>90) (gd ((0:Int)<=b.2.2/\b.2.2<(b.1.length:Int)) (cnd (((aA b.1 b.2.2.toNat 0).toNat:Int)<48) (some ((b.1,b.2.1),b.2.2,true)) (gd ((0:Int)<=b.2.2/\b.2.2<(b.1.length:Int)) (some ((b.1,b.2.1),b.2.2,(decide (((aA b.1 b.2.2.toNat 0).toNat:Int)>57))))))) (some ((b.1,b.2.1),b.2.2,false)))))) (λd=>(cnd d.2.2 (dnO (some false)) (some (Ctl.go (d.1.1,d.1.2,(wrap .i64 (d.2.1+1)))))))) (dnO (some true)))) (e.1,(e.1.length:Int),(0:Int))))))
def T23:Tbl:=(130,⟨⟨[(0,Zd),(1,Za)],[]⟩,[⟨[(0,Zc)],[]⟩],λt=>(o130 t.1 t.2)⟩)::T22
theorem K23:TK T23:=kc K22 Tryz.f130 (.s .d (.s (.s (.j false [⟨[(0,Zd),(24,Zc)],[]⟩] .d) .d) (.s (.s .d (.b (.l [⟨[(0,Zd),(26,Za),(27,Za)],[]⟩] (.s .d (.s .d (.s (.b (.s .d (.s (.j false [⟨[(0,Zd),(26,Za),(27,Za),(51,Zc)],[]⟩] .d) .d))) .d)))))) .d))) λt=>by kernel_rfl
def o209(b:Bt)(c:Int):Option (Bt×Int):=
 (bd (o130 b c) (λd=>(cnd (!d) (some (([]:Bt),(5:Int))) (some (b,(0:Int))))))
def T24:Tbl:=(209,⟨⟨[(0,Zd),(1,Zb)],[.lent [.i .i64]]⟩,[⟨[(0,Zo)],[.no]⟩],λt=>(o209 t.1 t.2)⟩)::T23
theorem K24:TK T24:=kc K23 Tryz.f209 .d λt=>by kernel_rfl
def WQ:SSh:= .v (.c (.cap (.fn 209) (.ptr 2 0)))
abbrev WR:Type:=(Bt×(Int×Int×Int)×Int×Int×Int)×Fdl×Int
def o208(f:(Int×Int×Int)×Int×Int×Int)(g:Fdl)(c:Int):Option WR:=
 (bd (o207 f g) (λb=>(cnd (!b.1.2) (some ((([]:Bt),b.2.1),b.2.2,c)) (bd (o209 b.1.1 c) (λd=>(cnd (d.2 !=0) (bd (o211 b.2.1.1.2.2 d.2 b.2.1 b.2.2) (λe=>(some ((([]:Bt),e.1),e.2,c)))) (some ((d.1,b.2.1),b.2.2,c))))))))
def T25:Tbl:=(208,⟨⟨[(0,Zb),(1,WQ)],[Ax,.row Yc 189,.cells 3 [.i .i64]]⟩,[⟨[(0,Zd)],[Ax,.row Yc 189,.cells 3 [.i .i64]]⟩],λt=>(o208 t.1 t.2.1 t.2.2)⟩)::T24
theorem K25:TK T25:=kc K24 Tryz.f208 .d λt=>by kernel_rfl
def o156(c:Int)(d:(Int×Int×Int)×Int×Int×Int)(e:Fdl):Option KR:=
 (bd (o208 d e c) (λb=>(some (b.1.1,b.1.2,b.2.1))))
def T26:Tbl:=(156,⟨⟨[(0,Zb),(1,Za)],[Ax,.row Yc 189]⟩,[⟨[(0,Zd)],[Ax,.row Yc 189]⟩],λt=>(o156 t.1 t.2.1 t.2.2)⟩)::T25
theorem K26:TK T26:=kc K25 Tryz.f156 .d λt=>by kernel_rfl
def o210(d:Bt):Option (Int×Bool):=
 (loopO (σ:=(Bt×Int)×Int×Int) fuelN (λ(b:(Bt×Int)×Int×Int)=>(cnd (b.2.2<b.2.1) (bd (gd ((0:Int)<=b.2.2/\b.2.2<(b.1.1.length:Int)) (cnd (((aA b.1.1 b.2.2.toNat 0).toNat:Int)<48) (some ((b.1.1,b.1.2,b.2.2),b.2.1,b.2.2,true)) (gd ((0:Int)<=b.2.2/\b.2.2<(b.1.1.length:Int)) (some ((b.1.1,b.1.2,b.2.2),b.2.1,b.2.2,(decide (((aA b.1.1 b.2.2.toNat 0).toNat:Int)>57))))))) (λc=>(cnd c.2.2.2 (dnO (some ((0:Int),false))) (gd ((0:Int)<=c.1.2.2/\c.1.2.2<(c.1.1.length:Int)) (some (Ctl.go ((c.1.1,(wrap .i64 ((wrap .i64 ((10:Int)*c.1.2.1))+(wrap .i64 (wrap .u8 (((aA c.1.1 c.1.2.2.toNat 0).toNat:Int)-48)))))),c.2.1,(wrap .i64 (c.2.2.1+1))))))))) (dnO (some (b.1.2,true))))) ((d,(0:Int)),(d.length:Int),(0:Int)))
def T27:Tbl:=(210,⟨⟨[(0,Zd)],[]⟩,[⟨[(0,Zt)],[]⟩],λt=>(o210 t)⟩)::T26
theorem K27:TK T27:=kc K26 Tryz.f210 (.s .d (.s .d (.s (.s .d (.b (.l [⟨[(0,Zd),(4,Za),(7,Za),(8,Za)],[]⟩] (.s .d (.s .d (.s (.b (.s .d (.s (.s (.j false [⟨[(0,Zd),(4,Za),(5,Za),(7,Za),(8,Za),(20,Zc)],[]⟩] .d) .d) .d))) .d)))))) .d))) λt=>by kernel_rfl
def o146(b:Int):Option Int:=
 (some (wrap .i64 ((wrap .i64 ((365:Int)*(wrap .i64 (b-2000))))+(wrap .i64 (bC (wrap .i64 ((wrap .i64 (b-2000))+3)) 4)))))
def T28:Tbl:=(146,⟨⟨[(0,Za)],[]⟩,[⟨[(0,Za)],[]⟩],λt=>(o146 t)⟩)::T27
theorem K28:TK T28:=kc K27 Tryz.f146 .d λt=>by kernel_rfl
def o77(c:Int):Option Int:=
 (bd (o146 c) (λb=>(cnd ((wrap .i64 (b-26))<=0) (some (26:Int)) (some (wrap .i64 ((26:Int)+(wrap .i64 ((wrap .i64 (bC (wrap .i64 ((wrap .i64 ((wrap .i64 (b-26))+28))-1)) (28:Int)))*28))))))))
def T29:Tbl:=(77,⟨⟨[(0,Za)],[]⟩,[⟨[(0,Za)],[]⟩],λt=>(o77 t)⟩)::T28
theorem K29:TK T29:=kc K28 Tryz.f77 .d λt=>by kernel_rfl
def o200(b:Int):Option Bool:=
 (bd (cnd (b>=2000) (cnd (b<=2099) (some ((aL b 4)==0)) (some false)) (some false)) (λc=>(some c)))
def T30:Tbl:=(200,⟨⟨[(0,Za)],[]⟩,[⟨[(0,Zc)],[]⟩],λt=>(o200 t)⟩)::T29
theorem K30:TK T30:=kc K29 Tryz.f200 (.s .d (.s (.j false [⟨[(2,Zc)],[]⟩] .d) .d)) λt=>by kernel_rfl
def o147(c:Int)(d:Int):Option Int:=
 (bd (cnd (c<2000) (some (c,d,true)) (cnd (c>2099) (some (c,d,true)) (cnd (d<1) (some (c,d,true)) (some (c,d,(decide (d>12))))))) (λe=>(cnd e.2.2 (some (0:Int)) (bd (cnd (e.2.1==2) (bd (o200 e.1) (λf=>(some (e.2.1,f)))) (some (e.2.1,false))) (λb=>(cnd b.2 (some (29:Int)) (bd (sm (isZ (wrap .i64 (b.1-1)) 0) (λ_=>(some (31:Int))) (λ_=>(sm (isZ (wrap .i64 (b.1-1)) 1) (λ_=>(some (28:Int))) (λ_=>(sm (isZ (wrap .i64 (b.1-1)) 2) (λ_=>(some (31:Int))) (λ_=>(sm (isZ (wrap .i64 (b.1-1)) 3) (λ_=>(some (30:Int))) (λ_=>(sm (isZ (wrap .i64 (b.1-1)) 4) (λ_=>(some (31:Int))) (λ_=>(sm (isZ (wrap .i64 (b.1-1)) 5) (λ_=>(some (30:Int))) (λ_=>(sm (isZ (wrap .i64 (b.1-1)) 6) (λ_=>(some (31:Int))) (λ_=>(sm (isZ (wrap .i64 (b.1-1)) 7) (λ_=>(some (31:Int))) (λ_=>(sm (isZ (wrap .i64 (b.1-1)) 8) (λ_=>(some (30:Int))) (λ_=>(sm (isZ (wrap .i64 (b.1-1)) 9) (λ_=>(some (31:Int))) (λ_=>(sm (isZ (wrap .i64 (b.1-1)) 10) (λ_=>(some (30:Int))) (λ_=>(sm (isZ (wrap .i64 (b.1-1)) 11) (λ_=>(some (31:Int))) (λ_=>none)))))))))))))))))))))))) (λg=>(some g)))))))))
def T31:Tbl:=(147,⟨⟨[(0,Za),(1,Za)],[]⟩,[⟨[(0,Za)],[]⟩],λt=>(o147 t.1 t.2)⟩)::T30
theorem K31:TK T31:=kc K30 Tryz.f147 (.s .d (.s (.s (.j false [⟨[(0,Za),(1,Za),(18,Zc)],[]⟩] .d) .d) (.s (.s (.j false [⟨[(1,Za),(24,Zc)],[]⟩] .d) .d) (.s (.j false [⟨[(4,Za)],[]⟩] .d) .d)))) λt=>by kernel_rfl
def WS:SSh:= .tup [.c (.i .i64),.c (.i .i64),.c (.i .i64),.c (.i .i64)]
def o76(d:Int):Option ((Int×Int)×Int×Int):=
 (bd (cnd (d<0) (some (d,true)) (some (d,(decide (d>36524))))) (λe=>(cnd e.2 (some (((0:Int),(0:Int)),(0:Int),(2:Int))) (loopO (σ:=Int×Int) fuelN (λ(c:Int×Int)=>(bd (o146 (wrap .i64 (c.2+1))) (λf=>(cnd (f<=c.1) (some (Ctl.go (c.1,(wrap .i64 (c.2+1))))) (dnO (bd (o146 c.2) (λg=>(loopO (σ:=Int×Int×Int) fuelN (λ(b:Int×Int×Int)=>(bd (o147 b.1 b.2.1) (λh=>(cnd (b.2.2>=h) (bd (o147 b.1 b.2.1) (λi=>(some (Ctl.go (b.1,(wrap .i64 (b.2.1+1)),(wrap .i64 (b.2.2-i))))))) (dnO (some ((b.1,b.2.1),(wrap .i64 (b.2.2+1)),(0:Int)))))))) (c.2,(1:Int),(wrap .i64 (c.1-g))))))))))) (e.1,(wrap .i64 ((2000:Int)+(wrap .i64 (bC e.1 366)))))))))
def T32:Tbl:=(76,⟨⟨[(0,Za)],[]⟩,[⟨[(0,WS)],[]⟩],λt=>(o76 t)⟩)::T31
theorem K32:TK T32:=kc K31 Tryz.f76 (.s .d (.s (.s (.j false [⟨[(0,Za),(12,Zc)],[]⟩] .d) .d) (.s .d (.s (.b (.l [⟨[(0,Za),(2,Za)],[]⟩] .d)) (.s .d (.s (.s .d (.b (.l [⟨[(2,Za),(3,Za),(6,Za)],[]⟩] .d))) .d)))))) λt=>by kernel_rfl
def o36(b:Int):Option Int:=
 (bd (o76 b) (λc=>(bd (o77 c.1.1) (λd=>(some (wrap .i64 ((wrap .i64 ((wrap .i64 ((aL c.1.1 100)*100))+(wrap .i64 (bC (wrap .i64 (b-d)) 28))))+1)))))))
def T33:Tbl:=(36,⟨⟨[(0,Za)],[]⟩,[⟨[(0,Za)],[]⟩],λt=>(o36 t)⟩)::T32
theorem K33:TK T33:=kc K32 Tryz.f36 .d λt=>by kernel_rfl
def WT:SSh:= .tup [.c (.i .i64),.c (.i .i64),.c (.i .i64)]
def o115(d:Int):Option (Int×Int×Int):=
 (bd (cnd (d<0) (some (d,true)) (some (d,(decide (d>9999))))) (λb=>(cnd b.2 (some ((0:Int),(0:Int),(2:Int))) (bd (o77 (wrap .i64 ((2000:Int)+(wrap .i64 (bC b.1 100))))) (λc=>(bd (cnd ((aL b.1 100)==0) (some ((wrap .i64 (c+(wrap .i64 ((wrap .i64 ((aL b.1 100)-1))*28)))),true)) (cnd (decide ((wrap .i64 (c+(wrap .i64 ((wrap .i64 ((aL b.1 100)-1))*28))))<26)) (some ((wrap .i64 (c+(wrap .i64 ((wrap .i64 ((aL b.1 100)-1))*28)))),true)) (cnd (decide ((wrap .i64 (c+(wrap .i64 ((wrap .i64 ((aL b.1 100)-1))*28))))>36524)) (some ((wrap .i64 (c+(wrap .i64 ((wrap .i64 ((aL b.1 100)-1))*28)))),true)) (bd (o36 (wrap .i64 (c+(wrap .i64 ((wrap .i64 ((aL b.1 100)-1))*28))))) (λf=>(some ((wrap .i64 (c+(wrap .i64 ((wrap .i64 ((aL b.1 100)-1))*28)))),(f !=b.1)))))))) (λe=>(cnd e.2 (some ((0:Int),(0:Int),(6:Int))) (some (e.1,(wrap .i64 (e.1+28)),(0:Int)))))))))))
def T34:Tbl:=(115,⟨⟨[(0,Za)],[]⟩,[⟨[(0,WT)],[]⟩],λt=>(o115 t)⟩)::T33
theorem K34:TK T34:=kc K33 Tryz.f115 (.s .d (.s (.s (.j false [⟨[(0,Za),(10,Zc)],[]⟩] .d) .d) (.s .d (.s (.s (.j false [⟨[(2,Za),(36,Zc)],[]⟩] .d) .d) .d)))) λt=>by kernel_rfl
def o157(d:Bt):Option (Int×Int):=
 (bd (o210 d) (λb=>(bd (cnd ((d.length:Int)!=4) (some (b.1,true)) (some (b.1,(!b.2)))) (λc=>(cnd c.2 (some ((0:Int),(4:Int))) (bd (o115 c.1) (λe=>(cnd (e.2.2 !=0) (some ((0:Int),e.2.2)) (some (c.1,(0:Int)))))))))))
def T35:Tbl:=(157,⟨⟨[(0,Zd)],[]⟩,[⟨[(0,Zq)],[]⟩],λt=>(o157 t)⟩)::T34
theorem K35:TK T35:=kc K34 Tryz.f157 (.s .d (.s .d (.s (.s (.j false [⟨[(4,Za),(20,Zc)],[]⟩] .d) .d) .d))) λt=>by kernel_rfl
def o158(c:Int)(b:(Int×Int×Int)×Int×Int×Int)(d:Fdl):Option KQ:=
 (bd (o211 b.1.2.2 c b d) (λe=>(some e)))
def T36:Tbl:=(158,⟨⟨[(0,Zb),(1,Za)],[Ax,.row Yc 189]⟩,[⟨[(0,Zs)],[Ax,.row Yc 189]⟩],λt=>(o158 t.1 t.2.1 t.2.2)⟩)::T35
theorem K36:TK T36:=kc K35 Tryz.f158 .d λt=>by kernel_rfl
def o316(d:Bt):Option (Int×Bool):=
 (loopO (σ:=(Bt×Int)×Int×Int) fuelN (λ(b:(Bt×Int)×Int×Int)=>(cnd (b.2.2<b.2.1) (bd (gd ((0:Int)<=b.2.2/\b.2.2<(b.1.1.length:Int)) (cnd (((aA b.1.1 b.2.2.toNat 0).toNat:Int)<48) (some ((b.1.1,b.1.2,b.2.2),b.2.1,b.2.2,true)) (gd ((0:Int)<=b.2.2/\b.2.2<(b.1.1.length:Int)) (some ((b.1.1,b.1.2,b.2.2),b.2.1,b.2.2,(decide (((aA b.1.1 b.2.2.toNat 0).toNat:Int)>57))))))) (λc=>(cnd c.2.2.2 (dnO (some ((0:Int),false))) (gd ((0:Int)<=c.1.2.2/\c.1.2.2<(c.1.1.length:Int)) (some (Ctl.go ((c.1.1,(wrap .i64 ((wrap .i64 ((10:Int)*c.1.2.1))+(wrap .i64 (wrap .u8 (((aA c.1.1 c.1.2.2.toNat 0).toNat:Int)-48)))))),c.2.1,(wrap .i64 (c.2.2.1+1))))))))) (dnO (some (b.1.2,true))))) ((d,(0:Int)),(d.length:Int),(0:Int)))
def T37:Tbl:=(316,⟨⟨[(0,Zd)],[]⟩,[⟨[(0,Zt)],[]⟩],λt=>(o316 t)⟩)::T36
theorem K37:TK T37:=kc K36 Tryz.f316 (.s .d (.s .d (.s (.s .d (.b (.l [⟨[(0,Zd),(4,Za),(7,Za),(8,Za)],[]⟩] (.s .d (.s .d (.s (.b (.s .d (.s (.s (.j false [⟨[(0,Zd),(4,Za),(5,Za),(7,Za),(8,Za),(20,Zc)],[]⟩] .d) .d) .d))) .d)))))) .d))) λt=>by kernel_rfl
def o296(c:Bt)(b:Int):Option (Int×Bool):=
 (cnd ((c.length:Int)!=(wrap .i64 (b+6))) (some ((0:Int),false)) (bd (o316 c) (λi=>(cnd (!i.2) (some ((0:Int),false)) (gd ((0:Int)<=b/\b<=(c.length:Int)) (bd (o316 (aI b.toNat c)) (λg=>(gd ((0:Int)<=b/\b<=(wrap .i64 (b+2))/\(wrap .i64 (b+2))<=(c.length:Int)) (bd (o316 (aI ((wrap .i64 (b+2)).toNat-b.toNat) (aK b.toNat c))) (λe=>(gd ((0:Int)<=(wrap .i64 (b+2))/\(wrap .i64 (b+2))<=(wrap .i64 (b+4))/\(wrap .i64 (b+4))<=(c.length:Int)) (bd (o316 (aI ((wrap .i64 (b+4)).toNat-(wrap .i64 (b+2)).toNat) (aK (wrap .i64 (b+2)).toNat c))) (λf=>(gd ((0:Int)<=(wrap .i64 (b+4))/\(wrap .i64 (b+4))<=(c.length:Int)) (bd (o316 (aK (wrap .i64 (b+4)).toNat c)) (λh=>(bd (cnd (e.1>=60) (some ((g.1,e.1),f.1,h.1,true)) (some ((g.1,e.1),f.1,h.1,(decide (f.1>=60))))) (λd=>(cnd d.2.2.2 (some ((0:Int),false)) (some ((wrap .i64 ((wrap .i64 ((wrap .i64 ((wrap .i64 (d.1.1*360000))+(wrap .i64 (d.1.2*6000))))+(wrap .i64 (d.2.1*100))))+d.2.2.1)),true)))))))))))))))))))))
def T38:Tbl:=(296,⟨⟨[(0,Zd),(1,Za)],[]⟩,[⟨[(0,Zt)],[]⟩],λt=>(o296 t.1 t.2)⟩)::T37
theorem K38:TK T38:=kc K37 Tryz.f296 (.s .d (.s .d (.s .d (.s .d (.s .d (.s .d (.s .d (.s (.s (.j false [⟨[(8,Za),(10,Za),(12,Za),(14,Za),(67,Zc)],[]⟩] .d) .d) .d)))))))) λt=>by kernel_rfl
def o290(c:Bt)(h:Int)(f:Int)(g:Int):Option (Int×Bool):=
 (bd (cnd ((c.length:Int)!=(wrap .i64 (g+7))) (some ((c,f),g,true)) (gd ((0:Int)<=0/\(0:Int)<(c.length:Int)) (cnd (((aA c (0:Int).toNat 0).toNat:Int)!=h) (gd ((0:Int)<=0/\(0:Int)<(c.length:Int)) (some ((c,f),g,(((aA c (0:Int).toNat 0).toNat:Int)!=f)))) (some ((c,f),g,false))))) (λb=>(cnd b.2.2 (some ((0:Int),false)) (gd ((0:Int)<=1/\(1:Int)<=(b.1.1.length:Int)) (bd (o296 (aK (1:Int).toNat b.1.1) b.2.1) (λe=>(bd (cnd (!e.2) (some (b.1,e.1,true)) (gd ((0:Int)<=0/\(0:Int)<(b.1.1.length:Int)) (cnd (((aA b.1.1 (0:Int).toNat 0).toNat:Int)==b.1.2) (some (b.1,e.1,(e.1==0))) (some (b.1,e.1,false))))) (λd=>(cnd d.2.2 (some ((0:Int),false)) (gd ((0:Int)<=0/\(0:Int)<(d.1.1.length:Int)) (cnd (((aA d.1.1 (0:Int).toNat 0).toNat:Int)==d.1.2) (some ((wrap .i64 ((0:Int)-d.2.1)),true)) (some (d.2.1,true)))))))))))))
def T39:Tbl:=(290,⟨⟨[(0,Zd),(1,Zh),(2,Zh),(3,Za)],[]⟩,[⟨[(0,Zt)],[]⟩],λt=>(o290 t.1.1 t.1.2 t.2.1 t.2.2)⟩)::T38
theorem K39:TK T39:=kc K38 Tryz.f290 (.s .d (.s (.s (.j false [⟨[(0,Zd),(2,Zh),(3,Za),(28,Zc)],[]⟩] .d) .d) (.s .d (.s (.s (.j false [⟨[(0,Zd),(2,Zh),(10,Za),(47,Zc)],[]⟩] .d) .d) .d)))) λt=>by kernel_rfl
def o178(b:Int):Option Bool:=
 (bd (cnd (b>=(-32400000:Int)) (some (decide (b<=32400000))) (some false)) (λc=>(some c)))
def T40:Tbl:=(178,⟨⟨[(0,Za)],[]⟩,[⟨[(0,Zc)],[]⟩],λt=>(o178 t)⟩)::T39
theorem K40:TK T40:=kc K39 Tryz.f178 (.s .d (.s (.j false [⟨[(2,Zc)],[]⟩] .d) .d)) λt=>by kernel_rfl
def o254(c:Bt):Option (Int×Int):=
 (bd (o290 c (78:Int) (83:Int) (2:Int)) (λb=>(cnd (!b.2) (some ((0:Int),(4:Int))) (bd (o178 b.1) (λd=>(cnd (!d) (some ((0:Int),(2:Int))) (some (b.1,(0:Int)))))))))
def T41:Tbl:=(254,⟨⟨[(0,Zd)],[]⟩,[⟨[(0,Zq)],[]⟩],λt=>(o254 t)⟩)::T40
theorem K41:TK T41:=kc K40 Tryz.f254 .d λt=>by kernel_rfl
def o180(b:Int):Option Bool:=
 (bd (cnd (b>(-64800000:Int)) (some (decide (b<=64800000))) (some false)) (λc=>(some c)))
def T42:Tbl:=(180,⟨⟨[(0,Za)],[]⟩,[⟨[(0,Zc)],[]⟩],λt=>(o180 t)⟩)::T41
theorem K42:TK T42:=kc K41 Tryz.f180 (.s .d (.s (.j false [⟨[(2,Zc)],[]⟩] .d) .d)) λt=>by kernel_rfl
def o255(c:Bt):Option (Int×Int):=
 (bd (o290 c (69:Int) (87:Int) (3:Int)) (λb=>(cnd (!b.2) (some ((0:Int),(4:Int))) (bd (o180 b.1) (λd=>(cnd (!d) (some ((0:Int),(2:Int))) (some (b.1,(0:Int)))))))))
def T43:Tbl:=(255,⟨⟨[(0,Zd)],[]⟩,[⟨[(0,Zq)],[]⟩],λt=>(o255 t)⟩)::T42
theorem K43:TK T43:=kc K42 Tryz.f255 .d λt=>by kernel_rfl
def KS:SSh:= .tup [.agg [.i .i64,.i .i64],.c (.i .i64)]
def o213(b:Bt):Option (Int×Int×Int):=
 (cnd ((b.length:Int)!=19) (some ((0:Int),(0:Int),(4:Int))) (gd ((0:Int)<=9/\(9:Int)<=(b.length:Int)) (bd (o254 (aI (9:Int).toNat b)) (λc=>(cnd (c.2 !=0) (some ((0:Int),(0:Int),c.2)) (gd ((0:Int)<=9/\(9:Int)<=(b.length:Int)) (bd (o255 (aK (9:Int).toNat b)) (λd=>(cnd (d.2 !=0) (some ((0:Int),(0:Int),d.2)) (some (c.1,d.1,(0:Int))))))))))))
def T44:Tbl:=(213,⟨⟨[(0,Zd)],[]⟩,[⟨[(0,KS)],[]⟩],λt=>(o213 t)⟩)::T43
theorem K44:TK T44:=kc K43 Tryz.f213 .d λt=>by kernel_rfl
def o212(d:(Int×Int×Int)×Int×Int×Int)(e:Fdl):Option HA:=
 (bd (o207 d e) (λb=>(cnd (!b.1.2) (some (((0:Int),(0:Int)),b.2)) (bd (o213 b.1.1) (λc=>(cnd (c.2.2 !=0) (bd (o211 b.2.1.1.2.2 c.2.2 b.2.1 b.2.2) (λf=>(some (((0:Int),(0:Int)),f)))) (some ((c.1,c.2.1),b.2))))))))
def T45:Tbl:=(212,⟨⟨[(0,Zb),(1,.v (.c (.fn 213)))],[Ax,.row Yc 189]⟩,[⟨[(0,Zj)],[Ax,.row Yc 189]⟩],λt=>(o212 t.1 t.2)⟩)::T44
theorem K45:TK T45:=kc K44 Tryz.f212 .d λt=>by kernel_rfl
def o159(b:(Int×Int×Int)×Int×Int×Int)(c:Fdl):Option HA:=
 (bd (o212 b c) (λd=>(some d)))
def T46:Tbl:=(159,⟨⟨[(0,Zb)],[Ax,.row Yc 189]⟩,[⟨[(0,Zj)],[Ax,.row Yc 189]⟩],λt=>(o159 t.1 t.2)⟩)::T45
theorem K46:TK T46:=kc K45 Tryz.f159 .d λt=>by kernel_rfl
def WU:SSh:= .tup [.agg [.i .i64,.i .i64,.i .i64],.c (.b)]
def o164(b:Fu):Option ((Int×Int)×Int×Bool):=
 (bd (o217 b) (λc=>(cnd c (some ((b.2.1.2,b.2.2.1),b.2.2.2,true)) (cnd (b.1.2.2<(b.1.2.1.length:Int)) (gd ((0:Int)<=b.1.2.2/\b.1.2.2<(b.1.2.1.length:Int)) (some ((b.1.1,(aA b.1.2.1 b.1.2.2.toNat (([]:Bt),(0:Int))).2),(4:Int),true))) (some (((0:Int),(0:Int)),(0:Int),false))))))
def T47:Tbl:=(164,⟨⟨[(0,Zb)],[Hz]⟩,[⟨[(0,WU)],[.no]⟩],λt=>(o164 t)⟩)::T46
theorem K47:TK T47:=kc K46 Tryz.f164 .d λt=>by kernel_rfl
def WV:BSh:= .cells 116 [.ro Yd true,.cst (.slice none 0 0),.s,.i .i64,.i .i64,.i .i64,.i .i64,.i .i64,.cst (.slice none 0 0),.b,.b,.b]
abbrev AG:Type:=((Rcl×Bt)×Int×Int×Int)×(Int×Int)×Bool×Bool×Bool
def o119:Option (List Bt):=
 (some ([([87,65,89,80,79,73,78,84]:Bt),([86,79,82]:Bt),([68,77,69]:Bt),([78,68,66]:Bt),([65,73,82,80,79,82,84]:Bt),([82,85,78,87,65,89]:Bt)]:List Bt))
def T50:Tbl:=(119,⟨⟨[],[]⟩,[⟨[(0,Ze)],[.row .s 9]⟩],λt=>o119⟩)::T47
theorem K50:TK T50:=kc K47 Tryz.f119 .d λt=>by kernel_rfl
abbrev Pc:Type:=(Bt×List Bt×Int)×Int×((Int×Int×Int)×Int×Int×Int)×Fdl
def o161(d:List Bt)(e:(Int×Int×Int)×Int×Int×Int)(f:Fdl):Option DP:=
 (bd (o207 e f) (λc=>(cnd (!c.1.2) (some ((-1:Int),c.2)) (loopO (σ:=Pc) fuelN (λ(b:Pc)=>(cnd (b.2.1<b.1.2.2) (gd ((0:Int)<=b.2.1/\b.2.1<(b.1.2.1.length:Int)) (cnd ((aA b.1.2.1 b.2.1.toNat ([]:Bt))==b.1.1) (dnO (some b.2)) (some (Ctl.go (b.1,(wrap .i64 (b.2.1+1)),b.2.2))))) (dnO (bd (o211 b.2.2.1.1.2.2 (4:Int) b.2.2.1 b.2.2.2) (λg=>(some ((-1:Int),g))))))) ((c.1.1,d,(d.length:Int)),(0:Int),c.2)))))
def T51:Tbl:=(161,⟨⟨[(0,Zb),(1,Zv)],[Ax,.row Yc 189]⟩,[⟨[(0,Za)],[Ax,.row Yc 189]⟩],λt=>(o161 t.1 t.2.1 t.2.2)⟩)::T50
theorem K51:TK T51:=kc K50 Tryz.f161 (.s .d (.s .d (.s .d (.s (.s .d (.b (.l [⟨[(0,Zb),(5,Zd),(16,Zv),(17,Za),(18,Za)],[Ax,.row Yc 189]⟩] .d))) .d)))) λt=>by kernel_rfl
def o191(d:Bt):Option Bool:=
 (bd (cnd ((d.length:Int)<4) (some (d,true)) (cnd ((d.length:Int)>5) (some (d,true)) (gd ((0:Int)<=2/\(2:Int)<=(d.length:Int)) (some (d,(!((aI (2:Int).toNat d)==([82,87]:Bt)))))))) (λc=>(cnd c.2 (some false) (bd (cnd ((c.1.length:Int)==5) (gd ((0:Int)<=4/\(4:Int)<(c.1.length:Int)) (cnd (((aA c.1 (4:Int).toNat 0).toNat:Int)!=76) (gd ((0:Int)<=4/\(4:Int)<(c.1.length:Int)) (cnd (((aA c.1 (4:Int).toNat 0).toNat:Int)!=67) (gd ((0:Int)<=4/\(4:Int)<(c.1.length:Int)) (some (c.1,(((aA c.1 (4:Int).toNat 0).toNat:Int)!=82)))) (some (c.1,false)))) (some (c.1,false)))) (some (c.1,false))) (λb=>(cnd b.2 (some false) (bd (gd ((0:Int)<=2/\(2:Int)<(b.1.length:Int)) (cnd (((aA b.1 (2:Int).toNat 0).toNat:Int)<48) (some (b.1,true)) (gd ((0:Int)<=2/\(2:Int)<(b.1.length:Int)) (cnd (((aA b.1 (2:Int).toNat 0).toNat:Int)>51) (some (b.1,true)) (gd ((0:Int)<=3/\(3:Int)<(b.1.length:Int)) (cnd (((aA b.1 (3:Int).toNat 0).toNat:Int)<48) (some (b.1,true)) (gd ((0:Int)<=3/\(3:Int)<(b.1.length:Int)) (some (b.1,(decide (((aA b.1 (3:Int).toNat 0).toNat:Int)>57))))))))))) (λe=>(cnd e.2 (some false) (gd ((0:Int)<=2/\(2:Int)<(e.1.length:Int)) (gd ((0:Int)<=3/\(3:Int)<(e.1.length:Int)) (bd (cnd (decide ((wrap .i64 ((wrap .i64 ((wrap .i64 (wrap .u8 (((aA e.1 (2:Int).toNat 0).toNat:Int)-48)))*10))+(wrap .i64 (wrap .u8 (((aA e.1 (3:Int).toNat 0).toNat:Int)-48)))))>=1)) (some (decide ((wrap .i64 ((wrap .i64 ((wrap .i64 (wrap .u8 (((aA e.1 (2:Int).toNat 0).toNat:Int)-48)))*10))+(wrap .i64 (wrap .u8 (((aA e.1 (3:Int).toNat 0).toNat:Int)-48)))))<=36))) (some false)) (λf=>(some f))))))))))))))
def T52:Tbl:=(191,⟨⟨[(0,Zd)],[]⟩,[⟨[(0,Zc)],[]⟩],λt=>(o191 t)⟩)::T51
theorem K52:TK T52:=kc K51 Tryz.f191 (.s .d (.s (.s (.j false [⟨[(0,Zd),(16,Zc)],[]⟩] .d) .d) (.s (.s (.j false [⟨[(0,Zd),(34,Zc)],[]⟩] .d) .d) (.s (.s (.j false [⟨[(0,Zd),(52,Zc)],[]⟩] .d) .d) (.s .d (.s (.j false [⟨[(2,Zc)],[]⟩] .d) .d)))))) λt=>by kernel_rfl
def o132(b:Bt)(c:Int):Option Int:=
 (bd (bd (o130 b (6:Int)) (λd=>(cnd (!d) (some true) (cnd (c==6) (bd (o191 b) (λe=>(some (!e)))) (some false))))) (λf=>(cnd f (some (5:Int)) (some (0:Int)))))
def T53:Tbl:=(132,⟨⟨[(0,Zd),(1,Zh)],[]⟩,[⟨[(0,Za)],[]⟩],λt=>(o132 t.1 t.2)⟩)::T52
theorem K53:TK T53:=kc K52 Tryz.f132 (.s .d (.s (.s (.j false [⟨[(16,Zc)],[]⟩] .d) .d) .d)) λt=>by kernel_rfl
def o192(d:Bt):Option Bool:=
 (cnd ((d.length:Int)!=2) (some false) (loopO (σ:=Bt×Int×Int) fuelN (λ(b:Bt×Int×Int)=>(cnd (b.2.2<b.2.1) (bd (gd ((0:Int)<=b.2.2/\b.2.2<(b.1.length:Int)) (cnd (((aA b.1 b.2.2.toNat 0).toNat:Int)<65) (gd ((0:Int)<=b.2.2/\b.2.2<(b.1.length:Int)) (cnd (((aA b.1 b.2.2.toNat 0).toNat:Int)<48) (some ((b.1,b.2.1),b.2.2,true)) (gd ((0:Int)<=b.2.2/\b.2.2<(b.1.length:Int)) (some ((b.1,b.2.1),b.2.2,(decide (((aA b.1 b.2.2.toNat 0).toNat:Int)>57))))))) (gd ((0:Int)<=b.2.2/\b.2.2<(b.1.length:Int)) (cnd (((aA b.1 b.2.2.toNat 0).toNat:Int)>90) (gd ((0:Int)<=b.2.2/\b.2.2<(b.1.length:Int)) (cnd (((aA b.1 b.2.2.toNat 0).toNat:Int)<48) (some ((b.1,b.2.1),b.2.2,true)) (gd ((0:Int)<=b.2.2/\b.2.2<(b.1.length:Int)) (some ((b.1,b.2.1),b.2.2,(decide (((aA b.1 b.2.2.toNat 0).toNat:Int)>57))))))) (some ((b.1,b.2.1),b.2.2,false)))))) (λc=>(cnd c.2.2 (dnO (some false)) (some (Ctl.go (c.1.1,c.1.2,(wrap .i64 (c.2.1+1)))))))) (dnO (some true)))) (d,(d.length:Int),(0:Int))))
def T54:Tbl:=(192,⟨⟨[(0,Zd)],[]⟩,[⟨[(0,Zc)],[]⟩],λt=>(o192 t)⟩)::T53
theorem K54:TK T54:=kc K53 Tryz.f192 (.s .d (.s .d (.s (.s .d (.b (.l [⟨[(0,Zd),(8,Za),(9,Za)],[]⟩] (.s .d (.s .d (.s (.b (.s .d (.s (.j false [⟨[(0,Zd),(8,Za),(9,Za),(33,Zc)],[]⟩] .d) .d))) .d)))))) .d))) λt=>by kernel_rfl
def o133(b:Bt)(c:Int):Option Int:=
 (bd (cnd (c==6) (bd (o130 b (6:Int)) (λd=>(cnd (!d) (some true) (cnd (c !=6) (bd (o192 b) (λe=>(some (!e)))) (some false))))) (cnd (c !=6) (bd (o192 b) (λf=>(some (!f)))) (some false))) (λg=>(cnd g (some (5:Int)) (some (0:Int)))))
def T55:Tbl:=(133,⟨⟨[(0,Zd),(1,Zh)],[]⟩,[⟨[(0,Za)],[]⟩],λt=>(o133 t.1 t.2)⟩)::T54
theorem K55:TK T55:=kc K54 Tryz.f133 (.s .d (.s (.s (.j false [⟨[(20,Zc)],[]⟩] .d) .d) .d)) λt=>by kernel_rfl
def o120(b:Int):Option Bool:=
 (bd (cnd (b==5) (some true) (some (b==6))) (λc=>(some c)))
def T56:Tbl:=(120,⟨⟨[(0,Zh)],[]⟩,[⟨[(0,Zc)],[]⟩],λt=>(o120 t)⟩)::T55
theorem K56:TK T56:=kc K55 Tryz.f120 (.s .d (.s (.j false [⟨[(2,Zc)],[]⟩] .d) .d)) λt=>by kernel_rfl
def o295(c:Bt)(b:Bt):Option Bool:=
 (bd (cnd ((c.length:Int)>=(b.length:Int)) (gd ((0:Int)<=(b.length:Int)/\(b.length:Int)<=(c.length:Int)) (some ((aI (b.length:Int).toNat c)==b))) (some false)) (λd=>(some d)))
def T57:Tbl:=(295,⟨⟨[(0,Zd),(1,Zd)],[]⟩,[⟨[(0,Zc)],[]⟩],λt=>(o295 t.1 t.2)⟩)::T56
theorem K57:TK T57:=kc K56 Tryz.f295 (.s .d (.s (.j false [⟨[(4,Zc)],[]⟩] .d) .d)) λt=>by kernel_rfl
def o310(b:Bt)(c:Bt):Option (Bt×Bool):=
 (bd (o295 b c) (λd=>(cnd (!d) (some (b,false)) (gd ((0:Int)<=(c.length:Int)/\(c.length:Int)<=(b.length:Int)) (some ((aK (c.length:Int).toNat b),true))))))
def T58:Tbl:=(310,⟨⟨[(0,Zd),(1,Zd)],[]⟩,[⟨[(0,ZA)],[]⟩],λt=>(o310 t.1 t.2)⟩)::T57
theorem K58:TK T58:=kc K57 Tryz.f310 .d λt=>by kernel_rfl
def o291(b:Bt)(c:Bt):Option (Bt×Bool):=
 (bd (o310 b c) (λd=>(some d)))
def T59:Tbl:=(291,⟨⟨[(0,Zd),(1,Zd)],[]⟩,[⟨[(0,ZA)],[]⟩],λt=>(o291 t.1 t.2)⟩)::T58
theorem K59:TK T59:=kc K58 Tryz.f291 .d λt=>by kernel_rfl
def o258(c:Bt):Option Bool:=
 (bd (cnd ((c.length:Int)==0) (some (c,true)) (cnd ((c.length:Int)>1) (gd ((0:Int)<=0/\(0:Int)<(c.length:Int)) (some (c,(((aA c (0:Int).toNat 0).toNat:Int)==48)))) (some (c,false)))) (λe=>(cnd e.2 (some false) (loopO (σ:=Bt×Int×Int) fuelN (λ(b:Bt×Int×Int)=>(cnd (b.2.2<b.2.1) (bd (gd ((0:Int)<=b.2.2/\b.2.2<(b.1.length:Int)) (cnd (((aA b.1 b.2.2.toNat 0).toNat:Int)<48) (some ((b.1,b.2.1),b.2.2,true)) (gd ((0:Int)<=b.2.2/\b.2.2<(b.1.length:Int)) (some ((b.1,b.2.1),b.2.2,(decide (((aA b.1 b.2.2.toNat 0).toNat:Int)>57))))))) (λd=>(cnd d.2.2 (dnO (some false)) (some (Ctl.go (d.1.1,d.1.2,(wrap .i64 (d.2.1+1)))))))) (dnO (some true)))) (e.1,(e.1.length:Int),(0:Int))))))
def T60:Tbl:=(258,⟨⟨[(0,Zd)],[]⟩,[⟨[(0,Zc)],[]⟩],λt=>(o258 t)⟩)::T59
theorem K60:TK T60:=kc K59 Tryz.f258 (.s .d (.s (.s (.j false [⟨[(0,Zd),(16,Zc)],[]⟩] .d) .d) (.s (.s .d (.b (.l [⟨[(0,Zd),(18,Za),(19,Za)],[]⟩] (.s .d (.s .d (.s (.b (.s .d (.s (.j false [⟨[(0,Zd),(18,Za),(19,Za),(31,Zc)],[]⟩] .d) .d))) .d)))))) .d))) λt=>by kernel_rfl
def o256(g:Bt):Option (Int×Bool):=
 (bd (o291 g ([45]:Bt)) (λc=>(bd (o153 c.1 ([46]:Bt)) (λb=>(bd (o258 b.1) (λh=>(cnd (!h) (some ((0:Int),false)) (jd (cnd b.2.2 (bd (cnd ((b.2.1.length:Int)!=2) (some ((c.2,b.1),b.2.1,true)) (gd ((0:Int)<=0/\(0:Int)<(b.2.1.length:Int)) (cnd (((aA b.2.1 (0:Int).toNat 0).toNat:Int)<48) (some ((c.2,b.1),b.2.1,true)) (gd ((0:Int)<=0/\(0:Int)<(b.2.1.length:Int)) (cnd (((aA b.2.1 (0:Int).toNat 0).toNat:Int)>57) (some ((c.2,b.1),b.2.1,true)) (gd ((0:Int)<=1/\(1:Int)<(b.2.1.length:Int)) (cnd (((aA b.2.1 (1:Int).toNat 0).toNat:Int)<48) (some ((c.2,b.1),b.2.1,true)) (gd ((0:Int)<=1/\(1:Int)<(b.2.1.length:Int)) (cnd (((aA b.2.1 (1:Int).toNat 0).toNat:Int)>57) (some ((c.2,b.1),b.2.1,true)) (some ((c.2,b.1),b.2.1,(b.2.1==([48,48]:Bt))))))))))))) (λd=>(cnd d.2.2 (dnO (some ((0:Int),false))) (gd ((0:Int)<=0/\(0:Int)<(d.2.1.length:Int)) (gd ((0:Int)<=1/\(1:Int)<(d.2.1.length:Int)) (some (Ctl.go (d.1.1,d.1.2,(wrap .i64 ((wrap .i64 ((wrap .i64 (wrap .u8 (((aA d.2.1 (0:Int).toNat 0).toNat:Int)-48)))*10))+(wrap .i64 (wrap .u8 (((aA d.2.1 (1:Int).toNat 0).toNat:Int)-48))))))))))))) (some (Ctl.go (c.2,b.1,(0:Int))))) (λf=>(bd (cnd ((f.2.1.length:Int)<10) (bd (o259 f.2.1 (10:Int) (64:Int)) (λi=>(some (f.1,f.2.2,i)))) (some (f.1,f.2.2,(1099511627776:Int)))) (λe=>(cnd e.1 (some ((wrap .i64 ((0:Int)-(wrap .i64 ((wrap .i64 (e.2.2*100))+e.2.1)))),((wrap .i64 ((wrap .i64 (e.2.2*100))+e.2.1))!=0))) (some ((wrap .i64 ((wrap .i64 (e.2.2*100))+e.2.1)),true))))))))))))))
def T61:Tbl:=(256,⟨⟨[(0,Zd)],[]⟩,[⟨[(0,Zt)],[]⟩],λt=>(o256 t)⟩)::T60
theorem K61:TK T61:=kc K60 Tryz.f256 (.s .d (.s .d (.s .d (.s .d (.s .d (.j true [⟨[(5,Zc),(6,Zd),(9,Za)],[]⟩] (.s (.s .d (.c (.s (.s (.j false [⟨[(5,Zc),(6,Zd),(7,Zd),(52,Zc)],[]⟩] .d) .d) .d) .d)) (.s .d (.j false [⟨[(5,Zc),(9,Za),(10,Za)],[]⟩] .d))))))))) λt=>by kernel_rfl
def o257(b:Int):Option Bool:=
 (bd (cnd (b>=(-200000:Int)) (some (decide (b<=6000000))) (some false)) (λc=>(some c)))
def T62:Tbl:=(257,⟨⟨[(0,Za)],[]⟩,[⟨[(0,Zc)],[]⟩],λt=>(o257 t)⟩)::T61
theorem K62:TK T62:=kc K61 Tryz.f257 (.s .d (.s (.j false [⟨[(2,Zc)],[]⟩] .d) .d)) λt=>by kernel_rfl
def o215(c:Bt):Option (Int×Int):=
 (bd (o256 c) (λb=>(cnd (!b.2) (some ((0:Int),(4:Int))) (bd (o257 b.1) (λd=>(cnd (!d) (some ((0:Int),(2:Int))) (some (b.1,(0:Int)))))))))
def T63:Tbl:=(215,⟨⟨[(0,Zd)],[]⟩,[⟨[(0,Zq)],[]⟩],λt=>(o215 t)⟩)::T62
theorem K63:TK T63:=kc K62 Tryz.f215 .d λt=>by kernel_rfl
def o214(d:(Int×Int×Int)×Int×Int×Int)(e:Fdl):Option DP:=
 (bd (o207 d e) (λb=>(cnd (!b.1.2) (some ((0:Int),b.2)) (bd (o215 b.1.1) (λc=>(cnd (c.2 !=0) (bd (o211 b.2.1.1.2.2 c.2 b.2.1 b.2.2) (λf=>(some ((0:Int),f)))) (some (c.1,b.2))))))))
def T64:Tbl:=(214,⟨⟨[(0,Zb),(1,.v (.c (.fn 215)))],[Ax,.row Yc 189]⟩,[⟨[(0,Za)],[Ax,.row Yc 189]⟩],λt=>(o214 t.1 t.2)⟩)::T63
theorem K64:TK T64:=kc K63 Tryz.f214 .d λt=>by kernel_rfl
def o162(b:(Int×Int×Int)×Int×Int×Int)(c:Fdl):Option DP:=
 (bd (o214 b c) (λd=>(some d)))
def T65:Tbl:=(162,⟨⟨[(0,Zb)],[Ax,.row Yc 189]⟩,[⟨[(0,Za)],[Ax,.row Yc 189]⟩],λt=>(o162 t.1 t.2)⟩)::T64
theorem K65:TK T65:=kc K64 Tryz.f162 .d λt=>by kernel_rfl
def o122(b:Int):Option Bool:=
 (bd (cnd (b==2) (some true) (cnd (b==3) (some true) (some (b==4)))) (λc=>(some c)))
def T66:Tbl:=(122,⟨⟨[(0,Zh)],[]⟩,[⟨[(0,Zc)],[]⟩],λt=>(o122 t)⟩)::T65
theorem K66:TK T66:=kc K65 Tryz.f122 (.s .d (.s (.j false [⟨[(2,Zc)],[]⟩] .d) .d)) λt=>by kernel_rfl
def o216(g:Bt):Option (Int×Int):=
 (bd (o153 g ([43]:Bt)) (λb=>(bd (bd (o258 b.1) (λh=>(cnd (!h) (some ((b.1,b.2.1),b.2.2,true)) (cnd b.2.2 (bd (o258 b.2.1) (λi=>(cnd (!i) (some ((b.1,b.2.1),b.2.2,true)) (cnd (b.2.1==([48]:Bt)) (some ((b.1,b.2.1),b.2.2,true)) (some ((b.1,b.2.1),b.2.2,(decide ((b.2.1.length:Int)>4)))))))) (some ((b.1,b.2.1),b.2.2,false)))))) (λc=>(cnd c.2.2 (some ((0:Int),(4:Int))) (jd (cnd c.2.1 (bd (o259 c.1.2 (10:Int) (64:Int)) (λe=>(cnd (e>=6000) (dnO (some ((0:Int),(4:Int)))) (some (Ctl.go (c.1.1,e)))))) (some (Ctl.go (c.1.1,(0:Int))))) (λd=>(cnd ((d.1.length:Int)>9) (some ((0:Int),(2:Int))) (bd (o259 d.1 (10:Int) (64:Int)) (λf=>(cnd ((wrap .i64 ((wrap .i64 (f*6000))+d.2))>8000000) (some ((0:Int),(2:Int))) (some ((wrap .i64 ((wrap .i64 (f*6000))+d.2)),(0:Int))))))))))))))
def T67:Tbl:=(216,⟨⟨[(0,Zd)],[]⟩,[⟨[(0,Zq)],[]⟩],λt=>(o216 t)⟩)::T66
theorem K67:TK T67:=kc K66 Tryz.f216 (.s .d (.s .d (.s (.s (.j false [⟨[(4,Zd),(5,Zd),(6,Zc),(35,Zc)],[]⟩] .d) .d) (.s .d (.j true [⟨[(4,Zd),(7,Za)],[]⟩] .d))))) λt=>by kernel_rfl
def KT(d:(Int×Int×Int)×Int×Int×Int)(e:Fdl):Option DP:=
 (bd (o207 d e) (λb=>(cnd (!b.1.2) (some ((0:Int),b.2)) (bd (o216 b.1.1) (λc=>(cnd (c.2 !=0) (bd (o211 b.2.1.1.2.2 c.2 b.2.1 b.2.2) (λf=>(some ((0:Int),f)))) (some (c.1,b.2))))))))
def T68:Tbl:=(214,⟨⟨[(0,Zb),(1,.v (.c (.fn 216)))],[Ax,.row Yc 189]⟩,[⟨[(0,Za)],[Ax,.row Yc 189]⟩],λt=>(KT t.1 t.2)⟩)::T67
theorem K68:TK T68:=kc K67 Tryz.f214 .d λt=>by kernel_rfl
def o163(b:(Int×Int×Int)×Int×Int×Int)(c:Fdl):Option DP:=
 (bd (KT b c) (λd=>(some d)))
def T69:Tbl:=(163,⟨⟨[(0,Zb)],[Ax,.row Yc 189]⟩,[⟨[(0,Za)],[Ax,.row Yc 189]⟩],λt=>(o163 t.1 t.2)⟩)::T68
theorem K69:TK T69:=kc K68 Tryz.f163 .d λt=>by kernel_rfl
def Pd:BSh:= .cells 77 [.s,.s,.ic .u8 (0),.ic .i64 (0),.ic .i64 (0),.ic .i64 (0),.ic .i64 (0)]
def Fv:BSh:= .cells 112 [.ic .i64 (0),.ic .i64 (0),.ic .i64 (0)]
def HB:BSh:= .cells 299 [.i .i64,.own 4,.i .i64,.i .i64,.i .i64,.i .i64,.i .i64]
def Cw:BSh:= .cells 77 [.s,.s,.i .u8,.i .i64,.i .i64,.i .i64,.i .i64]
def WW:BSh:= .cells 77 [.s,.s,.i .u8,.i .i64,.i .i64,.i .i64,.ic .i64 (0)]
def WX:SSh:= .tup [.agg [.s,.s,.i .u8,.i .i64,.i .i64,.i .i64,.i .i64],.agg [.i .i64,.i .i64,.i .i64],.c (.b)]
abbrev HD:Type:=((Bt×Bt)×Int×Int×Int)×(Int×Int×Int)×Int×Int×Bool
abbrev Cx:Type:=(Bt×Bt×Int)×(Int×Int)×Int×Int
def o95(o:Int×Fdl):Option HD:=
 (bd (o154 o) (λk=>(bd o119 (λp=>(bd (o161 p ((k.1,(0:Int),(1:Int)),(0:Int),(0:Int),(0:Int)) k.2) (λe=>(bd (o155 e.2.1 e.2.2) (λg=>(bd (o132 g.1 (wrap .u8 (wrap .i64 (e.1+1)))) (λq=>(bd (o158 q g.2.1 g.2.2) (λl=>(bd (o155 l.1 l.2) (λh=>(bd (o133 h.1 (wrap .u8 (wrap .i64 (e.1+1)))) (λr=>(bd (o158 r h.2.1 h.2.2) (λm=>(bd (o159 m.1 m.2) (λd=>(bd (bd (o120 (wrap .u8 (wrap .i64 (e.1+1)))) (λs=>(cnd s (bd (o162 d.2.1 d.2.2) (λj=>(some (((([]:Bt),([]:Bt)),j.2.1),((g.1,h.1,(wrap .u8 (wrap .i64 (e.1+1)))),d.1.1,d.1.2,j.1),j.2.2)))) (some (((([]:Bt),([]:Bt)),d.2.1),((g.1,h.1,(wrap .u8 (wrap .i64 (e.1+1)))),d.1.1,d.1.2,(0:Int)),d.2.2))))) (λb=>(bd (bd (o122 b.2.1.1.2.2) (λu=>(cnd u (bd (o163 b.1.2 b.2.2) (λf=>(cnd (f.1==0) (bd (o158 (2:Int) f.2.1 f.2.2) (λn=>(some ((b.1.1,n.1),(b.2.1.1,(b.2.1.2.1,b.2.1.2.2.1),b.2.1.2.2.2,f.1),n.2)))) (some ((b.1.1,f.2.1),(b.2.1.1,(b.2.1.2.1,b.2.1.2.2.1),b.2.1.2.2.2,f.1),f.2.2))))) (some (b.1,(b.2.1.1,(b.2.1.2.1,b.2.1.2.2.1),b.2.1.2.2.2,(0:Int)),b.2.2))))) (λc=>(bd (o164 ((c.1.2.1.1,c.2.2,c.1.2.1.2.1),(c.1.2.1.2.2,c.1.2.2.1),c.1.2.2.2)) (λi=>(cnd i.2.2 (some (((([]:Bt),([]:Bt)),(0:Int),(0:Int),(0:Int)),((0:Int),(0:Int),i.1.1),i.1.2,i.2.1,true)) (some (((c.2.1.1.1,c.2.1.1.2.1),c.2.1.1.2.2,c.2.1.2.1),(c.2.1.2.2.1,c.2.1.2.2.2,(0:Int)),(0:Int),(0:Int),false)))))))))))))))))))))))))))))
def T70:Tbl:=(95,⟨⟨[(0,Ex)],[]⟩,[⟨[(0,WX)],[]⟩],λt=>(o95 t)⟩)::T69
theorem K70:TK T70:=kc K69 Tryz.f95 (.s .d (.s .d (.s .d (.s .d (.s .d (.s .d (.s .d (.s .d (.j false [⟨[(2,Zb),(3,Zg),(5,Zi),(6,Zr)],[Pd,Fv,HB,WW,.row Yc 189]⟩] (.s .d (.j false [⟨[(2,Zb),(3,Zg),(5,Zi),(6,Zr)],[Pd,Fv,HB,Cw,.row Yc 189]⟩] .d))))))))))) λt=>by kernel_rfl
def BR:SSh:= .v (.c (.ro Yd true))
def Bm:Int×Fdl:=((0:Int),([]:Fdl))
def WY:SSh:= .v (.agg [.ic .i64 (-200000),.ic .i64 (6000000)])
def o195:Option Unit:=
 (some ())
def T72:Tbl:=(195,⟨⟨[],[]⟩,[⟨[(0,WY)],[]⟩],λt=>o195⟩)::T70
theorem K72:TK T72:=kc K70 Tryz.f195 .d λt=>by kernel_rfl
def WZ:SSh:= .tup [.c (.s),.c (.s),.c (.i .i64)]
def o193(d:Bt):Option (Bt×Bt×Int):=
 (bd (o153 d ([47]:Bt)) (λb=>(cnd (!b.2.2) (some (([]:Bt),([]:Bt),(4:Int))) (bd (bd (o130 b.1 (6:Int)) (λe=>(cnd (!e) (some (b.1,b.2.1,true)) (bd (o130 b.2.1 (6:Int)) (λf=>(cnd (!f) (bd (o192 b.2.1) (λg=>(some (b.1,b.2.1,(!g))))) (some (b.1,b.2.1,false)))))))) (λc=>(cnd c.2.2 (some (([]:Bt),([]:Bt),(5:Int))) (some (c.1,c.2.1,(0:Int)))))))))
def T73:Tbl:=(193,⟨⟨[(0,Zd)],[]⟩,[⟨[(0,WZ)],[]⟩],λt=>(o193 t)⟩)::T72
theorem K73:TK T73:=kc K72 Tryz.f193 (.s .d (.s .d (.s .d (.s (.s (.j false [⟨[(2,Zd),(3,Zd),(26,Zc)],[]⟩] .d) .d) .d)))) λt=>by kernel_rfl
def o331(b:Bt)(c:Bt):Option Bool:=
 (bd (cnd ((b.length:Int)>=(c.length:Int)) (gd ((0:Int)<=(wrap .i64 ((b.length:Int)-(c.length:Int)))/\(wrap .i64 ((b.length:Int)-(c.length:Int)))<=(b.length:Int)) (some ((aK (wrap .i64 ((b.length:Int)-(c.length:Int))).toNat b)==c))) (some false)) (λd=>(some d)))
def T74:Tbl:=(331,⟨⟨[(0,Zd),(1,Zd)],[]⟩,[⟨[(0,Zc)],[]⟩],λt=>(o331 t.1 t.2)⟩)::T73
theorem K74:TK T74:=kc K73 Tryz.f331 (.s .d (.s (.j false [⟨[(4,Zc)],[]⟩] .d) .d)) λt=>by kernel_rfl
def o327(b:Bt)(c:Bt):Option (Bt×Bool):=
 (bd (o331 b c) (λd=>(cnd (!d) (some (b,false)) (gd ((0:Int)<=(wrap .i64 ((b.length:Int)-(c.length:Int)))/\(wrap .i64 ((b.length:Int)-(c.length:Int)))<=(b.length:Int)) (some ((aI (wrap .i64 ((b.length:Int)-(c.length:Int))).toNat b),true))))))
def T75:Tbl:=(327,⟨⟨[(0,Zd),(1,Zd)],[]⟩,[⟨[(0,ZA)],[]⟩],λt=>(o327 t.1 t.2)⟩)::T74
theorem K75:TK T75:=kc K74 Tryz.f327 .d λt=>by kernel_rfl
def o317(b:Bt)(c:Bt):Option (Bt×Bool):=
 (bd (o327 b c) (λd=>(some d)))
def T76:Tbl:=(317,⟨⟨[(0,Zd),(1,Zd)],[]⟩,[⟨[(0,ZA)],[]⟩],λt=>(o317 t.1 t.2)⟩)::T75
theorem K76:TK T76:=kc K75 Tryz.f317 .d λt=>by kernel_rfl
def Xa:SSh:= .tup [.agg [.i .i64,.i .i64],.c (.b)]
def o297(b:Bt):Option (Int×Int×Bool):=
 (cnd (b==([45]:Bt)) (some ((-200000:Int),(6000000:Int),true)) (bd (o153 b ([58]:Bt)) (λc=>(cnd c.2.2 (bd (o256 c.1) (λd=>(bd (o256 c.2.1) (λe=>(bd (cnd d.2 (some (e.2,d.1,e.1)) (some (false,d.1,e.1))) (λf=>(some (f.2.1,f.2.2,f.1)))))))) (bd (o317 b ([43]:Bt)) (λg=>(cnd g.2 (bd (o256 g.1) (λh=>(some (h.1,(6000000:Int),h.2)))) (bd (o317 b ([45]:Bt)) (λi=>(cnd i.2 (bd (o256 i.1) (λk=>(some ((-200000:Int),k)))) (bd (o256 b) (λj=>(some (j.1,j))))))))))))))
def T77:Tbl:=(297,⟨⟨[(0,Zd)],[]⟩,[⟨[(0,Xa)],[]⟩],λt=>(o297 t)⟩)::T76
theorem K77:TK T77:=kc K76 Tryz.f297 (.s .d (.s .d (.s .d (.s (.s .d (.s .d (.c (.s .d (.s .d (.s (.j false [⟨[(2,Zb),(3,Zc)],[.cells 83 [.i .i64,.i .i64]]⟩] .d) .d))) .d))) .d)))) λt=>by kernel_rfl
def o121(c:Int):Option (Bt×Int):=
 (bd (cnd (c<(-200000:Int)) (some (c,true)) (some (c,(decide (c>6000000))))) (λd=>(cnd d.2 (some (([]:Bt),(2:Int))) (bd (cnd (d.1<0) (some ((wrap .i64 ((0:Int)-d.1)),([45]:Bt))) (some (d.1,([]:Bt)))) (λb=>(bd (o181 (wrap .i64 (bC b.1 100)) (10:Int)) (λe=>(gd (b.2.length+e.length<=1125899906842624) (cnd ((aL b.1 100)!=0) (bd (o181 (wrap .i64 (bC (aL b.1 (100:Int)) 10)) (10:Int)) (λf=>(gd (([46]:Bt).length+f.length<=1125899906842624) (bd (o181 (aL (aL b.1 (100:Int)) 10) (10:Int)) (λg=>(gd ((([46]:Bt)++f).length+g.length<=1125899906842624) (gd ((b.2++e).length+((([46]:Bt)++f)++g).length<=1125899906842624) (some (((b.2++e)++((([46]:Bt)++f)++g)),(0:Int)))))))))) (some ((b.2++e),(0:Int))))))))))))
def T78:Tbl:=(121,⟨⟨[(0,Za)],[]⟩,[⟨[(0,Zo)],[]⟩],λt=>(o121 t)⟩)::T77
theorem K78:TK T78:=kc K77 Tryz.f121 (.s .d (.s (.s (.j false [⟨[(0,Za),(12,Zc)],[]⟩] .d) .d) (.s .d (.j false [⟨[(0,Za),(4,Zd)],[]⟩] .d)))) λt=>by kernel_rfl
def o124(c:Int×Int):Option (Bt×Int):=
 (bd (cnd (c.1<(-200000:Int)) (some (true,c)) (cnd (c.1>c.2) (some (true,c)) (some ((decide (c.2>6000000)),c)))) (λd=>(cnd d.1 (some (([]:Bt),(1:Int))) (bd (o121 d.2.1) (λe=>(bd (o121 d.2.2) (λf=>(bd (cnd (d.2.1==(-200000:Int)) (some ((e.1,f.1),(d.2.2==6000000),d.2)) (some ((e.1,f.1),false,d.2))) (λb=>(cnd b.2.1 (some (([45]:Bt),(0:Int))) (cnd (b.2.2.1==b.2.2.2) (some (b.1.1,(0:Int))) (cnd (b.2.2.2==6000000) (gd (b.1.1.length+([43]:Bt).length<=1125899906842624) (some ((b.1.1++([43]:Bt)),(0:Int)))) (cnd (b.2.2.1==(-200000:Int)) (gd (b.1.2.length+([45]:Bt).length<=1125899906842624) (some ((b.1.2++([45]:Bt)),(0:Int)))) (gd (b.1.1.length+([58]:Bt).length<=1125899906842624) (gd ((b.1.1++([58]:Bt)).length+b.1.2.length<=1125899906842624) (some (((b.1.1++([58]:Bt))++b.1.2),(0:Int))))))))))))))))))
def T79:Tbl:=(124,⟨⟨[(0,Zj)],[]⟩,[⟨[(0,Zo)],[]⟩],λt=>(o124 t)⟩)::T78
theorem K79:TK T79:=kc K78 Tryz.f124 (.s .d (.s (.s (.j false [⟨[(1,Zb),(22,Zc)],[.cells 83 [.i .i64,.i .i64]]⟩] .d) .d) (.s .d (.s .d (.s (.b (.s (.j false [⟨[(1,Zb),(4,Zd),(6,Zd),(35,Zc)],[.cells 83 [.i .i64,.i .i64]]⟩] .d) .d)) .d))))) λt=>by kernel_rfl
def Xb:BSh:= .cells 83 [.ic .i64 (0),.ic .i64 (0)]
def o267(d:Bt):Option (Int×Int×Int):=
 (bd (o297 d) (λb=>(cnd (!b.2.2) (some ((0:Int),(0:Int),(4:Int))) (bd (bd (o257 b.1) (λe=>(cnd (!e) (some (d,true,b.1,b.2.1)) (bd (o257 b.2.1) (λf=>(some (d,(!f),b.1,b.2.1))))))) (λc=>(cnd c.2.1 (some ((0:Int),(0:Int),(2:Int))) (cnd (c.2.2.1>c.2.2.2) (some ((0:Int),(0:Int),(9:Int))) (bd (o124 c.2.2) (λg=>(cnd (!(g.1==c.1)) (some ((0:Int),(0:Int),(4:Int))) (some (c.2.2.1,c.2.2.2,(0:Int)))))))))))))
def T80:Tbl:=(267,⟨⟨[(0,Zd)],[]⟩,[⟨[(0,KS)],[]⟩],λt=>(o267 t)⟩)::T79
theorem K80:TK T80:=kc K79 Tryz.f267 (.s .d (.s .d (.s .d (.s (.s (.j false [⟨[(0,Zd),(2,Zb),(4,Zg),(25,Zc)],[Xb,.cells 83 [.i .i64,.i .i64]]⟩] .d) .d) .d)))) λt=>by kernel_rfl
def o294(d:(Int×Int×Int)×Int×Int×Int)(e:Fdl):Option HA:=
 (bd (o207 d e) (λb=>(cnd (!b.1.2) (some (((0:Int),(0:Int)),b.2)) (bd (o267 b.1.1) (λc=>(cnd (c.2.2 !=0) (bd (o211 b.2.1.1.2.2 c.2.2 b.2.1 b.2.2) (λf=>(some (((0:Int),(0:Int)),f)))) (some ((c.1,c.2.1),b.2))))))))
def T81:Tbl:=(294,⟨⟨[(0,Zb),(1,.v (.c (.fn 267)))],[Ax,.row Yc 189]⟩,[⟨[(0,Zj)],[Ax,.row Yc 189]⟩],λt=>(o294 t.1 t.2)⟩)::T80
theorem K81:TK T81:=kc K80 Tryz.f294 .d λt=>by kernel_rfl
def o260(b:(Int×Int×Int)×Int×Int×Int)(c:Fdl):Option HA:=
 (bd (o294 b c) (λd=>(some d)))
def T82:Tbl:=(260,⟨⟨[(0,Zb)],[Ax,.row Yc 189]⟩,[⟨[(0,Zj)],[Ax,.row Yc 189]⟩],λt=>(o260 t.1 t.2)⟩)::T81
theorem K82:TK T82:=kc K81 Tryz.f260 .d λt=>by kernel_rfl
def o125:Option (List Bt):=
 (some ([([66,79,84,72]:Bt),([70,79,82,87,65,82,68]:Bt),([66,65,67,75,87,65,82,68]:Bt)]:List Bt))
def T83:Tbl:=(125,⟨⟨[],[]⟩,[⟨[(0,Ze)],[.row .s 9]⟩],λt=>o125⟩)::T82
theorem K83:TK T83:=kc K82 Tryz.f125 .d λt=>by kernel_rfl
def Pe:BSh:= .cells 85 [.s,.ic .i64 (0),.ic .i64 (0),.ic .u8 (0)]
def Pf:BSh:= .cells 85 [.s,.i .i64,.i .i64,.i .u8]
def Xc:BSh:= .cells 85 [.s,.ic .i64 (-200000),.ic .i64 (6000000),.ic .u8 (0)]
def Xd:SSh:= .tup [.agg [.s,.i .i64,.i .i64,.i .u8],.agg [.i .i64,.i .i64,.i .i64],.c (.b)]
abbrev Xe:Type:=((Bt×Int)×Int×Int)×(Int×Int)×Int×Bool
def o218(k:Int×Fdl)(g:Bool):Option Xe:=
 (bd (o154 k) (λh=>(bd o195 (λo=>(bd (o161 ([([86,73,65]:Bt)]:List Bt) ((h.1,(0:Int),(1:Int)),(0:Int),(0:Int),(0:Int)) h.2) (λi=>(bd (o155 i.2.1 i.2.2) (λc=>(bd (bd (o193 c.1) (λl=>(cnd (l.2.2 !=0) (bd (o158 (5:Int) c.2.1 c.2.2) (λj=>(some ((g,([]:Bt)),j.1,c.1,j.2)))) (some ((g,([]:Bt)),c.2.1,c.1,c.2.2))))) (λb=>(bd (cnd (!b.1.1) (bd (o260 b.2.1 b.2.2.2) (λe=>(bd o125 (λm=>(bd (o161 m e.2.1 e.2.2) (λf=>(some ((b.1.2,f.2.1),((b.2.2.1,e.1.1),e.1.2,(wrap .u8 f.1)),f.2.2)))))))) (some ((b.1.2,b.2.1),((b.2.2.1,(-200000:Int)),(6000000:Int),(0:Int)),b.2.2.2))) (λd=>(bd (o164 ((d.1.2.1.1,d.2.2,d.1.2.1.2.1),(d.1.2.1.2.2,d.1.2.2.1),d.1.2.2.2)) (λn=>(some (d.2.1,n))))))))))))))))
def T84:Tbl:=(218,⟨⟨[(0,Ex),(1,Zc)],[]⟩,[⟨[(0,Xd)],[]⟩],λt=>(o218 t.1 t.2)⟩)::T83
theorem K84:TK T84:=kc K83 Tryz.f218 (.s .d (.s .d (.s .d (.s .d (.s .d (.j false [⟨[(1,Zc),(4,Zb),(5,Zg),(7,Zi),(8,Zr)],[Pe,Fv,HB,Xc,.row Yc 189]⟩] (.s .d (.j false [⟨[(4,Zb),(5,Zg),(7,Zi),(8,Zr)],[Pe,Fv,HB,Pf,.row Yc 189]⟩] .d)))))))) λt=>by kernel_rfl
def Pg:SSh:= .v (.agg [.s,.i .i64,.i .i64,.i .u8])
def o247(b:(Bt×Int)×Int×Int)(c:Bt):Option Bool:=
 (some (b.1.1==c))
def T85:Tbl:=(247,⟨⟨[(0,Pg),(1,Zb)],[.lent [.s]]⟩,[⟨[(0,Zc)],[.no]⟩],λt=>(o247 t.1 t.2)⟩)::T84
theorem K85:TK T85:=kc K84 Tryz.f247 .d λt=>by kernel_rfl
def KU:SSh:= .v (.c (.ro Yg false))
def Ph:SSh:= .v (.c (.cap (.fn 247) (.ptr 0 0)))
abbrev Pi:Type:=((List (Bt×(Int×Int)×Int))×Int)×Int×Bt
def BC:Bt×(Int×Int)×Int:=(([]:Bt),(((0:Int),(0:Int)),(0:Int)))
def o246(d:List (Bt×(Int×Int)×Int))(e:Bt):Option (Int×Bt):=
 (loopO (σ:=Pi) fuelN (λ(b:Pi)=>(cnd (b.2.1<b.1.2) (gd ((0:Int)<=b.2.1/\b.2.1<(b.1.1.length:Int)) (bd (some (aA b.1.1 b.2.1.toNat BC)) (λc=>(bd (o247 ((c.1,c.2.1.1),c.2.1.2,c.2.2) b.2.2) (λf=>(cnd f (dnO (some b.2)) (some (Ctl.go (b.1,(wrap .i64 (b.2.1+1)),b.2.2))))))))) (dnO (some ((-1:Int),b.2.2))))) ((d,(d.length:Int)),(0:Int),e))
def T86:Tbl:=(246,⟨⟨[(0,KU),(1,Ph)],[.cells 9 [.s]]⟩,[⟨[(0,Za)],[.cells 9 [.s]]⟩],λt=>(o246 t.1 t.2)⟩)::T85
theorem K86:TK T86:=kc K85 Tryz.f246 (.s .d (.s (.s .d (.b (.l [⟨[(0,KU),(1,Ph),(7,Za),(8,Za)],[.cells 9 [.s]]⟩] .d))) .d)) λt=>by kernel_rfl
def Di:SSh:= .v (.agg [.s,.ro Yg false])
abbrev Ah:Type:=Bt×List (Bt×(Int×Int)×Int)
def o194(b:Ah)(c:Bt):Option Int:=
 (bd (o246 b.2 c) (λd=>(some d.1)))
def T87:Tbl:=(194,⟨⟨[(0,Di),(1,Zd)],[]⟩,[⟨[(0,Za)],[]⟩],λt=>(o194 t.1 t.2)⟩)::T86
theorem K87:TK T87:=kc K86 Tryz.f194 .d λt=>by kernel_rfl
def o135(d:Ah)(c:Int):Option Int:=
 (gd ((0:Int)<=c/\c<(d.2.length:Int)) (bd (some (aA d.2 c.toNat BC)) (λb=>(bd (o193 b.1) (λf=>(cnd (f.2.2 !=0) (some (5:Int)) (bd (o194 d b.1) (λg=>(cnd (g<c) (some (7:Int)) (cnd (c==(wrap .i64 ((d.2.length:Int)-1))) (bd (bd o195 (λi=>(cnd (!((b.2.1.1==(-200000:Int))&&(b.2.1.2==6000000))) (some true) (some (b.2.2 !=0))))) (λh=>(cnd h (some (1:Int)) (some (0:Int))))) (bd (cnd (b.2.1.1<(-200000:Int)) (some (true,(b.1,b.2.1.1),b.2.1.2,b.2.2)) (cnd (b.2.1.1>b.2.1.2) (some (true,(b.1,b.2.1.1),b.2.1.2,b.2.2)) (some ((decide (b.2.1.2>6000000)),(b.1,b.2.1.1),b.2.1.2,b.2.2)))) (λe=>(cnd e.1 (some (2:Int)) (cnd (e.2.2.2>2) (some (17:Int)) (some (0:Int))))))))))))))))
def T88:Tbl:=(135,⟨⟨[(0,Di),(1,Za)],[]⟩,[⟨[(0,Za)],[]⟩],λt=>(o135 t.1 t.2)⟩)::T87
theorem K88:TK T88:=kc K87 Tryz.f135 (.s .d (.s .d (.s .d (.s .d (.s (.s .d (.c (.s (.s (.j false [⟨[(43,Zc)],[]⟩] .d) .d) .d) .d)) (.s (.b (.s (.j false [⟨[(5,Zb),(44,Zc)],[Pf]⟩] .d) .d)) .d)))))) λt=>by kernel_rfl
def Ey:BSh:= .cells 81 [.s,.ro Yg false]
def o70(c:Ah):Option Int:=
 (bd (o130 c.1 (8:Int)) (λe=>(cnd (!e) (some (5:Int)) (cnd ((c.2.length:Int)<2) (some (1:Int)) (cnd ((c.2.length:Int)>40) (some (3:Int)) (loopO (σ:=Int×Int×Ah) fuelN (λ(b:Int×Int×Ah)=>(cnd (b.2.1<b.1) (bd (o135 b.2.2 b.2.1) (λd=>(cnd (d !=0) (dnO (some d)) (some (Ctl.go (b.1,(wrap .i64 (b.2.1+1)),b.2.2)))))) (dnO (some (0:Int))))) ((c.2.length:Int),(0:Int),c)))))))
def T89:Tbl:=(70,⟨⟨[(0,Di)],[]⟩,[⟨[(0,Za)],[]⟩],λt=>(o70 t)⟩)::T88
theorem K89:TK T89:=kc K88 Tryz.f70 (.s .d (.s .d (.s (.s .d (.b (.l [⟨[(1,Zb),(22,Za),(23,Za)],[Ey]⟩] .d))) .d))) λt=>by kernel_rfl
def Pj:SSh:= .v (.c (.ro Yd false))
def Xf:BSh:= .cells 81 [.s,.cst (.slice none 0 0)]
def Ez:BSh:= .row Yg 85
def Xg:SSh:= .tup [.agg [.s,.own 0],.agg [.i .i64,.i .i64,.i .i64],.c (.b)]
abbrev Xh:Type:=((Bt×Int)×Int×Int×Bool)×List (Bt×(Int×Int)×Int)
abbrev Pk:Type:=(Rcl×Int)×Bt×Bt×List (Bt×(Int×Int)×Int)
def o165(e:Rcl):Option Xh:=
 (cnd ((e.length:Int)==0) (some (((([]:Bt),(1:Int)),(1:Int),(4:Int),true),([]:List (Bt×(Int×Int)×Int)))) (gd ((0:Int)<=0/\(0:Int)<(e.length:Int)) (bd (some (aA e (0:Int).toNat Bm)) (λj=>(bd (o154 j) (λg=>(bd (o161 ([([65,73,82,87,65,89]:Bt)]:List Bt) ((g.1,(0:Int),(1:Int)),(0:Int),(0:Int),(0:Int)) g.2) (λh=>(bd (o156 (8:Int) h.2.1 h.2.2) (λd=>(bd (o164 ((d.2.1.1.1,d.2.2,d.2.1.1.2.1),(d.2.1.1.2.2,d.2.1.2.1),d.2.1.2.2)) (λf=>(cnd f.2.2 (some (((([]:Bt),f.1.1),f.1.2,f.2.1,true),([]:List (Bt×(Int×Int)×Int)))) (loopO (σ:=Pk) fuelN (λ(b:Pk)=>(cnd (b.1.2<(b.1.1.length:Int)) (gd ((0:Int)<=b.1.2/\b.1.2<(b.1.1.length:Int)) (bd (some (aA b.1.1 b.1.2.toNat Bm)) (λk=>(bd (o218 k (b.1.2==(wrap .i64 ((b.1.1.length:Int)-1)))) (λc=>(cnd c.2.2.2 (dnO (some (((([]:Bt),c.2.1.1),c.2.1.2,c.2.2.1,true),([]:List (Bt×(Int×Int)×Int))))) (gd ((b.2.2.2.length+([(c.1.1.1,((c.1.1.2,c.1.2.1),c.1.2.2))]:List (Bt×(Int×Int)×Int)).length)*40<=140737488355328) (some (Ctl.go ((b.1.1,(wrap .i64 (b.1.2+1))),b.2.1,b.2.2.1,(b.2.2.2++([(c.1.1.1,((c.1.1.2,c.1.2.1),c.1.2.2))]:List (Bt×(Int×Int)×Int))))))))))))) (dnO (bd (o70 b.2.2) (λi=>(cnd (i !=0) (gd ((0:Int)<=0/\(0:Int)<(b.1.1.length:Int)) (gd ((0:Int)<=0/\(0:Int)<(b.1.1.length:Int)) (gd ((0:Int)<=0/\(0:Int)<((((aA b.1.1 (0:Int).toNat Bm).2).length:Nat):Int)) (some (((([]:Bt),(aA b.1.1 (0:Int).toNat Bm).1),(aA ((aA b.1.1 (0:Int).toNat Bm).2) (0:Int).toNat (([]:Bt),(0:Int))).2,i,true),([]:List (Bt×(Int×Int)×Int))))))) (some (((b.2.2.1,(0:Int)),(0:Int),(0:Int),false),b.2.2.2)))))))) ((e,(1:Int)),([]:Bt),d.1,([]:List (Bt×(Int×Int)×Int)))))))))))))))))
def T90:Tbl:=(165,⟨⟨[(0,Pj)],[]⟩,[⟨[(0,Xg)],[Ez]⟩],λt=>(o165 t)⟩)::T89
theorem K90:TK T90:=kc K89 Tryz.f165 (.s .d (.s .d (.s .d (.s .d (.s .d (.s .d (.s (.s .d (.b (.l [⟨[(0,Pj),(2,Zb),(3,Zg),(6,Zi),(9,Za)],[Xf,Fv,.cells 81 [.s,.own 3],Ez]⟩] .d))) .d))))))) λt=>by kernel_rfl
def BJ:BSh:= .cells 120 [.i .i64,.ro Yc true]
def HF:SSh:= .v (.agg [.i .i64,.ro Yc true])
def Bs:BSh:= .cells 116 [.ro Yd true,.own 1,.s,.i .i64,.i .i64,.i .i64,.i .i64,.i .i64,.own 2,.b,.b,.b]
abbrev Af:Type:=Int×Bt×Bt×Int×Bool×Int×Int×Int×Int×(Int×Int)×Int×Int
abbrev As:Type:=Int×(Int×Fdl)×(Bt×Bt×Int×(Int×Int)×Int×Int)×(Bt×List (Bt×(Int×Int)×Int))×Rcl×(Bt×Bt×Int×List (Int×Bt×List Af))×Rcl×List Rcl
def Pl:BSh:= .cells 93 [.i .u8,.s,.cst (.slice none 0 0)]
def o219(b:Fu):Option Int:=
 (bd (o217 b) (λc=>(cnd c (some (0:Int)) (some (wrap .i64 ((b.1.2.1.length:Int)-b.1.2.2))))))
def T94:Tbl:=(219,⟨⟨[(0,Zb)],[Hz]⟩,[⟨[(0,Za)],[.no]⟩],λt=>(o219 t)⟩)::T90
theorem K94:TK T94:=kc K90 Tryz.f219 .d λt=>by kernel_rfl
def Pm:SSh:= .v (.c (.ro Yc false))
def o220(c:Fdl):Option (Bt):=
 (loopO (σ:=(Fdl×Int)×Int×List Bt) fuelN (λ(b:(Fdl×Int)×Int×List Bt)=>(cnd (b.2.1<b.1.2) (gd ((0:Int)<=b.2.1/\b.2.1<(b.1.1.length:Int)) (bd (some (aA b.1.1 b.2.1.toNat (([]:Bt),(0:Int)))) (λd=>(gd ((b.2.2.length+([d.1]:List Bt).length)*16<=140737488355328) (some (Ctl.go (b.1,(wrap .i64 (b.2.1+1)),(b.2.2++([d.1]:List Bt))))))))) (dnO (bd (o53 b.2.2 ([32]:Bt)) (λe=>(some e)))))) ((c,(c.length:Int)),(0:Int),([]:List Bt)))
def T95:Tbl:=(220,⟨⟨[(0,Pm)],[]⟩,[⟨[(0,Zd)],[]⟩],λt=>(o220 t)⟩)::T94
theorem K95:TK T95:=kc K94 Tryz.f220 (.s .d (.s .d (.s (.s .d (.b (.l [⟨[(3,Ze),(6,Pm),(7,Za),(8,Za)],[.row .s 9]⟩] .d))) .d))) λt=>by kernel_rfl
def o167(b:(Int×Int×Int)×Int×Int×Int)(c:Fdl):Option KR:=
 (bd (o219 ((b.1.1,c,b.1.2.1),(b.1.2.2,b.2.1),b.2.2)) (λd=>(cnd (d==0) (some (([]:Bt),b,c)) (gd ((0:Int)<=b.1.2.1/\b.1.2.1<=(c.length:Int)) (gd ((0:Int)<=0/\(0:Int)<((c.length-b.1.2.1.toNat:Nat):Int)) (bd (o220 (aI (c.length-b.1.2.1.toNat) (aK b.1.2.1.toNat c))) (λe=>(some (e,((b.1.1,(c.length:Int),(aA c (b.1.2.1.toNat+(0:Int).toNat) (([]:Bt),(0:Int))).2),b.2),c)))))))))
def T96:Tbl:=(167,⟨⟨[(0,Zb)],[Ax,.row Yc 189]⟩,[⟨[(0,Zd)],[Ax,.row Yc 189]⟩],λt=>(o167 t.1 t.2)⟩)::T95
theorem K96:TK T96:=kc K95 Tryz.f167 .d λt=>by kernel_rfl
def Xi:BSh:= .lent [.ro .s false,.i .i64,.i .i64,.i .i64]
def o235(b:(List Bt×Int)×Int×Int):Option (Bt×Bool):=
 (cnd ((b.1.1.length:Int)==0) (some (([]:Bt),false)) (gd ((0:Int)<=0/\(0:Int)<(b.1.1.length:Int)) (some ((aA b.1.1 (0:Int).toNat ([]:Bt)),true))))
def T97:Tbl:=(235,⟨⟨[(0,Zb)],[Xi]⟩,[⟨[(0,ZA)],[.no]⟩],λt=>(o235 t)⟩)::T96
theorem K97:TK T97:=kc K96 Tryz.f235 .d λt=>by kernel_rfl
def KV:SSh:= .v (.agg [.s,.s,.s,.s,.s,.s,.s,.s,.s,.s,.s,.s,.s,.s,.s,.s,.s,.s])
def Ag:BSh:= .cells 96 [.i .u8,.s,.s,.i .u8,.b,.i .i64,.i .i64,.i .i64,.i .i64,.i .i64,.i .i64,.i .i64,.i .i64]
abbrev Ai:Type:=((Int×Bt×Bt)×Int×Bool×Int)×(Int×Int×Int)×(Int×Int)×Int×Int
abbrev Pn:Type:=(((Bt×Bt)×Bt×Bt)×(Bt×Bt)×Bt×Bt×Bt)×((Bt×Bt)×Bt×Bt)×(Bt×Bt)×Bt×Bt×Bt
def o222(f:Bt)(g:Ai):Option (Bool×Ai):=
 (bd (some gv1) (λc=>(loopO (σ:=(Bt×Pn)×Int×Ai) fuelN (λ(b:(Bt×Pn)×Int×Ai)=>(cnd (b.2.1<18) (bd (sm (isZ b.2.1 0) (λ_=>(some ((b.1.1,b.2.1,b.1.2.1.1.1.1),b.1.2,b.2))) (λ_=>(sm (isZ b.2.1 1) (λ_=>(some ((b.1.1,b.2.1,b.1.2.1.1.1.2),b.1.2,b.2))) (λ_=>(sm (isZ b.2.1 2) (λ_=>(some ((b.1.1,b.2.1,b.1.2.1.1.2.1),b.1.2,b.2))) (λ_=>(sm (isZ b.2.1 3) (λ_=>(some ((b.1.1,b.2.1,b.1.2.1.1.2.2),b.1.2,b.2))) (λ_=>(sm (isZ b.2.1 4) (λ_=>(some ((b.1.1,b.2.1,b.1.2.1.2.1.1),b.1.2,b.2))) (λ_=>(sm (isZ b.2.1 5) (λ_=>(some ((b.1.1,b.2.1,b.1.2.1.2.1.2),b.1.2,b.2))) (λ_=>(sm (isZ b.2.1 6) (λ_=>(some ((b.1.1,b.2.1,b.1.2.1.2.2.1),b.1.2,b.2))) (λ_=>(sm (isZ b.2.1 7) (λ_=>(some ((b.1.1,b.2.1,b.1.2.1.2.2.2.1),b.1.2,b.2))) (λ_=>(sm (isZ b.2.1 8) (λ_=>(some ((b.1.1,b.2.1,b.1.2.1.2.2.2.2),b.1.2,b.2))) (λ_=>(sm (isZ b.2.1 9) (λ_=>(some ((b.1.1,b.2.1,b.1.2.2.1.1.1),b.1.2,b.2))) (λ_=>(sm (isZ b.2.1 10) (λ_=>(some ((b.1.1,b.2.1,b.1.2.2.1.1.2),b.1.2,b.2))) (λ_=>(sm (isZ b.2.1 11) (λ_=>(some ((b.1.1,b.2.1,b.1.2.2.1.2.1),b.1.2,b.2))) (λ_=>(sm (isZ b.2.1 12) (λ_=>(some ((b.1.1,b.2.1,b.1.2.2.1.2.2),b.1.2,b.2))) (λ_=>(sm (isZ b.2.1 13) (λ_=>(some ((b.1.1,b.2.1,b.1.2.2.2.1.1),b.1.2,b.2))) (λ_=>(sm (isZ b.2.1 14) (λ_=>(some ((b.1.1,b.2.1,b.1.2.2.2.1.2),b.1.2,b.2))) (λ_=>(sm (isZ b.2.1 15) (λ_=>(some ((b.1.1,b.2.1,b.1.2.2.2.2.1),b.1.2,b.2))) (λ_=>(sm (isZ b.2.1 16) (λ_=>(some ((b.1.1,b.2.1,b.1.2.2.2.2.2.1),b.1.2,b.2))) (λ_=>(sm (isZ b.2.1 17) (λ_=>(some ((b.1.1,b.2.1,b.1.2.2.2.2.2.2),b.1.2,b.2))) (λ_=>none)))))))))))))))))))))))))))))))))))) (λd=>(bd (cnd (d.1.2.2==d.1.1) (some ((d.1.1,d.1.2.1,d.2.1),d.2.2.1,(decide (d.1.2.1>0)),d.2.2.2)) (some ((d.1.1,d.1.2.1,d.2.1),d.2.2.1,false,d.2.2.2))) (λe=>(cnd e.2.2.1 (some (Ctl.go ((e.1.1,e.1.2.2),(wrap .i64 (e.2.1+1)),(((wrap .u8 e.1.2.1),e.2.2.2.1.1.2),e.2.2.2.1.2),e.2.2.2.2))) (some (Ctl.go ((e.1.1,e.1.2.2),(wrap .i64 (e.2.1+1)),e.2.2.2)))))))) (dnO (some ((b.2.2.1.1.1 !=0),b.2.2))))) ((f,(((c.1,c.2.1),c.2.2.1,c.2.2.2.1),(c.2.2.2.2.1,c.2.2.2.2.2.1),c.2.2.2.2.2.2.1,c.2.2.2.2.2.2.2.1,c.2.2.2.2.2.2.2.2.1),((c.2.2.2.2.2.2.2.2.2.1,c.2.2.2.2.2.2.2.2.2.2.1),c.2.2.2.2.2.2.2.2.2.2.2.1,c.2.2.2.2.2.2.2.2.2.2.2.2.1),(c.2.2.2.2.2.2.2.2.2.2.2.2.2.1,c.2.2.2.2.2.2.2.2.2.2.2.2.2.2.1),c.2.2.2.2.2.2.2.2.2.2.2.2.2.2.2),(0:Int),g))))
def T98:Tbl:=(222,⟨⟨[(0,Zd),(1,Zb)],[Ag]⟩,[⟨[(0,Zc)],[Ag]⟩],λt=>(o222 t.1 t.2)⟩)::T97
theorem K98:TK T98:=kc K97 Tryz.f222 (.s .d (.s (.s .d (.b (.l [⟨[(0,Zd),(1,Zb),(6,KV),(7,Za)],[Ag]⟩] (.s .d (.s .d (.s (.b (.s (.j false [⟨[(0,Zd),(1,Zb),(4,Za),(5,Zd),(6,KV),(7,Za)],[Ag]⟩] .d) (.s (.j false [⟨[(0,Zd),(1,Zb),(4,Za),(6,KV),(7,Za),(17,Zc)],[Ag]⟩] .d) .d))) .d)))))) .d)) λt=>by kernel_rfl
def Po:BSh:= .cells 316 [.own 1,.i .i64,.i .i64,.i .i64]
def Ay:BSh:= .cells 316 [.ro .s true,.i .i64,.i .i64,.i .i64]
def o261(c:Int×Int×Int)(b:List Bt):Option ((List Bt×Int)×Int×Int):=
 (gd ((0:Int)<=0/\(0:Int)<(b.length:Int)) (gd ((0:Int)<=1/\(1:Int)<=(b.length:Int)) (some (((aI (b.length-(1:Int).toNat) (aK ((1:Int).toNat) b)),(wrap .i64 (c.1+(wrap .i64 ((((aA b ((0:Int).toNat) ([]:Bt)).length:Nat):Int)+1))))),c.2))))
def T99:Tbl:=(261,⟨⟨[(0,Zb)],[Po,.row .s 9]⟩,[⟨[(0,Zs)],[Ay,.no]⟩],λt=>(o261 t.1 t.2)⟩)::T98
theorem K99:TK T99:=kc K98 Tryz.f261 .d λt=>by kernel_rfl
def Xj:SSh:= .v (.c (.cap (.fn 222) (.ptr 2 0)))
def o221(b:Int×Int×Int)(c:List Bt)(d:Ai):Option (((List Bt×Int)×Int×Int)×Ai):=
 (cnd (b.2.2 !=0) (some (((c,b.1),b.2),d)) (bd (o235 ((c,b.1),b.2)) (λf=>(cnd (!f.2) (some (((c,b.1),b.2.1,(wrap .i64 (b.2.1+2))),d)) (bd (o222 f.1 d) (λe=>(cnd (!e.1) (some (((c,b.1),b.2.1,b.1),e.2)) (bd (o261 b c) (λg=>(some (g,e.2)))))))))))
def AgW:Tbl:=(221,⟨⟨[(0,Zb),(1,Xj)],[Po,.row .s 9,Ag]⟩,[⟨[(0,Zs)],[Ay,.no,Ag]⟩],λt=>(o221 t.1 t.2.1 t.2.2)⟩)::T99
theorem AlL:TK AgW:=kc K99 Tryz.f221 .d λt=>by kernel_rfl
def o224(b:Bt):Option Bool:=
 (bd (o193 b) (λc=>(some (c.2.2==0))))
def AgX:Tbl:=(224,⟨⟨[(0,Zd)],[]⟩,[⟨[(0,Zc)],[]⟩],λt=>(o224 t)⟩)::AgW
theorem AlM:TK AgX:=kc AlL Tryz.f224 .d λt=>by kernel_rfl
def o223(c:Bt)(b:Ai):Option (Bool×Ai):=
 (bd (o224 c) (λd=>(some (d,((b.1.1.1,c,b.1.1.2.2),b.1.2),b.2))))
def AgY:Tbl:=(223,⟨⟨[(0,Zd),(1,Zb)],[Ag]⟩,[⟨[(0,Zc)],[Ag]⟩],λt=>(o223 t.1 t.2)⟩)::AgX
theorem AlN:TK AgY:=kc AlM Tryz.f223 .d λt=>by kernel_rfl
end
end Go.Proofs.YtpglaekodahcoaaGreatDoor
