/-
Compile,plain:sets of names,the index of fixes,the third round's single questions. Conditions:texts of at most 50000 bytes.
-/
import Derived.Test.YtpglaekodahcoaaGreatDoorM6
namespace Go.Proofs.YtpglaekodahcoaaGreatDoor
set_option linter.unusedVariables false
set_option linter.unusedSimpArgs false
set_option maxRecDepth 100000
open Go.RowKit
open _root_.List renaming length_append->aC,append_nil->aD,length_cons->aE,getElem_mem->aG,mem_singleton->aI,getD->aJ,mem_append->aL,append_assoc->aM,length_nil->aN,take_succ_eq_append_getElem->aO,flatMap_cons->aR,length_singleton->aS,mem_cons_self->aU,take_length->aV,replicate->aY,map_append->aZ,mem_cons->bA,pairwise_iff_getElem->bB,length_replicate->bC,length_pos_iff->bD,getElem_of_mem->bE,mem_flatMap->bF,mem_cons_of_mem->bG,length_take->bJ,eq_nil_of_length_eq_zero->bL,drop_left'->bO,length_map->bP,filter_append->bQ,nodup_append->bS,take_of_length_le->bU,getElem_map->bW,mem_append_left->bY,dropLast_concat_getLast->cC,length->cE,take->cG,append_inj'->cJ,map_nil->cK,mem_of_mem_take->cR,drop->cS
open _root_.Int renaming toNat_natCast->aH,tdiv_eq_ediv_of_nonneg->aW,tmod_eq_emod_of_nonneg->aX,tmod->bN,tdiv->cB
open _root_.Bool renaming not_true->aK,not_false->bH,eq_iff_iff->bK,false_or->cT
open Go.IntKind renaming wrap->aQ,wrap_u8->bM,wrap_i32->cV
open Go.Lib renaming compareBytes->aT
open _root_.Nat renaming le_refl->bI,div_div_eq_div_mul->bV,add_assoc->bX,mul_le_mul_right->bZ,mul_le_mul_left->cD,sub_self->cL,le_trans->cM,pow_succ->cN,div_le_self->cO,pow_le_pow_right->cQ,add_comm->cU
open _root_.UInt8 renaming ofNat->bR
variable{α:Type}{n j:Nat}{k:Int}{w:Bt}{ls:List Ln}{i:Nat}{b:Bool}{d:Int}{c:α->α->Int}{s:Bt}{z:Int}{h:Az}{a:AQ}{C:Bt->Lg_->Option (Bool×Lg_)}{F:Rd_->Lg_->Option (Rd_×Lg_)}{all:List El_}{p:AA}{x:Bh}{f:Be}{st:Rd_}{k':Int}{A:List AQ}{P:List AA}{β:Type}{G:List (List Ln)}{bad:List Dg}{ps:List Bh}{o:Int×Int}{out:Bt}{Q:List Ln}{t:Int}{g:Bw}
abbrev Mp_:=List (Bt×Bool)
theorem DH(a b:Bt):strEq a b=decide (a=b):=by
 rw[CZ];by_cases h:a=b
 ·rw[dt h];simpa using h
 ·rw[df h];simpa using h
theorem Vr(m:Mp_)(k j:Bt):mpGet false (mpPut m k true) j=(decide (j=k)||mpGet false m j):=by
 induction m with
 |nil=>
  show cond (strEq j k) true false=_;rw[DH];cases decide (j=k)<;>rfl
 |cons x m ih=>
  unfold mpPut;by_cases hk:k=x.1
  ·rw[DH,dt hk,cond_true];show cond (strEq j k) true (mpGet false m j)=(decide (j=k)||cond (strEq j x.1) x.2 (mpGet false m j))
   rw[DH,DH,<-hk];cases decide (j=k)<;>rfl
  ·rw[DH,df hk,cond_false];show cond (strEq j x.1) x.2 (mpGet false (mpPut m k true) j)=(decide (j=k)||cond (strEq j x.1) x.2 (mpGet false m j))
   rw[ih,DH];by_cases hj:j=x.1
   ·rw[dt hj,cond_true,cond_true,df (λe=>hk (e.symm.trans hj))];rfl
   ·rw[df hj,cond_false,cond_false]
def mset(l:List Bt):Mp_:=l.foldl (λm k=>mpPut m k true) []
theorem ED(l:List Bt)(k:Bt):mset (l++[k])=mpPut (mset l) k true:=by unfold mset;rw[List.foldl_append];rfl
theorem Ca(l:List Bt)(k:Bt):mpGet false (mset l) k=decide (k∈l):=by
 have:∀(n:Nat)(l:List Bt),l.length=n->mpGet false (mset l) k=decide (k∈l):=by
  intro n;induction n with
  |zero=>intro l h;have:=bL h;subst this;rw[df (by simp)];rfl
  |succ n ih=>
   intro l h;rcases List.eq_nil_or_concat l with rfl|⟨I,e,rfl⟩
   ·cases h
   ·rw[List.concat_eq_append]at h⊢;rw[ED,Vr,ih I (by simpa using h)];by_cases h1:k=e
    ·rw[dt h1,dt (show k∈I++[e]from List.mem_append_right _ (aI.2 h1))];rfl
    ·rw[df h1,cT];by_cases h2:k∈I
     ·rw[dt h2,dt (bY _ h2)]
     ·rw [df h2,df (λh=>by
       rcases aL.1 h with h|h
       ·exact h2 h
       ·exact h1 (aI.1 h))]
 exact this l.length l rfl
def rf(f:Fx_):Bt:=(f.1.1++[47])++f.1.2.1
def fxT(f:Fx_):Prop:=f.1.1.length<=50000/\f.1.2.1.length<=50000
theorem GR{f:Fx_}(h:fxT f):o67 f=some (rf f):=by obtain⟨h1,h2⟩:=h;unfold o67;rw[gdT (dt (by simp;omega)),gdT (dt (by simp;omega))];rfl
def refs(l:List Fx_):List Bt:=l.map rf
def apts(l:List Fx_):List Bt:=(l.filter λf=>f.1.2.2==5).map λf=>f.1.1
def rwys(l:List Fx_):List Bt:=(l.filter λf=>f.1.2.2==6).map rf
def idx(l:List Fx_):Mp_×Mp_×Mp_:=(mset (refs l),mset (apts l),mset (rwys l))
theorem Qv(l:List Fx_)(f:Fx_):refs (l++[f])=refs l++[rf f]:=by unfold refs;simp
theorem Qw(l:List Fx_)(f:Fx_):apts (l++[f])=apts l++cond (f.1.2.2==5) [f.1.1] []:=by unfold apts;rw[bQ,aZ];cases h:(f.1.2.2==5)<;>simp[h]
theorem Aaf(l:List Fx_)(f:Fx_):rwys (l++[f])=rwys l++cond (f.1.2.2==6) [rf f] []:=by unfold rwys;rw[bQ,aZ];cases h:(f.1.2.2==6)<;>simp[h]
theorem Sc{f:Fx_}(h:fxT f)(l:List Fx_):o69 f (idx l).1 (idx l).2.1 (idx l).2.2=some (idx (l++[f])):=by
 unfold o69;rw[bdS (GR h)];unfold idx;rw[Qv,ED,Qw,Aaf];dsimp only;cases h5:(f.1.2.2==5)with
 |true=>
  have h6:(f.1.2.2==6)=false:=by have:=eT h5;rw[this];rfl
  rw[Av,bdI];dsimp only;rw[h6,Aj,cond_true,cond_false,aD,ED]
 |false=>
  rw[Aj,bdI];dsimp only;cases h6:(f.1.2.2==6)with
  |true=>rw[Av,bdS (GR h),cond_false,cond_true,aD,ED]
  |false=>rw[Aj,cond_false,cond_false,aD,aD]
theorem AdK(f:Be):((f.1,f.2.1,f.2.2.1),f.2.2.2)=gf f:=rfl
theorem NI{l:List Be}(h:∀f∈l,fxT (gf f))(hl:l.length<=1000000:=by omega):o64 l=some (idx (l.map gf)):=by
 unfold o64;refine AN (n:=l.length) (λi=>((l,((l.length:Nat):Int),(i:Int)),idx ((l.take i).map gf))) rfl (λi hi=>?_) ?_
 ·dsimp only;rw[cndT dt,gdT dt,bdI,aH,Ad hi,AdK,bdS (Sc (h _ (aG hi)) _),Ac];rw[aO hi,aZ];rfl
 ·dsimp only;rw[cndF df,aV];rfl
def PlOk(f:Fx_)(o:Int×Int)(aB aA:List Bt):Prop:=(∃x y,o131 o f.2.1=some (x,y,0))/\(f.1.2.2=5->f.1.1∉aB)/\(f.1.2.2=6->f.1.2.1∈aA)
theorem Aag(f:Fx_)(o:Int×Int)(B A:List Fx_):∃e,o68 f o (idx B).1 (idx B).2.1 (idx B).2.2 (idx A).1 (idx A).2.1 (idx A).2.2=some ((e,(idx B).1,(idx B).2.1),((idx B).2.2,(idx A).1),(idx A).2.1,(idx A).2.2)/\(e=0↔PlOk f o (apts B) (apts A)):=by
 obtain⟨⟨x,y,z⟩,ho,_⟩:=RT o f.2.1;unfold o68;by_cases hz:z=0
 ·subst hz;have h5:mpGet false (idx B).2.1 f.1.1=decide (f.1.1∈apts B):=Ca _ _;have h6:mpGet false (idx A).2.1 f.1.2.1=decide (f.1.2.1∈apts A):=Ca _ _;rw[bdS ho];dsimp only;rw[cndF (show((0:Int)!=0)=false from rfl)];by_cases k5:f.1.2.2=5
  ·have k6:f.1.2.2≠6:=by omega
   rw[cndT (Ba k5),bdI];dsimp only;by_cases hm:f.1.1∈apts B
   ·rw[h5,cndT (dt hm)];exact⟨7,rfl,λh=>(by cases h),λh=>absurd hm (h.2.1 k5)⟩
   ·rw[h5,cndF (df hm),cndF (AU k6),bdI];exact⟨0,rfl,λ_=>⟨⟨x,y,ho⟩,λ_=>hm,λh=>absurd h k6⟩,λ_=>rfl⟩
  ·rw[cndF (AU k5),bdI];dsimp only;rw[Aj];by_cases k6:f.1.2.2=6
   ·rw[cndT (Ba k6),bdI];dsimp only;by_cases hm:f.1.2.1∈apts A
    ·rw[h6,dt hm];exact⟨0,rfl,λ_=>⟨⟨x,y,ho⟩,λh=>absurd h k5,λ_=>hm⟩,λ_=>rfl⟩
    ·rw[h6,df hm];exact⟨6,rfl,λh=>(by cases h),λh=>absurd (h.2.2 k6) hm⟩
   ·rw[cndF (AU k6),bdI];exact⟨0,rfl,λ_=>⟨⟨x,y,ho⟩,λh=>absurd h k5,λh=>absurd h k6⟩,λ_=>rfl⟩
 ·rw[bdS ho];dsimp only;rw[cndT (EU hz)];refine⟨z,rfl,λh=>absurd h hz,λh=>?_⟩
  obtain⟨⟨x',y',h'⟩,_⟩:=h;rw[ho]at h';injection h' with h';injection h' with _ h';injection h'
theorem Aah{p:Aw}(h1:p.1.1.length<=50000)(h2:x.2.1.length<=50000)(A:List Fx_):∃e,o72 p x (idx A).1 (idx A).2.1 (idx A).2.2=some ((e,(idx A).1),(idx A).2.1,(idx A).2.2)/\(e=0↔(x.1=1->(x.2.1++[47])++p.1.1∈rwys A)):=by
 unfold o72;have h6:∀k,mpGet false (idx A).2.2 k=decide (k∈rwys A):=λk=>Ca _ _;by_cases k1:x.1=1
 ·rw[cndT (Ba k1),gdT (dt (by simp;omega)),gdT (dt (by simp;omega)),bdI];dsimp only;by_cases hm:(x.2.1++[47])++p.1.1∈rwys A
  ·rw[h6,dt hm];exact⟨0,rfl,λ_ _=>hm,λ_=>rfl⟩
  ·rw[h6,df hm];exact⟨6,rfl,λh=>(by cases h),λh=>absurd (h k1) hm⟩
 ·rw[cndF (AU k1),bdI];exact⟨0,rfl,λ_ h=>absurd h k1,λ_=>rfl⟩
def hasR(A:List Fx_)(s:Bt):Prop:=s=[]\/s∈refs A
theorem TX(s:Bt)(A:List Fx_):∃b,o139 s (idx A).1 (idx A).2.1 (idx A).2.2=some ((b,(idx A).1),(idx A).2.1,(idx A).2.2)/\(b=true↔hasR A s):=by
 have h1:mpGet false (idx A).1 s=decide (s∈refs A):=Ca _ _;unfold o139;by_cases h:s=[]
 ·rw[cndT (by simpa using h)];exact⟨true,rfl,λ_=> .inl h,λ_=>rfl⟩
 ·rw[cndF (by simpa using h),h1];refine⟨_,rfl,?_⟩
  rw[decide_eq_true_iff];exact⟨.inr,λk=>k.resolve_left h⟩
theorem Aai(a:Lg_)(A:List Fx_):∃e,o73 a (idx A).1 (idx A).2.1 (idx A).2.2=some ((e,(idx A).1),(idx A).2.1,(idx A).2.2)/\(e=0↔hasR A a.1.1.2.1/\hasR A a.1.1.2.2):=by
 obtain⟨b1,e1,i1⟩:=TX a.1.1.2.1 A;obtain⟨b2,e2,i2⟩:=TX a.1.1.2.2 A;unfold o73;rw[bdbd',bdS e1];dsimp only;cases b1 with
 |false=>
  exact⟨6,rfl,λh=>(by cases h),λh=>absurd (i1.2 h.1) (by simp)⟩
 |true=>
  rw[show(!true)=false from rfl,Aj,bdbd',bdS e2];cases b2 with
  |false=>exact⟨6,rfl,λh=>(by cases h),λh=>absurd (i2.2 h.2) (by simp)⟩
  |true=>exact⟨0,rfl,λ_=>⟨i1.1 rfl,i2.1 rfl⟩,λ_=>rfl⟩
abbrev C3_:=Bb
theorem CU{l:Ln}(h:l.2≠[])(e:Int)(c:C3_)(hb:bad.length<=1000000000000):∃bad2,Eh l e c bad=some (c,bad2)/\bad2.length<=bad.length+1/\(bad2=[]↔bad=[]/\e=0):=by
 have hp:0<l.2.length:=bD.2 h;unfold Eh;by_cases he:e=0
 ·rw[cndF (AL he)];exact⟨bad,rfl,by omega,λh=>⟨h,he⟩,λh=>h.1⟩
 ·rw[cndT (EU he),gdT dt,gdT (dt (by simp;omega))];exact⟨_,rfl,by simp,λh=>(by simp at h),λh=>absurd h.2 he⟩
def LgF(A:List Fx_)(g:Bw):Prop:=hasR A g.2.1/\hasR A g.2.2.1
def PaF(A:List Fx_)(ap:Bt)(x:Bh):Prop:=(x.1=1->(x.2.1++[47])++ap∈rwys A)/\∀g∈x.2.2,LgF A g
def pw(k:Int):Bt:=if k=1 then wdDEP else if k=2 then wdARR else if k=3 then wdAPP else[78,79,78,69]
theorem Aaj(k:Int):o59 k=some (pw k):=by
 unfold o59 pw;by_cases h1:k=1
 ·rw[cndT (Ba h1),if_pos h1]
 ·rw[cndF (AU h1),if_neg h1];by_cases h2:k=2
  ·rw[cndT (Ba h2),if_pos h2]
  ·rw[cndF (AU h2),if_neg h2];by_cases h3:k=3
   ·rw[cndT (Ba h3),if_pos h3]
   ·rw[cndF (AU h3),if_neg h3]
theorem Aak(k:Int):(pw k).length<=9:=by
 unfold pw;split
 ·decide
 ·split
  ·decide
  ·split<;>decide
def keyP(k:Int)(ap nm:Bt):Bt:=(((pw k++[32])++ap)++[32])++nm
def PrF(A:List Fx_)(ks:List Bt)(n:Nat)(p:Aw):Prop:=n<=60/\o71 p=some 0/\keyP p.2.1 p.1.1 p.1.2∉ks/\p.1.1∈apts A/\∀x∈p.2.2,PaF A p.1.1 x
def qP(e:El_):Aw:=(((eP e).1,(eP e).2.1),(eP e).2.2.1,(eP e).2.2.2)
def elR(e:El_):BT:=((((e.1,e.2.1.1),e.2.1.2,e.2.2.1.1),(e.2.2.1.2.1,e.2.2.1.2.2.1),e.2.2.1.2.2.2.1.1,e.2.2.1.2.2.2.1.2,e.2.2.1.2.2.2.2.1),((e.2.2.1.2.2.2.2.2,e.2.2.2.1.1),e.2.2.2.1.2,e.2.2.2.2.1,e.2.2.2.2.2.1.1),(e.2.2.2.2.2.1.2.1,e.2.2.2.2.2.1.2.2.1),e.2.2.2.2.2.1.2.2.2,e.2.2.2.2.2.2)
theorem Aal(hn:n<=1900){e:El_}(h:SE n e):inQ (qP e):=by
 obtain⟨a,b,c,d,x,y,z,u,v,w1,w2⟩:=h;refine⟨⟨by show(eP e).1.length<=_;omega,by show(eP e).2.1.length<=_;omega⟩,by show(eP e).2.2.2.length<=_;omega,λq hq=>?_⟩
 have hq:q∈(eP e).2.2.2:=hq;obtain⟨i,hi,rfl⟩:=bE hq;have hz:=w2 i hi (by omega);refine⟨?_,?_,λg hg=>?_⟩
 ·have:=hz.1;unfold P47;omega
 ·have h1:=hz.2.1;have h2:=hz.2.2.1;omega
 ·have:=hz.2.2.2.2 g hg;exact⟨by unfold P47;omega,by unfold P47;omega⟩
theorem AcD (hn:n<=1900) {e:El_} (h:SE n e) (np:Nat) (hnp:np<=100000) (c:C3_) (hb:bad.length<=100000000000) (A:List Fx_) (ks:List Bt) :
  Tot (λr=>∃bad2,r=((c,(idx A).1,(idx A).2.1),(idx A).2.2,mset (ks++[keyP (eP e).2.2.1 (eP e).1 (eP e).2.1]),bad2)/\bad2.length<=bad.length+10000000/\(bad2=[]↔bad=[]/\PrF A ks np (qP e))) (o103 (elR e) (np:Int) c bad (idx A).1 (idx A).2.1 (idx A).2.2 (mset ks)):=by
 have hq:=Aal hn h;obtain⟨v71,h71,_⟩:=ZK (qP e) hq;obtain⟨la,lb,lc,ld,lx,ly,lz,lu,lv,w1,w2⟩:=h;have hpw:=Aak (eP e).2.2.1;unfold o103;refine tB (P:=λv=>∃z:Int,v=(((((z,c),bad,(idx A).1),((idx A).2.1,(idx A).2.2),mset ks,elR e,((eP e).1,(eP e).2.1),(eP e).2.2.1,(eP e).2.2.2)):Lc)/\(z=0↔np<=60)) ?_ ?_
 ·refine tC (λh=>tS ⟨3,rfl,(λh=>by cases h),λh2=>by have:=dT h;omega⟩) λh=>tS ⟨0,rfl,λ_=>by have:=dF h;omega,λ_=>rfl⟩
 rintro _ ⟨z,rfl,hz⟩;refine tB (P:=λv=>∃z:Int,v=(((((z,c),bad,(idx A).1),((idx A).2.1,(idx A).2.2),mset ks,elR e,((eP e).1,(eP e).2.1),(eP e).2.2.1,(eP e).2.2.2)):Lc)/\(z=0↔np<=60/\o71 (qP e)=some 0)) ?_ ?_
 ·refine tC (λh=>?_) λh=>tS ⟨z,rfl,λh2=>absurd h2 (eF h),λh2=>hz.2 h2.1⟩;refine tB (P:=λv=>v=v71) ⟨_,h71,rfl⟩ ?_;rintro _ rfl;exact tS ⟨_,rfl,λh2=>⟨hz.1 (eT h),by rw[h71,h2]⟩,λh2=>by rw[h71]at h2;injection h2.2⟩
 clear hz;rintro _ ⟨z3,rfl,hz3⟩;refine tB (P:=λv=>v=pw (eP e).2.2.1) ⟨_,Aaj _,rfl⟩ ?_;rintro _ rfl;dsimp only;refine tG (dt (by simp;omega)) (tG (dt (by simp;omega)) (tG (dt (by simp;omega)) (tG (dt (by simp;omega)) ?_)));have hk:(((pw (eP e).2.2.1++[32])++(eP e).1)++[32])++(eP e).2.1=keyP (eP e).2.2.1 (eP e).1 (eP e).2.1:=rfl;rw[hk];generalize hkk:keyP (eP e).2.2.1 (eP e).1 (eP e).2.1=key;refine tB (P:=λv=>∃z:Int,v=((((z,key),c,bad,(idx A).1),((idx A).2.1,(idx A).2.2),mset ks,elR e,((eP e).1,(eP e).2.1),(eP e).2.2.1,(eP e).2.2.2):XW)/\(z=0↔np<=60/\o71 (qP e)=some 0/\key∉ks)) ?_ ?_
 ·refine tB (P:=λv=>∃b:Bool,v=((((z3,key),b,c,bad),((idx A).1,(idx A).2.1,(idx A).2.2),mset ks,elR e,((eP e).1,(eP e).2.1),(eP e).2.2.1,(eP e).2.2.2):XX)/\(b=true↔z3=0/\key∈ks)) ?_ ?_
  ·refine tC (λh=>tS ⟨_,rfl,?_⟩) λh=>tS ⟨false,rfl,(λh=>by cases h),λh2=>absurd h2.1 (eF h)⟩;rw[Ca,decide_eq_true_iff];exact⟨λh2=>⟨eT h,h2⟩,λh2=>h2.2⟩
  ·rintro _ ⟨b,rfl,hbb⟩;refine tC (λh=>tS ⟨7,rfl,(λh=>by cases h),λh2=>absurd (hbb.1 h).2 h2.2.2⟩) λh=>tS ⟨z3,rfl,λh2=>⟨(hz3.1 h2).1,(hz3.1 h2).2,λhm=>?_⟩,λh2=>hz3.2 ⟨h2.1,h2.2.1⟩⟩;have:b=true:=hbb.2 ⟨h2,hm⟩;rw[this]at h;cases h
 rintro _ ⟨z7,rfl,hz7⟩;refine tB (P:=λv=>∃z:Int,v=(((((z,c),bad,(idx A).1),((idx A).2.1,(idx A).2.2),mset (ks++[key]),elR e,((eP e).1,(eP e).2.1),(eP e).2.2.1,(eP e).2.2.2)):Lc)/\(z=0↔np<=60/\o71 (qP e)=some 0/\key∉ks/\(eP e).1∈apts A)) ?_ ?_
 ·refine tB (P:=λv=>∃b:Bool,v=((((z7,b),c,bad,(idx A).1),((idx A).2.1,(idx A).2.2),mset (ks++[key]),elR e,((eP e).1,(eP e).2.1),(eP e).2.2.1,(eP e).2.2.2):XY)/\(b=true↔z7=0/\(eP e).1∉apts A)) ?_ ?_
  ·rw[ED];refine tC (λh=>tS ⟨_,rfl,?_⟩) λh=>tS ⟨false,rfl,(λh=>by cases h),λh2=>absurd h2.1 (eF h)⟩;have hg:mpGet false (idx A).2.1 (eP e).1=decide ((eP e).1∈apts A):=Ca _ _;show(!(mpGet false (idx A).2.1 (eP e).1))=true↔_;rw[hg];by_cases hm:(eP e).1∈apts A
   ·rw[dt hm];exact⟨(λh=>by cases h),λh2=>absurd hm h2.2⟩
   ·rw[df hm];exact⟨λ_=>⟨eT h,hm⟩,λ_=>rfl⟩
  ·rintro _ ⟨b,rfl,hbb⟩;refine tC (λh=>tS ⟨6,rfl,(λh=>by cases h),λh2=>absurd h2.2.2.2 (hbb.1 h).2⟩) λh=>tS ⟨z7,rfl,λh2=>⟨(hz7.1 h2).1,(hz7.1 h2).2.1,(hz7.1 h2).2.2,Classical.byContradiction λhm=>?_⟩,λh2=>hz7.2 ⟨h2.1,h2.2.1,h2.2.2.1⟩⟩;have:b=true:=hbb.2 ⟨h2,hm⟩;rw[this]at h;cases h
 rintro _ ⟨z9,rfl,hz9⟩;obtain⟨bad2,hb2,hl2,hi2⟩:=CU (l:=(e.2.1.1,e.2.1.2)) la.1 z9 c (bad:=bad) (by omega);refine tB (P:=λv=>v=(c,bad2)) ⟨_,hb2,rfl⟩ ?_;rintro _ rfl;dsimp only;refine tL (λt=>∃(i:Nat)(b3:List Dg),t=(((((eP e).2.2.2,(((eP e).2.2.2.length:Nat):Int)),(i:Int),c,(idx A).1),((idx A).2.1,(idx A).2.2,mset (ks++[key])),elR e,(((eP e).1,(eP e).2.1),(eP e).2.2.1,(eP e).2.2.2),b3):Ld)/\i<=(eP e).2.2.2.length/\b3.length<=bad2.length+i*2000/\(b3=[]↔bad2=[]/\∀j(hj:j<(eP e).2.2.2.length),j<i->PaF A (eP e).1 (eP e).2.2.2[j])) (λt=>(eP e).2.2.2.length-t.1.2.1.toNat) ?_ ⟨0,bad2,rfl,by omega,by omega,λh=>⟨h,λj _ h=>by omega⟩,λh=>h.1⟩ (by simp only;omega);rintro _ ⟨i,b3,rfl,hi,hl3,hi3⟩;dsimp only;refine tC (λhlt=>?_) λhlt=>tDn (tS ⟨b3,rfl,by omega,?_⟩)
 ·have hlt:=dT hlt;have hi2':i<(eP e).2.2.2.length:=by omega
  have hQ:i<(eQ e).length:=by omega
  have hG:i<(eG e).length:=by omega
  have hz:=w2 i hi2' hG;refine tG dt ?_;rw[bdI,aH,Ad hi2'];refine tG (dt (by show(0:Int)<=(i:Int)/\(i:Int)<(((eQ e).length:Nat):Int);omega)) ?_;have hlq:=lz _ (aG hQ);have eq1:aJ (elR e).2.2.2.2.1 i Bm=(eQ e)[i]:=Ad hQ;rw[bdI,eq1];obtain⟨z72,e72,i72⟩:=Aah (p:=(((eP e).1,(eP e).2.1),(eP e).2.2.1,(eP e).2.2.2)) (x:=(eP e).2.2.2[i]) (by show(eP e).1.length<=_;omega) (by have:=hz.1;omega) A;refine tB (P:=λv=>v=((z72,(idx A).1),(idx A).2.1,(idx A).2.2)) ⟨_,e72,rfl⟩ ?_;rintro _ rfl;obtain⟨b4,hb4,hl4,hi4⟩:=CU (l:=(eQ e)[i]) hlq.1 z72 c (bad:=b3) (by have:i*2000<=1900*2000:=bZ _ (by omega);omega);refine tB (P:=λv=>v=(c,b4)) ⟨_,hb4,rfl⟩ ?_;rintro _ rfl;dsimp only;refine tL (λt=>∃(k:Nat)(b5:List Dg),t=(((((i:Int),((eP e).2.2.2,(((eP e).2.2.2.length:Nat):Int))),((i:Int),(eP e).2.2.2[i].2.2),(((eP e).2.2.2[i].2.2.length:Nat):Int),(k:Int)),((c,(idx A).1),(idx A).2.1,(idx A).2.2),(mset (ks++[key]),elR e),(((eP e).1,(eP e).2.1),(eP e).2.2.1,(eP e).2.2.2),b5):Le)/\k<=(eP e).2.2.2[i].2.2.length/\b5.length<=b4.length+k/\(b5=[]↔b4=[]/\∀j(hj:j<(eP e).2.2.2[i].2.2.length),j<k->LgF A (eP e).2.2.2[i].2.2[j])) (λt=>(eP e).2.2.2[i].2.2.length-t.1.2.2.2.toNat) ?_ ⟨0,b4,rfl,by omega,by omega,λh=>⟨h,λj _ h=>by omega⟩,λh=>h.1⟩ (by have h1:=hz.2.1;have h2:=hz.2.2.1;simp only;omega);rintro _ ⟨k,b5,rfl,hk5,hl5,hi5⟩;dsimp only;rw[Ac (x:=(i:Int)+1),show(i:Int)+1=((i+1:Nat):Int) by omega];refine tC (λhlt2=>?_) λhlt2=>tDn (tS (show CP _ _ _ from⟨⟨i+1,b5,rfl,by omega,?_,?_⟩,by simp only;omega⟩))
  ·have hlt2:=dT hlt2;have hk2:k<(eP e).2.2.2[i].2.2.length:=by omega
   have hkg:k<(eG e)[i].length:=by have:=hz.2.1;omega
   have hlg:=hz.2.2.2.1 _ (aG hkg);refine tG dt ?_;rw[bdI];have eq2:aJ (elR e).2.2.2.2.2 ((i:Int)).toNat Dj=(eG e)[i]:=by rw[aH];exact Ad hG
   rw[eq2,aH,Ad hk2,Ad hkg];refine tG (dt (by show(0:Int)<=(i:Int)/\(i:Int)<(((eG e).length:Nat):Int);omega)) (tG dt ?_);rw[bdI];obtain⟨z73,e73,i73⟩:=Aai ((((eP e).2.2.2[i].2.2[k].1,(eP e).2.2.2[i].2.2[k].2.1,(eP e).2.2.2[i].2.2[k].2.2.1),(eP e).2.2.2[i].2.2[k].2.2.2.1,(eP e).2.2.2[i].2.2[k].2.2.2.2.1,(eP e).2.2.2[i].2.2[k].2.2.2.2.2.1),((eP e).2.2.2[i].2.2[k].2.2.2.2.2.2.1,(eP e).2.2.2[i].2.2[k].2.2.2.2.2.2.2.1,(eP e).2.2.2[i].2.2[k].2.2.2.2.2.2.2.2.1),(eP e).2.2.2[i].2.2[k].2.2.2.2.2.2.2.2.2) A;refine tB (P:=λv=>v=((z73,(idx A).1),(idx A).2.1,(idx A).2.2)) ⟨_,e73,rfl⟩ ?_;rintro _ rfl;have hb5:b5.length<=1000000000000:=by have:i*2000<=1900*2000:=bZ _ (by omega);have h1:=hz.2.1;have h2:=hz.2.2.1;omega
   obtain⟨b6,hb6,hl6,hi6⟩:=CU (l:=(eG e)[i][k]) hlg.1 z73 c (bad:=b5) hb5;refine tB (P:=λv=>v=(c,b6)) ⟨_,hb6,rfl⟩ ?_;rintro _ rfl;dsimp only;have h1:=hz.2.1;have h2:=hz.2.2.1;rw[Ac];refine tGo ⟨⟨k+1,b6,by rw[show(k:Int)+1=((k+1:Nat):Int) by omega],by omega,by omega,?_⟩,by simp only;omega⟩;rw[hi6,hi5];constructor
   ·rintro⟨⟨q1,q2⟩,q3⟩;refine⟨q1,λj hj hjk=>?_⟩
    by_cases hje:j=k
    ·subst hje;exact i73.1 q3
    ·exact q2 j hj (by omega)
   ·rintro⟨q1,q2⟩;exact⟨⟨q1,λj hj hjk=>q2 j hj (by omega)⟩,i73.2 (q2 k hk2 (by omega))⟩
  ·have h1:=hz.2.1;have h2:=hz.2.2.1;have h3:(i+1)*2000=i*2000+2000:=by omega
   omega
  ·have hlt2:=dF hlt2;have hke:k=(eP e).2.2.2[i].2.2.length:=by omega
   rw[hi5,hi4,hi3];constructor
   ·rintro⟨⟨⟨q1,q2⟩,q3⟩,q4⟩;refine⟨q1,λj hj hjk=>?_⟩
    by_cases hje:j=i
    ·subst hje;refine⟨i72.1 q3,λg hg=>?_⟩
     obtain⟨m,hm,rfl⟩:=bE hg;exact q4 m hm (by omega)
    ·exact q2 j hj (by omega)
   ·rintro⟨q1,q2⟩;have hpi:=q2 i hi2' (by omega);exact⟨⟨⟨q1,λj hj hjk=>q2 j hj (by omega)⟩,i72.2 hpi.1⟩,λj hj _=>hpi.2 _ (aG hj)⟩
 ·have hlt:=dF hlt;rw[hi3,hi2,hz9];constructor
  ·rintro⟨⟨q1,q2⟩,q3⟩;refine⟨q1,q2.1,q2.2.1,by rw[show keyP (qP e).2.1 (qP e).1.1 (qP e).1.2=key from hkk];exact q2.2.2.1,q2.2.2.2,λx hx=>?_⟩
   obtain⟨m,hm,rfl⟩:=bE (show x∈(eP e).2.2.2 from hx);exact q3 m hm (by omega)
  ·rintro⟨q1,q2,q3,q4,q5,q6⟩;rw[show keyP (qP e).2.1 (qP e).1.1 (qP e).1.2=key from hkk]at q4;exact⟨⟨q1,q2,q3,q4,q5⟩,λj hj _=>q6 _ (aG hj)⟩
def fxE(e:El_):List Be:=if e.1=102 then[e.2.2.1]else[]
def aiE(e:El_):List AQ:=if e.1=97 then[e.2.2.2.1]else[]
def prE(e:El_):List AA:=if e.1=112 then[eP e]else[]
def keyA(s:Bt):Bt:=[65,73,82,87,65,89,32]++s
def nmE(e:El_):List Bt:=if e.1=97 then[keyA e.2.2.2.1.1]else if e.1=112 then[keyP (eP e).2.2.1 (eP e).1 (eP e).2.1]else[]
def fxs(l:List El_):List Be:=l.flatMap fxE
def ais(l:List El_):List AQ:=l.flatMap aiE
def prs(l:List El_):List AA:=l.flatMap prE
def nms(l:List El_):List Bt:=l.flatMap nmE
def fx5(l:List El_):List Fx_:=(fxs l).map gf
theorem Eb(l:List El_)(e:El_):fxs (l++[e])=fxs l++fxE e:=by unfold fxs;simp
theorem Gl(l:List El_)(e:El_):ais (l++[e])=ais l++aiE e:=by unfold ais;simp
theorem Gm(l:List El_)(e:El_):prs (l++[e])=prs l++prE e:=by unfold prs;simp
theorem JD(l:List El_)(e:El_):nms (l++[e])=nms l++nmE e:=by unfold nms;simp
theorem JE(l:List El_)(e:El_):fx5 (l++[e])=fx5 l++(fxE e).map gf:=by unfold fx5;rw[Eb,aZ]
theorem BL{β:Type}(f:El_->List β)(h:∀e,(f e).length<=1):∀l:List El_,(l.flatMap f).length<=l.length
 | []=>by simp
 |e::l=>by have h1:=BL f h l;have h2:=h e;rw[aR,aC,aE];omega
theorem Lz(e:El_):(fxE e).length<=1:=by unfold fxE;split<;>simp
theorem Sd(e:El_):(aiE e).length<=1:=by unfold aiE;split<;>simp
theorem Se(e:El_):(prE e).length<=1:=by unfold prE;split<;>simp
def CE(o:Int×Int)(L l:List El_)(e:El_):Prop:=
 (e.1=102->(fxs l).length+1<=400/\rf (gf e.2.2.1)∉refs (fx5 l)/\PlOk (gf e.2.2.1) o (apts (fx5 l)) (apts (fx5 L)))/\
 (e.1=97->(ais l).length+1<=60/\keyA e.2.2.2.1.1∉nms l/\∀p∈e.2.2.2.1.2,p.1∈refs (fx5 L))/\
 (e.1=112->PrF (fx5 L) (nms l) ((prs l).length+1) (qP e))
def hd3(c:C3_):Az:=((c.1.1.2,c.1.2.1,c.1.2.2.1),c.1.2.2.2,c.2.1.1,c.2.1.2.1)
theorem AcE(n:Nat)(b:Bool):∃e,o102 (n:Int) 60 b=some e/\(e=0↔n<=60/\b=false):=by
 unfold o102;by_cases h:n<=60
 ·rw[cndF df];cases b with
  |true=>exact⟨7,rfl,(λh=>by cases h),λh=>by cases h.2⟩
  |false=>exact⟨0,rfl,λ_=>⟨h,rfl⟩,λ_=>rfl⟩
 ·rw[cndT dt];exact⟨3,rfl,(λh=>by cases h),λh2=>absurd h2.1 h⟩
def t3(nf na np:Int)(L:List El_)(i:Nat)(c:C3_)(ks:Mp_)(bad:List Dg)(R B:Mp_×Mp_×Mp_):HL:=(((nf,na,np),(L,((L.length:Nat):Int)),(i:Int),c),((ks,bad),R.1,R.2.1),(R.2.2,B.1),B.2.1,B.2.2)
def s3(c:C3_)(L:List El_)(i:Nat)(bad:List Dg):HL:=t3 ((fxs (L.take i)).length:Nat) ((ais (L.take i)).length:Nat) ((prs (L.take i)).length:Nat) L i c (mset (nms (L.take i))) bad (idx (fx5 L)) (idx (fx5 (L.take i)))
def q3(nf na np:Int)(L:List El_)(i:Nat)(ps:List Pt_)(k:Nat)(c:C3_)(ks:Mp_)(e:BT)(bad:List Dg)(R B:Mp_×Mp_×Mp_):Lg:=((((nf,na),np,L),(((L.length:Nat):Int),(i:Int)),ps,((ps.length:Nat):Int),(k:Int)),((c,ks),e,bad,R.1),(R.2.1,R.2.2),B.1,B.2.1,B.2.2)
theorem AkZ{P:α->Prop}{Q:β->Prop}{x:Ctl α β}(h:Tot (CP P Q) (some x)):Tot (CP P Q) (some x):=h
theorem Aam (hn:n<=1900) {c:C3_} (h0:c.1.1.1≠[]) (hr:∀ l∈c.1.1.1,okR' l) (hnm:c.1.1.2.length<=200) {L:List El_} (hL:c.2.1.2.2=L) (hl:L.length<=1900) (hS:∀ e∈L,SE n e) (hG:∀ e∈L,GE e) :
  Tot (λr=>r.1=c/\(r.2=[]↔o63 (hd3 c)=some 0/\∀i(h:i<L.length),CE (c.2.1.1,c.2.1.2.1) L (L.take i) L[i])) (o44 c []):=by
 have hp0:0<c.1.1.1.length:=bD.2 h0;have hfT:∀e∈L,fxT (gf e.2.2.1):=λe he=>by have:=(hS e he).2.2.1;exact⟨by show e.2.2.1.1.length<=_;omega,by show e.2.2.1.2.1.length<=_;omega⟩
 unfold o44;refine tG dt ?_;rw[bdI,show(0:Int).toNat=0 from rfl,Ad hp0];refine tB (P:=λv=>o63 (hd3 c)=some v) (by obtain⟨r,e,_⟩:=AkQ (hd3 c) (by show c.1.1.2.length<=_;omega);exact⟨r,e,e⟩) λv5 h5=>?_;obtain⟨bad0,hb0,hlb0,hib0⟩:=CU (l:=c.1.1.1[0]) (hr _ (aG hp0)).1 v5 c (bad:=[]) (by simp);refine tB (P:=λv=>v=(c,bad0)) ⟨_,hb0,rfl⟩ ?_;rintro _ rfl;have hib:bad0=[]↔o63 (hd3 c)=some 0:=by rw[hib0,h5];exact⟨λh=>by rw[h.2],λh=>⟨rfl,by injection h⟩⟩
 clear hib0;simp only[aN]at hlb0;dsimp only;rw[hL];refine tL (λt=>∃i:Nat,t=((L,((L.length:Nat):Int),(i:Int)),c,fxs (L.take i),bad0)/\i<=L.length) (λt=>L.length-t.1.2.2.toNat) ?_ ⟨0,rfl,by omega⟩ (by simp only;omega);rintro _ ⟨i,rfl,hi⟩;dsimp only;refine tC (λhlt=>?_) λhlt=>tDn ?_
 ·have hlt:=dT hlt;have hi2:i<L.length:=by omega
  have hfl:(fxs (L.take i)).length<=(L.take i).length:=BL fxE Lz _;rw[bJ]at hfl;refine tG dt ?_;rw[bdI,aH,Ad hi2,Ac,show(i:Int)+1=((i+1:Nat):Int) by omega];have e1:fxs (L.take (i+1))=fxs (L.take i)++fxE L[i]:=by rw[aO hi2,Eb]
  refine tC (λh=>?_) λh=>?_
  ·have h:=eT h;refine tG (dt (by simp only[aE,aN];omega)) (tGo ⟨⟨i+1,?_,by omega⟩,by simp only;omega⟩);rw[e1];unfold fxE;rw[if_pos h]
  ·have h:=eF h;refine tGo ⟨⟨i+1,?_,by omega⟩,by simp only;omega⟩;rw[e1];unfold fxE;rw[if_neg h,aD]
 have hlt:=dF hlt;have hie:i=L.length:=by omega
 subst hie;rw[aV];have hfl:(fxs L).length<=L.length:=BL fxE Lz _;refine tB (P:=λv=>v=idx (fx5 L)) ⟨_,NI (l:=fxs L) (λf hf=>by
  obtain⟨e,he,h2⟩:=bF.1 hf;unfold fxE at h2;split at h2
  ·rw[aI]at h2;subst h2;exact hfT e he
  ·cases h2),rfl⟩ ?_
 rintro _ rfl;refine tB (P:=λv=>v=idx []) ⟨_,NI (l:=[]) (λf hf=>by cases hf) (by simp),rfl⟩ ?_;rintro _ rfl;refine tL (λt=>∃(i:Nat)(bad:List Dg),t=s3 c L i bad/\i<=L.length/\bad.length<=1+i*20000000/\(bad=[]↔o63 (hd3 c)=some 0/\∀j(h:j<L.length),j<i->CE (c.2.1.1,c.2.1.2.1) L (L.take j) L[j])) (λt=>L.length-t.1.2.2.1.toNat) ?_ ⟨0,bad0,by rw[<-hL];rfl,by omega,by omega,λh=>⟨hib.1 h,λj _ h=>by omega⟩,λh=>hib.2 h.1⟩ (by show L.length-(0:Int).toNat<_;omega);rintro _ ⟨i,bad,rfl,hi,hbl,hbi⟩;unfold s3 t3;dsimp only;have hmul:i*20000000<=1900*20000000:=bZ _ (by omega);have gos:∀{bad2:List Dg}(hi2:i<L.length),bad2.length<=bad.length+20000000->(bad2=[]↔bad=[]/\CE (c.2.1.1,c.2.1.2.1) L (L.take i) L[i])->Tot (CP (λs'=>(∃(i:Nat)(bad:List Dg),s'=s3 c L i bad/\i<=L.length/\bad.length<=1+i*20000000/\(bad=[]↔o63 (hd3 c)=some 0/\∀j(h:j<L.length),j<i->CE (c.2.1.1,c.2.1.2.1) L (L.take j) L[j]))/\L.length-s'.1.2.2.1.toNat<L.length-((i:Nat):Int).toNat) (λr:Bb×List (Int×Int×Int)=>r.1=c/\(r.2=[]↔o63 (hd3 c)=some 0/\∀i(h:i<L.length),CE (c.2.1.1,c.2.1.2.1) L (L.take i) L[i]))) (some (.go (s3 c L (i+1) bad2))):=λ{bad2} hi2 h1 h2=>tGo ⟨⟨i+1,bad2,rfl,by omega,by omega,by
  rw[h2,hbi];constructor
  ·rintro⟨⟨q1,q2⟩,q3⟩;refine⟨q1,λj hj hji=>?_⟩
   by_cases e:j=i
   ·subst e;exact q3
   ·exact q2 j hj (by omega)
  ·rintro⟨q1,q2⟩;exact⟨⟨q1,λj hj hji=>q2 j hj (by omega)⟩,q2 i hi2 (by omega)⟩⟩,by show L.length-((i+1:Nat):Int).toNat<L.length-((i:Nat):Int).toNat;omega⟩
 have g1:(fxs (L.take i)).length<=(L.take i).length:=BL fxE Lz _;have g2:(ais (L.take i)).length<=(L.take i).length:=BL aiE Sd _;have g3:(prs (L.take i)).length<=(L.take i).length:=BL prE Se _;rw[bJ]at g1 g2 g3;refine tC (λhlt=>?_) λhlt=>tDn (tS ⟨rfl,?_⟩)
 ·have hlt:=dT hlt;have hi2:i<L.length:=by omega
  have hm:=aG hi2;have hSe:=hS _ hm;have hGe:=hG _ hm;have hTe:=hfT _ hm;have ht:L.take (i+1)=L.take i++[L[i]]:=aO hi2;refine tG dt ?_;rw[bdI,aH,Ad hi2,Ac (x:=(i:Int)+1),Ac (x:=(((fxs (L.take i)).length:Nat):Int)+1),Ac (x:=(((ais (L.take i)).length:Nat):Int)+1),Ac (x:=(((prs (L.take i)).length:Nat):Int)+1)];rw[show(i:Int)+1=((i+1:Nat):Int) by omega,show(((fxs (L.take i)).length:Nat):Int)+1=(((fxs (L.take i)).length+1:Nat):Int) by omega,show(((ais (L.take i)).length:Nat):Int)+1=(((ais (L.take i)).length+1:Nat):Int) by omega,show(((prs (L.take i)).length:Nat):Int)+1=(((prs (L.take i)).length+1:Nat):Int) by omega];have gos:=λbad2=>gos (bad2:=bad2) hi2;generalize hle:L[i]=e at hSe hGe hTe ht gos⊢;generalize hll:L.take i=l at g1 g2 g3 ht gos⊢;refine tC (λh102=>?_) λh102=>?_
  ·have h102:=eT h102;have st:∀bad2,s3 c L (i+1) bad2=t3 ((fxs l).length+1:Nat) ((ais l).length:Nat) ((prs l).length:Nat) L (i+1) c (mset (nms l)) bad2 (idx (fx5 L)) (idx (fx5 l++[gf e.2.2.1])):=λbad2=>by unfold s3;rw[ht,Eb,Gl,Gm,JD,JE];unfold fxE aiE prE nmE;rw[if_pos h102,if_neg (show¬e.1=97 by omega),if_neg (show¬e.1=112 by omega),if_neg (show¬e.1=97 by omega),if_neg (show¬e.1=112 by omega),aD,aD,aD,aC];rfl
   refine tB (P:=λv=>∃z:Int,v=((((((((fxs l).length+1:Nat):Int),(((ais l).length:Nat):Int)),(((prs l).length:Nat):Int),z),(L,((L.length:Nat):Int)),(i:Int),c),((mset (nms l),elR e),bad,(idx (fx5 L)).1),((idx (fx5 L)).2.1,(idx (fx5 L)).2.2),(idx (fx5 l)).1,(idx (fx5 l)).2.1,(idx (fx5 l)).2.2):Yk)/\(z=0↔(fxs l).length+1<=400/\rf (gf e.2.2.1)∉refs (fx5 l)/\PlOk (gf e.2.2.1) (c.2.1.1,c.2.1.2.1) (apts (fx5 l)) (apts (fx5 L)))) ?_ ?_
   ·refine tC (λh=>tS ⟨3,rfl,(λh=>by cases h),λh2=>by have:=dT h;omega⟩) λh4=>?_;have h4:=dF h4;refine tB (P:=λv=>v=rf (gf e.2.2.1)) ⟨_,GR hTe,rfl⟩ ?_;rintro _ rfl;have hg:mpGet false (idx (fx5 l)).1 (rf (gf e.2.2.1))=decide (rf (gf e.2.2.1)∈refs (fx5 l)):=Ca _ _;rw[hg];refine tC (λh=>tS ⟨7,rfl,(λh=>by cases h),λh2=>absurd (dT h) h2.2.1⟩) λh5=>?_;have h5:=dF h5;obtain⟨z,e68,i68⟩:=Aag (gf e.2.2.1) (c.2.1.1,c.2.1.2.1) (fx5 l) (fx5 L);refine tB (P:=λv=>v=((z,(idx (fx5 l)).1,(idx (fx5 l)).2.1),((idx (fx5 l)).2.2,(idx (fx5 L)).1),(idx (fx5 L)).2.1,(idx (fx5 L)).2.2)) ⟨_,e68,rfl⟩ ?_;rintro _ rfl;exact tS ⟨z,rfl,λh=>⟨by omega,h5,i68.1 h⟩,λh=>i68.2 h.2.2⟩
   ·rintro _ ⟨z,rfl,hz⟩;obtain⟨bad2,hb2,hl2,hi3⟩:=CU (l:=(e.2.1.1,e.2.1.2)) hSe.1.1 z c (bad:=bad) (by omega);refine tB (P:=λv=>v=(c,bad2)) ⟨_,hb2,rfl⟩ ?_;rintro _ rfl;refine tB (P:=λv=>v=idx (fx5 l++[gf e.2.2.1])) ⟨_,Sc hTe _,rfl⟩ ?_;rintro _ rfl;have:=gos bad2 (by omega) (by rw[hi3,hz];exact⟨λh=>⟨h.1,λ_=>h.2,λh2=>absurd (h102.symm.trans h2) (by decide),λh2=>absurd (h102.symm.trans h2) (by decide)⟩,λh=>⟨h.1,h.2.1 h102⟩⟩)
    rw[st]at this;dsimp only;rw[Ac (x:=(i:Int)+1),show(i:Int)+1=((i+1:Nat):Int) by omega];exact this
  ·have h102:=eF h102;refine tC (λh97=>?_) λh97=>?_
   ·have h97:=eT h97;have st:∀bad2,s3 c L (i+1) bad2=t3 ((fxs l).length:Nat) ((ais l).length+1:Nat) ((prs l).length:Nat) L (i+1) c (mset (nms l++[keyA e.2.2.2.1.1])) bad2 (idx (fx5 L)) (idx (fx5 l)):=λbad2=>by unfold s3;rw[ht,Eb,Gl,Gm,JD,JE];unfold fxE aiE prE nmE;rw[if_neg h102,if_pos h97,if_neg (show¬e.1=112 by omega),if_pos h97,aD,aD,aC,cK,aD];rfl
    have hair:=hSe.2.2.2.1;have hAk:=hGe.2 h97;have hln:e.2.2.2.1.1.length<=200:=hair.1;refine tG (dt (by simp only[aE,aN];omega)) ?_;have hkA:([65,73,82,87,65,89,32]:Bt)++e.2.2.2.1.1=keyA e.2.2.2.1.1:=rfl;rw[hkA,Ca];obtain⟨z,hz,hzi⟩:=AcE ((ais l).length+1) (decide (keyA e.2.2.2.1.1∈nms l));refine tB (P:=λv=>v=z) ⟨_,hz,rfl⟩ ?_;rintro v rfl;obtain⟨bad1,hb1,hl1,hi1⟩:=CU (l:=e.2.1) hSe.1.1 v (c:=c) (bad:=bad) (by omega);refine tB (P:=λw=>w=(c,bad1)) ⟨_,hb1,rfl⟩ ?_;rintro _ rfl;rw[<-ED];have hn2:e.2.2.2.1.2.length<=2000:=hair.2.1;refine tL (λt=>∃(k:Nat)(b:List Dg),t=q3 ((fxs l).length:Nat) ((ais l).length+1:Nat) ((prs l).length:Nat) L i e.2.2.2.1.2 k c (mset (nms l++[keyA e.2.2.2.1.1])) (elR e) b (idx (fx5 L)) (idx (fx5 l))/\k<=e.2.2.2.1.2.length/\b.length<=bad1.length+k/\(b=[]↔bad1=[]/\∀j(hj:j<e.2.2.2.1.2.length),j<k->e.2.2.2.1.2[j].1∈refs (fx5 L))) (λt=>e.2.2.2.1.2.length-t.1.2.2.2.2.toNat) ?_ ⟨0,bad1,rfl,by omega,by omega,λh=>⟨h,λj _ h=>by omega⟩,λh=>h.1⟩ (by simp only;omega);rintro _ ⟨k,b,rfl,hk,hbk,hik⟩;unfold q3;dsimp only;rw[Ac (x:=(k:Int)+1),Ac (x:=(i:Int)+1)];refine tC (λhlt=>?_) λhlt=>tDn ?_
    ·have hlt:=dT hlt;have hk2:k<e.2.2.2.1.2.length:=by omega
     refine tG dt ?_;rw[bdI,aH,Ad hk2];have hg:mpGet false (idx (fx5 L)).1 e.2.2.2.1.2[k].1=decide (e.2.2.2.1.2[k].1∈refs (fx5 L)):=Ca _ _;rw[hg];refine tC (λhm2=>?_) λhm2=>?_
     ·have hm2:=dF (notT hm2);have hkv:k<e.2.2.2.2.1.length:=by rw[<-hAk.2.1];exact hk2
      have hlv:=hSe.2.2.2.2.1 _ (aG hkv);have eqv:aJ (elR e).2.1.2.2.1 k Bm=e.2.2.2.2.1[k]:=Ad hkv;refine tG (dt (by show(0:Int)<=(k:Int)/\(k:Int)<((e.2.2.2.2.1.length:Nat):Int);omega)) ?_;rw[bdI,eqv];obtain⟨b2,hb2,hl2,hi4⟩:=CU (l:=e.2.2.2.2.1[k]) hlv.1 6 c (bad:=b) (by omega);refine tB (P:=λw=>w=(c,b2)) ⟨_,hb2,rfl⟩ ?_;rintro _ rfl;refine tGo ⟨⟨k+1,b2,by rw[show(k:Int)+1=((k+1:Nat):Int) by omega],by omega,by omega,?_⟩,by simp only;omega⟩;rw[hi4];exact⟨λh=>absurd h.2 (by decide),λh=>absurd (h.2 k hk2 (by omega)) hm2⟩
     ·have hm2:=dT (notF hm2);refine tGo ⟨⟨k+1,b,by rw[show(k:Int)+1=((k+1:Nat):Int) by omega],by omega,by omega,?_⟩,by simp only;omega⟩;rw[hik];constructor
      ·rintro⟨q1,q2⟩;refine⟨q1,λj hj hjk=>?_⟩
       by_cases hje:j=k
       ·subst hje;exact hm2
       ·exact q2 j hj (by omega)
      ·rintro⟨q1,q2⟩;exact⟨q1,λj hj hjk=>q2 j hj (by omega)⟩
    ·have hlt:=dF hlt;have hke:k=e.2.2.2.1.2.length:=by omega
     have:=gos b (by omega) (by
      rw[hik,hi1,hzi,decide_eq_false_iff_not];constructor
      ·rintro⟨⟨q1,q2,q3⟩,q4⟩;refine⟨q1,λh=>absurd h h102,λ_=>⟨q2,q3,λp hp=>?_⟩,λh2=>absurd (h97.symm.trans h2) (by decide)⟩
       obtain⟨m,hm3,rfl⟩:=bE hp;exact q4 m hm3 (by omega)
      ·rintro⟨q1,_,q2,_⟩;have q2:=q2 h97;exact⟨⟨q1,q2.1,q2.2.1⟩,λj hj _=>q2.2.2 _ (aG hj)⟩)
     rw[st]at this;rw[show(i:Int)+1=((i+1:Nat):Int) by omega];exact AkZ this
   ·have h97:=eF h97;have h112:e.1=112:=by rcases hSe.2.1 with h|h|h<;>omega
    have st:∀bad2,s3 c L (i+1) bad2=t3 ((fxs l).length:Nat) ((ais l).length:Nat) ((prs l).length+1:Nat) L (i+1) c (mset (nms l++[keyP (eP e).2.2.1 (eP e).1 (eP e).2.1])) bad2 (idx (fx5 L)) (idx (fx5 l)):=λbad2=>by unfold s3;rw[ht,Eb,Gl,Gm,JD,JE];unfold fxE aiE prE nmE;rw[if_neg h102,if_neg h97,if_pos h112,if_neg h97,if_pos h112,aD,aD,aC,cK,aD];rfl
    refine tB (AcD hn hSe ((prs l).length+1) (by omega) c (bad:=bad) (by omega) (fx5 L) (nms l)) ?_;rintro _ ⟨bad2,rfl,hl2,hi4⟩;have:=gos bad2 (by omega) (by rw[hi4];exact⟨λh=>⟨h.1,λh2=>absurd h2 h102,λh2=>absurd h2 h97,λ_=>h.2⟩,λh=>⟨h.1,h.2.2.2 h112⟩⟩)
    rw[st]at this;exact this
 ·have hlt:=dF hlt;have hie:i=L.length:=by omega
  subst hie;rw[hbi];exact⟨λh=>⟨h.1,λj hj=>h.2 j hj hj⟩,λh=>⟨h.1,λj hj _=>h.2 j hj⟩⟩
structure Cm3{α:Type}(c:α->α->Int):Prop where
 anti:∀x y,c y x= -c x y
 tr:∀x y z,c x y<=0->c y z<=0->c x z<=0
theorem Cm3.ord(h:Cm3 c):Ord3 (λx y=>c x y<0):=
 ⟨λx y k k2=>by have:=h.anti x y;omega,λx y z k1 k2 k3=>by have a1:=h.anti x y;have a2:=h.anti y z;have a3:=h.anti x z;have:=h.tr x y z (by omega) (by omega);omega⟩
theorem Cm3.pull(h:Cm3 c)(f:β->α):Cm3 (λx y=>c (f x) (f y)):=⟨λx y=>h.anti _ _,λx y z=>h.tr _ _ _⟩
theorem JF:Cm3 aT:=⟨KO,SS⟩
def cI(a b:Int):Int:=if a<b then-1 else if a>b then 1 else 0
theorem Ala:Cm3 cI:=⟨λx y=>by unfold cI;split<;>split<;>(first|omega|(split<;>omega)),λx y z=>by unfold cI;intro h1 h2;split at h1<;>split at h2<;>(first|(split<;>omega)|(split at h1<;>split at h2<;>(first|omega|(split<;>(first|omega|(split<;>omega)))))|(split at h1<;>(first|omega|(split<;>(first|omega|(split<;>omega)))))|(split at h2<;>(first|omega|(split<;>(first|omega|(split<;>omega))))))⟩
def lx{α:Type}(c1 c2:α->α->Int)(x y:α):Int:=if c1 x y≠0 then c1 x y else c2 x y
theorem Cm3.lex{c1 c2:α->α->Int}(h1:Cm3 c1)(h2:Cm3 c2):Cm3 (lx c1 c2):=by
 refine⟨λx y=>?_,λx y z=>?_⟩
 ·unfold lx;have a1:=h1.anti x y;have a2:=h2.anti x y;by_cases e:c1 x y=0
  ·rw[if_neg (by omega),if_neg (by omega)];exact a2
  ·rw[if_pos (by omega),if_pos e];exact a1
 ·unfold lx;intro k1 k2;have a1:=h1.anti x y;have a2:=h1.anti y z;have a3:=h1.anti x z;have q1:c1 x y<=0:=by split at k1<;>omega
  have q2:c1 y z<=0:=by split at k2<;>omega
  have q3:=h1.tr x y z q1 q2;by_cases e:c1 x z=0
  ·have t1:=h1.tr z x y (by omega) q1;have t2:=h1.tr y z x q2 (by omega);rw[if_neg (by omega)]at k1 k2⊢;exact h2.tr x y z k1 k2
  ·rw[if_pos e];exact q3
theorem Aan:∀a b:Bt,Op.bytesLess a b=decide (aT a b<0)
 | [],[]=>rfl
 |_::_,[]=>rfl
 | [],_::_=>rfl
 |a::x,b::y=>by
  unfold Op.bytesLess aT;rw[Aan x y];by_cases h1:a<b
  ·rw[dt h1,if_pos h1];rfl
  ·rw[df h1,if_neg h1,cT];by_cases h2:b<a
   ·have:(a==b)=false:=SR (λe=>by rw[e]at h2;exact absurd h2 (by rw[DO];omega));rw[if_pos h2,this];rfl
   ·have:a=b:=by rw[DO]at h1 h2;exact UInt8.toNat_inj.1 (by omega)
    have e:(a==b)=true:=by simpa using this
    rw[if_neg h2,e,Bool.true_and]
theorem NJ(a b:Bt):o48 a b=some (aT a b):=by
 have r:=Ft a b;have e1:∀s:Bt,o108 s=some false:=λs=>by unfold o108;simp
 unfold o48;rw[bdS (e1 a),bdS (e1 b),Aj,Aj,Aan];by_cases h:aT a b<0
 ·rw[cndT (dt h),show aT a b= -1 by omega]
 ·rw[cndF (df h),df h,cT];by_cases h2:a=b
  ·subst h2;rw[Mx,cndF]
  ·have:(a==b)=false:=by simpa using h2
   rw[this,bH,Av];have:aT a b≠0:=λe=>h2 (Gf a b e);rw[show aT a b=1 by omega]
theorem AcF(a b:Int):o112 a b=some (cI a b):=by
 have e1:∀k:Int,o175 k=some false:=λk=>by unfold o175;simp
 unfold o112 cI;rw[bdS (e1 a),bdS (e1 b),Aj,Aj];by_cases h:a<b
 ·rw[cndT (dt h),if_pos h]
 ·rw[cndF (df h),if_neg h];by_cases h2:a>b
  ·rw[cndT (dt h2),if_pos h2]
  ·rw[cndF (df h2),if_neg h2]
theorem AfV(a b c:Int):o110 [a,b,c]=some (if a≠0 then a else if b≠0 then b else c):=by
 refine BN ?_;unfold o110;by_cases h1:a=0
 ·by_cases h2:b=0
  ·rw[if_neg (by omega),if_neg (by omega)];refine tL (λt=>∃i:Nat,t=([a,b,c],3,(i:Int))/\i<=3/\(i=3->c=0)) (λt=>3-t.2.2.toNat) ?_ ⟨0,rfl,by omega,λh=>by cases h⟩ (by simp only;omega);rintro _ ⟨i,rfl,hi,hc⟩;dsimp only;refine tC (λhlt=>?_) λhlt=>tDn (tS (hc (by have:=dF hlt;omega)).symm);have hlt:=dT hlt;refine tG (dt (by simp;omega)) ?_;rw[aH,Ac];have h3:i=0\/i=1\/i=2:=by omega
   rcases h3 with rfl|rfl|rfl
   ·refine tC (λh=>absurd h1 (nT h)) λ_=>tGo ⟨⟨1,rfl,by omega,λh=>by cases h⟩,by simp only;omega⟩
   ·refine tC (λh=>absurd h2 (nT h)) λ_=>tGo ⟨⟨2,rfl,by omega,λh=>by cases h⟩,by simp only;omega⟩
   ·refine tC (λh=>tDn (tS rfl)) λh=>tGo ⟨⟨3,rfl,by omega,λ_=>nF h⟩,by simp only;omega⟩
  ·rw[if_neg (by omega),if_pos h2];refine tL (λt=>∃i:Nat,t=([a,b,c],3,(i:Int))/\i<=1) (λt=>3-t.2.2.toNat) ?_ ⟨0,rfl,by omega⟩ (by simp only;omega);rintro _ ⟨i,rfl,hi⟩;dsimp only;refine tC (λhlt=>?_) λhlt=>by have:=dF hlt;omega
   refine tG (dt (by simp;omega)) ?_;rw[aH,Ac];have h3:i=0\/i=1:=by omega
   rcases h3 with rfl|rfl
   ·refine tC (λh=>absurd h1 (nT h)) λ_=>tGo ⟨⟨1,rfl,by omega⟩,by simp only;omega⟩
   ·refine tC (λh=>tDn (tS rfl)) λh=>absurd (nF h) h2
 ·rw[if_pos h1];refine tL (λt=>t=([a,b,c],3,0)) (λt=>0) ?_ rfl (by omega);rintro _ rfl;dsimp only;refine tC (λhlt=>?_) λhlt=>by have:=dF hlt;omega
  exact tG (dt (by simp only[aE,aN];omega)) (tC (λh=>tDn (tS rfl)) λh=>absurd (nF h) h1)
def cF(x y:Be):Int:=aT (rf (gf x)) (rf (gf y))
def cA(x y:AQ):Int:=aT x.1 y.1
def cP(x y:AA):Int:=lx (λ(p q:AA)=>aT p.1 q.1) (lx (λ(p q:AA)=>cI p.2.2.1 q.2.2.1) (λ(p q:AA)=>aT p.2.1 q.2.1)) x y
theorem Aao:Cm3 cF:=JF.pull λx=>rf (gf x)
theorem Aap:Cm3 cA:=JF.pull λx:AQ=>x.1
theorem TY:Cm3 cP:=(JF.pull λx:AA=>x.1).lex ((Ala.pull λx:AA=>x.2.2.1).lex (JF.pull λx:AA=>x.2.1))
theorem Aaq(p q:AA):o50 ((p.1,p.2.1),p.2.2) ((q.1,q.2.1),q.2.2)=some (cP p q):=by have e1:∀a b:Bt,o111 a b=some (aT a b):=λa b=>rfl;unfold o50;rw[bdS (e1 _ _),bdS (AcF _ _),bdS (e1 _ _),bdS (AfV _ _ _)];rfl
def kF(x y:Be):Option Int:=o106 ((x.1,x.2.1,x.2.2.1),x.2.2.2) ((y.1,y.2.1,y.2.2.1),y.2.2.2)
def kP(x y:AA):Option Int:=o50 ((x.1,x.2.1),x.2.2) ((y.1,y.2.1),y.2.2)
theorem g236(a b:Int)(l:List Be):o236 a b l=gIns AW kF a b l:=by kernel_rfl
theorem Alb(ih:Int->Int->Int->List Be->Option (List Be))(a m b:Int)(l:List Be):Tj ih a m b l=gSymF AW kF ih a m b l:=by kernel_rfl
theorem g237:∀n:Nat,o237 n=gSym AW kF n
 |0=>rfl
 |n+1=>by show(λa m b l=>Tj (o237 n) a m b l)=λa m b l=>gSymF AW kF (gSym AW kF n) a m b l;rw[g237 n];funext a m b l;exact Alb _ a m b l
theorem g169(n:Int)(l:List Be):o169 n l=gStab AW kF n l:=by unfold o169 gStab;simp only[g236,g237]
theorem g170(a b:Int)(l:List AQ):o170 a b l=gIns Bc o47 a b l:=by kernel_rfl
theorem Alc(ih:Int->Int->Int->List AQ->Option (List AQ))(a m b:Int)(l:List AQ):Tv ih a m b l=gSymF Bc o47 ih a m b l:=by kernel_rfl
theorem g171:∀n:Nat,o171 n=gSym Bc o47 n
 |0=>rfl
 |n+1=>by show(λa m b l=>Tv (o171 n) a m b l)=λa m b l=>gSymF Bc o47 (gSym Bc o47 n) a m b l;rw[g171 n];funext a m b l;exact Alc _ a m b l
theorem g107(n:Int)(l:List AQ):o107 n l=gStab Bc o47 n l:=by unfold o107 gStab;simp only[g170,g171]
theorem g172(a b:Int)(l:List AA):o172 a b l=gIns Bd kP a b l:=by kernel_rfl
theorem Ald(ih:Int->Int->Int->List AA->Option (List AA))(a m b:Int)(l:List AA):TL ih a m b l=gSymF Bd kP ih a m b l:=by kernel_rfl
theorem g173:∀n:Nat,o173 n=gSym Bd kP n
 |0=>rfl
 |n+1=>by show(λa m b l=>TL (o173 n) a m b l)=λa m b l=>gSymF Bd kP (gSym Bd kP n) a m b l;rw[g173 n];funext a m b l;exact Ald _ a m b l
theorem g109(n:Int)(l:List AA):o109 n l=gStab Bd kP n l:=by unfold o109 gStab;simp only[g172,g173]
theorem Ale{x y:Be}(hx:fxT (gf x))(hy:fxT (gf y)):kF x y=some (cF x y):=by unfold kF o106;have e1:o67 ((x.1,x.2.1,x.2.2.1),x.2.2.2)=some (rf (gf x)):=GR (f:=gf x) hx;have e2:o67 ((y.1,y.2.1,y.2.2.1),y.2.2.2)=some (rf (gf y)):=GR (f:=gf y) hy;rw[bdS e1,bdS e2,bdS (NJ _ _)];rfl
def Asc{α:Type}(c:α->α->Int)(l:List α):Prop:=l.Pairwise λx y=>c x y<=0
theorem Sf(h:Cm3 c){d:α}{l:List α}(s:Srt (λx y=>c x y<0) d l 0 l.length):Asc c l:=by unfold Asc;rw[bB];intro i j hi hj hij;have:=s i j (by omega) hij hj;rw[Ad hi,Ad hj]at this;have a:=h.anti l[i] l[j];omega
theorem Aar{l:List Be}(hl:l.length<=100000)(h:∀f∈l,fxT (gf f)):∃r,o45 l=some r/\r.Perm l/\Asc cF r:=by
 have e1:o104 l=some l:=by
  unfold o104;have hg:gd (decide ((([]:List Be).length+l.length)*72<=140737488355328)) (some (([]:List Be)++l))=some l:=gdT (dt (by simp only[aN];omega));rw[hg];exact Rd λh=>by
   have:l=[]:=by simpa using h
   rw[this]
 obtain⟨r,h1,h2,h3⟩:=KK (d:=AW) (cmp:=kF) Aao.ord (l:=l) (by omega) (λx hx y hy=>⟨_,Ale (h x hx) (h y hy),Iff.rfl⟩);refine⟨r,?_,h2,Sf Aao (by rw[h2.length_eq];exact h3)⟩
 unfold o45 o105;rw[bdS e1,bdbd',g169,bdS h1];rfl
theorem Aas{l:List AQ}(hl:l.length<=100000):∃r,o46 l=some r/\r.Perm l/\Asc cA r:=by
 obtain⟨r,h1,h2,h3⟩:=KK (d:=Bc) (cmp:=o47) Aap.ord (l:=l) (by omega) (λx hx y hy=>⟨cA x y,by unfold o47;rw[bdS (NJ _ _)];rfl,Iff.rfl⟩);refine⟨r,?_,h2,Sf Aap (by rw[h2.length_eq];exact h3)⟩
 unfold o46;rw[g107,bdS h1]
theorem Aat{l:List AA}(hl:l.length<=100000):∃r,o49 l=some r/\r.Perm l/\Asc cP r:=by
 obtain⟨r,h1,h2,h3⟩:=KK (d:=Bd) (cmp:=kP) TY.ord (l:=l) (by omega) (λx hx y hy=>⟨cP x y,Aaq x y,Iff.rfl⟩);refine⟨r,?_,h2,Sf TY (by rw[h2.length_eq];exact h3)⟩
 unfold o49;rw[g109,bdS h1]
def SAsc{α:Type}(c:α->α->Int)(l:List α):Prop:=l.Pairwise λx y=>c x y<0
theorem IQ(h:Cm3 c){l m:List α}(s:SAsc c l)(a:Asc c m)(p:m.Perm l):m=l:=by
 refine(p.symm.eq_of_pairwise (le:=λx y=>c x y<=0) (λx y hx hy h1 h2=>?_) (s.imp λh=>Int.le_of_lt h) a).symm;by_cases e:x=y
 ·exact e
 ·have hne:c x y≠0:=by
   have hy2:=p.mem_iff.1 hy;obtain⟨i,hi,rfl⟩:=bE hx;obtain⟨j,hj,rfl⟩:=bE hy2;have s2:=bB.1 s;have an:=h.anti l[i] l[j];rcases Nat.lt_trichotomy i j with h3|h3|h3
   ·have:=s2 i j hi hj h3;omega
   ·subst h3;exact absurd rfl e
   ·have:=s2 j i hj hi h3;omega
  have an:=h.anti x y;omega
def qp(p:AA):Aw:=((p.1,p.2.1),p.2.2.1,p.2.2.2)
def kyP(p:AA):Bt:=keyP p.2.2.1 p.1 p.2.1
def kyA(a:AQ):Bt:=keyA a.1
def FxV(o:Int×Int)(A:List Fx_)(f:Be):Prop:=FixOk (gf f)/\(∃x y,o131 o (gf f).2.1=some (x,y,0))/\(f.2.2.1=6->f.2.1∈apts A)
def AiV(A:List Fx_)(a:AQ):Prop:=(o70 a=some 0/\∀p∈a.2,0<=p.2.2/\p.2.2<=255)/\∀p∈a.2,p.1∈refs A
def PrV(A:List Fx_)(p:AA):Prop:=o71 (qp p)=some 0/\p.1∈apts A/\∀x∈p.2.2.2,PaF A p.1 x
structure VD(h:Az)(F:List Be)(A:List AQ)(P:List AA):Prop where
 hd:o63 h=some 0
 lf:F.length<=400
 la:A.length<=60
 lp:P.length<=60
 nf:(refs (F.map gf)).Nodup
 np:(apts (F.map gf)).Nodup
 nk:(A.map kyA++P.map kyP).Nodup
 fx:∀f∈F,FxV h.2.2 (F.map gf) f
 ai:∀a∈A,AiV (F.map gf) a
 pr:∀p∈P,PrV (F.map gf) p
theorem Gn{l:List α}{x:α}(h:l.Nodup)(hx:x∉l):(l++[x]).Nodup:=by rw[bS];exact⟨h,by simp,λa ha b hb=>by rw[aI]at hb;subst hb;exact λe=>hx (e▸ha)⟩
theorem AfW {L:List El_} (hS:∀ e∈L,SE n e) (h:∀ i (hi:i < L.length),CE o L (L.take i) L[i]):∀ i,i<=L.length ->
  (fxs (L.take i)).length<=400/\(ais (L.take i)).length<=60/\(prs (L.take i)).length<=60/\(refs (fx5 (L.take i))).Nodup/\(apts (fx5 (L.take i))).Nodup/\(nms (L.take i)).Nodup/\
  (∀f∈fxs (L.take i),(∃x y,o131 o (gf f).2.1=some (x,y,0))/\(f.2.2.1=6->f.2.1∈apts (fx5 L)))/\(∀a∈ais (L.take i),∀p∈a.2,p.1∈refs (fx5 L))/\(∀p∈prs (L.take i),PrV (fx5 L) p):=by
 intro i;induction i with
 |zero=>intro _;exact⟨by simp[fxs],by simp[ais],by simp[prs],by simp[refs,fx5,fxs],by simp[apts,fx5,fxs],by simp[nms],λf hf=>by simp[fxs]at hf,λf hf=>by simp[ais]at hf,λf hf=>by simp[prs]at hf⟩
 |succ i ih=>
  intro hi;obtain⟨b1,b2,b3,b4,b5,b6,b7,b8,b9⟩:=ih (by omega);have hc:=h i (by omega);have ht:L.take (i+1)=L.take i++[L[i]]:=aO (by omega);have hk:=(hS _ (aG (show i<L.length by omega))).2.1;rw[ht,Eb,Gl,Gm,JD,JE];generalize L[i]=e at hc hk⊢;generalize L.take i=l at b1 b2 b3 b4 b5 b6 b7 b8 b9 hc⊢;unfold fxE aiE prE nmE;rcases hk with hk|hk|hk
  ·have c:=hc.1 hk;rw[if_pos hk,if_neg (show¬e.1=97 by omega),if_neg (show¬e.1=112 by omega),if_neg (show¬e.1=97 by omega),if_neg (show¬e.1=112 by omega),aD,aD,aD];refine⟨by rw[aC];exact c.1,b2,b3,?_,?_,b6,λf hf=>?_,b8,b9⟩
   ·show(refs (fx5 l++[gf e.2.2.1])).Nodup;rw[Qv];exact Gn b4 c.2.1
   ·show(apts (fx5 l++[gf e.2.2.1])).Nodup;rw[Qw];by_cases h5:(gf e.2.2.1).1.2.2=5
    ·rw[Ba h5,cond_true];exact Gn b5 (c.2.2.2.1 h5)
    ·rw[AU h5,cond_false,aD];exact b5
   ·rcases aL.1 hf with h1|h1
    ·exact b7 f h1
    ·rw[aI]at h1;subst h1;exact⟨c.2.2.1,c.2.2.2.2⟩
  ·have c:=hc.2.1 hk;rw[if_neg (show¬e.1=102 by omega),if_pos hk,if_neg (show¬e.1=112 by omega),if_pos hk,aD,aD,cK,aD];refine⟨b1,by rw[aC];exact c.1,b3,b4,b5,Gn b6 c.2.1,b7,λa ha=>?_,b9⟩
   rcases aL.1 ha with h1|h1
   ·exact b8 a h1
   ·rw[aI]at h1;subst h1;exact c.2.2
  ·have c:=hc.2.2 hk;rw[if_neg (show¬e.1=102 by omega),if_neg (show¬e.1=97 by omega),if_pos hk,if_neg (show¬e.1=97 by omega),if_pos hk,aD,aD,cK,aD];refine⟨b1,b2,by rw[aC];exact c.1,b4,b5,Gn b6 c.2.2.1,b7,b8,λp hp=>?_⟩
   rcases aL.1 hp with h1|h1
   ·exact b9 p h1
   ·rw[aI]at h1;subst h1;exact⟨c.2.1,c.2.2.2.1,c.2.2.2.2⟩
theorem TZ(L:List El_):((ais L).map kyA++(prs L).map kyP).Perm (nms L):=by
 induction L with
 |nil=>exact List.Perm.refl _
 |cons e L ih=>
  have e1:ais (e::L)=aiE e++ais L:=by unfold ais;rw[aR]
  have e2:prs (e::L)=prE e++prs L:=by unfold prs;rw[aR]
  have e3:nms (e::L)=nmE e++nms L:=by unfold nms;rw[aR]
  rw[e1,e2,e3];unfold aiE prE nmE;by_cases h1:e.1=97
  ·rw[if_pos h1,if_neg (show¬e.1=112 by omega),if_pos h1];exact(ih.cons _)
  ·rw[if_neg h1,if_neg h1];by_cases h2:e.1=112
   ·rw[if_pos h2,if_pos h2];exact List.perm_middle.trans (ih.cons _)
   ·rw[if_neg h2,if_neg h2];exact ih
theorem Alf{L:List El_}(hS:∀e∈L,SE n e)(hG:∀e∈L,GE e)(h:∀i(hi:i<L.length),CE o L (L.take i) L[i]){hh:Az}(h0:o63 hh=some 0)(ho:hh.2.2=o):VD hh (fxs L) (ais L) (prs L):=by
 obtain⟨b1,b2,b3,b4,b5,b6,b7,b8,b9⟩:=AfW hS h L.length (bI _);rw[aV]at b1 b2 b3 b4 b5 b6 b7 b8 b9;refine⟨h0,b1,b2,b3,b4,b5,(TZ L).nodup_iff.2 b6,λf hf=>⟨?_,by rw[ho];exact(b7 f hf).1,(b7 f hf).2⟩,λa ha=>⟨?_,b8 a ha⟩,b9⟩
 ·obtain⟨e,he,h2⟩:=bF.1 hf;unfold fxE at h2;by_cases hk:e.1=102
  ·rw[if_pos hk,aI]at h2;subst h2;exact(hG e he).1 hk
  ·rw[if_neg hk]at h2;cases h2
 ·obtain⟨e,he,h2⟩:=bF.1 ha;unfold aiE at h2;by_cases hk:e.1=97
  ·rw[if_pos hk,aI]at h2;subst h2;have:=(hG e he).2 hk;exact⟨this.1,this.2.2⟩
  ·rw[if_neg hk]at h2;cases h2
theorem VD.perm{F F':List Be}{A':List AQ}{P':List AA}(v:VD h F A P)(pF:F'.Perm F)(pA:A'.Perm A)(pP:P'.Perm P):VD h F' A' P':=by
 have q5:(F'.map gf).Perm (F.map gf):=pF.map _;have qr:(refs (F'.map gf)).Perm (refs (F.map gf)):=q5.map _;have qa:(apts (F'.map gf)).Perm (apts (F.map gf)):=(q5.filter _).map _;have qw:(rwys (F'.map gf)).Perm (rwys (F.map gf)):=(q5.filter _).map _;have hP:∀ap x,PaF (F.map gf) ap x->PaF (F'.map gf) ap x:=λap x hx=>⟨λh1=>qw.mem_iff.2 (hx.1 h1),λg hg=>⟨(hx.2 g hg).1.imp id qr.mem_iff.2,(hx.2 g hg).2.imp id qr.mem_iff.2⟩⟩
 refine⟨v.hd,by rw[pF.length_eq];exact v.lf,by rw[pA.length_eq];exact v.la,by rw[pP.length_eq];exact v.lp,qr.nodup_iff.2 v.nf,qa.nodup_iff.2 v.np,((pA.map kyA).append (pP.map kyP)).nodup_iff.2 v.nk,λf hf=>?_,λa ha=>?_,λp hp=>?_⟩
 ·have:=v.fx f (pF.mem_iff.1 hf);exact⟨this.1,this.2.1,λh=>qa.mem_iff.2 (this.2.2 h)⟩
 ·have:=v.ai a (pA.mem_iff.1 ha);exact⟨this.1,λp hp=>qr.mem_iff.2 (this.2 p hp)⟩
 ·have:=v.pr p (pP.mem_iff.1 hp);exact⟨this.1,qa.mem_iff.2 this.2.1,λx hx=>hP _ _ (this.2.2 x hx)⟩
theorem GS{k:α->Bt}(hk:∀x y,c x y=0->k x=k y){l:List α}(h:Asc c l)(n:(l.map k).Nodup):SAsc c l:=by unfold Asc at h;unfold SAsc;rw[bB]at h⊢;intro i j hi hj hij;have h1:=h i j hi hj hij;have h2:=bB.1 (List.nodup_iff_pairwise_ne.1 n) i j (by simpa using hi) (by simpa using hj) hij;rw[bW,bW]at h2;have:c l[i] l[j]≠0:=λe=>h2 (hk _ _ e);omega
theorem AfX(p q:AA)(h:cP p q=0):kyP p=kyP q:=by
 unfold cP lx at h;by_cases h1:aT p.1 q.1=0
 ·rw[if_neg (by omega)]at h;by_cases h2:cI p.2.2.1 q.2.2.1=0
  ·rw[if_neg (by omega)]at h;have e1:=Gf _ _ h1;have e3:=Gf _ _ h;have e2:p.2.2.1=q.2.2.1:=by
    unfold cI at h2;split at h2
    ·cases h2
    ·split at h2
     ·cases h2
     ·omega
   unfold kyP;rw[e1,e2,e3]
  ·rw[if_pos h2]at h;exact absurd h h2
 ·rw[if_pos h1]at h;exact absurd h h1
theorem VD.strict{F:List Be}(v:VD h F A P)(sF:Asc cF F)(sA:Asc cA A)(sP:Asc cP P):SAsc cF F/\SAsc cA A/\SAsc cP P:=by have nk:=bS.1 v.nk;refine⟨GS (k:=λf=>rf (gf f)) (λx y e=>Gf _ _ e) sF (by have:=v.nf;unfold refs at this;rw[List.map_map]at this;exact this),GS (k:=kyA) (λx y e=>by unfold kyA;rw[Gf _ _ e]) sA nk.1,GS (k:=kyP) AfX sP nk.2.1⟩
def TA(a:AQ):Nat:=1+a.2.length
def TP(p:AA):Nat:=1+p.2.2.2.length+(p.2.2.2.map λx=>x.2.2.length).sum
theorem Aau(L:List El_):(fxs L).length+((ais L).map TA).sum+((prs L).map TP).sum<=(L.map TE).sum:=by
 induction L with
 |nil=>simp[fxs,ais,prs]
 |cons e L ih=>
  have e0:fxs (e::L)=fxE e++fxs L:=by unfold fxs;rw[aR]
  have e1:ais (e::L)=aiE e++ais L:=by unfold ais;rw[aR]
  have e2:prs (e::L)=prE e++prs L:=by unfold prs;rw[aR]
  rw[e0,e1,e2,aZ,aZ,List.sum_append,List.sum_append,aC,List.map_cons,List.sum_cons];have:(fxE e).length+((aiE e).map TA).sum+((prE e).map TP).sum<=TE e:=by
   unfold fxE aiE prE TE;by_cases h0:e.1=102
   ·rw[if_pos h0,if_neg (show¬e.1=97 by omega),if_neg (show¬e.1=112 by omega)];simp;omega
   ·rw[if_neg h0];by_cases h1:e.1=97
    ·rw[if_pos h1,if_neg (show¬e.1=112 by omega)];simp[TA];omega
    ·rw[if_neg h1];by_cases h2:e.1=112
     ·rw[if_pos h2];simp[TP]
     ·rw[if_neg h2];simp
  omega
abbrev Alg:=(PJ×List Ae)×List Ah×List Ak
def MB(h:Az)(F:List Be)(A:List AQ)(P:List AA):Alg:=(((h.1,(h.2.1,h.2.2.1),h.2.2.2,[]),F),A,P)
def Alh(d:List Dg):Alg:=((((([]:Bt),(0:Int),(0:Int)),((0:Int),(0:Int)),(0:Int),d),[]),[],[])
structure VS(h:Az)(F:List Be)(A:List AQ)(P:List AA):Prop where
 vd:VD h F A P
 sf:SAsc cF F
 sa:SAsc cA A
 sp:SAsc cP P
 ln:F.length+(A.map TA).sum+(P.map TP).sum<=1500
theorem Ua{l:List α}(h:l≠[]):l.take ((minI ((l.length:Nat):Int) 50).toNat-0)≠[]:=by have hp:=bD.2 h;intro e;have:=congrArg cE e;rw[bJ]at this;unfold minI at this;simp only[aN]at this;split at this<;>omega
def Sm(h:Az)(F:List Be)(A:List AQ)(P:List AA):Prop:=P47 h.1.1/\(∀f∈F,P47 f.1/\P47 f.2.1)/\(∀a∈A,P47 a.1/\∀p∈a.2,P47 p.1)/\∀p∈P,inQ (qp p)
theorem Ali(hn:n<=1900)(hS:∀e∈all,SE n e):(∀f∈fxs all,P47 f.1/\P47 f.2.1)/\(∀a∈ais all,P47 a.1/\∀p∈a.2,P47 p.1)/\∀p∈prs all,inQ (qp p):=by
 refine⟨λf hf=>?_,λa ha=>?_,λp hp=>?_⟩
 ·obtain⟨e,he,h2⟩:=bF.1 hf;unfold fxE at h2;split at h2
  ·rw[aI]at h2;subst h2;have:=(hS e he).2.2.1;unfold P47;exact⟨by omega,by omega⟩
  ·cases h2
 ·obtain⟨e,he,h2⟩:=bF.1 ha;unfold aiE at h2;split at h2
  ·rw[aI]at h2;subst h2;have:=(hS e he).2.2.2.1;unfold P47;exact⟨by have:=this.1;omega,λp hp=>by have:=this.2.2 p hp;omega⟩
  ·cases h2
 ·obtain⟨e,he,h2⟩:=bF.1 hp;unfold prE at h2;split at h2
  ·rw[aI]at h2;subst h2;exact Aal hn (hS e he)
  ·cases h2
theorem Alj(s:Bt)(hs:s.length<=3000):Tot (λr=>(∃d,d≠[]/\r=Alh d)\/∃h F A P,r=MB h F A P/\VS h F A P/\Sm h F A P) (o23 s):=by
 unfold o23;refine tB (AkT s hs) λv1 h1=>?_;refine tC (λhb=>tS (.inl ⟨v1.2,λe=>?_,rfl⟩)) λ_=>?_
 ·have hb:=dT hb;rw[e]at hb;simp at hb
 refine tC (λ_=>tS (.inl ⟨[(1,1,9)],by simp,rfl⟩)) λhn=>?_;have hn:=eF hn;have hne:v1.1≠[]:=λe=>by rw[e]at hn;exact hn rfl
 refine tB (AdJ (c0:=(((v1.1,([]:Bt)),(0:Int),(0:Int),(0:Int)),((0:Int),(0:Int)),false,false,false)) (by show v1.1.length<=_;omega) h1.2) λv2 h2=>?_;obtain⟨c,bad,all⟩:=v2;obtain⟨⟨j1,j2⟩,j3,j4,j5,j6⟩:=h2;dsimp only at j1 j2 j3 j4 j5 j6⊢;refine tC (λhb=>?_) λhb=>?_
 ·have hb:=dT hb;have hbe:bad≠[]:=λe=>by rw[e]at hb;simp at hb
  refine tG (dt ?_) (tS (.inl ⟨_,Ua hbe,rfl⟩));unfold minI;split<;>omega
 ·have hb:=dF hb;have hbe:bad=[]:=bL (by omega);subst hbe;obtain⟨hG,hT⟩:=j6 rfl;rw[List.drop_length]at hT;have hrun:run ([]:List Ln)=0:=rfl;refine tB (Aam (n:=v1.1.length) (by omega) (c:=(c.1,(c.2.1.1,c.2.1.2,all),c.2.2)) (by rw[show(c.1,(c.2.1.1,c.2.1.2,all),c.2.2).1.1.1=v1.1 from j1];exact hne) (by rw[show(c.1,(c.2.1.1,c.2.1.2,all),c.2.2).1.1.1=v1.1 from j1];exact h1.2) j2 (L:=all) rfl (by omega) j5 hG) ?_;rintro⟨c3,bad3⟩ ⟨rfl,hi⟩;refine tC (λhb=>?_) λhb=>?_
  ·have hb:=dT hb;have hbe:bad3≠[]:=λe=>by rw[e]at hb;simp at hb
   refine tG (dt ?_) (tS (.inl ⟨_,Ua hbe,rfl⟩));show 0<=minI ((bad3.length:Nat):Int) 50/\minI ((bad3.length:Nat):Int) 50<=((bad3.length:Nat):Int);unfold minI;split<;>omega
  ·have hb:=dF hb;have hbe:bad3=[]:=bL (by have hb:¬((bad3.length:Nat):Int)>0:=hb;omega);obtain⟨k0,kC⟩:=hi.1 hbe;have V:=Alf j5 hG kC k0 rfl;dsimp only;refine tL (λt=>∃i:Nat,t=(((all,((all.length:Nat):Int)),(i:Int),[]),(hd3 (c.1,(c.2.1.1,c.2.1.2,all),c.2.2),fxs (all.take i)),ais (all.take i),prs (all.take i))/\i<=all.length) (λt=>all.length-t.1.2.1.toNat) ?_ ⟨0,rfl,by omega⟩ (by simp only;omega);rintro _ ⟨i,rfl,hi2⟩;dsimp only;refine tC (λhlt=>?_) λhlt=>tDn ?_
   ·have hlt:=dT hlt;have hi3:i<all.length:=by omega
    have g1:(fxs (all.take i)).length<=(all.take i).length:=BL fxE Lz _;have g2:(ais (all.take i)).length<=(all.take i).length:=BL aiE Sd _;have g3:(prs (all.take i)).length<=(all.take i).length:=BL prE Se _;rw[bJ]at g1 g2 g3;have hk:=(j5 _ (aG hi3)).2.1;have ht:all.take (i+1)=all.take i++[all[i]]:=aO hi3;refine tB (P:=λv=>v=(((all,((all.length:Nat):Int)),(i:Int),[]),(hd3 (c.1,(c.2.1.1,c.2.1.2,all),c.2.2),fxs (all.take (i+1))),ais (all.take (i+1)),prs (all.take (i+1)))) ?_ ?_
    ·refine tG dt ?_;rw[bdI,aH,Ad hi3,ht,Eb,Gl,Gm];unfold fxE aiE prE;refine tC (λh=>?_) λh=>tC (λh2=>?_) λh2=>?_
     ·have h:=eT h;refine tG (dt (by simp only[aE,aN];omega)) (tS ?_);rw[if_pos h,if_neg (show¬all[i].1=97 by omega),if_neg (show¬all[i].1=112 by omega),aD,aD]
     ·have h:=eF h;have h2:=eT h2;refine tG (dt (by simp only[aE,aN];omega)) (tS ?_);rw[if_neg h,if_pos h2,if_neg (show¬all[i].1=112 by omega),aD,aD]
     ·have h:=eF h;have h2:=eF h2;refine tG (dt (by simp only[aE,aN];omega)) (tS ?_);rw[if_neg h,if_neg h2,if_pos (show all[i].1=112 by omega),aD,aD]
    ·rintro _ rfl;dsimp only;rw[Ac];exact tGo ⟨⟨i+1,by rw[show(i:Int)+1=((i+1:Nat):Int) by omega],by omega⟩,by simp only;omega⟩
   ·have hlt:=dF hlt;rw[bU (by omega)];obtain⟨F,oF,pF,aF⟩:=Aar (l:=fxs all) (by have:=V.lf;omega) (λf hf=>by
     obtain⟨e,he,h2⟩:=bF.1 hf;unfold fxE at h2;split at h2
     ·rw[aI]at h2;subst h2;have:=(j5 e he).2.2.1;exact⟨by show e.2.2.1.1.length<=_;omega,by show e.2.2.1.2.1.length<=_;omega⟩
     ·cases h2)
    obtain⟨A,oA,pA,aA⟩:=Aas (l:=ais all) (by have:=V.la;omega);obtain⟨P,oP,pP,aP⟩:=Aat (l:=prs all) (by have:=V.lp;omega);refine tB (P:=λv=>v=F) ⟨_,oF,rfl⟩ ?_;rintro _ rfl;refine tB (P:=λv=>v=A) ⟨_,oA,rfl⟩ ?_;rintro _ rfl;refine tB (P:=λv=>v=P) ⟨_,oP,rfl⟩ ?_;rintro _ rfl;have V2:=V.perm pF pA pP;have st:=V2.strict aF aA aP;have sm:=Ali (n:=v1.1.length) (by omega) j5;refine tS (.inr ⟨hd3 (c.1,(c.2.1.1,c.2.1.2,all),c.2.2),_,_,_,rfl,⟨V2,st.1,st.2.1,st.2.2,?_⟩,by show c.1.1.2.length<=_;omega,λf hf=>sm.1 f (pF.mem_iff.1 hf),λa ha=>sm.2.1 a (pA.mem_iff.1 ha),λp hp=>sm.2.2 p (pP.mem_iff.1 hp)⟩);rw[pF.length_eq,(pA.map TA).sum_nat,(pP.map TP).sum_nat];have:=Aau all;omega
def dbx(h:Az)(F:List Be)(A:List AQ)(P:List AA):DB_:=(((h.1.1,h.1.2.1),h.1.2.2,h.2.1),(h.2.2.1,h.2.2.2),F,A,P)
theorem FixOk.fxT{f:Fx_}(h:FixOk f)(h1:P47 f.1.1)(h2:P47 f.1.2.1):(Nm f.1.1/\f.1.1.length<=6)/\(Nm f.1.2.1/\f.1.2.1.length<=6):=⟨CF (Afv _ _ h1) h.2.1 rfl,CF (Afw _ _ h2) h.2.2.1 rfl⟩
theorem Aav:o66 1=some 0:=rfl
theorem AdL{a b:Bt}(h:aT a b<0):aT b a=1:=by have:=KO a b;have:=Ft a b;omega
theorem Apy{q:AA}(h:cP p q<0):cP q p=1:=by
 have h1:=TY.anti p q;have:cP p q= -1\/cP p q=0\/cP p q=1:=by
  unfold cP lx;have a:=Ft p.1 q.1;have b:=Ft p.2.1 q.2.1;have c:cI p.2.2.1 q.2.2.1= -1\/cI p.2.2.1 q.2.2.1=0\/cI p.2.2.1 q.2.2.1=1:=by
   unfold cI;split
   ·exact .inl rfl
   ·split
    ·exact .inr (.inr rfl)
    ·exact .inr (.inl rfl)
  split
  ·exact a
  ·split
   ·exact c
   ·exact b
 omega
theorem Sg{l:List Be}(h:(apts (l.map gf)).Nodup)(hi:i<l.length)(h5:l[i].2.2.1=5):l[i].1∉apts ((l.take i).map gf):=by
 have e:l=(l.take i++[l[i]])++l.drop (i+1):=by
  rw[aM];show l=l.take i++(l[i]::l.drop (i+1))
  rw[<-List.drop_eq_getElem_cons hi,List.take_append_drop]
 have e2:apts (l.map gf)=(apts ((l.take i).map gf)++[l[i].1])++apts ((l.drop (i+1)).map gf):=by
  conv=>lhs;rw[e]
  unfold apts;rw[aZ,aZ,bQ,bQ,aZ,aZ];congr 2;have:((gf l[i]).1.2.2==5)=true:=Ba h5;simp[this];rfl
 rw[e2]at h;have h2:=(bS.1 (bS.1 h).1).2.2;intro hm;exact h2 _ hm _ (aI.2 rfl) rfl
theorem Alk{F:List Be}(v:VS h F A P)(hF:∀f∈F,P47 f.1/\P47 f.2.1)(hP:∀p∈P,inQ (qp p)):o26 (dbx h F A P)=some 0:=by
 obtain⟨V,sF,sA,sP,_⟩:=v;have lf:=V.lf;have la:=V.la;have lp:=V.lp;have hT:∀f∈F,fxT (gf f):=λf hf=>by have:=(V.fx f hf).1.fxT (hF f hf).1 (hF f hf).2;exact⟨by omega,by omega⟩
 refine BN ?_;unfold o26;refine tB (P:=λv=>v=0) ⟨_,V.hd,rfl⟩ ?_;rintro _ rfl;refine tC (λh=>absurd rfl (nT h)) λ_=>?_;refine tB (P:=λv=>v=(false,dbx h F A P)) ?_ ?_
 ·refine tC (λh=>absurd (show((F.length:Nat):Int)>400 from dT h) (by omega)) λ_=>tC (λh=>absurd (show((A.length:Nat):Int)>60 from dT h) (by omega)) λ_=>tS ?_;rw[df (show¬(((dbx h F A P).2.2.2.2.length:Nat):Int)>60 by show¬((P.length:Nat):Int)>60;omega)]
 rintro _ rfl;refine tC (λh=>by cases h) λ_=>?_;refine tB (P:=λv=>v=idx (F.map gf)) ⟨_,NI (l:=F) hT,rfl⟩ ?_;rintro _ rfl;refine tB (P:=λv=>v=idx []) ⟨_,NI (l:=[]) (λf hf=>by cases hf) (by simp),rfl⟩ ?_;rintro _ rfl;refine tL (λt=>∃i:Nat,t=((((F,((F.length:Nat):Int)),(i:Int),dbx h F A P,(idx (F.map gf)).1),(idx (F.map gf)).2,idx ((F.take i).map gf)):Lh)/\i<=F.length) (λt=>F.length-t.1.2.1.toNat) ?_ ⟨0,rfl,by omega⟩ (by show F.length-(0:Int).toNat<_;omega);rintro _ ⟨i,rfl,hi⟩;dsimp only;refine tC (λhlt=>?_) λhlt=>tDn ?_
 ·have hlt:=dT hlt;have hi2:i<F.length:=by omega
  have hm:=aG hi2;have hv:=V.fx _ hm;refine tG dt ?_;rw[bdI,aH,Ad hi2];obtain⟨z,hz,hzi⟩:=TS (gf F[i]) (hF _ hm).1 (hF _ hm).2;have z0:=hzi.2 hv.1;subst z0;refine tB (P:=λv=>v=0) ⟨_,hz,rfl⟩ ?_;rintro _ rfl;refine tC (λh=>absurd rfl (nT h)) λ_=>?_;refine tJ (P:=λv=>v=((((F,((F.length:Nat):Int)),(i:Int),dbx h F A P,gf F[i]),idx (F.map gf),idx ((F.take i).map gf)):Yp)) ?_ ?_
  ·refine tC (λhp=>?_) λ_=>tGo rfl;have hp:=dT hp;have hi1:i-1<F.length:=by omega
   refine tB (P:=λv=>v=rf (gf F[i])) ⟨_,GR (f:=gf F[i]) (hT _ hm),rfl⟩ ?_;rintro _ rfl;rw[Ac];refine tG (dt (by show(0:Int)<=(i:Int)-1/\(i:Int)-1<((F.length:Nat):Int);omega)) ?_;have e1:aJ (dbx h F A P).2.2.1 ((i:Int)-1).toNat AW=F[i-1]:=by rw[show((i:Int)-1).toNat=i-1 by omega];exact Ad hi1
   rw[bdI,e1];refine tB (P:=λv=>v=rf (gf F[i-1])) ⟨_,GR (f:=gf F[i-1]) (hT _ (aG hi1)),rfl⟩ ?_;rintro _ rfl;have hc:cF F[i-1] F[i]<0:=bB.1 sF (i-1) i hi1 hi2 (by omega);refine tB (P:=λv=>v=1) ⟨_,NJ _ _,AdL hc⟩ ?_;rintro _ rfl;refine tB (P:=λv=>v=0) ⟨_,Aav,rfl⟩ ?_;rintro _ rfl;exact tC (λh=>absurd rfl (nT h)) λ_=>tGo rfl
  ·rintro _ rfl;obtain⟨z,e68,i68⟩:=Aag (gf F[i]) h.2.2 ((F.take i).map gf) (F.map gf);have z0:=i68.2 ⟨hv.2.1,λh5=>Sg V.np hi2 h5,hv.2.2⟩;subst z0;refine tB (P:=λv=>v=((0,(idx ((F.take i).map gf)).1,(idx ((F.take i).map gf)).2.1),((idx ((F.take i).map gf)).2.2,(idx (F.map gf)).1),(idx (F.map gf)).2.1,(idx (F.map gf)).2.2)) ⟨_,e68,rfl⟩ ?_;rintro _ rfl;refine tC (λh=>absurd rfl (nT h)) λ_=>?_;refine tB (P:=λv=>v=idx ((F.take i).map gf++[gf F[i]])) ⟨_,Sc (hT _ hm) _,rfl⟩ ?_;rintro _ rfl;dsimp only;rw[Ac];refine tGo ⟨⟨i+1,?_,by omega⟩,by simp only;omega⟩;rw[aO hi2,aZ,show(i:Int)+1=((i+1:Nat):Int) by omega];rfl
 have hA:∀k,mpGet false (idx (F.map gf)).1 k=decide (k∈refs (F.map gf)):=λk=>Ca _ _;have hAp:∀k,mpGet false (idx (F.map gf)).2.1 k=decide (k∈apts (F.map gf)):=λk=>Ca _ _;refine tL (λt=>∃i:Nat,t=(((A,((A.length:Nat):Int),(i:Int)),(dbx h F A P,(idx (F.map gf)).1),(idx (F.map gf)).2):Li)/\i<=A.length) (λt=>A.length-t.1.2.2.toNat) ?_ ⟨0,rfl,by omega⟩ (by show A.length-(0:Int).toNat<_;omega);rintro _ ⟨i,rfl,hi⟩;dsimp only;refine tC (λhlt=>?_) λhlt=>tDn ?_
 ·have hlt:=dT hlt;have hi2:i<A.length:=by omega
  have hm:=aG hi2;have hv:=V.ai _ hm;refine tG dt ?_;rw[bdI,aH,Ad hi2];refine tB (P:=λv=>v=0) ⟨_,hv.1.1,rfl⟩ ?_;rintro _ rfl;refine tC (λh=>absurd rfl (nT h)) λ_=>?_;refine tJ (P:=λv=>v=(((A,((A.length:Nat):Int)),(i:Int),dbx h F A P),(A[i],(idx (F.map gf)).1),(idx (F.map gf)).2)) ?_ ?_
  ·refine tC (λhp=>?_) λ_=>tGo rfl;have hp:=dT hp;have hi1:i-1<A.length:=by omega
   rw[Ac];refine tG (dt (by show(0:Int)<=(i:Int)-1/\(i:Int)-1<((A.length:Nat):Int);omega)) ?_;have e1:aJ (dbx h F A P).2.2.2.1 ((i:Int)-1).toNat Bc=A[i-1]:=by rw[show((i:Int)-1).toNat=i-1 by omega];exact Ad hi1
   rw[e1];have hc:cA A[i-1] A[i]<0:=bB.1 sA (i-1) i hi1 hi2 (by omega);refine tB (P:=λv=>v=1) ⟨_,NJ _ _,AdL hc⟩ ?_;rintro _ rfl;refine tB (P:=λv=>v=0) ⟨_,Aav,rfl⟩ ?_;rintro _ rfl;exact tC (λh=>absurd rfl (nT h)) λ_=>tGo rfl
  ·rintro _ rfl;dsimp only;have h40:A[i].2.length<=1000000:=by
    have:=hv.1.1;unfold o70 at this;refine Classical.byContradiction λhn=>?_;obtain⟨b,hb⟩:∃b,o130 A[i].1 8=some b:=by
     cases e:o130 A[i].1 8 with
     |none=>rw[e]at this;cases this
     |some b=>exact⟨b,rfl⟩
    rw[bdS hb]at this;cases b with
    |false=>cases this
    |true=>
     rw[aK,Aj,cndF df,cndT dt]at this;cases this
   refine tL (λt=>∃k:Nat,t=(((A,((A.length:Nat):Int)),(i:Int),A[i].2,((A[i].2.length:Nat):Int)),((k:Int),dbx h F A P),(idx (F.map gf)).1,(idx (F.map gf)).2)/\k<=A[i].2.length) (λt=>A[i].2.length-t.2.1.1.toNat) ?_ ⟨0,rfl,by omega⟩ (by simp only;omega);rintro _ ⟨k,rfl,hk⟩;dsimp only;refine tC (λhlt=>?_) λhlt=>tDn ?_
   ·have hlt:=dT hlt;have hk2:k<A[i].2.length:=by omega
    refine tG dt ?_;rw[bdI,aH,Ad hk2,hA,dt (hv.2 _ (aG hk2))];refine tC (λh=>by cases h) λ_=>?_;rw[Ac];exact tGo ⟨⟨k+1,by rw[show(k:Int)+1=((k+1:Nat):Int) by omega],by omega⟩,by simp only;omega⟩
   ·rw[Ac];exact tS (show CP _ _ _ from⟨⟨i+1,by rw[show(i:Int)+1=((i+1:Nat):Int) by omega],by omega⟩,by simp only;omega⟩)
 refine tL (λt=>∃i:Nat,t=(((P,((P.length:Nat):Int),(i:Int)),(dbx h F A P,(idx (F.map gf)).1),(idx (F.map gf)).2):Lj)/\i<=P.length) (λt=>P.length-t.1.2.2.toNat) ?_ ⟨0,rfl,by omega⟩ (by show P.length-(0:Int).toNat<_;omega);rintro _ ⟨i,rfl,hi⟩;dsimp only;refine tC (λhlt=>?_) λhlt=>tDn (tS rfl);have hlt:=dT hlt;have hi2:i<P.length:=by omega
 have hm:=aG hi2;have hv:=V.pr _ hm;have hq:=hP _ hm;refine tG dt ?_;rw[bdI,aH,Ad hi2];refine tB (P:=λv=>v=0) ⟨_,hv.1,rfl⟩ ?_;rintro _ rfl;refine tC (λh=>absurd rfl (nT h)) λ_=>?_;refine tJ (P:=λv=>v=(((P,((P.length:Nat):Int)),(i:Int),dbx h F A P),(qp P[i],(idx (F.map gf)).1),(idx (F.map gf)).2)) ?_ ?_
 ·refine tC (λhp=>?_) λ_=>tGo rfl;have hp:=dT hp;have hi1:i-1<P.length:=by omega
  rw[Ac];refine tG (dt (by show(0:Int)<=(i:Int)-1/\(i:Int)-1<((P.length:Nat):Int);omega)) ?_;have e1:aJ (dbx h F A P).2.2.2.2 ((i:Int)-1).toNat Bd=P[i-1]:=by rw[show((i:Int)-1).toNat=i-1 by omega];exact Ad hi1
  rw[bdI,e1];have hc:cP P[i-1] P[i]<0:=bB.1 sP (i-1) i hi1 hi2 (by omega);refine tB (P:=λv=>v=1) ⟨_,Aaq _ _,Apy hc⟩ ?_;rintro _ rfl;refine tB (P:=λv=>v=0) ⟨_,Aav,rfl⟩ ?_;rintro _ rfl;exact tC (λh=>absurd rfl (nT h)) λ_=>tGo rfl
 rintro _ rfl;dsimp only;have hap:mpGet false (idx (F.map gf)).2.1 (qp P[i]).1.1=true:=by rw[hAp];exact dt hv.2.1
 rw[hap];refine tC (λh=>by cases h) λ_=>?_;have hql:=hq.2.1;have hqx:=hq.2.2;have hpa:=hv.2.2;have hp1:(qp P[i]).1.1.length<=50000:=by have:=CF (ZK (qp P[i]) hq) hv.1 rfl;omega
 have hp2:∀x∈P[i].2.2.2,x.2.1.length<=50000:=λx hx=>by have:=(CF (ZK (qp P[i]) hq) hv.1 rfl).2 x hx;have:=this.1;omega
 refine tL (λt=>∃k:Nat,t=(((P,((P.length:Nat):Int)),(i:Int),P[i].2.2.2,((P[i].2.2.2.length:Nat):Int)),((k:Int),dbx h F A P,qp P[i]),idx (F.map gf))/\k<=P[i].2.2.2.length) (λt=>P[i].2.2.2.length-t.2.1.1.toNat) ?_ ⟨0,rfl,by omega⟩ (by have h2:P[i].2.2.2.length<=2000:=hql;simp only;omega);rintro _ ⟨k,rfl,hk⟩;have h2:P[i].2.2.2.length<=2000:=hql;dsimp only;refine tC (λhlt=>?_) λhlt=>tDn ?_
 ·have hlt:=dT hlt;have hk2:k<P[i].2.2.2.length:=by omega
  refine tG dt ?_;rw[bdI,aH,Ad hk2];obtain⟨z,e72,i72⟩:=Aah (p:=qp P[i]) (x:=P[i].2.2.2[k]) hp1 (hp2 _ (aG hk2)) (F.map gf);have z0:=i72.2 (hpa _ (aG hk2)).1;subst z0;refine tB (P:=λv=>v=((0,(idx (F.map gf)).1),(idx (F.map gf)).2.1,(idx (F.map gf)).2.2)) ⟨_,e72,rfl⟩ ?_;rintro _ rfl;refine tC (λh=>absurd rfl (nT h)) λ_=>?_;rw[Ac];exact tGo ⟨⟨k+1,by rw[show(k:Int)+1=((k+1:Nat):Int) by omega],by omega⟩,by simp only;omega⟩
 refine tL (λt=>∃k:Nat,t=(((P,((P.length:Nat):Int)),(i:Int),P[i].2.2.2,((P[i].2.2.2.length:Nat):Int)),((k:Int),dbx h F A P),idx (F.map gf))/\k<=P[i].2.2.2.length) (λt=>P[i].2.2.2.length-t.2.1.1.toNat) ?_ ⟨0,rfl,by omega⟩ (by show P[i].2.2.2.length-(0:Int).toNat<_;omega);rintro _ ⟨k,rfl,hk⟩;dsimp only;refine tC (λhlt=>?_) λhlt=>tDn ?_
 ·have hlt:=dT hlt;have hk2:k<P[i].2.2.2.length:=by omega
  have hgl:P[i].2.2.2[k].2.2.length<=2000:=(hqx _ (aG hk2)).2.1;have hgx:=(hpa _ (aG hk2)).2;refine tG dt ?_;rw[bdI,aH,Ad hk2];refine tL (λt=>∃j:Nat,t=(((P,((P.length:Nat):Int),(i:Int)),P[i].2.2.2,((P[i].2.2.2.length:Nat):Int),(k:Int)),(P[i].2.2.2[k].2.2,((P[i].2.2.2[k].2.2.length:Nat):Int),(j:Int)),(dbx h F A P,(idx (F.map gf)).1),(idx (F.map gf)).2)/\j<=P[i].2.2.2[k].2.2.length) (λt=>P[i].2.2.2[k].2.2.length-t.2.1.2.2.toNat) ?_ ⟨0,rfl,by omega⟩ (by simp only;omega);rintro _ ⟨j,rfl,hj⟩;dsimp only;refine tC (λhlt=>?_) λhlt=>tDn ?_
  ·have hlt:=dT hlt;have hj2:j<P[i].2.2.2[k].2.2.length:=by omega
   refine tG dt ?_;rw[bdI,aH,Ad hj2];obtain⟨z,e73,i73⟩:=Aai ((((P[i].2.2.2[k].2.2[j].1,P[i].2.2.2[k].2.2[j].2.1,P[i].2.2.2[k].2.2[j].2.2.1),P[i].2.2.2[k].2.2[j].2.2.2.1,P[i].2.2.2[k].2.2[j].2.2.2.2.1,P[i].2.2.2[k].2.2[j].2.2.2.2.2.1),(P[i].2.2.2[k].2.2[j].2.2.2.2.2.2.1,P[i].2.2.2[k].2.2[j].2.2.2.2.2.2.2.1,P[i].2.2.2[k].2.2[j].2.2.2.2.2.2.2.2.1),P[i].2.2.2[k].2.2[j].2.2.2.2.2.2.2.2.2)) (F.map gf);have z0:=i73.2 (hgx _ (aG hj2));subst z0;refine tB (P:=λv=>v=((0,(idx (F.map gf)).1),(idx (F.map gf)).2.1,(idx (F.map gf)).2.2)) ⟨_,e73,rfl⟩ ?_;rintro _ rfl;refine tC (λh=>absurd rfl (nT h)) λ_=>?_;rw[Ac];exact tGo ⟨⟨j+1,by rw[show(j:Int)+1=((j+1:Nat):Int) by omega],by omega⟩,by simp only;omega⟩
  ·rw[Ac];exact tS (show CP _ _ _ from⟨⟨k+1,by rw[show(k:Int)+1=((k+1:Nat):Int) by omega],by omega⟩,by simp only;omega⟩)
 ·rw[Ac];exact tS (show CP _ _ _ from⟨⟨i+1,by rw[show(i:Int)+1=((i+1:Nat):Int) by omega],by omega⟩,by simp only;omega⟩)
def dL(n:Nat):UInt8:=bR (48+n%10)
theorem NK(n:Nat):(dL n).toNat=48+n%10:=Fq
theorem NL(n:Nat):isD (dL n):=by unfold isD;rw[NK];omega
theorem LA{k:Nat}(h:z=(k:Int))(hk:k<256:=by omega):u8 z=bR k:=by subst h;apply UInt8.toNat_inj.1;unfold u8;simp
def dgw:Nat->Nat->Bt
 |0,_=>[]
 |k+1,n=>dL (n/10^k)::dgw k n
theorem AJ:∀k n,(dgw k n).length=k
 |0,_=>rfl
 |k+1,n=>by show(dgw k n).length+1=_;rw[AJ]
theorem CG:∀k n,∀b∈dgw k n,isD b
 |0,_,b,hb=>by cases hb
 |k+1,n,b,hb=>by
  rcases bA.1 (show b∈dL (n/10^k)::dgw k n from hb)with h|h
  ·subst h;exact NL _
  ·exact CG k n b h
theorem Gp:∀k n,val (dgw k n)=n%10^k
 |0,n=>by show val []=n%1;rw[Br,Bz];omega
 |k+1,n=>by show val (dL (n/10^k)::dgw k n)=_;rw[Br,BA,Hu,AJ,Gp k n,NK,Nat.mod_pow_succ];rw[show 10*0+(48+n/10^k%10-48)=n/10^k%10 by omega];rw[Nat.mul_comm,cU]
theorem LB{A B:Bt}{x y:UInt8}(h:A.length=i):(A++x::B).set i y=A++y::B:=by subst h;rw[List.set_append_right _ _ (bI _),cL,List.set_cons_zero]
theorem LC(hn:n<=1000000000000):aQ .i64 (cB ((n:Nat):Int) 10)=((n/10:Nat):Int)/\u8 (aQ .u8 (aQ .i64 ((48:Int)+bN ((n:Nat):Int) 10)))=dL n:=by
 have e1:cB ((n:Nat):Int) 10=((n/10:Nat):Int):=by rw[aW (by omega)];omega
 have e2:bN ((n:Nat):Int) 10=((n%10:Nat):Int):=by rw[aX (by omega)];omega
 refine⟨by rw[e1,Ac],?_⟩
 rw[e2,Ac,bM];exact LA (by omega)
theorem FH(x:UInt8)(m:Nat):aY (m+1) x=aY m x++[x]:=by rw[List.replicate_succ']
theorem AcG(n:Nat)(hn:n<=1000000000000)(k:Nat)(hk:k<=100):o116 (n:Int) (k:Int)=some (dgw k n):=by
 unfold o116;rw[gdT dt,Ac,aH];refine AN (n:=k) (λj=>(((n/10^j:Nat):Int),(k:Int)-1-(j:Int),aY (k-j) (u8 0)++dgw j n)) (by simp[dgw]) (λj hj=>?_) ?_
 ·have hq:n/10^j<=1000000000000:=cM (cO _ _) hn;have hs:=LC hq;have el:(aY (k-j) (u8 0)++dgw j n).length=k:=by rw[aC,bC,AJ];omega
  have e3:aY (k-j) (u8 0)++dgw j n=aY (k-j-1) (u8 0)++u8 0::dgw j n:=by rw[show k-j=(k-j-1)+1 by omega,FH,aM];rfl
  dsimp only;rw[cndT dt,gdT dt,hs.1,hs.2,Ac,e3,LB (by rw[bC];omega)];rw[bV,<-cN];rw[show k-(j+1)=k-j-1 by omega,show(k:Int)-1-(j:Int)-1=(k:Int)-1-((j+1:Nat):Int) by omega];rfl
 ·dsimp only;rw[cndF df,cL];rfl
theorem Ub(n:Nat)(hn:n<=1000000000000)(k:Nat)(hk:k<=100)(b:Bt)(hb:b.length<=100000):o243 (n:Int) (k:Int) b=some (b++dgw k n):=by
 unfold o243;refine AN (n:=k) (λj=>(((n:Int),((b.length:Nat):Int)),(k:Int),(j:Int),b++aY j (u8 48))) (by simp) (λj hj=>?_) ?_
 ·dsimp only;rw[cndT dt,gdT (dt (by simp;omega)),Ac,FH,aM,show(j:Int)+1=((j+1:Nat):Int) by omega]
 ·dsimp only;rw[cndF df];refine dnE ?_;rw[aC,bC,Ac];refine AN (n:=k) (λj=>((((n/10^j:Nat):Int),((b.length:Nat):Int)),((b.length+k:Nat):Int)-1-(j:Int),(b++aY (k-j) (u8 48))++dgw j n)) (by simp[dgw]) (λj hj=>?_) ?_
  ·have hq:n/10^j<=1000000000000:=cM (cO _ _) hn;have hs:=LC hq;have el:((b++aY (k-j) (u8 48))++dgw j n).length=b.length+k:=by rw[aC,aC,bC,AJ];omega
   have e3:(b++aY (k-j) (u8 48))++dgw j n=(b++aY (k-j-1) (u8 48))++u8 48::dgw j n:=by rw[show k-j=(k-j-1)+1 by omega,FH];simp
   dsimp only;rw[cndT dt,gdT dt,hs.1,hs.2,Ac,e3,LB (by rw[aC,bC];omega)];rw[bV,<-cN];rw[show k-(j+1)=k-j-1 by omega,show((b.length+k:Nat):Int)-1-(j:Int)-1=((b.length+k:Nat):Int)-1-((j+1:Nat):Int) by omega];rfl
  ·dsimp only;rw[cndF df,cL];simp;rfl
theorem Vs(n:Nat)(hn:n<=1000000000000)(k:Nat)(hk:k<=100):Nt (n:Int) (k:Int)=some (dgw k n):=by
 unfold Nt;refine AN (n:=k) (λj=>(((n:Int),(k:Int)),(j:Int),aY j (u8 48))) (by simp) (λj hj=>?_) ?_
 ·dsimp only;rw[cndT dt,gdT (dt (by simp;omega)),Ac,FH,show(j:Int)+1=((j+1:Nat):Int) by omega]
 ·dsimp only;rw[cndF df];refine dnE ?_;rw[bC,Ac];refine AN (n:=k) (λj=>(((n/10^j:Nat):Int),(k:Int)-1-(j:Int),aY (k-j) (u8 48)++dgw j n)) (by simp[dgw]) (λj hj=>?_) ?_
  ·have hq:n/10^j<=1000000000000:=cM (cO _ _) hn;have hs:=LC hq;have el:(aY (k-j) (u8 48)++dgw j n).length=k:=by rw[aC,bC,AJ];omega
   have e3:aY (k-j) (u8 48)++dgw j n=aY (k-j-1) (u8 48)++u8 48::dgw j n:=by rw[show k-j=(k-j-1)+1 by omega,FH,aM];rfl
   dsimp only;rw[cndT dt,gdT dt,hs.1,hs.2,Ac,e3,LB (by rw[bC];omega)];rw[bV,<-cN];rw[show k-(j+1)=k-j-1 by omega,show(k:Int)-1-(j:Int)-1=(k:Int)-1-((j+1:Nat):Int) by omega];rfl
  ·dsimp only;rw[cndF df,cL];rfl
def spw(c a:Nat):Bt:=((dgw c (a/360000)++dgw 2 (a%360000/6000))++dgw 2 (a%6000/100))++dgw 2 (a%100)
theorem JG(c a:Nat):(spw c a).length=c+6:=by unfold spw;simp only[aC,AJ]
theorem NM(c a:Nat):∀b∈spw c a,isD b:=by
 intro b hb;unfold spw at hb;rcases aL.1 hb with h|h
 ·rcases aL.1 h with h|h
  ·rcases aL.1 h with h|h
   ·exact CG _ _ b h
   ·exact CG _ _ b h
  ·exact CG _ _ b h
 ·exact CG _ _ b h
theorem Aaw{a:Nat}(ha:a<=1000000000):aQ .i64 (cB ((a:Nat):Int) 360000)=((a/360000:Nat):Int)/\aQ .i64 (cB (bN ((a:Nat):Int) 360000) 6000)=((a%360000/6000:Nat):Int)/\aQ .i64 (cB (bN ((a:Nat):Int) 6000) 100)=((a%6000/100:Nat):Int)/\bN ((a:Nat):Int) 100=((a%100:Nat):Int):=by
 have e1:bN ((a:Nat):Int) 360000=((a%360000:Nat):Int):=by rw[aX (by omega)];omega
 have e2:bN ((a:Nat):Int) 6000=((a%6000:Nat):Int):=by rw[aX (by omega)];omega
 have e3:bN ((a:Nat):Int) 100=((a%100:Nat):Int):=by rw[aX (by omega)];omega
 rw[e1,e2,e3];refine⟨?_,?_,?_,rfl⟩
 ·rw[aW (by omega),Ac];omega
 ·rw[aW (by omega),Ac];omega
 ·rw[aW (by omega),Ac];omega
theorem IR(n:Nat)(hn:n<=1000000000000)(b:Bt)(hb:b.length<=100000):o243 (n:Int) 2 b=some (b++dgw 2 n):=Ub n hn 2 (by omega) b hb
theorem Uc{a:Nat}(ha:a<=1000000000)(c:Nat)(hc:c<=10)(b:Bt)(hb:b.length<=1000:=by simp):o185 (a:Int) (c:Int) b=some (b++spw c a):=by obtain⟨e1,e2,e3,e4⟩:=Aaw ha;unfold o185;rw[e1,e2,e3,e4];rw[bdS (Ub _ (by omega) c (by omega) b (by omega))];rw[bdS (IR _ (by omega) _ (by rw[aC,AJ];omega))];rw[bdS (IR _ (by omega) _ (by rw[aC,aC,AJ,AJ];omega))];rw[bdS (IR _ (by omega) _ (by rw[aC,aC,aC,AJ,AJ,AJ];omega))];unfold spw;simp only[aM]
theorem Vt{a:Nat}(ha:a<=1000000000)(c:Nat)(hc:c<=10):Nu (a:Int) (c:Int)=some (spw c a):=by obtain⟨e1,e2,e3,e4⟩:=Aaw ha;unfold Nu;rw[e1,e2,e3,e4];rw[bdS (Vs _ (by omega) c (by omega))];rw[bdS (IR _ (by omega) _ (by rw[AJ];omega))];rw[bdS (IR _ (by omega) _ (by rw[aC,AJ,AJ];omega))];rw[bdS (IR _ (by omega) _ (by rw[aC,aC,AJ,AJ,AJ];omega))];rfl
theorem Ud{a c:Nat}(hc:c<=8)(ha:a/360000<10^c)(ha2:a<=1000000000):o296 (spw c a) (c:Int)=some ((a:Int),true):=by
 have hl:=JG c a;have hd:=NM c a;unfold o296;rw[Ac (x:=(c:Int)+6),cndF AL,bdS (HP hd (by omega))];dsimp only;rw[aK,Aj,Ac (x:=(c:Int)+2),Ac (x:=(c:Int)+4)];rw[gdT dt,aH,show((c:Int)+2).toNat=c+2 by omega,show((c:Int)+4).toNat=c+4 by omega];have t1:(spw c a).take c=dgw c (a/360000):=by unfold spw;rw[aM,aM];have:=AJ c (a/360000);rw[List.take_append_of_le_length (by omega),bU (by omega)]
 have d1:(spw c a).drop c=dgw 2 (a%360000/6000)++(dgw 2 (a%6000/100)++dgw 2 (a%100)):=by unfold spw;rw[aM,aM];exact bO (AJ c _)
 have t2:((spw c a).drop c).take (c+2-c)=dgw 2 (a%360000/6000):=by rw[d1,show c+2-c=(dgw 2 (a%360000/6000)).length by rw[AJ];omega];exact List.take_left ..
 have d2:(spw c a).drop (c+2)=dgw 2 (a%6000/100)++dgw 2 (a%100):=by rw[<-List.drop_drop,d1];exact bO (AJ 2 _)
 have t3:((spw c a).drop (c+2)).take (c+4-(c+2))=dgw 2 (a%6000/100):=by rw[d2,show c+4-(c+2)=(dgw 2 (a%6000/100)).length by rw[AJ];omega];exact List.take_left ..
 have d3:(spw c a).drop (c+4)=dgw 2 (a%100):=by rw[show c+4=c+2+2 by omega,<-List.drop_drop,d2];exact bO (AJ 2 _)
 rw[t1,t2,t3,d3];rw[bdS (HP (CG c _) (by rw[AJ];omega)),gdT dt,bdS (HP (CG 2 _) (by rw[AJ];omega)),gdT dt,bdS (HP (CG 2 _) (by rw[AJ];omega)),gdT dt,bdS (HP (CG 2 _) (by rw[AJ];omega))];rw[Gp,Gp,Gp,Gp,Nat.mod_eq_of_lt ha];have p2:(10:Nat)^2=100:=by decide
 rw[p2];dsimp only;have k1:a%360000/6000%100=a%360000/6000:=by omega
 have k2:a%6000/100%100=a%6000/100:=by omega
 have k3:a%100%100=a%100:=by omega
 rw[k1,k2,k3,cndF df,bdI];dsimp only;rw[cndF df];rw[Ac (x:=((a/360000:Nat):Int)*360000),Ac (x:=((a%360000/6000:Nat):Int)*6000),Ac (x:=((a%6000/100:Nat):Int)*100)];rw[Ac (x:=((a/360000:Nat):Int)*360000+((a%360000/6000:Nat):Int)*6000)];rw[Ac (x:=((a/360000:Nat):Int)*360000+((a%360000/6000:Nat):Int)*6000+((a%6000/100:Nat):Int)*100)];rw[Ac];congr 2;omega
def lW(p q c:Nat)(z:Int):Bt:=bR (if z<0 then q else p)::spw c z.natAbs
theorem GT(p q c:Nat)(z:Int):(lW p q c z).length=c+7:=by unfold lW;rw[aE,JG]
theorem LD{b:UInt8}(h:isD b):33<=b.toNat/\b.toNat<=126/\b.toNat≠35:=by unfold isD at h;omega
theorem AdM{p q c:Nat}(z:Int)(hp:65<=p/\p<=90:=by omega)(hq:65<=q/\q<=90:=by omega):Wd (lW p q c z):=by
 refine⟨by unfold lW;simp,λb hb=>?_⟩
 unfold lW at hb;rcases bA.1 hb with h|h
 ·subst h;by_cases hz:z<0
  ·rw[if_pos hz,Fq];omega
  ·rw[if_neg hz,Fq];omega
 ·exact LD (NM _ _ b h)
theorem Ue(hz: -1000000000<=z/\z<=1000000000:=by omega){p q c:Nat}(hp:p<256:=by omega)(hq:q<256:=by omega)(hc:c<=10:=by omega):o179 z (p:Int) (q:Int) (c:Int)=some (lW p q c z):=by
 unfold o179;by_cases h:z<0
 ·rw[cndT (dt h),Ac,LA rfl hq];have e:(0:Int)-z=((z.natAbs:Nat):Int):=by omega
  rw[e,bdS (Uc (by omega) c hc _)];unfold lW;rw[if_pos h];rfl
 ·rw[cndF (df h),LA rfl hp];have e:z=((z.natAbs:Nat):Int):=by omega
  conv=>lhs;rw[e]
  rw[bdS (Uc (by omega) c hc _)];unfold lW;rw[if_neg h];rfl
theorem Uf{p q c:Nat}(hp:p<256)(hq:q<256)(hpq:p≠q:=by omega)(hc:c<=8:=by omega)(hz:z.natAbs/360000<10^c:=by omega)(hz2:z.natAbs<=1000000000:=by omega):o290 (lW p q c z) (p:Int) (q:Int) (c:Int)=some (z,true):=by
 have hl:=GT p q c z;have h0:(((lW p q c z).getD (0:Int).toNat 0).toNat)=if z<0 then q else p:=by show(bR (if z<0 then q else p)).toNat=_;exact Fq (by split<;>omega)
 have hd:(lW p q c z).drop (1:Int).toNat=spw c z.natAbs:=rfl;unfold o290;rw[Ac,cndF AL,gdT dt,gdT dt,h0];have e1:(cnd ((((if z<0 then q else p:Nat):Nat):Int)!=(p:Int)) (some ((lW p q c z,(q:Int)),(c:Int),((((if z<0 then q else p:Nat):Nat):Int)!=(q:Int)))) (some ((lW p q c z,(q:Int)),(c:Int),false)))=some ((lW p q c z,(q:Int)),(c:Int),false):=by
  by_cases h:z<0
  ·rw[if_pos h,cndT EU,AL]
  ·rw[if_neg h,cndF AL]
 rw[e1,bdI];dsimp only;rw[Aj,gdT dt,hd,bdS (Ud hc hz hz2)];dsimp only;rw[aK,Aj,gdT dt,h0];by_cases h:z<0
 ·rw[if_pos h,cndT Ba,bdI];dsimp only;rw[cndF AU,gdT dt,h0,if_pos h,cndT Ba,Ac];congr 2;omega
 ·rw[if_neg h,cndF AU,bdI];dsimp only;rw[Aj,gdT dt,h0,if_neg h,cndF AU];congr 2;omega
def posW(a b:Int):Bt:=lW 78 83 2 a++lW 69 87 3 b
theorem HR(a b:Int):(posW a b).length=19:=by unfold posW;rw[aC,GT,GT]
theorem IU{a b:Bt}(ha:Wd a)(hb:Wd b):Wd (a++b):=by
 refine⟨by have:=ha.1;simp[this],λx hx=>?_⟩
 rcases aL.1 hx with h|h
 ·exact ha.2 x h
 ·exact hb.2 x h
theorem Ug(a b:Int):Wd (posW a b):=IU (AdM a) (AdM b)
theorem Aax{a b:Int}(h:posR a b):o56 (a,b)=some (posW a b,0):=by
 unfold posR at h;unfold o56;have e1:o117 a=some (lW 78 83 2 a,0):=by unfold o117;have:=BN (tW (RX a) λr hr=>(bK.2 ⟨λ_=>rfl,λ_=>hr.2 h.1⟩:r=true));rw[bdS this,aK,Aj];exact bdS (Ue (p:=78) (q:=83) (c:=2))
 have e2:o118 b=some (lW 69 87 3 b,0):=by unfold o118;have:=BN (tW (RY b) λr hr=>(bK.2 ⟨λ_=>rfl,λ_=>hr.2 h.2⟩:r=true));rw[bdS this,aK,Aj];exact bdS (Ue (p:=69) (q:=87) (c:=3))
 rw[bdS e1,bdS e2];dsimp only;rw[cndF (AL rfl),bdI];dsimp only;rw[cndF (AL rfl),gdT (dt (by rw[GT,GT];omega))];rfl
theorem AcH{a b:Int}(h:posR a b):o213 (posW a b)=some (a,b,0):=by
 unfold posR at h;have hl:=HR a b;have e1:o254 (lW 78 83 2 a)=some (a,0):=by unfold o254;have:=BN (tW (RX a) λr hr=>(bK.2 ⟨λ_=>rfl,λ_=>hr.2 h.1⟩:r=true));rw[show o290 (lW 78 83 2 a) 78 83 2=some (a,true)from Uf (p:=78) (q:=83) (c:=2) (by omega) (by omega),bdI];dsimp only;rw[aK,Aj,bdS this,aK,Aj]
 have e2:o255 (lW 69 87 3 b)=some (b,0):=by unfold o255;have:=BN (tW (RY b) λr hr=>(bK.2 ⟨λ_=>rfl,λ_=>hr.2 h.2⟩:r=true));rw[show o290 (lW 69 87 3 b) 69 87 3=some (b,true)from Uf (p:=69) (q:=87) (c:=3) (by omega) (by omega),bdI];dsimp only;rw[aK,Aj,bdS this,aK,Aj]
 have t1:(posW a b).take (9:Int).toNat=lW 78 83 2 a:=List.take_left' (GT ..);have d1:(posW a b).drop (9:Int).toNat=lW 69 87 3 b:=bO (GT ..);unfold o213;rw[cndF AL,gdT dt,t1,d1,bdS e1];dsimp only;rw[cndF (AL rfl),gdT dt,bdS e2];rfl
def crsW(a:Int):Bt:=spw 3 a.natAbs
def crsR(a:Int):Prop:=0<=a/\a<129600000
theorem HS(a:Int):(crsW a).length=9:=JG 3 _
theorem Aay(c a:Nat):Wd (spw c a):=by
 refine⟨λh=>?_,λb hb=>LD (NM _ _ b hb)⟩
 have:=JG c a;rw[h]at this;exact absurd this (by show¬(0=c+6);omega)
theorem Uh{a:Int}(h:crsR a):o127 a=some (crsW a):=by
 unfold crsR at h;unfold o127;have e:o186 a=some a:=by unfold o186;rw[Int.tmod_eq_of_lt h.1 h.2,cndF df]
 rw[bdS e];have e2:a=((a.natAbs:Nat):Int):=by omega
 conv=>lhs;rw[e2]
 exact bdS (Vt (by omega) 3 (by omega))
theorem Ui{a:Int}(h:crsR a):o229 (crsW a)=some (a,true):=by
 unfold crsR at h;have hl:=HS a;unfold o229 o263;rw[cndF AL];have e2:((a.natAbs:Nat):Int)=a:=by omega
 rw[show o296 (crsW a) 3=some (((a.natAbs:Nat):Int),true)from Ud (c:=3) (by omega) (by omega) (by omega),e2,bdI];dsimp only;rw[aK,Aj,cndF df];rfl
def cycW(c:Int):Bt:=dgw 4 c.natAbs
theorem MC{n:Int}{v:Int×Int×Int}(hv:o115 n=some v)(h0:v.2.2=0):0<=n/\n<=9999:=by
 by_cases h:0<=n/\n<=9999
 ·exact h
 ·exfalso;have:o115 n=some (0,0,2):=by
   unfold o115;by_cases h1:n<0
   ·rw[cndT (dt h1),bdI];dsimp only;rw[Av]
   ·rw[cndF (df h1),dt (show n>9999 by omega),bdI];dsimp only;rw[Av]
  rw[this]at hv;cases hv;exact absurd h0 (by decide)
theorem AcI(c:Int):Wd (cycW c):=by
 refine⟨λh=>?_,λb hb=>LD (CG _ _ b hb)⟩
 have:=AJ 4 c.natAbs;rw[show dgw 4 c.natAbs=[]from h]at this;exact absurd this (by decide)
theorem Aaz{n f:Int}(h:o115 n=some (f,t,0)):o55 n=some (cycW n,0)/\o157 (cycW n)=some (n,0):=by
 have hr:=MC h rfl;have e2:((n.natAbs:Nat):Int)=n:=by omega
 constructor
 ·unfold o55;rw[bdS h];dsimp only;rw[cndF (AL rfl),show o116 n 4=some (dgw 4 n.natAbs) by rw[<-e2];exact AcG n.natAbs (by omega) 4 (by omega),bdI];rfl
 ·unfold o157;have hl:(cycW n).length=4:=AJ 4 _;rw[bdS (ZM (s:=cycW n) (CG 4 _) (by omega))];rw[show val (cycW n)=n.natAbs%10^4 from Gp 4 _];dsimp only;rw[show n.natAbs%10^4=n.natAbs by have:(10:Nat)^4=10000:=(by decide);omega,e2,cndF AL,bdI];dsimp only;rw[aK,Aj,bdS h];dsimp only;rw[cndF (AL rfl)]
theorem All{a:Az}(hs:P47 a.1.1)(h:o63 a=some 0):o130 a.1.1 8=some true:=by
 unfold o63 at h;obtain⟨r1,e1,k1⟩:=Ek a.1.1 8 hs;rw[bdS e1]at h;cases r1 with
 |false=>rw[bH,Av]at h;exact absurd h (by decide)
 |true=>exact e1
theorem MD{a:Az}(hs:P47 a.1.1)(h:o63 a=some 0):(Nm a.1.1/\a.1.1.length<=8)/\o115 a.1.2.1=some (a.1.2.2,a.2.1,0)/\∃v,o131 a.2.2 a.2.2=some v/\v.2.2=0:=by
 unfold o63 at h;obtain⟨r1,e1,k1⟩:=Ek a.1.1 8 hs;rw[bdS e1]at h;cases r1 with
 |false=>rw[bH,Av]at h;exact absurd h (by decide)
 |true=>
  rw[aK,Aj]at h;obtain⟨r2,e2,k2⟩:=Lu a.1.2.1;rw[bdS e2]at h;by_cases h2:r2.2.2=0
  ·rw[cndF (AL h2)]at h;by_cases h3:a.1.2.2=r2.1
   ·rw[cndF (AL h3),bdI]at h;dsimp only at h;by_cases h4:a.2.1=r2.2.1
    ·rw[cndF (AL h4)]at h;obtain⟨r5,e5,k5⟩:=RT a.2.2 a.2.2;rw[bdS e5]at h;have:=k1 rfl;refine⟨⟨this.1,by omega⟩,?_,r5,e5,Option.some.inj h⟩
     rw[e2,h3,h4,<-h2]
    ·rw[cndT (EU h4)]at h;exact absurd h (by decide)
   ·rw[cndT (EU h3),bdI]at h;dsimp only at h;rw[Av]at h;exact absurd h (by decide)
  ·rw[cndT (EU h2)]at h;exact absurd (Option.some.inj h) h2
def plW(n:Nat):Bt:=digF 20 n
theorem Qx:(10:Nat)^20=100000000000000000000:=by decide
theorem Cg(n:Nat):∀b∈plW n,isD b:=OW 20 n
theorem FI(n:Nat):plW n≠[]:=AbU 19 n
theorem JH(h:n<=1000000000:=by omega):val (plW n)=n:=KM 20 n (by rw[Qx];omega)
theorem ER(k:Nat)(h:n<10^(k+1):=by omega):(plW n).length<=k+1:=OX 20 n k h
theorem NN(n:Nat):Wd (plW n):=⟨FI n,λb hb=>LD (Cg n b hb)⟩
theorem Ec(h:n<10:=by omega):plW n=[bR (48+n)]:=OY 19 n h
theorem AaA(h:n<=1000000000)(h2:1<(plW n).length):∃b l,plW n=b::l/\b.toNat≠48:=by
 by_cases h0:n<10
 ·rw[Ec h0]at h2;exact absurd h2 (by simp)
 ·exact IE 19 n (by rw[show 19+1=20 from rfl,Qx];omega) (by omega)
theorem HU:o181 (n:Int) 10=some (plW n):=by rw[Gk];unfold itoaF;rw[df,cond_false,aH];rfl
theorem AcJ(h0:s≠[])(hd:∀b∈s,isD b)(hh:1<s.length->∃b l,s=b::l/\b.toNat≠48)(hl:s.length<=1000):o258 s=some true:=by
 unfold o258;have hp:0<s.length:=bD.2 h0;rw[cndF AU];have e:(cnd (decide (((s.length:Nat):Int)>1)) (gd (decide ((0:Int)<=(0:Int)/\(0:Int)<((s.length:Nat):Int))) (some (s,((((aJ s (0:Int).toNat 0).toNat:Nat):Int)==(48:Int))))) (some (s,false)))=some (s,false):=by
  by_cases h1:1<s.length
  ·rw[cndT dt,gdT dt];obtain⟨b,l,rfl,hb⟩:=hh h1;show some (b::l,((b.toNat:Nat):Int)==48)=_;rw[AU]
  ·rw[cndF df]
 rw[e,bdI];dsimp only;rw[Aj];refine AN (n:=s.length) (λi=>(s,((s.length:Nat):Int),(i:Int))) rfl (λi hi=>?_) ?_
 ·have hd:=hd _ (aG hi);have hd1:=hd.1;have hd2:=hd.2;dsimp only;rw[cndT dt,gdT dt,aH,Ad hi,cndF df,gdT dt,df (show¬((s[i].toNat:Nat):Int)>57 by omega),bdI];dsimp only;rw[cndF rfl,Ac];congr 3
 ·dsimp only;rw[cndF df];rfl
theorem JI(h:n<=1000000000):(plW n).length<=10:=by
 have p:(10:Nat)^(9+1)=10000000000:=by decide
 exact ER 9
theorem HV(h:n<=1000000000:=by omega):o258 (plW n)=some true:=
 AcJ (FI n) (Cg n) (AaA h) (by have:=JI h;omega)
theorem HW(h:n<=1000000000:=by omega):o259 (plW n) 10 64=some ((n:Nat):Int):=by rw[Js (Cg n) (FI n) (by have:=JI h;omega),JH h]
def altF(a:Nat):Bt:=if a%100=0 then[]else 46::plW (a%100/10)++plW (a%10)
def altU(a:Nat):Bt:=plW (a/100)++altF a
def altW(z:Int):Bt:=(if z<0 then[45]else[])++altU z.natAbs
def altR(z:Int):Prop:=-200000<=z/\z<=6000000
theorem JJ{a:Nat}(h:a%100≠0):altF a=[46,dL (a%100/10),dL a]:=by unfold altF dL;rw[if_neg h,Ec,Ec,show a%100/10%10=a%100/10 by omega];rfl
theorem Qy(a:Nat):∀b∈altU a,isD b\/b.toNat=46:=by
 intro b hb;unfold altU at hb;rcases aL.1 hb with h|h
 ·exact Or.inl (Cg _ b h)
 ·by_cases h0:a%100=0
  ·unfold altF at h;rw[if_pos h0]at h;cases h
  ·rw[JJ h0]at h;simp only[bA,List.not_mem_nil,or_false]at h;rcases h with h|h|h
   ·right;subst h;rfl
   ·left;subst h;exact NL _
   ·left;subst h;exact NL _
theorem LE(z:Int):∀b∈altW z,isD b\/b.toNat=46\/b.toNat=45:=by
 intro b hb;unfold altW at hb;rcases aL.1 hb with h|h
 ·by_cases hz:z<0
  ·rw[if_pos hz]at h;simp at h;right;right;subst h;rfl
  ·rw[if_neg hz]at h;cases h
 ·rcases Qy _ b h with h|h
  ·exact Or.inl h
  ·exact Or.inr (Or.inl h)
theorem AcK(a:Nat):altU a≠[]:=by unfold altU;have:=FI (a/100);simp[this]
theorem HX(z:Int):altW z≠[]:=by unfold altW;have:=AcK z.natAbs;simp[this]
theorem Gq(z:Int):Wd (altW z):=⟨HX z,λb hb=>by rcases LE z b hb with h|h|h;exact LD h;omega;omega⟩
theorem Qz{a:Nat}(h:a<=6000000):(altU a).length<=8:=by
 unfold altU;have:=ER (n:=a/100) 4 (by have:(10:Nat)^(4+1)=100000:=(by decide);omega);rw[aC];by_cases h0:a%100=0
 ·unfold altF;rw[if_pos h0];simp;omega
 ·rw[JJ h0];simp;omega
theorem CH(h:altR z):(altW z).length<=9:=by
 unfold altR at h;unfold altW;have:=Qz (a:=z.natAbs) (by omega);rw[aC];by_cases hz:z<0
 ·rw[if_pos hz];simp;omega
 ·rw[if_neg hz];simp;omega
theorem Vu(a:Nat):∃l b,altU a=l++[b]/\isD b:=by
 unfold altU;by_cases h0:a%100=0
 ·unfold altF;rw[if_pos h0,aD];have h:=FI (a/100);refine⟨_,_,(cC h).symm,Cg _ _ (List.getLast_mem h)⟩
 ·rw[JJ h0];exact⟨plW (a/100)++[46,dL (a%100/10)],dL a,by simp,NL _⟩
theorem ME(z:Int):∃l b,altW z=l++[b]/\isD b:=by obtain⟨l,b,e,hb⟩:=Vu z.natAbs;exact⟨(if z<0 then[45]else[])++l,b,by unfold altW;rw[e,aM],hb⟩
theorem NO(h:altR z):o121 z=some (altW z,0):=by
 unfold altR at h;unfold o121;have e1:(cnd (decide (z<(-200000:Int))) (some (z,true)) (some (z,(decide (z>(6000000:Int))))))=some (z,false):=by rw[cndF df,df]
 rw[e1,bdI];dsimp only;rw[Aj];have e2:(cnd (decide (z<(0:Int))) (some ((aQ .i64 ((0:Int)-z)),([45]:Bt))) (some (z,([]:Bt))))=some (((z.natAbs:Nat):Int),if z<0 then[45]else[]):=by
  by_cases hz:z<0
  ·rw[cndT (dt hz),if_pos hz,Ac];congr 2;omega
  ·rw[cndF (df hz),if_neg hz];congr 2;omega
 rw[e2,bdI];dsimp only;generalize hs:(if z<0 then[45]else[]:Bt)=sg;have hsl:sg.length<=1:=by subst hs;split<;>simp
 have hW:altW z=sg++altU z.natAbs:=by unfold altW;rw[hs]
 rw[hW];have ha:z.natAbs<=6000000:=by omega
 generalize z.natAbs=a at ha⊢;have e3:cB ((a:Nat):Int) 100=((a/100:Nat):Int):=by rw[aW (by omega)];omega
 have e4:bN ((a:Nat):Int) 100=((a%100:Nat):Int):=by rw[aX (by omega)];omega
 have e5:cB ((a%100:Nat):Int) 10=((a%100/10:Nat):Int):=by rw[aW (by omega)];omega
 have e6:bN ((a%100:Nat):Int) 10=((a%10:Nat):Int):=by rw[aX (by omega)];omega
 have h1:=ER (n:=a/100) 4 (by have:(10:Nat)^(4+1)=100000:=(by decide);omega);rw[e3,e4,e5,e6,Ac,Ac,bdS HU,gdT dt];unfold altU;by_cases h0:a%100=0
 ·rw[cndF AL];unfold altF;rw[if_pos h0,aD]
 ·rw[cndT EU,bdS HU];rw[Ec (n:=a%100/10),gdT (dt (by simp)),bdS HU,Ec (n:=a%10)];rw[gdT (dt (by simp)),gdT (dt (by simp;omega))];unfold altF;rw[if_neg h0,Ec (n:=a%100/10),Ec (n:=a%10)];simp
theorem Uj{c:UInt8}(h:∀b l,s=b::l->b≠c)(hl:s.length<=100000:=by omega):o291 s [c]=some (s,false):=by
 unfold o291 o310 o295;cases s with
 |nil=>rfl
 |cons b l=>
  have hb:=h b l rfl;have hl2:(b::l).length=l.length+1:=rfl;rw[cndT (dt (by rw[hl2];simp;omega)),gdT (dt (by rw[hl2];simp;omega)),bdI];have:(cG (((([c]:Bt).length:Nat):Int)).toNat (b::l)==[c])=false:=by show([b]==[c])=false;simpa using hb
  rw[this,bdI,bH,Av];rfl
theorem AcL{c:UInt8}(hl:s.length<=100000):o291 (c::s) [c]=some (s,true):=by
 unfold o291 o310 o295;have hl2:(c::s).length=s.length+1:=rfl;rw[cndT (dt (by rw[hl2];simp;omega)),gdT (dt (by rw[hl2];simp;omega)),bdI];have:(cG (((([c]:Bt).length:Nat):Int)).toNat (c::s)==[c])=true:=by show([c]==[c])=true;simp
 rw[this,bdI,aK,Aj,gdT (dt (by rw[hl2];simp;omega))];rfl
theorem GU{b c:UInt8}(h:isD b)(hc:c.toNat<48:=by decide):b≠c:=λe=>by rw[e]at h;unfold isD at h;omega
theorem NP(h:altR z):o256 (altW z)=some (z,true):=by
 unfold altR at h;unfold o256;have ha:z.natAbs<=6000000:=by omega
 have hU:=Qz ha;have e1:o291 (altW z) [45]=some (altU z.natAbs,decide (z<0)):=by
  unfold altW;by_cases hz:z<0
  ·rw[if_pos hz,dt hz];exact AcL (s:=altU z.natAbs) (by omega)
  ·rw[if_neg hz,df hz];show o291 (altU z.natAbs) [45]=_;refine Uj (λb l e=>?_);rcases Qy _ b (by rw[e];exact aU)with h|h
   ·exact GU h
   ·intro e;rw[e]at h;exact absurd h (by decide)
 rw[bdS e1];dsimp only;have hn:(46:UInt8)∉plW (z.natAbs/100):=λhm=>GU (Cg _ _ hm) (by decide) rfl;have k1:((z.natAbs/100:Nat):Int)*100+((z.natAbs%100:Nat):Int)=((z.natAbs:Nat):Int):=by omega
 have h10:=ER (n:=z.natAbs/100) 4 (by have p:(10:Nat)^(4+1)=100000:=(by decide);omega);have fin:∀(v:Bool×Int×Int),v=(decide (z<0),((z.natAbs%100:Nat):Int),((z.natAbs/100:Nat):Int))->(cnd v.1 (some ((aQ .i64 ((0:Int)-(aQ .i64 ((aQ .i64 (v.2.2*(100:Int)))+v.2.1)))),((aQ .i64 ((aQ .i64 (v.2.2*(100:Int)))+v.2.1))!=(0:Int)))) (some ((aQ .i64 ((aQ .i64 (v.2.2*(100:Int)))+v.2.1)),true)))=some (z,true):=by
  intro v e;subst e;dsimp only;rw[Ac (x:=((z.natAbs/100:Nat):Int)*100),k1,Ac (x:=((z.natAbs:Nat):Int))];by_cases hz:z<0
  ·rw[cndT (dt hz),Ac,EU];congr 2;omega
  ·rw[cndF (df hz)];congr 2;omega
 by_cases h0:z.natAbs%100=0
 ·have eU:altU z.natAbs=plW (z.natAbs/100):=by unfold altU altF;rw[if_pos h0,aD]
  rw[eU,bdS (DA hn)];dsimp only;rw[bdS HV,aK,Aj,Aj];rw[AY];dsimp only;rw[cndT dt,bdS HW,bdI];exact fin _ (by rw[h0];rfl)
 ·have eU:altU z.natAbs=plW (z.natAbs/100)++46::[dL (z.natAbs%100/10),dL z.natAbs]:=by unfold altU;rw[JJ h0]
  rw[eU,bdS (Jy hn (by rw[<-eU];omega))];dsimp only;have n1:=NK (z.natAbs%100/10);have n2:=NK z.natAbs;rw[bdS HV,aK,Aj,Av];have g0:(aJ [dL (z.natAbs%100/10),dL z.natAbs] (0:Int).toNat 0)=dL (z.natAbs%100/10):=rfl;have g1:(aJ [dL (z.natAbs%100/10),dL z.natAbs] (1:Int).toNat 0)=dL z.natAbs:=rfl;have gl:(([dL (z.natAbs%100/10),dL z.natAbs]:Bt).length:Nat)=2:=rfl;have ne:(([dL (z.natAbs%100/10),dL z.natAbs]:Bt)==[48,48])=false:=by refine beq_eq_false_iff_ne.2 λe=>?_;have e1:=congrArg (λl=>(aJ l 0 0).toNat) e;have e2:=congrArg (λl=>(aJ l 1 0).toNat) e;have e1:(dL (z.natAbs%100/10)).toNat=48:=e1;have e2:(dL z.natAbs).toNat=48:=e2;omega
  rw[gl,g0,g1,n1,n2,ne];rw[cndF AL,gdT,cndF df,gdT,cndF df,gdT,cndF df,gdT,cndF df,bdI];dsimp only;rw[Aj,gl,g0,g1,gdT,gdT,n1,n2];have w1:aQ .u8 (((48+z.natAbs%100/10%10:Nat):Int)-48)=((z.natAbs%100/10:Nat):Int):=by rw[bM];omega
  have w2:aQ .u8 (((48+z.natAbs%10:Nat):Int)-48)=((z.natAbs%10:Nat):Int):=by rw[bM];omega
  rw[w1,w2,Ac (x:=((z.natAbs%100/10:Nat):Int)),Ac (x:=((z.natAbs%10:Nat):Int)),Ac (x:=((z.natAbs%100/10:Nat):Int)*10),Ac (x:=((z.natAbs%100/10:Nat):Int)*10+((z.natAbs%10:Nat):Int)),AY];dsimp only;rw[cndT dt,bdS HW,bdI];refine fin _ ?_;congr 2;omega
theorem cutSf(l:Bt)(b c:UInt8)(hl:l.length<=100000:=by omega):o317 (l++[b]) [c]=some (if b=c then(l,true)else(l++[b],false)):=by
 unfold o317 o327 o331;have h2:(l++[b]).length=l.length+1:=by simp
 have h1:(([c]:Bt).length:Nat)=1:=rfl;rw[h1,h2,Ac,cndT dt,gdT dt,bdI];have e1:(((l.length+1:Nat):Int)-((1:Nat):Int)).toNat=l.length:=by omega
 rw[e1,bO rfl];by_cases h:b=c
 ·subst h;rw[if_pos rfl,show([b]==[b])=true by simp,bdI,aK,Aj,gdT dt,List.take_left' rfl];rfl
 ·rw[if_neg h,show([b]==[c])=false by simpa using h,bdI,bH,Av];rfl
def winW(w:Int×Int):Bt:=
 if w.1= -200000/\w.2=6000000 then[45]else if w.1=w.2 then altW w.1 else if w.2=6000000 then altW w.1++[43]else if w.1= -200000 then altW w.2++[45]else(altW w.1++[58])++altW w.2
theorem winR.l{a b:Int}(h:winR a b):altR a/\altR b:=by unfold winR at h;unfold altR;omega
theorem Uk(w:Int×Int):Wd (winW w):=by
 have w1:∀b:UInt8,33<=b.toNat/\b.toNat<=126/\b.toNat≠35->Wd [b]:=λb h=>⟨by simp,λx hx=>by rw[aI]at hx;subst hx;exact h⟩
 unfold winW;split
 ·exact w1 45 (by decide)
 split
 ·exact Gq _
 split
 ·exact IU (Gq _) (w1 43 (by decide))
 split
 ·exact IU (Gq _) (w1 45 (by decide))
 ·exact IU (IU (Gq _) (w1 58 (by decide))) (Gq _)
theorem LF{w:Int×Int}(h:winR w.1 w.2):(winW w).length<=19:=by
 have h1:=CH h.l.1;have h2:=CH h.l.2;unfold winW;split
 ·simp
 split
 ·omega
 split
 ·simp;omega
 split
 ·simp;omega
 ·simp;omega
theorem NQ{w:Int×Int}(h:winR w.1 w.2):o124 w=some (winW w,0):=by
 have h1:=CH h.l.1;have h2:=CH h.l.2;have a1:=NO h.l.1;have a2:=NO h.l.2;unfold winR at h;unfold o124;have e1:(cnd (decide (w.1<(-200000:Int))) (some (true,w)) (cnd (decide (w.1>w.2)) (some (true,w)) (some ((decide (w.2>(6000000:Int))),w))))=some (false,w):=by rw[cndF df,cndF df,df]
 rw[e1,bdI];dsimp only;rw[Aj,bdS a1,bdS a2];dsimp only;have e2:(cnd (w.1==(-200000:Int)) (some ((altW w.1,altW w.2),(w.2==(6000000:Int)),w)) (some ((altW w.1,altW w.2),false,w)))=some ((altW w.1,altW w.2),decide (w.1= -200000/\w.2=6000000),w):=by
  by_cases g:w.1= -200000
  ·by_cases g2:w.2=6000000
   ·rw[cndT (Ba g),Ba g2,dt ⟨g,g2⟩]
   ·rw[cndT (Ba g),AU g2,df (λh=>g2 h.2)]
  ·rw[cndF (AU g),df (λh=>g h.1)]
 rw[e2,bdI];dsimp only;unfold winW;by_cases g1:w.1= -200000/\w.2=6000000
 ·rw[if_pos g1,dt g1,Av]
 rw[if_neg g1,df g1,Aj];by_cases g2:w.1=w.2
 ·rw[if_pos g2,cndT (Ba g2)]
 rw[if_neg g2,cndF (AU g2)];by_cases g3:w.2=6000000
 ·rw[if_pos g3,cndT (Ba g3),gdT (dt (by simp;omega))]
 rw[if_neg g3,cndF (AU g3)];by_cases g4:w.1= -200000
 ·rw[if_pos g4,cndT (Ba g4),gdT (dt (by simp;omega))]
 rw[if_neg g4,cndF (AU g4),gdT (dt (by simp;omega)),gdT (dt (by simp;omega))]
theorem HY(z:Int):(58:UInt8)∉altW z:=λhm=>by
 rcases LE z _ hm with h|h|h
 ·unfold isD at h;exact absurd h (by decide)
 ·exact absurd h (by decide)
 ·exact absurd h (by decide)
theorem AaB(z:Int):altW z≠[45]:=λe=>by obtain⟨l,b,e2,hb⟩:=ME z;rw[e2]at e;have:=(cJ e rfl:l=[]/\[b]=[45]).2;simp at this;subst this;unfold isD at hb;exact absurd hb (by decide)
theorem AcM{w:Int×Int}(h:winR w.1 w.2):o297 (winW w)=some (w.1,w.2,true):=by
 have h1:=CH h.l.1;have h2:=CH h.l.2;have a1:=NP h.l.1;have a2:=NP h.l.2;unfold winR at h;unfold winW o297;by_cases g1:w.1= -200000/\w.2=6000000
 ·rw[if_pos g1,cndT,g1.1,g1.2]
 rw[if_neg g1];by_cases g2:w.1=w.2
 ·rw[if_pos g2,cndF (by simpa using AaB w.1),bdS (DA (HY _))];dsimp only;obtain⟨l,b,e,hb⟩:=ME w.1;have c1:b≠43:=GU hb;have c2:b≠45:=GU hb;have hl:l.length<=100000:=by rw[e]at h1;simp at h1;omega
  rw[Aj,e,cutSf l b 43 hl,if_neg c1,bdI];dsimp only;rw[Aj,cutSf l b 45 hl,if_neg c2,bdI];dsimp only;rw[Aj,<-e,bdS a1,g2]
 rw[if_neg g2];by_cases g3:w.2=6000000
 ·rw[if_pos g3];have n1:(58:UInt8)∉altW w.1++[43]:=λhm=>by
   rcases aL.1 hm with hm|hm
   ·exact HY _ hm
   ·exact absurd hm (by decide)
  have n2:(altW w.1++[43]==[45])=false:=by refine beq_eq_false_iff_ne.2 λe=>?_;have:=(cJ e rfl:altW w.1=[]/\_).1;exact HX _ this
  rw[cndF n2,bdS (DA n1)];dsimp only;rw[Aj,cutSf _ 43 43,if_pos rfl,bdI];dsimp only;rw[Av,bdS a1,g3]
 rw[if_neg g3];by_cases g4:w.1= -200000
 ·rw[if_pos g4];have n1:(58:UInt8)∉altW w.2++[45]:=λhm=>by
   rcases aL.1 hm with hm|hm
   ·exact HY _ hm
   ·exact absurd hm (by decide)
  have n2:(altW w.2++[45]==[45])=false:=by refine beq_eq_false_iff_ne.2 λe=>?_;have:=(cJ e rfl:altW w.2=[]/\_).1;exact HX _ this
  rw[cndF n2,bdS (DA n1)];dsimp only;rw[Aj,cutSf _ 45 43,if_neg (by decide),bdI];dsimp only;rw[Aj,cutSf _ 45 45,if_pos rfl,bdI];dsimp only;rw[Av,bdS a2,g4]
 rw[if_neg g4];have n2:((altW w.1++[58])++altW w.2==[45])=false:=by refine beq_eq_false_iff_ne.2 λe=>?_;have:=congrArg cE e;have p1:=bD.2 (HX w.1);have p2:=bD.2 (HX w.2);simp at this;omega
 rw[cndF n2];rw[aM,show altW w.1++([58]++altW w.2)=altW w.1++58::altW w.2 from rfl];rw[bdS (Jy (HY w.1) (by simp;omega))];dsimp only;rw[Av,bdS a1,bdS a2];dsimp only;rw[Av,bdI]
theorem Ul{w:Int×Int}(h:winR w.1 w.2):o267 (winW w)=some (w.1,w.2,0):=by have a1:=BN (tW (IM w.1) λr hr=>(bK.2 ⟨λ_=>rfl,λ_=>hr.2 h.l.1⟩:r=true));have a2:=BN (tW (IM w.2) λr hr=>(bK.2 ⟨λ_=>rfl,λ_=>hr.2 h.l.2⟩:r=true));have e:=NQ h;unfold o267;rw[bdS (AcM h)];dsimp only;rw[aK,Aj,bdS a1,aK,Aj,bdS a2,aK,bdI];dsimp only;unfold winR at h;rw[Aj,cndF df,show((w.1,w.2):Int×Int)=w from rfl,bdS e];dsimp only;rw[show(winW w==winW w)=true by simp,aK,Aj]
def dstR(d:Int):Prop:=0<=d/\d<=8000000
def dstU(d:Nat):Bt:=plW (d/6000)++(if d%6000=0 then[]else 43::plW (d%6000))
def dstW(d:Int):Bt:=dstU d.toNat
theorem JK(d:Int):Wd (dstW d):=by
 unfold dstW dstU;split
 ·rw[aD];exact NN _
 ·refine IU (NN _) ⟨by simp,λb hb=>?_⟩;rcases bA.1 hb with h|h
  ·subst h;decide
  ·exact(NN _).2 b h
theorem AaC{d:Nat}(h:d<=8000000:=by omega):(plW (d/6000)).length<=4/\(plW (d%6000)).length<=4:=by
 have p:(10:Nat)^(3+1)=10000:=by decide
 exact⟨ER 3,ER 3⟩
theorem Dq(h:dstR d):(dstW d).length<=9:=by
 unfold dstR at h;unfold dstW dstU;have:=AaC (d:=d.toNat);split
 ·simp;omega
 ·simp;omega
theorem NR(h:dstR d):o123 d=some (dstW d,0):=by
 unfold dstR at h;unfold o123;have e1:(cnd (decide (d<(0:Int))) (some (d,true)) (some (d,(decide (d>(8000000:Int))))))=some (d,false):=by rw[cndF df,df]
 rw[e1,bdI];dsimp only;rw[Aj];have e0:d=((d.toNat:Nat):Int):=by omega
 unfold dstW;generalize d.toNat=a at e0⊢;subst e0;have hl:=AaC (d:=a);have e3:cB ((a:Nat):Int) 6000=((a/6000:Nat):Int):=by rw[aW (by omega)];omega
 have e4:bN ((a:Nat):Int) 6000=((a%6000:Nat):Int):=by rw[aX (by omega)];omega
 rw[e3,e4,Ac,bdS HU];unfold dstU;by_cases h0:a%6000=0
 ·rw[cndF AL,if_pos h0,aD]
 ·rw[cndT EU,bdS HU,gdT (dt (by simp;omega)),gdT (dt (by simp;omega)),if_neg h0];rfl
theorem Um(h:dstR d):o216 (dstW d)=some (d,0):=by
 unfold dstR at h;have e0:d=((d.toNat:Nat):Int):=by omega
 unfold dstW;generalize d.toNat=a at e0⊢;subst e0;have hl:=AaC (d:=a);have hn:(43:UInt8)∉plW (a/6000):=λhm=>GU (Cg _ _ hm) (by decide) rfl;unfold dstU o216;by_cases h0:a%6000=0
 ·rw[if_pos h0,aD,bdS (DA hn)];dsimp only;rw[bdS HV,aK,Aj,Aj,bdI];dsimp only;rw[Aj,Aj,AY];dsimp only;rw[cndF df,bdS HW,Ac (x:=((a/6000:Nat):Int)*6000),Ac,cndF df];congr 2;omega
 ·rw[if_neg h0,bdS (Jy hn (by simp;omega))];dsimp only;have ne:(plW (a%6000)==[48])=false:=by refine beq_eq_false_iff_ne.2 λe=>?_;have v:=JH (n:=a%6000);rw[e]at v;exact h0 (by rw[<-v];rfl)
  rw[bdS HV,aK,Aj,Av,bdS HV,aK,Aj,cndF ne,df,bdI];dsimp only;rw[Aj,Av,bdS HW,cndF df,AY];dsimp only;rw[cndF df,bdS HW,Ac (x:=((a/6000:Nat):Int)*6000),Ac,cndF df];congr 2;omega
theorem NS(h:dstR d)(c:UInt8):o128 [c] d=some (c::dstW d):=by have hl:=Dq h;unfold o128;rw[bdS (NR h),gdT (dt (by simp;omega))];rfl
theorem NT(h:dstR d)(h0:d≠0)(c:UInt8):o231 ((c.toNat:Nat):Int) (c::dstW d)=some (d,true):=by have hl:=Dq h;have hl2:(c::dstW d).length=(dstW d).length+1:=rfl;unfold o231;have g:(aJ (c::dstW d) (0:Int).toNat 0)=c:=rfl;have dr:cS (1:Int).toNat (c::dstW d)=dstW d:=rfl;rw[cndF (by rfl),gdT dt,g,AL rfl,bdI];dsimp only;rw[Aj,gdT dt,dr,bdS (Um h)];dsimp only;rw[cndF (AL rfl),AU h0,bdI];dsimp only;rw[Aj,bdS (NR h),gdT dt,dr];simp
theorem AfY(f n:Nat)(h:¬n<10):digF (f+1) n=digF f (n/10)++[bR (48+n%10)]:=by
 show cond (Nat.blt n 10) _ _=_;have:Nat.blt n 10=false:=by
  cases e:Nat.blt n 10 with
  |true=>exact absurd (by simpa using e) h
  |false=>rfl
 rw[this,cond_false]
theorem AcN(h:n<=1000000000):o129 (n:Int)=some (plW n):=by
 refine BN ?_;unfold o129;refine tL (λt=>∃f m:Nat,t.1=(m:Int)/\m<10^(f+1)/\f<=19/\digF (f+1) m++t.2=plW n) (λt=>t.1.toNat) ?_ ⟨19,n,rfl,by rw[show 19+1=20 from rfl,Qx];omega,by omega,aD _⟩ (by simp only;omega);rintro⟨v,acc⟩ ⟨f,m,hv,hm,hf,he⟩;dsimp only at hv he⊢;subst hv;have hl:acc.length<=10:=by have:=congrArg cE he;have:=JI h;simp at*;omega
 refine tC (λh1=>?_) λh1=>?_
 ·have h1:=dT h1;have e3:cB ((m:Nat):Int) 10=((m/10:Nat):Int):=by rw[aW (by omega)];omega
  have e4:bN ((m:Nat):Int) 10=((m%10:Nat):Int):=by rw[aX (by omega)];omega
  have hm2:m<=100000000000000000000:=by have:10^(f+1)<=10^20:=cQ (by decide) (by omega);rw[Qx]at this;omega
  cases f with
  |zero=>exact absurd hm (by simp;omega)
  |succ f=>
   have hq:m/10<10^(f+1):=by have:10^(f+1+1)=10^(f+1)*10:=cN ..;omega
   have hq2:m<=1000000000:=by
    have v:=congrArg cE he;have l1:=JI h;have l2:=congrArg val he;rw[JH h]at l2;have l3:val (digF (f+1+1) m++acc)=valF (val (digF (f+1+1) m)) acc:=by rw[Br,Hv];rfl
    rw[l3,Hu,KM _ _ hm]at l2;have:m*1<=m*10^acc.length:=cD m (Nat.one_le_pow _ _ (by decide));omega
   rw[e3,e4,Ac (x:=48+((m%10:Nat):Int)),Ac (x:=((m/10:Nat):Int))];have w32:aQ .i32 (48+((m%10:Nat):Int))=((48+m%10:Nat):Int):=by rw[cV];omega
   rw[w32];refine tG dt (tG (dt (by simp;omega)) (tGo ⟨⟨f,m/10,rfl,hq,by omega,?_⟩,by simp only;omega⟩));rw[AfY _ _ (by omega),aM]at he;rw[LA rfl];exact he
 ·have h1:=dF h1;have w32:aQ .i32 (aQ .i64 (48+(m:Int)))=((48+m:Nat):Int):=by rw[Ac,cV];omega
  rw[w32];refine tDn (tG dt (tG (dt (by simp;omega)) (tS ?_)));rw[OY _ _ (by omega)]at he;rw[LA rfl];exact he
theorem bdV{x:Option α}{k:α->Option β}{r:β}(h:bd x k=some r):∃v,x=some v/\k v=some r:=by
 cases x with
 |none=>cases h
 |some v=>exact⟨v,rfl,h⟩
theorem cnV{c:Bool}{x y:α}{r:α}(h:cnd c x y=r):(c=true/\x=r)\/(c=false/\y=r):=by
 cases c with
 |true=>exact Or.inl ⟨rfl,h⟩
 |false=>exact Or.inr ⟨rfl,h⟩
theorem gdV{c:Bool}{x:Option α}{r:α}(h:gd c x=some r):c=true/\x=some r:=by
 cases c with
 |true=>exact⟨rfl,h⟩
 |false=>cases h
theorem jdV{x:Option (Ctl α β)}{k:α->Option β}{r:β}(h:jd x k=some r):(∃t,x=some (.go t)/\k t=some r)\/x=some (.done r):=by
 cases x with
 |none=>cases h
 |some v=>
  cases v with
  |go t=>exact Or.inl ⟨t,rfl,h⟩
  |done r2=>right;cases h;rfl
theorem smV{x y:α}(h:some x=some y):x=y:=Option.some.inj h
theorem dnV{a b:β}(h:dnO (α:=α) (some a)=some (.done b)):a=b:=by have h:(some (Ctl.done a):Option (Ctl α β))=some (Ctl.done b):=h;injection h with h;injection h
def RfP(s:Bt):Prop:=∃v,o193 s=some v/\v.2.2=0
def lbt(t:Int)(k:Int):Bool:=(landK .u16 (aJ gl0 t.toNat (0:Int)) k)!=(0:Int)
structure LegOk(a:Ai):Prop where
 ty:1<=a.1.1.1/\a.1.1.1<=17
 fx:lbt a.1.1.1 1=true->RfP a.1.1.2.1
 fx0:lbt a.1.1.1 1=false->a.1.1.2.1=[]
 nv:lbt a.1.1.1 2=true->RfP a.1.1.2.2
 nv0:lbt a.1.1.1 2=false->a.1.1.2.2=[]
 tu:lbt a.1.1.1 4=true->a.1.2.1=1\/a.1.2.1=2
 tu0:lbt a.1.1.1 4=false->a.1.2.1=0
 cr:lbt a.1.1.1 16=true->crsR a.1.2.2.2
 cr0:lbt a.1.1.1 16=false->a.1.2.2.2=0
 di:lbt a.1.1.1 32=true->dstR a.2.1.1/\a.2.1.1≠0
 di0:lbt a.1.1.1 32=false->a.2.1.1=0
 rh:lbt a.1.1.1 64=true->dstR a.2.1.2.1/\a.2.1.2.1≠0
 rh0:lbt a.1.1.1 64=false->a.2.1.2.1=0
 th:lbt a.1.1.1 128=true->crsR a.2.1.2.2
 th0:lbt a.1.1.1 128=false->a.2.1.2.2=0
 wi:winR a.2.2.1.1 a.2.2.1.2
 sp:0<=a.2.2.2.1/\a.2.2.2.1<=1000
 rn:0<=a.2.2.2.2/\a.2.2.2.2<=120000
theorem AaD(h:o183 s b=some 0):(b=true->RfP s)/\(b=false->s=[]):=by
 unfold o183 at h;rcases cnV h with⟨hb,h⟩|⟨hb,h⟩
 ·refine⟨λ_=>?_,λh2=>by rw[hb]at h2;cases h2⟩
  obtain⟨v,e,h⟩:=bdV h;rcases cnV h with⟨_,h⟩|⟨h0,h⟩
  ·exact absurd h (by decide)
  ·exact⟨v,e,nF h0⟩
 ·refine⟨λh2=>(by rw[hb]at h2;cases h2),λ_=>?_⟩
  rcases cnV h with⟨_,h⟩|⟨h0,h⟩
  ·exact absurd h (by decide)
  ·exact sT (notF h0)
theorem NU{a:Int}{l m:Int}(h:o184 a b l m=some 0):(b=true->l<=a/\a<=m)/\(b=false->a=0):=by
 unfold o184 at h;obtain⟨v,e,h⟩:=bdV h;rcases cnV h with⟨_,h⟩|⟨h0,h⟩
 ·exact absurd h (by decide)
 obtain⟨v2,e2,h⟩:=bdV h;rcases cnV h with⟨_,h⟩|⟨h1,h⟩
 ·exact absurd h (by decide)
 subst h1;rcases cnV e with⟨hb,e⟩|⟨hb,e⟩
 ·refine⟨λ_=>?_,λh2=>by rw[hb]at h2;cases h2⟩
  rcases cnV e with⟨_,e⟩|⟨h3,e⟩
  ·cases e;cases h0
  ·cases e;have h3:=dF h3;have h0:=dF h0;omega
 ·refine⟨λh2=>by(rw[hb]at h2;cases h2),λ_=>?_⟩
  cases e;rw[hb]at e2;exact nF (smV e2)
theorem LG{a:Ai}(h:o126 a=some 0):LegOk a:=by
 unfold o126 at h;obtain⟨v1,e1,h⟩:=bdV h;rcases cnV h with⟨_,h⟩|⟨h1,h⟩
 ·exact absurd h (by decide)
 have ty:=CF (RM _) e1 (notF h1);obtain⟨_,h⟩:=gdV h;obtain⟨v2,e2,h⟩:=bdV h;rcases cnV h with⟨g,h⟩|⟨g2,h⟩
 ·exact absurd (smV h) (nT g)
 rw[nF g2]at e2;obtain⟨v3,e3,h⟩:=bdV h;rcases cnV h with⟨g,h⟩|⟨g3,h⟩
 ·exact absurd (smV h) (nT g)
 rw[nF g3]at e3;have f2:=AaD e2;have f3:=AaD e3;rcases jdV h with⟨t,e4,h⟩|e4;case inr=>
  exfalso;rcases cnV e4 with⟨_,e4⟩|⟨_,e4⟩
  ·obtain⟨w,_,e4⟩:=bdV e4;rcases cnV e4 with⟨_,e4⟩|⟨_,e4⟩
   ·exact absurd (dnV e4) (by decide)
   ·cases e4
  ·rcases cnV e4 with⟨_,e4⟩|⟨_,e4⟩
   ·exact absurd (dnV e4) (by decide)
   ·cases e4
 have f4:t=(aJ gl0 a.1.1.1.toNat (0:Int),a)/\(lbt a.1.1.1 4=true->a.1.2.1=1\/a.1.2.1=2)/\(lbt a.1.1.1 4=false->a.1.2.1=0):=by
  rcases cnV e4 with⟨hb,e4⟩|⟨hb,e4⟩
  ·obtain⟨w,e5,e4⟩:=bdV e4;rcases cnV e4 with⟨_,e4⟩|⟨hw,e4⟩
   ·cases e4
   ·have e4:(w.1,w.2.2)=t:=by cases e4;rfl
    subst e4;rcases cnV e5 with⟨_,e5⟩|⟨h5,e5⟩
    ·cases e5;exact⟨rfl,λ_=>Or.inr (nF hw),λh2=>by rw[show lbt a.1.1.1 4=true from hb]at h2;cases h2⟩
    ·cases e5;exact⟨rfl,λ_=>Or.inl (nF h5),λh2=>by rw[show lbt a.1.1.1 4=true from hb]at h2;cases h2⟩
  ·rcases cnV e4 with⟨_,e4⟩|⟨h5,e4⟩
   ·cases e4
   ·cases e4;exact⟨rfl,λh2=>(by rw[show lbt a.1.1.1 4=false from hb]at h2;cases h2),λ_=>nF h5⟩
 obtain⟨rfl,tu,tu0⟩:=f4;obtain⟨v6,e6,h⟩:=bdV h;have e6:v6.1=aJ gl0 a.1.1.1.toNat (0:Int)/\v6.2.2=a:=by rcases cnV e6 with⟨_,e⟩|⟨_,e⟩<;>(cases e;exact⟨rfl,rfl⟩)
 rw[e6.1,e6.2]at h;rcases cnV h with⟨_,h⟩|⟨_,h⟩
 ·exact absurd h (by decide)
 obtain⟨v7,e7,h⟩:=bdV h;rcases cnV h with⟨g,h⟩|⟨g,h⟩
 ·exact absurd (smV h) (nT g)
 rw[nF g]at e7;obtain⟨v8,e8,h⟩:=bdV h;rcases cnV h with⟨g,h⟩|⟨g,h⟩
 ·exact absurd (smV h) (nT g)
 rw[nF g]at e8;obtain⟨v9,e9,h⟩:=bdV h;rcases cnV h with⟨g,h⟩|⟨g,h⟩
 ·exact absurd (smV h) (nT g)
 rw[nF g]at e9;obtain⟨v10,e10,h⟩:=bdV h;rcases cnV h with⟨g,h⟩|⟨g,h⟩
 ·exact absurd (smV h) (nT g)
 rw[nF g]at e10;have f7:=NU e7;have f8:=NU e8;have f9:=NU e9;have f10:=NU e10;obtain⟨v11,e11,h⟩:=bdV h;have e11:v11.2=a:=by
  rcases cnV e11 with⟨_,e⟩|⟨_,e⟩
  ·cases e;rfl
  rcases cnV e with⟨_,e⟩|⟨_,e⟩<;>(cases e;rfl)
 rw[e11]at h;obtain⟨v12,e12,h⟩:=bdV h;have f12:v12.2.2=a/\(v12.2.1=false->winR a.2.2.1.1 a.2.2.1.2):=by
  rcases cnV e12 with⟨_,e⟩|⟨g1,e⟩
  ·cases e;exact⟨rfl,λh=>by cases h⟩
  rcases cnV e with⟨_,e⟩|⟨g2,e⟩
  ·cases e;exact⟨rfl,λh=>by cases h⟩
  cases e;refine⟨rfl,λg3=>?_⟩
  have g1:=dF g1;have g2:=dF g2;have g3:=dF g3;unfold winR;omega
 rcases cnV h with⟨_,h⟩|⟨g12,h⟩
 ·exact absurd h (by decide)
 have wi:=f12.2 g12;rw[f12.1]at h;obtain⟨v13,e13,h⟩:=bdV h;have e13:v13.2=a:=by rcases cnV e13 with⟨_,e⟩|⟨_,e⟩<;>(cases e;rfl)
 rw[e13]at h;rcases cnV h with⟨_,h⟩|⟨_,h⟩
 ·exact absurd h (by decide)
 obtain⟨v14,e14,h⟩:=bdV h;rcases cnV h with⟨_,h⟩|⟨g14,h⟩
 ·exact absurd h (by decide)
 subst g14;rcases cnV e14 with⟨_,e⟩|⟨k1,e⟩
 ·cases e
 rcases cnV e with⟨_,e⟩|⟨k2,e⟩
 ·cases e
 rcases cnV e with⟨_,e⟩|⟨k3,e⟩
 ·cases e
 have k4:=dF (smV e);have k1:=dF k1;have k2:=dF k2;have k3:=dF k3;have c7:lbt a.1.1.1 16=true->crsR a.1.2.2.2:=λh=>by have:=f7.1 h;unfold crsR;omega
 have c8:lbt a.1.1.1 32=true->dstR a.2.1.1/\a.2.1.1≠0:=λh=>by have:=f8.1 h;unfold dstR;omega
 have c9:lbt a.1.1.1 64=true->dstR a.2.1.2.1/\a.2.1.2.1≠0:=λh=>by have:=f9.1 h;unfold dstR;omega
 have c10:lbt a.1.1.1 128=true->crsR a.2.1.2.2:=λh=>by have:=f10.1 h;unfold crsR;omega
 exact⟨ty,f2.1,f2.2,f3.1,f3.2,tu,tu0,c7,f7.2,c8,f8.2,c9,f9.2,c10,f10.2,wi,by omega,by omega⟩
def wDef(w:Int×Int):Bool:=cond (w.1 !=-200000) true (w.2 !=6000000)
def opW(b:Bool)(w:Bt):List Bt:=cond b [w] []
def legWs(a:Ai):List Bt:=
 ((((((((((([aJ gl1 a.1.1.1.toNat []]++opW (lbt a.1.1.1 1) a.1.1.2.1)++opW (lbt a.1.1.1 2) (64::a.1.1.2.2))++opW (lbt a.1.1.1 4) (if a.1.2.1=1 then[76]else[82]))++opW (lbt a.1.1.1 16) (crsW a.1.2.2.2))
  ++opW (lbt a.1.1.1 32) (100::dstW a.2.1.1))++opW (lbt a.1.1.1 64) (114::dstW a.2.1.2.1))++opW (lbt a.1.1.1 128) (116::crsW a.2.1.2.2))++opW a.1.2.2.1 [111,118,101,114])
  ++opW (wDef a.2.2.1) (winW a.2.2.1))++opW (a.2.2.2.1 !=(0:Int)) (115::plW a.2.2.2.1.toNat))++opW (a.2.2.2.2 !=(0:Int)) (110::dstW a.2.2.2.2))
theorem NV(b:Bool)(w:Bt):(opW b w).length<=1:=by cases b<;>simp[opW]
def wsz(l:List Bt):Nat:=(l.map λw=>w.length+1).sum
theorem JL(a b:List Bt):wsz (a++b)=wsz a+wsz b:=by unfold wsz;simp
theorem HZ(w:Bt):wsz [w]=w.length+1:=by unfold wsz;simp
theorem AX(w:Bt)(l:List Bt):wsz (w::l)=w.length+1+wsz l:=by unfold wsz;simp
theorem CI:wsz []=0:=rfl
theorem Un:∀l:List Bt,(jnT [32] l).length=wsz l
 | []=>rfl
 |x::l=>by show([32]++(x++jnT [32] l)).length=_;rw[AX,aC,aC,Un l];simp;omega
theorem DU:∀l:List Bt,(jb l).length<=wsz l
 | []=>bI _
 |x::l=>by rw[HO,aC,Un,AX];omega
theorem CW{k:Nat}(h:b=true->w.length<=k):wsz (opW b w)<=k+1:=by
 cases b with
 |true=>have:=h rfl;unfold opW;rw[cond_true,HZ];omega
 |false=>unfold opW;rw[cond_false,CI];omega
theorem RfP.rf(h:RfP s)(hs:s.length<=1099511627776):Rf s:=by obtain⟨v,e,h0⟩:=h;exact CF (RZ s hs) e h0
theorem RfP.len(h:RfP s)(hs:P47 s):s.length<=13:=by obtain⟨v,e,h0⟩:=h;exact CF (RN s hs) e h0
theorem RfP.rf'(h:RfP s)(hs:P47 s):Rf s:=h.rf (by have:=h.len hs;omega)
theorem AaE(h:1<=t/\t<=17):(aJ gl1 t.toNat []).length=2/\Wd (aJ gl1 t.toNat []):=by
 obtain⟨n,rfl⟩:∃n:Nat,t=(n:Int):=⟨t.toNat,by omega⟩
 rw[aH];have:n=1\/n=2\/n=3\/n=4\/n=5\/n=6\/n=7\/n=8\/n=9\/n=10\/n=11\/n=12\/n=13\/n=14\/n=15\/n=16\/n=17:=by omega
 have key:∀w:Bt,w.length=2->(∀b∈w,33<=b.toNat/\b.toNat<=126/\b.toNat≠35)->w.length=2/\Wd w:=λw h1 h2=>⟨h1,(by intro e;rw[e]at h1;cases h1),h2⟩
 rcases this with rfl|rfl|rfl|rfl|rfl|rfl|rfl|rfl|rfl|rfl|rfl|rfl|rfl|rfl|rfl|rfl|rfl<;>exact key _ rfl (by decide)
theorem JM(h:n<=1000):(plW n).length<=4:=by
 have p:(10:Nat)^(3+1)=10000:=by decide
 exact ER 3
def inLg(a:Ai):Prop:=P47 a.1.1.2.1/\P47 a.1.1.2.2
theorem JN(h:0<=d/\d<=120000):dstR d:=by unfold dstR;omega
theorem Gr{a:Ai}(h:LegOk a)(hi:inLg a):wsz (legWs a)<=120:=by
 have g:=AaE h.ty;unfold legWs;simp only[JL,HZ];have q1:=CW (b:=lbt a.1.1.1 1) (w:=a.1.1.2.1) (k:=13) λe=>(h.fx e).len hi.1;have q2:=CW (b:=lbt a.1.1.1 2) (w:=64::a.1.1.2.2) (k:=14) λe=>by have:=(h.nv e).len hi.2;rw[aE];omega
 have q3:=CW (b:=lbt a.1.1.1 4) (w:=(if a.1.2.1=1 then[76]else[82])) (k:=1) λe=>by split<;>simp
 have q4:=CW (b:=lbt a.1.1.1 16) (w:=crsW a.1.2.2.2) (k:=9) λe=>by rw[HS];omega
 have q5:=CW (b:=lbt a.1.1.1 32) (w:=100::dstW a.2.1.1) (k:=10) λe=>by have:=Dq (h.di e).1;rw[aE];omega
 have q6:=CW (b:=lbt a.1.1.1 64) (w:=114::dstW a.2.1.2.1) (k:=10) λe=>by have:=Dq (h.rh e).1;rw[aE];omega
 have q7:=CW (b:=lbt a.1.1.1 128) (w:=116::crsW a.2.1.2.2) (k:=10) λe=>by rw[aE,HS];omega
 have q8:=CW (b:=a.1.2.2.1) (w:=[111,118,101,114]) (k:=4) λe=>by simp
 have q9:=CW (b:=wDef a.2.2.1) (w:=winW a.2.2.1) (k:=19) λe=>LF h.wi;have q10:=CW (b:=a.2.2.2.1 !=(0:Int)) (w:=115::plW a.2.2.2.1.toNat) (k:=5) λe=>by have:=JM (n:=a.2.2.2.1.toNat) (by have:=h.sp;omega);rw[aE];omega
 have q11:=CW (b:=a.2.2.2.2 !=(0:Int)) (w:=110::dstW a.2.2.2.2) (k:=10) λe=>by have:=Dq (JN h.rn);rw[aE];omega
 omega
theorem CX(h:b=true->Wd w):∀x∈opW b w,Wd x:=by
 cases b with
 |true=>intro x hx;unfold opW at hx;rw[cond_true,aI]at hx;subst hx;exact h rfl
 |false=>intro x hx;unfold opW at hx;cases hx
theorem Gs{b:UInt8}(hb:33<=b.toNat/\b.toNat<=126/\b.toNat≠35)(hw:Wd w):Wd (b::w):=⟨by simp,λx hx=>by
 rcases bA.1 hx with h|h
 ·subst h;exact hb
 ·exact hw.2 x h⟩
theorem AP{l m:List Bt}(h1:∀x∈l,Wd x)(h2:∀x∈m,Wd x):∀x∈l++m,Wd x:=λx hx=>by
 rcases aL.1 hx with h|h
 ·exact h1 x h
 ·exact h2 x h
theorem LH{a:Ai}(h:LegOk a)(hi:inLg a):∀w∈legWs a,Wd w:=by
 have g:=AaE h.ty;unfold legWs;refine AP (AP (AP (AP (AP (AP (AP (AP (AP (AP (AP ?_ ?_) ?_) ?_) ?_) ?_) ?_) ?_) ?_) ?_) ?_) ?_
 ·intro x hx;rw[aI]at hx;subst hx;exact g.2
 ·exact CX λe=>((h.fx e).rf' hi.1).wd
 ·exact CX λe=>Gs (by decide) ((h.nv e).rf' hi.2).wd
 ·refine CX λe=>?_;split
  ·exact⟨by simp,by decide⟩
  ·exact⟨by simp,by decide⟩
 ·exact CX λe=>Aay 3 _
 ·exact CX λe=>Gs (by decide) (JK _)
 ·exact CX λe=>Gs (by decide) (JK _)
 ·exact CX λe=>Gs (by decide) (Aay 3 _)
 ·exact CX λe=>⟨by simp,by decide⟩
 ·exact CX λe=>Uk _
 ·exact CX λe=>Gs (by decide) (NN _)
 ·exact CX λe=>Gs (by decide) (JK _)
theorem LI{l:List Bt}(h:wsz l<=1000000:=by omega):o53 l [32]=some (jb l):=by unfold o53;have:=DU l;rw[dt (show(jnS [32] l).length<=140737488355328 by show(jb l).length<=_;omega)];rfl
theorem Ck(l:List Bt)(b:Bool)(w:Bt):(l++opW b w).length<=l.length+1:=by rw[aC];have:=NV b w;omega
theorem opT(w:Bt)(h:b=true):[w]=opW b w:=by subst h;rfl
theorem opF(w:Bt)(l:List Bt)(h:b=false):l=l++opW b w:=by subst h;unfold opW;rw[cond_false,aD]
theorem AfZ{a:Ai}(h0:o126 a=some 0)(hi:inLg a):o61 a=some (jb (legWs a)):=by
 have h:=LG h0;have hz:=Gr h hi;have ht:=h.ty;refine BN ?_;unfold o61;rw[bdS h0,cndF (AL rfl),gdT dt,gdT dt];generalize hL0:([aJ gl1 a.1.1.1.toNat []]:List Bt)=L0;have l0:L0.length=1:=by subst hL0;rfl
 generalize hL1:L0++opW (lbt a.1.1.1 1) a.1.1.2.1=L1;have l1:L1.length<=2:=by subst hL1;have:=Ck L0 (lbt a.1.1.1 1) a.1.1.2.1;omega
 refine tB (P:=λv=>v=(aJ gl0 a.1.1.1.toNat 0,a,L1)) ?_ λv2 e2=>?_
 ·refine tC (λe=>tG (dt (by rw[l0];simp)) (tS ?_)) λe=>tS ?_
  ·rw[<-hL1,opT (b:=lbt a.1.1.1 1) _ e]
  ·rw[<-hL1,<-opF _ _ (show lbt a.1.1.1 1=false from e)]
 rw[e2];clear e2;generalize hL2:L1++opW (lbt a.1.1.1 2) (64::a.1.1.2.2)=L2;have l2:L2.length<=3:=by subst hL2;have:=Ck L1 (lbt a.1.1.1 2) (64::a.1.1.2.2);omega
 refine tB (P:=λv=>v=(aJ gl0 a.1.1.1.toNat 0,a,L2)) ?_ λv2 e2=>?_
 ·refine tC (λe=>tG (dt ?_) (tG (dt ?_) (tS ?_))) λe=>tS ?_
  ·have:=(h.nv e).len hi.2;simp only[aE,aN];omega
  ·simp only[aE,aN];omega
  ·rw[<-hL2,<-opT (b:=lbt a.1.1.1 2) _ e];rfl
  ·rw[<-hL2,<-opF _ _ (show lbt a.1.1.1 2=false from e)]
 rw[e2];clear e2;generalize hL3:L2++opW (lbt a.1.1.1 4) (if a.1.2.1=1 then[76]else[82])=L3;have l3:L3.length<=4:=by subst hL3;have:=Ck L2 (lbt a.1.1.1 4) (if a.1.2.1=1 then[76]else[82]);omega
 refine tB (P:=λv=>v=(aJ gl0 a.1.1.1.toNat 0,a,L3)) ?_ λv2 e2=>?_
 ·refine tC (λe=>tC (λe1=>tG (dt ?_) (tS ?_)) λe1=>tG (dt ?_) (tS ?_)) λe=>tS ?_
  ·simp only[aE,aN];omega
  ·rw[<-hL3,<-opT (b:=lbt a.1.1.1 4) _ e,if_pos (eT e1)]
  ·simp only[aE,aN];omega
  ·rw[<-hL3,<-opT (b:=lbt a.1.1.1 4) _ e,if_neg (eF e1)]
  ·rw[<-hL3,<-opF _ _ (show lbt a.1.1.1 4=false from e)]
 rw[e2];clear e2;generalize hL4:L3++opW (lbt a.1.1.1 16) (crsW a.1.2.2.2)=L4;have l4:L4.length<=5:=by subst hL4;have:=Ck L3 (lbt a.1.1.1 16) (crsW a.1.2.2.2);omega
 refine tB (P:=λv=>v=(aJ gl0 a.1.1.1.toNat 0,a,L4)) ?_ λv2 e2=>?_
 ·refine tC (λe=>tB ⟨_,Uh (h.cr e),rfl⟩ λv5 e5=>tG (dt ?_) (tS ?_)) λe=>tS ?_
  ·simp only[aE,aN];omega
  ·rw[<-hL4,<-opT (b:=lbt a.1.1.1 16) _ e,e5]
  ·rw[<-hL4,<-opF _ _ (show lbt a.1.1.1 16=false from e)]
 rw[e2];clear e2;generalize hL5:L4++opW (lbt a.1.1.1 32) (100::dstW a.2.1.1)=L5;have l5:L5.length<=6:=by subst hL5;have:=Ck L4 (lbt a.1.1.1 32) (100::dstW a.2.1.1);omega
 refine tB (P:=λv=>v=(aJ gl0 a.1.1.1.toNat 0,a,L5)) ?_ λv2 e2=>?_
 ·refine tC (λe=>tB ⟨_,NS (h.di e).1 100,rfl⟩ λv5 e5=>tG (dt ?_) (tS ?_)) λe=>tS ?_
  ·simp only[aE,aN];omega
  ·rw[<-hL5,<-opT (b:=lbt a.1.1.1 32) _ e,e5]
  ·rw[<-hL5,<-opF _ _ (show lbt a.1.1.1 32=false from e)]
 rw[e2];clear e2;generalize hL6:L5++opW (lbt a.1.1.1 64) (114::dstW a.2.1.2.1)=L6;have l6:L6.length<=7:=by subst hL6;have:=Ck L5 (lbt a.1.1.1 64) (114::dstW a.2.1.2.1);omega
 refine tB (P:=λv=>v=(aJ gl0 a.1.1.1.toNat 0,a,L6)) ?_ λv2 e2=>?_
 ·refine tC (λe=>tB ⟨_,NS (h.rh e).1 114,rfl⟩ λv5 e5=>tG (dt ?_) (tS ?_)) λe=>tS ?_
  ·simp only[aE,aN];omega
  ·rw[<-hL6,<-opT (b:=lbt a.1.1.1 64) _ e,e5]
  ·rw[<-hL6,<-opF _ _ (show lbt a.1.1.1 64=false from e)]
 rw[e2];clear e2;generalize hL7:L6++opW (lbt a.1.1.1 128) (116::crsW a.2.1.2.2)=L7;have l7:L7.length<=8:=by subst hL7;have:=Ck L6 (lbt a.1.1.1 128) (116::crsW a.2.1.2.2);omega
 refine tB (P:=λv=>v=(a,L7)) ?_ λv2 e2=>?_
 ·refine tC (λe=>tB ⟨_,Uh (h.th e),rfl⟩ λv5 e5=>tG (dt ?_) (tG (dt ?_) (tS ?_))) λe=>tS ?_
  ·have e5:v5=crsW a.2.1.2.2:=e5.symm;rw[e5,HS];simp only[aE,aN];omega
  ·simp only[aE,aN];omega
  ·rw[<-hL7,<-opT (b:=lbt a.1.1.1 128) _ e,e5];rfl
  ·rw[<-hL7,<-opF _ _ (show lbt a.1.1.1 128=false from e)]
 rw[e2];clear e2;generalize hL8:L7++opW a.1.2.2.1 [111,118,101,114]=L8;have l8:L8.length<=9:=by subst hL8;have:=Ck L7 a.1.2.2.1 [111,118,101,114];omega
 refine tB (P:=λv=>v=(a,L8)) ?_ λv2 e2=>?_
 ·refine tC (λe=>tG (dt ?_) (tS ?_)) λe=>tS ?_
  ·simp only[aE,aN];omega
  ·rw[<-hL8,<-opT (b:=a.1.2.2.1) _ e]
  ·rw[<-hL8,<-opF _ _ (show a.1.2.2.1=false from e)]
 rw[e2];clear e2;generalize hL9:L8++opW (wDef a.2.2.1) (winW a.2.2.1)=L9;have l9:L9.length<=10:=by subst hL9;have:=Ck L8 (wDef a.2.2.1) (winW a.2.2.1);omega
 refine tB (P:=λv=>v=(a,L9)) ?_ λv2 e2=>?_
 ·refine tB (P:=λv=>v=(wDef a.2.2.1,a,L8)) ?_ λv e=>?_
  ·unfold wDef;refine tC (λe=>tS ?_) λe=>tS ?_
   ·rw[show(a.2.2.1.1 !=-200000)=true from e];rfl
   ·rw[show(a.2.2.1.1 !=-200000)=false from e];rfl
  ·rw[e];refine tC (λe=>tB ⟨_,NQ h.wi,rfl⟩ λv5 e5=>tG (dt ?_) (tS ?_)) λe=>tS ?_
   ·simp only[aE,aN];omega
   ·rw[<-hL9,<-opT (b:=wDef a.2.2.1) _ e,show v5=(winW a.2.2.1,0)from e5.symm]
   ·rw[<-hL9,<-opF _ _ (show wDef a.2.2.1=false from e)]
 rw[e2];clear e2;generalize hL10:L9++opW (a.2.2.2.1 !=(0:Int)) (115::plW a.2.2.2.1.toNat)=L10;have l10:L10.length<=11:=by subst hL10;have:=Ck L9 (a.2.2.2.1 !=(0:Int)) (115::plW a.2.2.2.1.toNat);omega
 refine tB (P:=λv=>v=(a,L10)) ?_ λv2 e2=>?_
 ·refine tC (λe=>?_) λe=>tS ?_
  ·have hs:=h.sp;have es:a.2.2.2.1=((a.2.2.2.1.toNat:Nat):Int):=by omega
   have hl:=JM (n:=a.2.2.2.1.toNat) (by omega);refine tB (P:=λv=>v=plW a.2.2.2.1.toNat) ⟨_,?_,rfl⟩ λv5 e5=>tG (dt ?_) (tG (dt ?_) (tS ?_))
   ·show o129 a.2.2.2.1=_;rw[es,aH];exact AcN (by omega)
   ·rw[e5];simp only[aE,aN];omega
   ·simp only[aE,aN];omega
   ·rw[<-hL10,<-opT (b:=a.2.2.2.1 !=(0:Int)) _ e,e5];rfl
  ·rw[<-hL10,<-opF _ _ e]
 rw[e2];clear e2;generalize hL11:L10++opW (a.2.2.2.2 !=(0:Int)) (110::dstW a.2.2.2.2)=L11;have hl:legWs a=L11:=by unfold legWs;rw[hL0,hL1,hL2,hL3,hL4,hL5,hL6,hL7,hL8,hL9,hL10,hL11]
 refine tB (P:=λv=>v=L11) ?_ λv2 e2=>?_
 ·refine tC (λe=>tB ⟨_,NS (JN h.rn) 110,rfl⟩ λv5 e5=>tG (dt ?_) (tS ?_)) λe=>tS ?_
  ·simp only[aE,aN];omega
  ·rw[<-hL11,<-opT (b:=a.2.2.2.2 !=(0:Int)) _ e,e5]
  ·rw[<-hL11,<-opF _ _ e]
 rw[e2,<-hl,bdS LI];exact tS rfl
def RdW(st:Rd_)(ws:List Bt):Prop:=st.1.1=ws/\st.2.2=0
theorem NW{ws:List Bt}(h:RdW st (w::ws)):o235 st=some (w,true):=by
 unfold o235;have hl:st.1.1.length=ws.length+1:=by rw[h.1];rfl
 rw[cndF AU,gdT dt,h.1];rfl
theorem AaF(h:RdW st []):o235 st=some ([],false):=by
 unfold o235;have hl:st.1.1.length=0:=by rw[h.1];rfl
 rw[cndT Ba]
theorem QA{ws:List Bt}(h:RdW st (w::ws)):∃st',BD st=some st'/\RdW st' ws:=by
 unfold BD;have hl:st.1.1.length=ws.length+1:=by rw[h.1];rfl
 rw[gdT dt,gdT dt];exact⟨_,rfl,by show cS _ st.1.1=ws;rw[h.1];rfl,h.2⟩
theorem GV
  (hF:∀a0 a1,F a0 a1=(cnd (a0.2.2 !=(0:Int)) (some (a0,a1)) (bd (α:=(Bt×Bool)) (o235 a0) (λv1=>(cnd (!v1.2) (some ((a0.1,a0.2.1,(aQ .i64 (a0.2.1+(2:Int)))),a1)) (bd (α:=(Bool×Ai)) (C v1.1 a1) (λv2=>(cnd (!v2.1) (some ((a0.1,a0.2.1,a0.1.2),v2.2)) (bd (α:=((List Bt×Int)×Int×Int)) (BD a0) (λv3=>(some (v3,v2.2))))))))))))
  {X:Type} (x:X) {a a':Lg_} {ws:List Bt} (h:RdW st (opW b w++ws)) (hC:b=true->C w a=some (true,a')) (hn:b=false->a'=a):
  ∃st',RdW st' ws/\(cnd b (bd (F st a) (λv=>some (x,v))) (some (x,st,a)))=some (x,st',a'):=by
 cases b with
 |false=>exact⟨st,h,by rw[hn rfl,Aj]⟩
 |true=>
  have h:RdW st (w::ws):=h;obtain⟨st',e,hr⟩:=QA h;refine⟨st',hr,?_⟩
  rw[Av,hF,cndF (AL h.2),bdS (NW h)];dsimp only;rw[aK,Aj,bdS (hC rfl)];dsimp only;rw[aK,Aj,bdS e,bdI]
theorem Uo
  (hF:∀a0 a1,F a0 a1=(bd (α:=(Bt×Bool)) (o235 a0) (λv1=>(bd (α:=(Bool×((List Bt×Int)×Int×Int)×Ai)) (cnd (a0.2.2==(0:Int)) (cnd v1.2 (bd (α:=(Bool×Ai)) (C v1.1 a1) (λv2=>(some (v2.1,a0,v2.2)))) (some (false,a0,a1))) (some (false,a0,a1))) (λv3=>(cnd v3.1 (bd (α:=((List Bt×Int)×Int×Int)) (BD v3.2.1) (λv4=>(some (v4,v3.2.2)))) (some v3.2)))))))
 {a a':Lg_} {ws:List Bt} (h:RdW st (opW b w++ws)) (hC:b=true->C w a=some (true,a')) (hn:b=false->a'=a) (ho:∀x∈ws,C x a=some (false,a)):
  ∃st',RdW st' ws/\F st a=some (st',a'):=by
 cases b with
 |true=>
  have h:RdW st (w::ws):=h;obtain⟨st',e,hr⟩:=QA h;refine⟨st',hr,?_⟩
  rw[hF,bdS (NW h)];dsimp only;rw[cndT (Ba h.2),Av,bdS (hC rfl),bdI];dsimp only;rw[Av,bdS e]
 |false=>
  have h:RdW st ws:=h;refine⟨st,h,?_⟩
  rw[hF,hn rfl];cases ws with
  |nil=>
   rw[bdS (AaF h)];dsimp only;rw[cndT (Ba h.2),Aj,bdI];rfl
  |cons x ws=>
   rw[bdS (NW h)];dsimp only;rw[cndT (Ba h.2),Av,bdS (ho x aU),bdI];rfl
def lg0:Lg_:=(((0,[],[]),0,false,0),(0,0,0),(-200000,6000000),0,0)
def lgT(t:Int):Lg_:=(((t,[],[]),0,false,0),(0,0,0),(-200000,6000000),0,0)
theorem Aga:o222 (aJ gl1 1 []) lg0=some (true,lgT 1):=by kernel_rfl
theorem Agb:o222 (aJ gl1 2 []) lg0=some (true,lgT 2):=by kernel_rfl
theorem Agc:o222 (aJ gl1 3 []) lg0=some (true,lgT 3):=by kernel_rfl
theorem Agd:o222 (aJ gl1 4 []) lg0=some (true,lgT 4):=by kernel_rfl
theorem Age:o222 (aJ gl1 5 []) lg0=some (true,lgT 5):=by kernel_rfl
theorem Agf:o222 (aJ gl1 6 []) lg0=some (true,lgT 6):=by kernel_rfl
theorem Agg:o222 (aJ gl1 7 []) lg0=some (true,lgT 7):=by kernel_rfl
theorem Agh:o222 (aJ gl1 8 []) lg0=some (true,lgT 8):=by kernel_rfl
theorem Agi:o222 (aJ gl1 9 []) lg0=some (true,lgT 9):=by kernel_rfl
theorem AcO:o222 (aJ gl1 10 []) lg0=some (true,lgT 10):=by kernel_rfl
theorem AcP:o222 (aJ gl1 11 []) lg0=some (true,lgT 11):=by kernel_rfl
theorem AcQ:o222 (aJ gl1 12 []) lg0=some (true,lgT 12):=by kernel_rfl
theorem AcR:o222 (aJ gl1 13 []) lg0=some (true,lgT 13):=by kernel_rfl
theorem AcS:o222 (aJ gl1 14 []) lg0=some (true,lgT 14):=by kernel_rfl
theorem AcT:o222 (aJ gl1 15 []) lg0=some (true,lgT 15):=by kernel_rfl
theorem AcU:o222 (aJ gl1 16 []) lg0=some (true,lgT 16):=by kernel_rfl
theorem AcV:o222 (aJ gl1 17 []) lg0=some (true,lgT 17):=by kernel_rfl
theorem AcW(h:1<=t/\t<=17):o222 (aJ gl1 t.toNat []) lg0=some (true,lgT t):=by
 obtain⟨n,rfl⟩:∃n:Nat,t=(n:Int):=⟨t.toNat,by omega⟩
 rw[aH];have:n=1\/n=2\/n=3\/n=4\/n=5\/n=6\/n=7\/n=8\/n=9\/n=10\/n=11\/n=12\/n=13\/n=14\/n=15\/n=16\/n=17:=by omega
 rcases this with rfl|rfl|rfl|rfl|rfl|rfl|rfl|rfl|rfl|rfl|rfl|rfl|rfl|rfl|rfl|rfl|rfl
 ·exact Aga
 ·exact Agb
 ·exact Agc
 ·exact Agd
 ·exact Age
 ·exact Agf
 ·exact Agg
 ·exact Agh
 ·exact Agi
 ·exact AcO
 ·exact AcP
 ·exact AcQ
 ·exact AcR
 ·exact AcS
 ·exact AcT
 ·exact AcU
 ·exact AcV
theorem Up(h:RfP s):o224 s=some true:=by obtain⟨v,e,h0⟩:=h;unfold o224;rw[bdS e,Ba h0]
theorem AcX(h:RfP s)(a:Lg_):o223 s a=some (true,((a.1.1.1,s,a.1.1.2.2),a.1.2),a.2):=by unfold o223;rw[bdS (Up h)]
theorem AcY(h:RfP s)(hs:P47 s)(a:Lg_):o225 (64::s) a=some (true,((a.1.1.1,a.1.1.2.1,s),a.1.2),a.2):=by
 have hl:=h.len hs;have hl2:(64::s).length=s.length+1:=rfl;have e:o226 (64::s) [64]=some s:=by
  unfold o226 o262 o295;rw[cndT (dt (by rw[hl2];simp;omega)),gdT (dt (by rw[hl2];simp;omega)),bdI];have:(cG (((([64]:Bt).length:Nat):Int)).toNat (64::s)==[64])=true:=by show(([64]:Bt)==[64])=true;simp
  rw[this,bdI,Av,gdT (dt (by rw[hl2];simp;omega))];rfl
 unfold o225;rw[bdS e];have hne:(s==64::s)=false:=beq_eq_false_iff_ne.2 λe=>by have:=congrArg cE e;rw[hl2]at this;omega
 rw[hne,bH,Av,bdS (Up h),bdI]
theorem AcZ(h:k=1\/k=2)(a:Lg_):o227 (if k=1 then[76]else[82]) a=some (true,(a.1.1,k,a.1.2.2),a.2):=by
 rcases h with rfl|rfl
 ·rw[if_pos rfl];rfl
 ·rw[if_neg (by decide)];rfl
theorem Ada{c:Int}(h:crsR c)(a:Lg_):o228 (crsW c) a=some (true,(a.1.1,a.1.2.1,a.1.2.2.1,c),a.2):=by unfold o228;rw[bdS (Ui h)]
theorem Adb(h:dstR d)(h0:d≠0)(a:Lg_):o230 (100::dstW d) a=some (true,a.1,(d,a.2.1.2),a.2.2):=by unfold o230;rw[show o231 100 (100::dstW d)=some (d,true)from NT h h0 100,bdI]
theorem Adc(h:dstR d)(h0:d≠0)(a:Lg_):o232 (114::dstW d) a=some (true,a.1,(a.2.1.1,d,a.2.1.2.2),a.2.2):=by unfold o232;rw[show o231 114 (114::dstW d)=some (d,true)from NT h h0 114,bdI]
theorem Add{c:Int}(h:crsR c)(a:Lg_):o233 (116::crsW c) a=some (true,a.1,(a.2.1.1,a.2.1.2.1,c),a.2.2):=by have hl2:(116::crsW c).length=(crsW c).length+1:=rfl;unfold o233;rw[cndF (by rfl),gdT dt,bdI];dsimp only;rw[show((((aJ (116::crsW c) (0:Int).toNat 0).toNat:Nat):Int)!=(116:Int))=false from rfl,Aj,gdT dt];rw[show cS (1:Int).toNat (116::crsW c)=crsW c from rfl,bdS (Ui h)]
theorem Ade(a:Lg_):o265 [111,118,101,114] a=some (true,(a.1.1,a.1.2.1,true,a.1.2.2.2),a.2):=rfl
theorem Adf{a:Lg_}(h:w≠[111,118,101,114])(ha:a.1.2.2.1=false):o265 w a=some (false,a):=by unfold o265;rw[beq_eq_false_iff_ne.2 h,<-ha]
theorem Adg{w:Int×Int}(h:winR w.1 w.2)(hd:wDef w=true)(a:Lg_):o266 (winW w) a=some (true,a.1,a.2.1,w,a.2.2.2):=by
 unfold o266;rw[bdS (Ul h)];dsimp only;rw[cndF (AL rfl)];have e:(cnd (w.1==(-200000:Int)) (some ((w.2==(6000000:Int)),a,w.1,w.2)) (some (false,a,w.1,w.2)))=some (false,a,w.1,w.2):=by
  unfold wDef at hd;by_cases g:w.1= -200000
  ·rw[AL g,cond_false]at hd;rw[cndT (Ba g),AU (nT hd)]
  ·rw[cndF (AU g)]
 rw[e,bdI];dsimp only;rw[Aj]
def ltW(w:Bt):Prop:=w.length<=1000/\(∀b∈w,isD b\/b.toNat=43\/100<=b.toNat)/\(∃c l,w=c::l/\100<=c.toNat)/\∃m b,w=m++[b]/\isD b
theorem Adh(h:ltW w)(a:Lg_):o266 w a=some (false,a):=by
 obtain⟨hl,hm,⟨c,l,e1,hc⟩,m,b,e2,hb⟩:=h;have n58:(58:UInt8)∉w:=λhx=>by
  rcases hm _ hx with h|h|h
  ·unfold isD at h;exact absurd h (by decide)
  ·exact absurd h (by decide)
  ·exact absurd h (by decide)
 have n46:(46:UInt8)∉w:=λhx=>by
  rcases hm _ hx with h|h|h
  ·unfold isD at h;exact absurd h (by decide)
  ·exact absurd h (by decide)
  ·exact absurd h (by decide)
 have c45:c≠45:=λe=>by rw[e]at hc;exact absurd hc (by decide)
 have hw45:(w==[45])=false:=beq_eq_false_iff_ne.2 λe=>by rw[e1]at e;injection e with e;exact c45 e
 have e258:o258 w=some false:=by
  obtain⟨r,er,hr⟩:=NF w;cases r with
  |false=>exact er
  |true=>
   exfalso;have:=(hr rfl).2 c (by rw[e1];exact aU);unfold isD at this;omega
 have e256:o256 w=some (0,false):=by unfold o256;rw[bdS (Uj (λb l e=>by rw[e1]at e;injection e with e;rw[<-e];exact c45))];dsimp only;rw[bdS (DA n46)];dsimp only;rw[bdS e258,bH,Av]
 have e297:o297 w=some (0,0,false):=by
  unfold o297;have hml:m.length<=100000:=by rw[e2]at hl;simp at hl;omega
  have c1:b≠43:=GU hb;have c2:b≠45:=GU hb;rw[cndF hw45,bdS (DA n58)];dsimp only;rw[Aj,show o317 w [43]=some (w,false) by rw[e2,cutSf m b 43 hml,if_neg c1],bdI];dsimp only;rw[Aj,show o317 w [45]=some (w,false) by rw[e2,cutSf m b 45 hml,if_neg c2],bdI];dsimp only;rw[Aj,bdS e256]
 have e267:o267 w=some (0,0,4):=by unfold o267;rw[bdS e297];dsimp only;rw[bH,Av]
 unfold o266;rw[bdS e267];dsimp only;rw[cndT (EU (by decide)),bdI];dsimp only;rw[Av]
theorem Adi(h:1<=n/\n<=1000):o269 (115::plW n)=some ((n:Int),true):=by
 have hl:=JM h.2;have hp:=bD.2 (FI n);have hl2:(115::plW n).length=(plW n).length+1:=rfl;have hh:((aJ (115::plW n) (1:Int).toNat 0).toNat)≠48:=by
  by_cases h10:n<10
  ·rw[Ec h10];show(bR (48+n)).toNat≠48;rw[Fq];omega
  ·obtain⟨b,l,e,hb⟩:=IE 19 n (by rw[show 19+1=20 from rfl,Qx];omega) (by omega);rw[show plW n=b::l from e];exact hb
 unfold o269;rw[cndF df,cndF df,gdT dt,show((((aJ (115::plW n) (0:Int).toNat 0).toNat:Nat):Int)!=(115:Int))=false from rfl,Aj,gdT dt,AU,bdI];dsimp only;rw[Aj,gdT dt,show cS (1:Int).toNat (115::plW n)=plW n from rfl,gdT dt];have hv:∀i,i<=(plW n).length->val ((plW n).take i)<10^18:=λi hi=>by have h1:=Nf ((plW n).take i) λb hb=>Cg n b (cR hb);have h2:10^((plW n).take i).length<=10^18:=cQ (by decide) (by rw[bJ];omega);omega
 have hval:=JH (n:=n);have hdig:=Cg n;generalize plW n=s at hl hp hv hval hdig⊢;have h18:(10:Nat)^18=1000000000000000000:=by decide
 refine AN (n:=s.length) (λi=>((((val (s.take i):Nat):Int),((s.length:Nat):Int)),(i:Int),s)) (by simp[Br,Bz]) (λi hi=>?_) ?_
 ·have hd:=hdig _ (aG hi);have h1:=hv i (by omega);have h2:=hv (i+1) (by omega);have e:val (s.take (i+1))=10*val (s.take i)+(s[i].toNat-48):=by rw[aO hi,Br,Hv,BA,Bz,<-Br]
  have hd1:=hd.1;have hd2:=hd.2;dsimp only;rw[cndT dt,gdT dt,aH,Ad hi,cndF df,df (show¬((s[i].toNat:Nat):Int)>57 by omega),bdI];dsimp only;rw[Aj];have w1:aQ .u8 (((s[i].toNat:Nat):Int)-48)=((s[i].toNat-48:Nat):Int):=by rw[bM];omega
  rw[w1,Ac (x:=((s[i].toNat-48:Nat):Int)),Ac (x:=10*((val (s.take i):Nat):Int)),Ac,Ac,e];congr 3
 ·dsimp only;rw[cndF df,aV,hval];rfl
theorem Adj(h:1<=n/\n<=1000)(a:Lg_):o268 (115::plW n) a=some (true,a.1,a.2.1,a.2.2.1,(n:Int),a.2.2.2.2):=by unfold o268;rw[bdS (Adi h)];dsimp only;rw[Av]
theorem Adk{c:UInt8}{l:Bt}(hc:c.toNat≠115)(a:Lg_):o268 (c::l) a=some (false,a):=by
 have e:o269 (c::l)=some (0,false):=by
  unfold o269;have hx:(((aJ (c::l) (0:Int).toNat 0).toNat:Nat))=c.toNat:=rfl;by_cases h1:(c::l).length<2
  ·rw[cndT dt,bdI];dsimp only;rw[Av]
  ·rw[cndF df];by_cases h2:(c::l).length>5
   ·rw[cndT dt,bdI];dsimp only;rw[Av]
   ·rw[cndF df,gdT dt,hx,cndT EU,bdI];dsimp only;rw[Av]
 unfold o268;rw[bdS e];dsimp only;rw[Aj]
theorem Adl(h:dstR d)(h0:d≠0)(a:Lg_):o270 (110::dstW d) a=some (true,a.1,a.2.1,a.2.2.1,a.2.2.2.1,d):=by unfold o270;rw[show o231 110 (110::dstW d)=some (d,true)from NT h h0 110,bdI];dsimp only;rw[Av]
theorem Uq(h:Wd w):(32:UInt8)∉w:=λhm=>by have:=(h.2 _ hm).1;exact absurd this (by decide)
theorem AaG:∀(x:Bt)(l:List Bt),(∀w∈x::l,Wd w)->spl 32 (jb (x::l))=x::l
 |x,[],h=>by rw[show jb [x]=x by show x++[]=x;rw[aD]];exact Jt (Uq (h x aU))
 |x,y::l,h=>by rw[HO,Jz,Hw (Uq (h x aU)),AaG y l λw hw=>h w (bG _ hw)]
theorem LJ(n:Nat):∃m b,plW n=m++[b]/\isD b:=
 ⟨_,_,(cC (FI n)).symm,Cg _ _ (List.getLast_mem (FI n))⟩
theorem AaH(d:Int):∀b∈dstW d,isD b\/b.toNat=43:=by
 intro b hb;unfold dstW dstU at hb;rcases aL.1 hb with h|h
 ·exact Or.inl (Cg _ b h)
 ·split at h
  ·cases h
  ·rcases bA.1 h with h|h
   ·right;subst h;rfl
   ·exact Or.inl (Cg _ b h)
theorem Vv(d:Int):∃m b,dstW d=m++[b]/\isD b:=by
 unfold dstW dstU;split
 ·rw[aD];exact LJ _
 ·obtain⟨m,b,e,hb⟩:=LJ (d.toNat%6000);exact⟨plW (d.toNat/6000)++43::m,b,by rw[e];simp,hb⟩
theorem Alm(h:n<=1000):ltW (115::plW n):=by
 have hl:=JM h;refine⟨by rw[aE];omega,λb hb=>?_,⟨115,_,rfl,by decide⟩,?_⟩
 ·rcases bA.1 hb with h|h
  ·right;right;subst h;decide
  ·exact Or.inl (Cg _ b h)
 ·obtain⟨m,b,e,hb⟩:=LJ n;exact⟨115::m,b,by rw[e];rfl,hb⟩
theorem Aln(h:dstR d):ltW (110::dstW d):=by
 have hl:=Dq h;refine⟨by rw[aE];omega,λb hb=>?_,⟨110,_,rfl,by decide⟩,?_⟩
 ·rcases bA.1 hb with h|h
  ·right;right;subst h;decide
  ·rcases AaH d b h with h|h
   ·exact Or.inl h
   ·exact Or.inr (Or.inl h)
 ·obtain⟨m,b,e,hb⟩:=Vv d;exact⟨110::m,b,by rw[e];rfl,hb⟩
theorem AaI(w:Int×Int):∀b∈winW w,b.toNat<=58:=by
 intro b hb;have ha:∀z,b∈altW z->b.toNat<=58:=λz h=>by
  rcases LE z b h with h|h|h
  ·unfold isD at h;omega
  ·omega
  ·omega
 have h1:∀c:UInt8,c.toNat<=58->b∈[c]->b.toNat<=58:=λc hc h=>by rw[aI]at h;subst h;exact hc
 unfold winW at hb;split at hb
 ·exact h1 45 (by decide) hb
 split at hb
 ·exact ha _ hb
 split at hb
 ·rcases aL.1 hb with h|h
  ·exact ha _ h
  ·exact h1 43 (by decide) h
 split at hb
 ·rcases aL.1 hb with h|h
  ·exact ha _ h
  ·exact h1 45 (by decide) h
 ·rcases aL.1 hb with h|h
  ·rcases aL.1 h with h|h
   ·exact ha _ h
   ·exact h1 58 (by decide) h
  ·exact ha _ h
theorem NX{x:Bt}(h:x∈opW b w):b=true/\x=w:=by
 cases b with
 |true=>unfold opW at h;rw[cond_true,aI]at h;exact⟨rfl,h⟩
 |false=>unfold opW at h;cases h
theorem Ur(h:∀c l,w=c::l->c.toNat≠111):w≠[111,118,101,114]:=λe=>h _ _ e rfl
abbrev Lo_:=HH
def legOut(a:Lg_):Lo_:=((a.1.1,(a.1.2.1,a.1.2.2.1),a.1.2.2.2,a.2.1.1),(a.2.1.2,a.2.2.1),a.2.2.2,0,0)
theorem Adm{a:Lg_}(h0:o126 a=some 0)(hi:inLg a):o168 (jb (legWs a))=some (legOut a):=by
 have h:=LG h0;have hz:=Gr h hi;have hb:=DU (legWs a);have hwd:=LH h hi;obtain⟨⟨⟨t,fx,nv⟩,tu,ov,cr⟩,⟨di,rh,th⟩,w,sp,rn⟩:=a;have hty:=h.ty;have hfx:=h.fx;have hfx0:=h.fx0;have hnv:=h.nv;have hnv0:=h.nv0;have htu:=h.tu;have htu0:=h.tu0;have hcr:=h.cr;have hcr0:=h.cr0;have hdi:=h.di;have hdi0:=h.di0;have hrh:=h.rh;have hrh0:=h.rh0;have hth:=h.th;have hth0:=h.th0;have hwi:=h.wi;have hsp:=h.sp;have hrn:=h.rn;have hin1:=hi.1;have hin2:=hi.2;dsimp only at hty hfx hfx0 hnv hnv0 htu htu0 hcr hcr0 hdi hdi0 hrh hrh0 hth hth0 hwi hsp hrn hin1 hin2;refine BN ?_;unfold o168;have hws:legWs (((t,fx,nv),tu,ov,cr),(di,rh,th),w,sp,rn)=aJ gl1 t.toNat []::(opW (lbt t 1) fx++(opW (lbt t 2) (64::nv)++(opW (lbt t 4) (if tu=1 then[76]else[82])++(opW (lbt t 16) (crsW cr)++(opW (lbt t 32) (100::dstW di)++(opW (lbt t 64) (114::dstW rh)++(opW (lbt t 128) (116::crsW th)++(opW ov [111,118,101,114]++(opW (wDef w) (winW w)++(opW (sp !=(0:Int)) (115::plW sp.toNat)++(opW (rn !=(0:Int)) (110::dstW rn)++[]))))))))))):=by unfold legWs;simp only[aM,aD];rfl
 rw[NE _ 32];rw[hws]at hwd⊢;rw[AaG _ _ hwd,bdI];generalize hR:(opW (lbt t 1) fx++(opW (lbt t 2) (64::nv)++(opW (lbt t 4) (if tu=1 then[76]else[82])++(opW (lbt t 16) (crsW cr)++(opW (lbt t 32) (100::dstW di)++(opW (lbt t 64) (114::dstW rh)++(opW (lbt t 128) (116::crsW th)++(opW ov [111,118,101,114]++(opW (wDef w) (winW w)++(opW (sp !=(0:Int)) (115::plW sp.toNat)++(opW (rn !=(0:Int)) (110::dstW rn)++[])))))))))))=R;generalize(((jb (aJ gl1 t.toNat []::R)).length:Nat):Int)=len;have s0:∃st,RdW st R/\o221 (1,len,0) (aJ gl1 t.toNat []::R) ((((0:Int),([]:Bt),([]:Bt)),(0:Int),false,(0:Int)),((0:Int),(0:Int),(0:Int)),((-200000:Int),(6000000:Int)),(0:Int),(0:Int))=some (st,lgT t):=by unfold o221;rw[cndF (AL rfl),bdS (NW (st:=((aJ gl1 t.toNat []::R,1),len,0)) ⟨rfl,rfl⟩)];dsimp only;rw[aK,Aj,bdS (show o222 (aJ gl1 t.toNat []) (((0,[],[]),0,false,0),(0,0,0),(-200000,6000000),0,0)=some (true,lgT t)from AcW hty)];dsimp only;rw[aK,Aj];unfold o261;have hl:(aJ gl1 t.toNat []::R).length=R.length+1:=rfl;rw[gdT dt,gdT dt,bdI];exact⟨_,⟨by show cG (R.length+1-1) R=R;rw[Nat.add_sub_cancel,aV],rfl⟩,rfl⟩
 obtain⟨st0,r0,e0⟩:=s0;refine tB ⟨_,e0,rfl⟩ λv2 ev=>?_;rw[<-ev];clear ev e0;refine tG (dt (by show 0<=t/\t<18;omega)) ?_;rw[<-hR]at r0;obtain⟨st1,r1,e1⟩:=GV (F:=Ng) (λ_ _=>rfl) (X:=Int×Bt×Bt) (x:=(aJ gl0 t.toNat 0,[],[])) (a:=lgT t) (a':=(((t,fx,[]),0,false,0),(0,0,0),(-200000,6000000),0,0)) r0 (λe=>AcX (hfx e) _) (λe=>by rw[hfx0 e];rfl);refine tB ⟨_,e1,rfl⟩ λv4 ev=>?_;rw[<-ev];clear ev e1;obtain⟨st2,r2,e2⟩:=GV (F:=Nh) (λ_ _=>rfl) (X:=Int×Bt×Bt) (x:=(aJ gl0 t.toNat 0,[],[])) (a:=(((t,fx,[]),0,false,0),(0,0,0),(-200000,6000000),0,0)) (a':=(((t,fx,nv),0,false,0),(0,0,0),(-200000,6000000),0,0)) r1 (λe=>AcY (hnv e) hin2 _) (λe=>by rw[hnv0 e]);refine tB ⟨_,e2,rfl⟩ λv4 ev=>?_;rw[<-ev];clear ev e2;obtain⟨st3,r3,e3⟩:=GV (F:=Ni) (λ_ _=>rfl) (X:=Int×Bt×Bt) (x:=(aJ gl0 t.toNat 0,[],[])) (a:=(((t,fx,nv),0,false,0),(0,0,0),(-200000,6000000),0,0)) (a':=(((t,fx,nv),tu,false,0),(0,0,0),(-200000,6000000),0,0)) r2 (λe=>AcZ (htu e) _) (λe=>by rw[htu0 e]);refine tB ⟨_,e3,rfl⟩ λv4 ev=>?_;rw[<-ev];clear ev e3;obtain⟨st4,r4,e4⟩:=GV (F:=Nj) (λ_ _=>rfl) (X:=Int×Bt×Bt) (x:=(aJ gl0 t.toNat 0,[],[])) (a:=(((t,fx,nv),tu,false,0),(0,0,0),(-200000,6000000),0,0)) (a':=(((t,fx,nv),tu,false,cr),(0,0,0),(-200000,6000000),0,0)) r3 (λe=>Ada (hcr e) _) (λe=>by rw[hcr0 e]);refine tB ⟨_,e4,rfl⟩ λv4 ev=>?_;rw[<-ev];clear ev e4;obtain⟨st5,r5,e5⟩:=GV (F:=Nk) (λ_ _=>rfl) (X:=Int×Bt×Bt) (x:=(aJ gl0 t.toNat 0,[],[])) (a:=(((t,fx,nv),tu,false,cr),(0,0,0),(-200000,6000000),0,0)) (a':=(((t,fx,nv),tu,false,cr),(di,0,0),(-200000,6000000),0,0)) r4 (λe=>Adb (hdi e).1 (hdi e).2 _) (λe=>by rw[hdi0 e]);refine tB ⟨_,e5,rfl⟩ λv4 ev=>?_;rw[<-ev];clear ev e5;obtain⟨st6,r6,e6⟩:=GV (F:=Nl) (λ_ _=>rfl) (X:=Int×Bt×Bt) (x:=(aJ gl0 t.toNat 0,[],[])) (a:=(((t,fx,nv),tu,false,cr),(di,0,0),(-200000,6000000),0,0)) (a':=(((t,fx,nv),tu,false,cr),(di,rh,0),(-200000,6000000),0,0)) r5 (λe=>Adc (hrh e).1 (hrh e).2 _) (λe=>by rw[hrh0 e]);refine tB ⟨_,e6,rfl⟩ λv4 ev=>?_;rw[<-ev];clear ev e6;obtain⟨st7,r7,e7⟩:=GV (F:=Nn) (λ_ _=>rfl) (X:=Bt×Bt) (x:=([],[])) (a:=(((t,fx,nv),tu,false,cr),(di,rh,0),(-200000,6000000),0,0)) (a':=(((t,fx,nv),tu,false,cr),(di,rh,th),(-200000,6000000),0,0)) r6 (λe=>Add (hth e) _) (λe=>by rw[hth0 e]);refine tB ⟨_,e7,rfl⟩ λv4 ev=>?_;rw[<-ev];clear ev e7;have rest3:∀x∈(opW (rn !=(0:Int)) (110::dstW rn)++[]),ltW x/\∃l,x=110::l:=λx hx=>by rw[aD]at hx;obtain⟨_,rfl⟩:=NX hx;exact⟨Aln (JN hrn),_,rfl⟩
 have rest2:∀x∈(opW (sp !=(0:Int)) (115::plW sp.toNat)++(opW (rn !=(0:Int)) (110::dstW rn)++[])),ltW x/\∃c l,x=c::l/\c.toNat≠111:=λx hx=>by
  rcases aL.1 hx with hx|hx
  ·obtain⟨_,rfl⟩:=NX hx;exact⟨Alm (by omega),_,_,rfl,by decide⟩
  ·obtain⟨g,l,rfl⟩:=rest3 x hx;exact⟨g,_,_,rfl,by decide⟩
 have rest1:∀x∈(opW (wDef w) (winW w)++(opW (sp !=(0:Int)) (115::plW sp.toNat)++(opW (rn !=(0:Int)) (110::dstW rn)++[]))),x≠[111,118,101,114]:=λx hx=>by
  rcases aL.1 hx with hx|hx
  ·obtain⟨_,rfl⟩:=NX hx;exact Ur λc l e=>by have:=AaI w c (by rw[e];exact aU);omega
  ·obtain⟨_,c,l,e,hc⟩:=rest2 x hx;exact Ur λc' l' e'=>by rw[e]at e';injection e' with e';rw[<-e'];exact hc
 have e234:∃st,RdW st []/\o234 st7 (((t,fx,nv),tu,false,cr),(di,rh,th),(-200000,6000000),0,0)=some (st,(((t,fx,nv),tu,ov,cr),(di,rh,th),w,sp,rn)):=by
  unfold o234;obtain⟨st8,r8,e8⟩:=Uo (F:=o264) (C:=o265) (λ_ _=>rfl) (a:=(((t,fx,nv),tu,false,cr),(di,rh,th),(-200000,6000000),0,0)) (a':=(((t,fx,nv),tu,ov,cr),(di,rh,th),(-200000,6000000),0,0)) r7 (λe=>by rw[e];exact Ade _) (λe=>by rw[e]) (λx hx=>Adf (rest1 x hx) rfl);rw[bdS e8];dsimp only;have hw:wDef w=false->w=(-200000,6000000):=λe=>by
   unfold wDef at e;obtain⟨w1,w2⟩:=w;dsimp only at e;cases e1:(w1 !=-200000)with
   |true=>rw[e1,cond_true]at e;cases e
   |false=>rw[e1,cond_false]at e;rw[nF e1,nF e]
  obtain⟨st9,r9,e9⟩:=Uo (F:=Np) (C:=o266) (λ_ _=>rfl) (a:=(((t,fx,nv),tu,ov,cr),(di,rh,th),(-200000,6000000),0,0)) (a':=(((t,fx,nv),tu,ov,cr),(di,rh,th),w,0,0)) r8 (λe=>Adg hwi e _) (λe=>by rw[hw e]) (λx hx=>Adh (rest2 x hx).1 _);rw[bdS e9];dsimp only;obtain⟨st10,r10,e10⟩:=Uo (F:=Nq) (C:=o268) (λ_ _=>rfl) (a:=(((t,fx,nv),tu,ov,cr),(di,rh,th),w,0,0)) (a':=(((t,fx,nv),tu,ov,cr),(di,rh,th),w,sp,0)) r9 (λe=>by
   have e:=nT e;rw[Adj (n:=sp.toNat) (by omega),show((sp.toNat:Nat):Int)=sp by omega]) (λe=>by rw[nF e]) (λx hx=>by
   obtain⟨_,l,rfl⟩:=rest3 x hx;exact Adk (by decide) _)
  rw[bdS e10];dsimp only;obtain⟨st11,r11,e11⟩:=Uo (F:=Nr) (C:=o270) (λ_ _=>rfl) (a:=(((t,fx,nv),tu,ov,cr),(di,rh,th),w,sp,0)) (a':=(((t,fx,nv),tu,ov,cr),(di,rh,th),w,sp,rn)) r10 (λe=>Adl (JN hrn) (nT e) _) (λe=>by rw[nF e]) (λx hx=>by cases hx);rw[bdS e11];exact⟨st11,r11,rfl⟩
 obtain⟨st,r,e⟩:=e234;refine tB ⟨_,e,rfl⟩ λv17 ev=>?_;rw[<-ev];clear ev e;dsimp only;rw[bdS (AaF r)];dsimp only;rw[Aj,bdI];dsimp only;rw[Aj,bdI];dsimp only;rw[cndF (AL r.2),bdS h0,cndF (AL rfl)];exact tS rfl
theorem loopVn{σ ρ:Type}{B:σ->Option (Ctl σ ρ)}{r:ρ}(I:σ->Prop)(hs:∀s s',I s->B s=some (.go s')->I s'):∀(n:Nat)(s:σ),I s->loopO n B s=some r->∃s,I s/\B s=some (.done r)
 |n,s,h0,h=>by
  obtain⟨m,c,rfl,hc,hg,hd⟩:=Sw h;cases c with
  |go t=>exact loopVn I hs m t (hs s t h0 hc) (hg t rfl)
  |done v=>exact⟨s,h0,by rw[hc,hd v rfl]⟩
theorem loopV{σ ρ:Type}{B:σ->Option (Ctl σ ρ)}{s0:σ}{r:ρ}(h:loopO fuelN B s0=some r)(I:σ->Prop)(h0:I s0)(hs:∀s s',I s->B s=some (.go s')->I s'):∃s,I s/\B s=some (.done r):=loopVn I hs fuelN s0 h0 h
theorem dnG{x:Option β}{t:α}(h:dnO x=some (Ctl.go t)):False:=by
 cases x with
 |none=>cases h
 |some v=>cases h
theorem goV{s t:α}(h:(some (Ctl.go s):Option (Ctl α β))=some (Ctl.go t)):s=t:=by cases h;rfl
theorem goD{s:α}{r:β}(h:(some (Ctl.go s):Option (Ctl α β))=some (Ctl.done r)):False:=by cases h
def PtOk(n j:Nat)(p:Pt_):Prop:=RfP p.1/\(j+1=n->p.2.1=(-200000,6000000)/\p.2.2=0)/\(j+1≠n->winR p.2.1.1 p.2.1.2/\p.2.2<=2)
structure AirF(a:AQ):Prop where
 n8:o130 a.1 8=some true
 nm:Nm a.1/\a.1.length<=8
 ln:2<=a.2.length/\a.2.length<=40
 pt:∀(j:Nat)(h:j<a.2.length),PtOk a.2.length j a.2[j]
theorem Agj(hj:j<a.2.length)(hl:a.2.length<=1000)(h:o135 a (j:Int)=some 0):PtOk a.2.length j a.2[j]:=by
 unfold o135 at h;obtain⟨_,h⟩:=gdV h;rw[aH,Ad hj,bdI]at h;generalize a.2[j]=p at h⊢;obtain⟨v2,e2,h⟩:=bdV h;rcases cnV h with⟨_,h⟩|⟨g2,h⟩
 ·exact absurd h (by decide)
 obtain⟨v3,e3,h⟩:=bdV h;rcases cnV h with⟨_,h⟩|⟨g3,h⟩
 ·exact absurd h (by decide)
 refine⟨⟨v2,e2,nF g2⟩,λhn=>?_,λhn=>?_⟩
 ·rcases cnV h with⟨_,h⟩|⟨g,h⟩
  ·obtain⟨v6,e6,h⟩:=bdV h;rcases cnV h with⟨_,h⟩|⟨g6,h⟩
   ·exact absurd h (by decide)
   obtain⟨_,_,e6⟩:=bdV e6;rcases cnV e6 with⟨_,e⟩|⟨g7,e⟩
   ·rw[<-smV e]at g6;cases g6
   ·have e:=smV e;rw[g6]at e;have g7:=notF g7;rw[Bool.and_eq_true]at g7;have k1:=eT g7.1;have k2:=eT g7.2;exact⟨Prod.ext k1 k2,nF e⟩
  ·exfalso;have g:=eF g;rw[Ac]at g;omega
 ·rcases cnV h with⟨g,h⟩|⟨_,h⟩
  ·exfalso;have g:=eT g;rw[Ac]at g;omega
  ·obtain⟨v7,e7,h⟩:=bdV h;rcases cnV h with⟨_,h⟩|⟨g7,h⟩
   ·exact absurd h (by decide)
   rcases cnV h with⟨_,h⟩|⟨g8,h⟩
   ·exact absurd h (by decide)
   have g8:=dF g8;rcases cnV e7 with⟨_,e⟩|⟨k1,e⟩
   ·rw[<-smV e]at g7;cases g7
   rcases cnV e with⟨_,e⟩|⟨k2,e⟩
   ·rw[<-smV e]at g7;cases g7
   have e:=smV e;rw[<-e]at g7 g8;dsimp only at g7 g8;have k1:=dF k1;have k2:=dF k2;have g7:=dF g7;unfold winR;exact⟨by omega,by omega⟩
theorem Alo(ha:P47 a.1)(h:o70 a=some 0):AirF a:=by
 unfold o70 at h;obtain⟨v1,e1,h⟩:=bdV h;rcases cnV h with⟨_,h⟩|⟨g1,h⟩
 ·exact absurd h (by decide)
 rcases cnV h with⟨_,h⟩|⟨g2,h⟩
 ·exact absurd h (by decide)
 rcases cnV h with⟨_,h⟩|⟨g3,h⟩
 ·exact absurd h (by decide)
 have g2:=dF g2;have g3:=dF g3;have nm:=CF (Ek a.1 8 ha) e1 (notF g1);obtain⟨s,⟨i,rfl,hi,hj⟩,hd⟩:=loopV h (λs=>∃i:Nat,s=(((a.2.length:Nat):Int),(i:Int),a)/\i<=a.2.length/\∀j:Nat,j<i->o135 a (j:Int)=some 0) ⟨0,rfl,by omega,λj h=>by omega⟩ (by
  rintro _ s' ⟨i,rfl,hi,hj⟩ hg;dsimp only at hg;rcases cnV hg with⟨k,hg⟩|⟨_,hg⟩
  ·have k:=dT k;obtain⟨v,ev,hg⟩:=bdV hg;rcases cnV hg with⟨_,hg⟩|⟨k0,hg⟩
   ·exact absurd hg λh=>dnG h
   ·have:=goV hg;subst this;rw[Ac];refine⟨i+1,by rw[show(i:Int)+1=((i+1:Nat):Int) by omega],by omega,λj hji=>?_⟩
    by_cases e:j=i
    ·subst e;rw[ev,nF k0]
    ·exact hj j (by omega)
  ·exact absurd hg λh=>dnG h)
 dsimp only at hd;rcases cnV hd with⟨k,hd⟩|⟨k,hd⟩
 ·obtain⟨v,ev,hd⟩:=bdV hd;rcases cnV hd with⟨k0,hd⟩|⟨_,hd⟩
  ·exact absurd (dnV hd) (nT k0)
  ·exact absurd hd λh=>goD h
 ·have k:=dF k;exact⟨by rw[e1,notF g1],⟨nm.1,by omega⟩,by omega,λj hjl=>Agj hjl (by omega) (hj j (by omega))⟩
def lgr(g:Bw):Lg_:=(((g.1,g.2.1,g.2.2.1),g.2.2.2.1,g.2.2.2.2.1,g.2.2.2.2.2.1),(g.2.2.2.2.2.2.1,g.2.2.2.2.2.2.2.1,g.2.2.2.2.2.2.2.2.1),g.2.2.2.2.2.2.2.2.2)
structure PaOk(x:Bh):Prop where
 kd:1<=x.1/\x.1<=4
 nm:(x.1=1\/x.1=3)->Nm x.2.1/\x.2.1.length<=8
 n8:(x.1=1\/x.1=3)->o130 x.2.1 8=some true
 nn:¬(x.1=1\/x.1=3)->x.2.1=[]
 ln:x.2.2≠[]/\x.2.2.length<=24
 lg:∀g∈x.2.2,o126 (lgr g)=some 0
theorem Agk{l:Bt}{v:Int}(h:o196 l k=some v)(h0:0<=v):∃b∈l,k=(b.toNat:Int):=by
 unfold o196 at h;obtain⟨s,hI,hd⟩:=loopV h (λs=>s.1=(l,k)) rfl (by
  intro s s' hI hg;rcases cnV hg with⟨_,hg⟩|⟨_,hg⟩
  ·obtain⟨_,hg⟩:=gdV hg;rcases cnV hg with⟨_,hg⟩|⟨_,hg⟩
   ·exact absurd hg λh=>dnG h
   ·rw[<-goV hg];exact hI
  ·exact absurd hg λh=>dnG h)
 rcases cnV hd with⟨_,hd⟩|⟨_,hd⟩
 ·obtain⟨g,hd⟩:=gdV hd;rcases cnV hd with⟨e,_⟩|⟨_,hd⟩
  ·have e:=eT e;have g:=dT g;rw[hI]at e g;dsimp only at e g;obtain⟨i,hi⟩:∃i:Nat,s.2.2=(i:Int):=⟨s.2.2.toNat,by omega⟩
   rw[hi,aH]at e;have hil:i<l.length:=by omega
   rw[Ad hil]at e;exact⟨_,aG hil,e⟩
  ·exact absurd hd λh=>goD h
 ·have:=dnV hd;omega
theorem AaJ{w:Unit ⊕ Bt}(h:o136 k=some w):(∀l,w= .inr l->(k=1\/k=2\/k=3)/\∀b∈l,1<=b.toNat/\b.toNat<=4):=by
 intro l hw;subst hw;unfold o136 at h;rcases cnV h with⟨e,h⟩|⟨_,h⟩
 ·have h:=smV h;injection h with h;subst h;exact⟨Or.inl (eT e),by decide⟩
 rcases cnV h with⟨e,h⟩|⟨_,h⟩
 ·have h:=smV h;injection h with h;subst h;exact⟨Or.inr (Or.inl (eT e)),by decide⟩
 rcases cnV h with⟨e,h⟩|⟨_,h⟩
 ·have h:=smV h;injection h with h;subst h;exact⟨Or.inr (Or.inr (eT e)),by decide⟩
 ·cases h
theorem Agl{p:Aw}(hi:i<p.2.2.length)(hp:∀x∈p.2.2,P47 x.2.1/\x.2.2.length<=2000)(h:o137 p (i:Int)=some 0):PaOk p.2.2[i]:=by
 have hpi:=hp _ (aG hi);unfold o137 at h;obtain⟨v4,e4,h⟩:=bdV h;have f4:v4.1=(i:Int)/\v4.2.1=p/\∀b∈v4.2.2,1<=b.toNat/\b.toNat<=4:=by
  obtain⟨w,ew,e4⟩:=bdV e4;cases w with
  |inl u=>cases e4;exact⟨rfl,rfl,λb hb=>by cases hb⟩
  |inr l=>cases e4;exact⟨rfl,rfl,((AaJ ew) l rfl).2⟩
 obtain⟨e1,e2,hb⟩:=f4;rw[e1,e2]at h;obtain⟨_,h⟩:=gdV h;rw[aH,Ad hi,bdI]at h;generalize p.2.2[i]=x at h hpi⊢;obtain⟨v6,e6,h⟩:=bdV h;rcases cnV h with⟨_,h⟩|⟨g6,h⟩
 ·exact absurd h (by decide)
 have g6:=dF g6;obtain⟨b,hbm,ek⟩:=Agk e6 (by omega);have kd:=hb b hbm;rcases jdV h with⟨t,et,h⟩|et;case inr=>
  exfalso;rcases cnV et with⟨_,et⟩|⟨_,et⟩
  ·obtain⟨_,et⟩:=gdV et;obtain⟨v7,_,et⟩:=bdV et;obtain⟨v8,_,et⟩:=bdV et;obtain⟨v9,e9,et⟩:=bdV et;rcases cnV et with⟨_,et⟩|⟨_,et⟩
   ·exact absurd (dnV et) (by decide)
   obtain⟨v10,e10,et⟩:=bdV et;rcases cnV et with⟨_,et⟩|⟨_,et⟩
   ·exact absurd (dnV et) (by decide)
   ·exact goD et
  ·exact goD et
 have et:t.2=x:=by
  rcases cnV et with⟨_,et⟩|⟨_,et⟩
  ·obtain⟨_,et⟩:=gdV et;obtain⟨v7,_,et⟩:=bdV et;obtain⟨v8,_,et⟩:=bdV et;obtain⟨v9,e9,et⟩:=bdV et;have e9:v9.2.2.1=x:=by
    rcases cnV e9 with⟨_,e⟩|⟨_,e⟩
    ·rw[<-smV e]
    rcases cnV e with⟨_,e⟩|⟨_,e⟩<;>rw[<-smV e]
   rcases cnV et with⟨_,et⟩|⟨_,et⟩
   ·exact absurd et λh=>dnG h
   obtain⟨v10,e10,et⟩:=bdV et;have e10:v10.2.2=x:=by rcases cnV e10 with⟨_,e⟩|⟨_,e⟩<;>(rw[<-smV e];exact e9)
   rcases cnV et with⟨_,et⟩|⟨_,et⟩
   ·exact absurd et λh=>dnG h
   ·rw[<-goV et];exact e10
  ·rw[<-goV et]
 obtain⟨v12,e12,h⟩:=bdV h;have f12:v12.2=t/\(v12.1=true↔x.1=1\/x.1=3):=by
  rw[<-et];rcases cnV e12 with⟨k,e⟩|⟨k,e⟩
  ·rw[<-smV e];exact⟨rfl,λ_=>Or.inl (eT k),λ_=>rfl⟩
  ·rw[<-smV e];have k:=eF k;refine⟨rfl,λh=>Or.inr (eT h),λh=>?_⟩
   rcases h with h|h
   ·exact absurd h k
   ·exact Ba h
 obtain⟨v14,e14,h⟩:=bdV h;rcases cnV h with⟨_,h⟩|⟨g14,h⟩
 ·exact absurd h (by decide)
 have f14:v14.2=t/\((x.1=1\/x.1=3)->Nm x.2.1/\x.2.1.length<=8)/\((x.1=1\/x.1=3)->o130 x.2.1 8=some true)/\(¬(x.1=1\/x.1=3)->x.2.1=[]):=by
  rw[f12.1,et]at e14;rcases cnV e14 with⟨k,e⟩|⟨k,e⟩
  ·obtain⟨v13,e13,e⟩:=bdV e;have hk:=f12.2.1 k;rcases cnV e with⟨_,e⟩|⟨k2,e⟩
   ·rw[<-smV e]at g14;cases g14
   have nm:=CF (Ek x.2.1 8 hpi.1) e13 (notF k2);rcases cnV e with⟨k3,e⟩|⟨_,e⟩
   ·rw[k]at k3;cases k3
   ·rw[<-smV e];exact⟨rfl,λ_=>⟨nm.1,by omega⟩,λ_=>(by rw[e13,notF k2]),λh=>absurd hk h⟩
  ·have hk:¬(x.1=1\/x.1=3):=λh=>by have:=f12.2.2 h;rw[k]at this;cases this
   rcases cnV e with⟨_,e⟩|⟨k3,e⟩
   ·rw[<-smV e]at g14;exact⟨by rw[<-smV e],λh=>absurd h hk,λh=>absurd h hk,λ_=>sT (notF g14)⟩
   ·rw[k]at k3;cases k3
 obtain⟨et14,nm,n8,nn⟩:=f14;rw[et14,et]at h;rcases cnV h with⟨_,h⟩|⟨g15,h⟩
 ·exact absurd h (by decide)
 rcases cnV h with⟨_,h⟩|⟨g16,h⟩
 ·exact absurd h (by decide)
 have g15:=eF g15;have g16:=dF g16;refine⟨⟨by omega,by omega⟩,nm,n8,nn,⟨λe=>g15 (by rw[e];rfl),by omega⟩,?_⟩
 have hl2:=hpi.2;obtain⟨s,⟨j,hs1,hs2,hj,hall⟩,hd⟩:=loopV h (λs=>∃j:Nat,s.1=(x.2.2,((x.2.2.length:Nat):Int))/\s.2.1=(j:Int)/\j<=x.2.2.length/\∀k(hk:k<x.2.2.length),k<j->o126 (lgr x.2.2[k])=some 0) ⟨0,rfl,rfl,by omega,λk _ h=>by omega⟩ (by
  rintro s s' ⟨j,hs1,hs2,hj,hall⟩ hg;rcases cnV hg with⟨k,hg⟩|⟨_,hg⟩
  ·have k:=dT k;rw[hs1,hs2]at k;dsimp only at k;have hjl:j<x.2.2.length:=by omega
   obtain⟨_,hg⟩:=gdV hg;rw[hs1,hs2,aH]at hg;dsimp only at hg;rw[Ad hjl,bdI]at hg;obtain⟨v18,e18,hg⟩:=bdV hg;rcases cnV hg with⟨_,hg⟩|⟨k0,hg⟩
   ·exact absurd hg λh=>dnG h
   have e18:o126 (lgr x.2.2[j])=some 0:=by rw[<-nF k0];exact e18
   obtain⟨v29,e29,hg⟩:=bdV hg;rcases cnV hg with⟨_,hg⟩|⟨_,hg⟩
   ·exact absurd hg λh=>dnG h
   have f29:v29.1=(x.2.2,((x.2.2.length:Nat):Int),(j:Int)):=by
    rcases cnV e29 with⟨_,e⟩|⟨_,e⟩
    ·obtain⟨_,_,e⟩:=bdV e;rcases cnV e with⟨_,e⟩|⟨_,e⟩
     ·rw[<-smV e]
     rcases cnV e with⟨_,e⟩|⟨_,e⟩
     ·obtain⟨_,e⟩:=gdV e;obtain⟨_,_,e⟩:=bdV e;obtain⟨_,_,e⟩:=bdV e;rw[<-smV e]
     ·rw[<-smV e]
    ·rcases cnV e with⟨_,e⟩|⟨_,e⟩
     ·obtain⟨_,e⟩:=gdV e;obtain⟨_,_,e⟩:=bdV e;obtain⟨_,_,e⟩:=bdV e;rw[<-smV e]
     ·rw[<-smV e]
   have:=goV hg;subst this;rw[f29];dsimp only;rw[Ac];refine⟨j+1,rfl,by omega,by omega,λk hk hkj=>?_⟩
   by_cases e:k=j
   ·subst e;exact e18
   ·exact hall k hk (by omega)
  ·exact absurd hg λh=>dnG h)
 rcases cnV hd with⟨k,hd⟩|⟨k,hd⟩
 ·exfalso;obtain⟨_,hd⟩:=gdV hd;obtain⟨v17,_,hd⟩:=bdV hd;obtain⟨v18,e18,hd⟩:=bdV hd;rcases cnV hd with⟨k0,hd⟩|⟨_,hd⟩
  ·exact absurd (dnV hd) (nT k0)
  obtain⟨v29,e29,hd⟩:=bdV hd;rcases cnV hd with⟨_,hd⟩|⟨_,hd⟩
  ·exact absurd (dnV hd) (by decide)
  ·exact goD hd
 ·have k:=dF k;rw[hs1,hs2]at k;dsimp only at k;intro g hg;obtain⟨m,hm,rfl⟩:=bE hg;exact hall m hm (by omega)
structure PrOk(p:Aw):Prop where
 a6:o130 p.1.1 6=some true
 n8:o130 p.1.2 8=some true
 ap:Nm p.1.1/\p.1.1.length<=6
 nm:Nm p.1.2/\p.1.2.length<=8
 kd:p.2.1=1\/p.2.1=2\/p.2.1=3
 ln:p.2.2.length<=12
 pa:∀x∈p.2.2,PaOk x
theorem Alp{p:Aw}(hq:inQ p)(h:o71 p=some 0):PrOk p:=by
 unfold o71 at h;obtain⟨v3,e3,h⟩:=bdV h;rcases cnV h with⟨_,h⟩|⟨g3,h⟩
 ·exact absurd h (by decide)
 have f3:v3.2=p/\o130 p.1.1 6=some true/\o130 p.1.2 8=some true/\(Nm p.1.1/\p.1.1.length<=6)/\(Nm p.1.2/\p.1.2.length<=8):=by
  obtain⟨v1,e1,e3⟩:=bdV e3;rcases cnV e3 with⟨_,e⟩|⟨k1,e⟩
  ·rw[<-smV e]at g3;cases g3
  obtain⟨v2,e2,e⟩:=bdV e;rw[<-smV e]at g3⊢;have n1:=CF (Ek p.1.1 6 hq.1.1) e1 (notF k1);have n2:=CF (Ek p.1.2 8 hq.1.2) e2 (notF g3);exact⟨rfl,(by rw[e1,notF k1]),(by rw[e2,notF g3]),⟨n1.1,by omega⟩,n2.1,by omega⟩
 obtain⟨ep,a6,n8,ap,nm⟩:=f3;rw[ep]at h;obtain⟨v7,e7,h⟩:=bdV h;rcases cnV h with⟨_,h⟩|⟨g7,h⟩
 ·exact absurd h (by decide)
 have f7:v7.2=p/\(p.2.1=1\/p.2.1=2\/p.2.1=3):=by
  obtain⟨w,ew,e7⟩:=bdV e7;cases w with
  |inl u=>
   have e7:some (true,p)=some v7:=e7;rw[<-smV e7]at g7;cases g7
  |inr l=>
   obtain⟨_,e7⟩:=gdV (show gd _ _=some v7 from e7);rw[<-smV e7];exact⟨rfl,((AaJ ew) l rfl).1⟩
 rw[f7.1]at h;rcases cnV h with⟨_,h⟩|⟨g8,h⟩
 ·exact absurd h (by decide)
 have g8:=dF g8;refine⟨a6,n8,ap,nm,f7.2,by omega,?_⟩
 have hp:∀x∈p.2.2,P47 x.2.1/\x.2.2.length<=2000:=λx hx=>⟨(hq.2.2 x hx).1,(hq.2.2 x hx).2.1⟩
 obtain⟨s,⟨j,rfl,hj,hall⟩,hd⟩:=loopV h (λs=>∃j:Nat,s=(((p.2.2.length:Nat):Int),(j:Int),p)/\j<=p.2.2.length/\∀k(hk:k<p.2.2.length),k<j->PaOk p.2.2[k]) ⟨0,rfl,by omega,λk _ h=>by omega⟩ (by
  rintro _ s' ⟨j,rfl,hj,hall⟩ hg;dsimp only at hg;rcases cnV hg with⟨k,hg⟩|⟨_,hg⟩
  ·have k:=dT k;have hjl:j<p.2.2.length:=by omega
   obtain⟨v10,e10,hg⟩:=bdV hg;rcases cnV hg with⟨_,hg⟩|⟨k0,hg⟩
   ·exact absurd hg λh=>dnG h
   rw[nF k0]at e10;have:=goV hg;subst this;rw[Ac];refine⟨j+1,rfl,by omega,λk hk hkj=>?_⟩
   by_cases e:k=j
   ·subst e;exact Agl hk hp e10
   ·exact hall k hk (by omega)
  ·exact absurd hg λh=>dnG h)
 dsimp only at hd;rcases cnV hd with⟨k,hd⟩|⟨k,hd⟩
 ·exfalso;obtain⟨v10,e10,hd⟩:=bdV hd;rcases cnV hd with⟨k0,hd⟩|⟨_,hd⟩
  ·exact absurd (dnV hd) (nT k0)
  ·exact goD hd
 ·have k:=dF k;intro x hx;obtain⟨m,hm,rfl⟩:=bE hx;exact hall m hm (by omega)
abbrev Line:=List Bt
variable{ws:Line}
def kindL:List Bt:=[wdWP,wdVOR,wdDME,wdNDB,wdAPT,wdRWY]
def kindW(k:Int):Bt:=kindL.getD (k-1).toNat []
def b56(k:Int):Bool:=decide (k=5\/k=6)
def b234(k:Int):Bool:=decide (k=2\/k=3\/k=4)
def hdLn(h:Az):Line:=[wdDB,h.1.1,cycW h.1.2.1,posW h.2.2.1 h.2.2.2]
def fxLn(f:Be):Line:=([kindW f.2.2.1,f.1,f.2.1,posW f.2.2.2.1.1 f.2.2.2.1.2]++opW (b56 f.2.2.1) (altW f.2.2.2.2.1))++opW (b234 f.2.2.1) (dstW f.2.2.2.2.2)
def dirL:List Bt:=[[66,79,84,72],[70,79,82,87,65,82,68],[66,65,67,75,87,65,82,68]]
def dirW(k:Int):Bt:=dirL.getD k.toNat []
def viaLn(n j:Nat)(p:Pt_):Line:=[wdVIA,p.1]++cond (decide (j+1<n)) [winW p.2.1,dirW p.2.2] []
def viaLs(a:AQ)(j:Nat):List Line:=(List.range j).map λi=>viaLn a.2.length i (a.2.getD i BC)
def aiLns(a:AQ):List Line:=[wdAWY,a.1]::viaLs a a.2.length
def paLn(x:Bh):Line:=if x.1=1 then[wdPART,wdRWY,x.2.1]else if x.1=2 then[wdPART,[67,79,77,77,79,78]]else if x.1=3 then[wdPART,[69,78,82,79,85,84,69],x.2.1]else[wdPART,[77,73,83,83,69,68]]
def lgLn(g:Bw):Line:=wdLEG::legWs (lgr g)
def paLns(x:Bh):List Line:=paLn x::x.2.2.map lgLn
def prLn(p:AA):Line:=[pw p.2.2.1,p.1,p.2.1]
def prLns(p:AA):List Line:=prLn p::p.2.2.2.flatMap paLns
def dbLns(h:Az)(F:List Be)(A:List AQ)(P:List AA):List Line:=((hdLn h::F.map fxLn)++A.flatMap aiLns)++P.flatMap prLns
def lnOk(l:Line):Prop:=l≠[]/\(∀w∈l,Wd w)/\wsz l<=150
theorem lnOk.ok{l:Line}(h:lnOk l):okLine l:=⟨h.1,h.2.1,by have:=DU l;have:=h.2.2;omega⟩
theorem Dr:∀a b:List Line,txtL (a++b)=txtL a++txtL b
 | [],b=>rfl
 |l::a,b=>by show jb l++10::txtL (a++b)=(jb l++10::txtL a)++txtL b;rw[Dr a b];simp
theorem EE(l:Line):txtL [l]=jb l++[10]:=rfl
theorem Ia:∀(ls:List Line),(∀l∈ls,lnOk l)->(txtL ls).length<=151*ls.length
 | [],_=>bI _
 |l::ls,h=>by have h1:=h l aU;have h2:=Ia ls λx hx=>h x (bG _ hx);have h3:=DU l;have h4:=h1.2.2;show(jb l++10::txtL ls).length<=_;rw[aC,aE,aE];omega
theorem Us:∀(a:Line)(w:Bt),a≠[]->jb (a++[w])=jb a++([32]++w)
 | [],w,h=>absurd rfl h
 | [x],w,_=>by simp[jb,jnS,jnT]
 |x::y::a,w,_=>by
  have:=Us (y::a) w (by simp);show x++32::jb ((y::a)++[w])=(x++32::jb (y::a))++([32]++w)
  rw[this];simp
theorem AaK(x:Bt):jb [x]=x:=aD x
theorem AdN{a:Line}(ha:a≠[])(b:Bool)(w:Bt):jb (a++opW b w)=jb a++cond b ([32]++w) []:=by
 cases b with
 |true=>exact Us a w ha
 |false=>unfold opW;rw[cond_false,cond_false,aD,aD]
theorem GX(h:1<=k/\k<=6):k=1\/k=2\/k=3\/k=4\/k=5\/k=6:=by omega
theorem QB(h:1<=k/\k<=6):Wd (kindW k)/\(kindW k).length<=8:=by rcases GX h with rfl|rfl|rfl|rfl|rfl|rfl<;>exact⟨⟨by decide,by decide⟩,by decide⟩
theorem AaL(h:0<=k/\k<=2):Wd (dirW k)/\(dirW k).length<=8:=by
 have:k=0\/k=1\/k=2:=by omega
 rcases this with rfl|rfl|rfl<;>exact⟨⟨by decide,by decide⟩,by decide⟩
theorem JO(h:FixOk (gf f))(hb:b56 f.2.2.1=true):altR f.2.2.2.2.1:=h.2.2.2.2.1 (of_decide_eq_true hb)
theorem NY(h:FixOk (gf f))(hb:b234 f.2.2.1=true):dstR f.2.2.2.2.2/\f.2.2.2.2.2≠0:=by have:=h.2.2.2.2.2.2.1 (of_decide_eq_true hb);have this:1<=f.2.2.2.2.2/\f.2.2.2.2.2<=8000000:=this;exact⟨by unfold dstR;omega,by omega⟩
theorem Si(h:FixOk (gf f))(h1:P47 f.1)(h2:P47 f.2.1):(Nm f.1/\f.1.length<=6)/\(Nm f.2.1/\f.2.1.length<=6):=FixOk.fxT (f:=gf f) h h1 h2
theorem Ao{x:Bt}{l:Line}(h1:Wd x)(h2:∀w∈l,Wd w):∀w∈x::l,Wd w:=λw hw=>by
 rcases bA.1 hw with h|h
 ·subst h;exact h1
 ·exact h2 w h
theorem AZ:∀w∈([]:Line),Wd w:=λw h=>by cases h
theorem NZ(h:FixOk (gf f))(h1:P47 f.1)(h2:P47 f.2.1):lnOk (fxLn f):=by
 have hk:=QB (k:=f.2.2.1) h.1;have hn:=Si h h1 h2;have hp:=HR f.2.2.2.1.1 f.2.2.2.1.2;have q1:=CW (b:=b56 f.2.2.1) (w:=altW f.2.2.2.2.1) (k:=9) λe=>CH (JO h e);have q2:=CW (b:=b234 f.2.2.1) (w:=dstW f.2.2.2.2.2) (k:=9) λe=>Dq (NY h e).1;refine⟨by unfold fxLn;simp,?_,?_⟩
 ·unfold fxLn;exact AP (AP (Ao hk.1 (Ao hn.1.1.wd (Ao hn.2.1.wd (Ao (Ug _ _) AZ)))) (CX λe=>Gq _)) (CX λe=>JK _)
 ·unfold fxLn;simp only[JL,AX,CI];omega
theorem Agm(h:FixOk (gf f))(h1:P47 f.1)(h2:P47 f.2.1):o57 (gf f)=some (jb (fxLn f),0):=by
 obtain⟨r,er,hr⟩:=TS (gf f) h1 h2;rw[hr.2 h]at er;have hk:1<=f.2.2.1/\f.2.2.1<=6:=h.1;have hn:=Si h h1 h2;have hp:=HR f.2.2.2.1.1 f.2.2.2.1.2;have hkw:=QB hk;have epos:o56 (gf f).2.1=some (posW f.2.2.2.1.1 f.2.2.2.1.2,0):=Aax h.2.2.2.1;have hw:aQ .u8 ((gf f).1.2.2-1)=f.2.2.1-1:=by show aQ .u8 (f.2.2.1-1)=_;rw[bM];omega
 refine BN ?_;unfold o57;rw[bdS er,cndF (AL rfl),bdS epos];refine tB (P:=λv=>v=kindL) ⟨_,rfl,rfl⟩ λv5 e5=>?_;rw[e5,hw];clear e5;have hkl:kindL.length=6:=rfl;refine tG dt ?_;have e53:o53 ([kindL.getD (f.2.2.1-1).toNat [],(gf f).1.1,(gf f).1.2.1,posW f.2.2.2.1.1 f.2.2.2.1.2]:Line) [32]=some (jb [kindW f.2.2.1,f.1,f.2.1,posW f.2.2.2.1.1 f.2.2.2.1.2]):=LI (by show wsz [kindW f.2.2.1,f.1,f.2.1,posW f.2.2.2.1.1 f.2.2.2.1.2]<=1000000;simp only[AX,CI];omega)
 refine tB ⟨_,e53,rfl⟩ λv6 e6=>?_;have hz:wsz [kindW f.2.2.1,f.1,f.2.1,posW f.2.2.2.1.1 f.2.2.2.1.2]<=100:=by simp only[AX,CI];omega
 have hj:=DU [kindW f.2.2.1,f.1,f.2.1,posW f.2.2.2.1.1 f.2.2.2.1.2];rw[<-e6];clear e6 e53;have hL:jb (fxLn f)=(jb [kindW f.2.2.1,f.1,f.2.1,posW f.2.2.2.1.1 f.2.2.2.1.2]++cond (b56 f.2.2.1) ([32]++altW f.2.2.2.2.1) [])++cond (b234 f.2.2.1) ([32]++dstW f.2.2.2.2.2) []:=by unfold fxLn;rw[AdN (by simp),AdN (by simp)]
 rw[hL];generalize jb [kindW f.2.2.1,f.1,f.2.1,posW f.2.2.2.1.1 f.2.2.2.1.2]=t at hj⊢;refine tB (P:=λv=>v=(t++cond (b56 f.2.2.1) ([32]++altW f.2.2.2.2.1) [],gf f)) ?_ λv9 e9=>?_
 ·refine tB ⟨_,JB _,rfl⟩ λv7 e7=>?_;have e7:b56 f.2.2.1=v7:=e7;refine tC (λhb=>?_) λhb=>tS ?_
  ·have ha:=JO h (e7.trans hb);have hal:=CH ha;refine tB (P:=λv=>v=(altW f.2.2.2.2.1,(0:Int))) ⟨_,NO ha,rfl⟩ λv8 e8=>?_;rw[e8];refine tG (dt (by simp;omega)) (tG (dt (by simp;omega)) (tS ?_));rw[e7,hb,cond_true]
  ·rw[e7,hb,cond_false,aD]
 rw[e9];clear e9;have htl:(t++cond (b56 f.2.2.1) ([32]++altW f.2.2.2.2.1) []).length<=120:=by
  cases hb:b56 f.2.2.1 with
  |true=>have hal:=CH (JO h hb);simp;omega
  |false=>simp;omega
 generalize t++cond (b56 f.2.2.1) ([32]++altW f.2.2.2.2.1) []=u at htl⊢;refine tB ⟨_,JC _,rfl⟩ λv10 e10=>?_;have e10:b234 f.2.2.1=v10:=e10;refine tC (λhb=>?_) λhb=>tS ?_
 ·have ha:=(NY h (e10.trans hb)).1;have hal:=Dq ha;refine tB (P:=λv=>v=(dstW f.2.2.2.2.2,(0:Int))) ⟨_,NR ha,rfl⟩ λv8 e8=>?_;rw[e8];refine tG (dt (by simp;omega)) (tG (dt (by simp;omega)) (tS ?_));rw[e10,hb,cond_true]
 ·rw[e10,hb,cond_false,aD]
theorem Oa(hn:Nm h.1.1/\h.1.1.length<=8):lnOk (hdLn h):=by
 have hp:=HR h.2.2.1 h.2.2.2;have hc:(cycW h.1.2.1).length=4:=AJ 4 _;refine⟨by unfold hdLn;simp,?_,?_⟩
 ·unfold hdLn;exact Ao ⟨by decide,by decide⟩ (Ao hn.1.wd (Ao (AcI _) (Ao (Ug _ _) AZ)))
 ·unfold hdLn;simp only[AX,CI];have:wdDB.length=8:=rfl;omega
def AirG(a:AQ):Prop:=AirF a/\(∀p∈a.2,P47 p.1)/\∀p∈a.2,0<=p.2.2
theorem AaM(h:AirG a)(hj:j<a.2.length):lnOk (viaLn a.2.length j a.2[j]):=by
 have hp:=h.1.pt j hj;have h47:=h.2.1 _ (aG hj);have h0:=h.2.2 _ (aG hj);have hr:=hp.1.len h47;have hw:=(hp.1.rf' h47).wd;have h3:wdVIA.length=3:=rfl;have wv:Wd wdVIA:=⟨by decide,by decide⟩
 unfold viaLn;by_cases hn:j+1<a.2.length
 ·have hq:=hp.2.2 (by omega);have hd:=AaL (k:=a.2[j].2.2) ⟨h0,hq.2⟩;have hl:=LF hq.1;rw[dt hn,cond_true];refine⟨by simp,AP (Ao wv (Ao hw AZ)) (Ao (Uk _) (Ao hd.1 AZ)),?_⟩
  simp only[JL,AX,CI];omega
 ·rw[df hn,cond_false];refine⟨by simp,AP (Ao wv (Ao hw AZ)) AZ,?_⟩
  simp only[JL,AX,CI];omega
theorem QC(h:AirG a)(hj:j<=a.2.length):∀l∈viaLs a j,lnOk l:=by intro l hl;unfold viaLs at hl;obtain⟨i,hi,rfl⟩:=List.mem_map.1 hl;have hi:=List.mem_range.1 hi;have:=AaM h (j:=i) (by omega);rw[Ad (by omega)];exact this
theorem EF(a:AQ)(j:Nat):(viaLs a j).length=j:=by unfold viaLs;rw[bP,List.length_range]
theorem Sj(hj:j<a.2.length):viaLs a (j+1)=viaLs a j++[viaLn a.2.length j a.2[j]]:=by unfold viaLs;rw[List.range_succ,aZ,List.map_singleton,Ad hj]
theorem QD(h:AirG a):lnOk [wdAWY,a.1]:=by
 have h3:wdAWY.length=6:=rfl;have:=h.1.nm.2;refine⟨by simp,Ao ⟨by decide,by decide⟩ (Ao h.1.nm.1.wd AZ),?_⟩
 simp only[AX,CI];omega
theorem QE(h:AirG a):∀l∈aiLns a,lnOk l:=λl hl=>by
 rcases bA.1 hl with e|e
 ·subst e;exact QD h
 ·exact QC h (bI _) l e
theorem EG{x:Bt}(h:out.length+x.length<=1000000000):Jh x out=some (((x.length:Nat):Int),out++x):=by unfold Jh;rw[show KP out=some out from rfl,bdI,gdT dt]
theorem Agn(h0:o70 a=some 0)(h:AirG a):o58 a=some (txtL (aiLns a),0):=by
 have hn:=h.1.nm.2;have hln:=h.1.ln;unfold o58;rw[bdS h0,cndF (AL rfl),gdT (dt (by simp;omega)),gdT (dt (by simp;omega))];have e52:o52 ((([65,73,82,87,65,89,32]:Bt)++a.1)++([10]:Bt))=some ((((((([65,73,82,87,65,89,32]:Bt)++a.1)++([10]:Bt)).length:Nat):Int)),txtL [[wdAWY,a.1]]):=by
  unfold o52;rw[show o113=some ()from rfl,bdI,gdT (dt (by simp;omega))];have:(([65,73,82,87,65,89,32]:Bt)++a.1)++([10]:Bt)=txtL [[wdAWY,a.1]]:=by rw[EE];simp[jb,jnS,jnT,wdAWY]
  rw[this]
 rw[bdS e52];dsimp only;have hlen:∀j,j<=a.2.length->(txtL ([wdAWY,a.1]::viaLs a j)).length<=10000:=λj hj=>by
  have:=Ia ([wdAWY,a.1]::viaLs a j) λl hl=>by
   rcases bA.1 hl with e|e
   ·subst e;exact QD h
   ·exact QC h hj l e
  rw[aE,EF]at this;omega
 refine AN (n:=a.2.length) (λj=>((a.2,((a.2.length:Nat):Int)),(j:Int),a,txtL ([wdAWY,a.1]::viaLs a j))) rfl (λj hj=>?_) ?_
 ·have hp:=h.1.pt j hj;have h47:=h.2.1 _ (aG hj);have hk:=h.2.2 _ (aG hj);have hr:=hp.1.len h47;have hl:=hlen j (by omega);have hS:txtL ([wdAWY,a.1]::viaLs a (j+1))=txtL ([wdAWY,a.1]::viaLs a j)++(jb (viaLn a.2.length j a.2[j])++[10]):=by rw[Sj hj,show[wdAWY,a.1]::(viaLs a j++[viaLn a.2.length j a.2[j]])=([wdAWY,a.1]::viaLs a j)++[viaLn a.2.length j a.2[j]]from rfl,Dr,EE]
  dsimp only;rw[hS];generalize txtL ([wdAWY,a.1]::viaLs a j)=out at hl⊢;rw[cndT dt,gdT dt,aH,Ad hj,bdI];rw[gdT (dt (by simp;omega)),bdS (EG (by simp;omega))];dsimp only;rw[Ac (x:=((a.2.length:Nat):Int)-1)];by_cases hc:j+1<a.2.length
  ·have hq:=hp.2.2 (by omega);have hwl:=LF hq.1;have hd:=AaL (k:=a.2[j].2.2) ⟨hk,hq.2⟩;rw[cndT dt,bdS (NQ hq.1)];dsimp only;rw[gdT (dt (by simp;omega)),gdT (dt (by simp;omega)),show o125=some dirL from rfl,bdI];have hdl:dirL.length=3:=rfl;rw[gdT dt,show dirL.getD a.2[j].2.2.toNat []=dirW a.2[j].2.2 from rfl,gdT (dt (by simp;omega)),bdS (EG (by simp;omega)),bdI];dsimp only;rw[bdS (EG (by simp;omega))];dsimp only;rw[Ac];unfold viaLn;rw[dt hc,cond_true];congr 5;simp[jb,jnS,jnT,wdVIA]
  ·rw[cndF df,bdI];dsimp only;rw[bdS (EG (by simp;omega))];dsimp only;rw[Ac];unfold viaLn;rw[df hc,cond_false];congr 5;simp[jb,jnS,jnT,wdVIA]
 ·dsimp only;rw[cndF df];refine dnE ?_;have e62:∀t:Bt,t≠[]->o62 t=some t:=λt ht=>by
   cases t with
   |nil=>exact absurd rfl ht
   |cons b t=>rfl
  rw[bdS (e62 _ (by show jb [wdAWY,a.1]++10::_≠[];simp))];rfl
theorem Ago(h:PaOk x):o60 x=some (jb (paLn x)):=by
 unfold o60 paLn;by_cases h1:x.1=1
 ·have:=(h.nm (Or.inl h1)).2;rw[cndT (Ba h1),if_pos h1,gdT (dt (by simp;omega))];simp[jb,jnS,jnT,wdPART,wdRWY]
 rw[cndF (AU h1),if_neg h1];by_cases h2:x.1=2
 ·rw[cndT (Ba h2),if_pos h2];rfl
 rw[cndF (AU h2),if_neg h2];by_cases h3:x.1=3
 ·have:=(h.nm (Or.inr h3)).2;rw[cndT (Ba h3),if_pos h3,gdT (dt (by simp;omega))];simp[jb,jnS,jnT,wdPART]
 rw[cndF (AU h3),if_neg h3];rfl
theorem Ut(h:PaOk x):lnOk (paLn x):=by
 have wp:Wd wdPART:=⟨by decide,by decide⟩
 have lp:wdPART.length=4:=rfl;have lr:wdRWY.length=6:=rfl;unfold paLn;by_cases h1:x.1=1
 ·have:=h.nm (Or.inl h1);rw[if_pos h1];refine⟨by simp,Ao wp (Ao ⟨by decide,by decide⟩ (Ao this.1.wd AZ)),?_⟩
  simp only[AX,CI];omega
 rw[if_neg h1];by_cases h2:x.1=2
 ·rw[if_pos h2];exact⟨by simp,Ao wp (Ao ⟨by decide,by decide⟩ AZ),by decide⟩
 rw[if_neg h2];by_cases h3:x.1=3
 ·have:=h.nm (Or.inr h3);rw[if_pos h3];refine⟨by simp,Ao wp (Ao ⟨by decide,by decide⟩ (Ao this.1.wd AZ)),?_⟩
  simp only[AX,CI,aE,aN];omega
 rw[if_neg h3];exact⟨by simp,Ao wp (Ao ⟨by decide,by decide⟩ AZ),by decide⟩
theorem JP(h:o126 (lgr g)=some 0)(hi:P47 g.2.1/\P47 g.2.2.1):lnOk (lgLn g):=by
 have h1:=LG h;have h2:=Gr h1 hi;refine⟨by unfold lgLn;simp,Ao ⟨by decide,by decide⟩ (LH h1 hi),?_⟩
 unfold lgLn;rw[AX];have:wdLEG.length=3:=rfl;omega
def PaG(x:Bh):Prop:=PaOk x/\∀g∈x.2.2,P47 g.2.1/\P47 g.2.2.1
def PrG(p:AA):Prop:=PrOk (qp p)/\∀x∈p.2.2.2,PaG x
theorem QF(h:PaG x):∀l∈paLns x,lnOk l:=λl hl=>by
 rcases bA.1 hl with e|e
 ·subst e;exact Ut h.1
 ·obtain⟨g,hg,rfl⟩:=List.mem_map.1 e;exact JP (h.1.lg g hg) (h.2 g hg)
theorem Alq(h:k=1\/k=2\/k=3):Wd (pw k):=by rcases h with rfl|rfl|rfl<;>exact⟨by decide,by decide⟩
theorem Uu(h:PrG p):lnOk (prLn p):=by
 have h1:=h.1.ap;have h2:=h.1.nm;have h3:=Aak p.2.2.1;have h1:Nm p.1/\p.1.length<=6:=h1;have h2:Nm p.2.1/\p.2.1.length<=8:=h2;refine⟨by unfold prLn;simp,?_,?_⟩
 ·exact Ao (Alq h.1.kd) (Ao h1.1.wd (Ao h2.1.wd AZ))
 ·unfold prLn;simp only[AX,CI];omega
theorem QG(h:PrG p):∀l∈prLns p,lnOk l:=λl hl=>by
 rcases bA.1 hl with e|e
 ·subst e;exact Uu h
 ·obtain⟨x,hx,hl⟩:=bF.1 e;exact QF (h.2 x hx) l hl
theorem Ib(h:wsz ws<=1000)(ho:out.length<=100000000:=by omega):HM ws out=some (out++(jb ws++[10])):=by have:=DU ws;unfold HM;rw[bdS LI,bdS (EG (by omega))];dsimp only;unfold o54;rw[show KP (out++jb ws)=some (out++jb ws)from rfl,bdI,gdT (dt (by simp;omega)),bdI,aM];rfl
theorem Agp(h:wsz ws<=1000):o51 ws=some (jb ws++[10]):=by have:=DU ws;unfold o51;rw[bdS LI];unfold o52;rw[show o113=some ()from rfl,bdI,gdT dt,bdI];dsimp only;unfold o54;rw[show KP (jb ws)=some (jb ws)from rfl,bdI,gdT (dt (by simp;omega)),bdI];rfl
theorem DB{α β:Type}{f:α->List β}{k:Nat}:∀{l:List α},(∀x∈l,(f x).length<=k)->(l.flatMap f).length<=k*l.length
 | [],_=>bI _
 |x::l,h=>by have h1:=h x aU;have h2:=DB (l:=l) λy hy=>h y (bG _ hy);rw[aR,aC,aE,Nat.mul_succ];omega
theorem Sk{ls:List Line}{k:Nat}(h:∀l∈ls,lnOk l)(hk:ls.length<=k):(txtL ls).length<=151*k:=by have:=Ia ls h;have:=cD 151 hk;omega
theorem Agq(g:Bw):jb [wdLEG,jb (legWs (lgr g))]=jb (lgLn g):=by
 unfold lgLn;cases h:legWs (lgr g)with
 |nil=>unfold legWs at h;simp at h
 |cons x l=>
  show wdLEG++([32]++(jb (x::l)++[]))=wdLEG++([32]++jb (x::l))
  rw[aD]
theorem FJ{l:List α}(hj:j<l.length)(f:α->List Line)(out:Bt):out++txtL ((l.take (j+1)).flatMap f)=(out++txtL ((l.take j).flatMap f))++txtL (f l[j]):=by rw[aO hj,List.flatMap_append,List.flatMap_singleton,Dr,aM]
theorem MF{l:List α}{x:α}(h:x∈l.take j):x∈l:=cR h
theorem AaN{f:α->List Line}{l:List α}(h:∀x∈l,∀y∈f x,lnOk y)(j:Nat):∀y∈(l.take j).flatMap f,lnOk y:=λy hy=>by obtain⟨x,hx,hy⟩:=bF.1 hy;exact h x (MF hx) y hy
theorem Ic{f:α->List Line}{l:List α}{k:Nat}(h:∀x∈l,∀y∈f x,lnOk y)(hk:∀x∈l,(f x).length<=k)(j:Nat):(txtL ((l.take j).flatMap f)).length<=151*(k*l.length):=by
 refine Sk (AaN h j) ?_;have:=DB (f:=f) (k:=k) (l:=l.take j) λx hx=>hk x (MF hx);have h2:(l.take j).length<=l.length:=by rw[bJ];omega
 exact cM this (cD k h2)
theorem QH(h:PaG x):(paLns x).length<=25:=by have:=h.1.ln.2;unfold paLns;rw[aE,bP];omega
theorem AaO(h:PrG p):(prLns p).length<=301:=by have h1:p.2.2.2.length<=12:=h.1.ln;have:=DB (f:=paLns) (k:=25) (l:=p.2.2.2) λx hx=>QH (h.2 x hx);unfold prLns;rw[aE];omega
theorem Adn (h0:o63 h=some 0) (hs:P47 h.1.1) (hp:posR h.2.2.1 h.2.2.2) {k:Bt->Option (Bt×Int)} :
  (bd (α:=(Bt×Int)) (o55 h.1.2.1) (λv2=>(bd (α:=(Bt×Int)) (o56 h.2.2) (λv3=>(bd (α:=(Bt)) (o51 ([([68,65,84,65,66,65,83,69]:Bt),h.1.1,v2.1,v3.1]:List Bt)) k)))))=k (txtL [hdLn h]):=by
 obtain⟨nm,hc,_⟩:=MD hs h0;rw[bdS (Aaz hc).1,bdS (show o56 h.2.2=some (posW h.2.2.1 h.2.2.2,0)from Aax hp)];dsimp only;have:=(Oa (h:=h) nm).2.2;exact bdS (Agp (ws:=hdLn h) (by omega))
structure DG(h:Az)(F:List Be)(A:List AQ)(P:List AA):Prop where
 h0:o26 (dbx h F A P)=some 0
 hd:o63 h=some 0
 hs:P47 h.1.1
 ho:posR h.2.2.1 h.2.2.2
 fx:∀f∈F,FixOk (gf f)/\P47 f.1/\P47 f.2.1
 ai:∀a∈A,o70 a=some 0/\AirG a
 pr:∀p∈P,PrG p
 lf:F.length<=400
 la:A.length<=60
 lp:P.length<=60
theorem AaP {γ:Type} (hx:PaG x) {u:(List AA×Int)×Int} {w:Bh->γ} (ho:out.length<=50000000) :
  ∀k,k<=x.2.2.length->(out++txtL ((x.2.2.take k).flatMap λg=>[lgLn g])).length<=51000000:=λk hk=>by
 have h1:=Ic (f:=λg=>[lgLn g]) (l:=x.2.2) (k:=1) (λg hg y hy=>by rw[aI]at hy;subst hy;exact JP (hx.1.lg g hg) (hx.2 g hg)) (λg hg=>bI _) k
 have:=hx.1.ln.2;rw[aC];omega
theorem FK(l:List α)(f:α->List Line)(out:Bt):out++txtL ((l.take 0).flatMap f)=out:=by rw[List.take_zero,List.flatMap_nil];exact aD out
theorem Alr(g:Bw):((((g.1,g.2.1,g.2.2.1),g.2.2.2.1,g.2.2.2.2.1,g.2.2.2.2.2.1),(g.2.2.2.2.2.2.1,g.2.2.2.2.2.2.2.1,g.2.2.2.2.2.2.2.2.1),g.2.2.2.2.2.2.2.2.2):Lg_)=lgr g:=rfl
theorem LK{α:Type}(f:α->Line):∀l:List α,(l.flatMap λx=>[f x])=l.map f
 | []=>rfl
 |x::l=>by rw[aR,LK f l];rfl
theorem Agr{F:List Be}(d:DG h F A P):o25 (dbx h F A P)=some (txtL (dbLns h F A P),0):=by
 have nm:=(MD d.hs d.hd).1;have hh:=Oa (h:=h) nm;have lf:=d.lf;have la:=d.la;have lp:=d.lp;unfold o25;rw[bdS d.h0,cndF (AL rfl)];refine(Adn d.hd d.hs d.ho).trans ?_;have l0:(txtL [hdLn h]).length<=151:=Sk (k:=1) (λl hl=>by rw[aI]at hl;subst hl;exact hh) (bI _);generalize hT0:txtL [hdLn h]=T0 at l0⊢;have gF:∀f∈F,∀y∈[fxLn f],lnOk y:=λf hf y hy=>by rw[aI]at hy;subst hy;have:=d.fx f hf;exact NZ this.1 this.2.1 this.2.2
 have lF:=λj=>Ic (f:=λf=>[fxLn f]) (l:=F) (k:=1) gF (λf hf=>bI _) j;refine AN (n:=F.length) (λi=>((F,((F.length:Nat):Int)),(i:Int),dbx h F A P,T0++txtL ((F.take i).flatMap λf=>[fxLn f]))) (by simp only[FK];rfl) (λi hi=>?_) ?_
 ·have hf:=d.fx _ (aG hi);have hl:=lF i;dsimp only;rw[cndT dt,gdT dt,aH,Ad hi,bdI,AdK,bdS (Agm hf.1 hf.2.1 hf.2.2)];dsimp only;have hz:=(NZ hf.1 hf.2.1 hf.2.2).2.2;have hj:=DU (fxLn F[i]);rw[bdS (Ib (by rw[HZ];omega) (by rw[aC];omega)),AaK,FJ hi,EE,Ac];rfl
 dsimp only;rw[cndF df,aV];refine dnE ?_;have l1:(T0++txtL (F.flatMap λf=>[fxLn f])).length<=100000:=by have:=lF F.length;rw[aV]at this;rw[aC];omega
 generalize hT1:T0++txtL (F.flatMap λf=>[fxLn f])=T1 at l1⊢;have gA:∀a∈A,∀y∈aiLns a,lnOk y:=λa ha=>QE (d.ai a ha).2;have kA:∀a∈A,(aiLns a).length<=41:=λa ha=>by have:=(d.ai a ha).2.1.ln;unfold aiLns;rw[aE,EF];omega
 have lA:=λj=>Ic (f:=aiLns) (l:=A) (k:=41) gA kA j;refine AN (n:=A.length) (λi=>((A,((A.length:Nat):Int)),(i:Int),dbx h F A P,T1++txtL ((A.take i).flatMap aiLns))) (by simp only[FK];rfl) (λi hi=>?_) ?_
 ·have ha:=d.ai _ (aG hi);have hl:=lA i;have hl2:(txtL (aiLns A[i])).length<=151*41:=Sk (gA _ (aG hi)) (kA _ (aG hi));dsimp only;rw[cndT dt,gdT dt,aH,Ad hi,bdI,bdS (Agn ha.1 ha.2)];dsimp only;rw[bdS (EG (by rw[aC];omega)),FJ hi,Ac];rfl
 dsimp only;rw[cndF df,aV];refine dnE ?_;have l2:(T1++txtL (A.flatMap aiLns)).length<=1000000:=by have:=lA A.length;rw[aV]at this;rw[aC];omega
 generalize hT2:T1++txtL (A.flatMap aiLns)=T2 at l2⊢;have gP:∀p∈P,∀y∈prLns p,lnOk y:=λp hp=>QG (d.pr p hp);have lP:=λj=>Ic (f:=prLns) (l:=P) (k:=301) gP (λp hp=>AaO (d.pr p hp)) j;refine AN (n:=P.length) (λi=>((P,((P.length:Nat):Int)),(i:Int),T2++txtL ((P.take i).flatMap prLns))) (by simp only[FK];rfl) (λi hi=>?_) ?_
 ·have hp:=d.pr _ (aG hi);have hl:=lP i;dsimp only;rw[cndT dt,gdT dt,aH,Ad hi,bdI,FJ hi,bdS (Aaj _)];have ho:(T2++txtL ((P.take i).flatMap prLns)).length<=10000000:=by rw[aC];omega
  generalize T2++txtL ((P.take i).flatMap prLns)=out at ho⊢;generalize P[i]=p at hp⊢;have hz:=(Uu hp).2.2;rw[bdS (show HM [pw p.2.2.1,p.1,p.2.1] out=_ from Ib (ws:=prLn p) (by omega))];have hln:p.2.2.2.length<=12:=hp.1.ln;have ho2:(out++(jb (prLn p)++[10])).length<=20000000:=by have:=DU (prLn p);rw[aC,aC,aS];omega
  have eo:out++txtL (prLns p)=(out++(jb (prLn p)++[10]))++txtL (p.2.2.2.flatMap paLns):=by unfold prLns;rw[show prLn p::p.2.2.2.flatMap paLns=[prLn p]++p.2.2.2.flatMap paLns from rfl,Dr,EE,<-aM]
  rw[eo];generalize out++(jb (prLn p)++[10])=out2 at ho2⊢;have gX:∀x∈p.2.2.2,∀y∈paLns x,lnOk y:=λx hx=>QF (hp.2 x hx);have lX:=λj=>Ic (f:=paLns) (l:=p.2.2.2) (k:=25) gX (λx hx=>QH (hp.2 x hx)) j;refine AN (n:=p.2.2.2.length) (λj=>((P,((P.length:Nat):Int),(i:Int)),(p.2.2.2,((p.2.2.2.length:Nat):Int)),(j:Int),out2++txtL ((p.2.2.2.take j).flatMap paLns))) (by simp only[FK];rfl) (λj hj=>?_) ?_
  ·have hx:=hp.2 _ (aG hj);have hlx:=lX j;dsimp only;rw[cndT dt,gdT dt,aH,Ad hj,bdI,FJ hj];have ho3:(out2++txtL ((p.2.2.2.take j).flatMap paLns)).length<=30000000:=by rw[aC];omega
   generalize out2++txtL ((p.2.2.2.take j).flatMap paLns)=out3 at ho3⊢;generalize p.2.2.2[j]=x at hx⊢;have hz:=(Ut hx.1).2.2;have hjb:=DU (paLn x);rw[bdS (Ago hx.1),bdS (Ib (by rw[HZ];omega)),AaK];have ho4:(out3++(jb (paLn x)++[10])).length<=40000000:=by rw[aC,aC,aS];omega
   have eo:out3++txtL (paLns x)=(out3++(jb (paLn x)++[10]))++txtL (x.2.2.flatMap λg=>[lgLn g]):=by unfold paLns;rw[<-LK,show paLn x::(x.2.2.flatMap λg=>[lgLn g])=[paLn x]++(x.2.2.flatMap λg=>[lgLn g])from rfl,Dr,EE,<-aM]
   rw[eo];generalize out3++(jb (paLn x)++[10])=out4 at ho4⊢;have hxl:=hx.1.ln.2;refine AN (n:=x.2.2.length) (λk=>(((P,((P.length:Nat):Int)),(i:Int),(p.2.2.2,((p.2.2.2.length:Nat):Int))),((j:Int),x.2.2),((x.2.2.length:Nat):Int),(k:Int),out4++txtL ((x.2.2.take k).flatMap λg=>[lgLn g]))) (by simp only[FK];rfl) (λk hk=>?_) ?_
   ·have hlk:=AaP (γ:=Unit) hx (u:=((P,0),0)) (w:=λ_=>()) (out:=out4) (by omega) k (by omega);have hg:=hx.1.lg _ (aG hk);have hgi:=hx.2 _ (aG hk);dsimp only;rw[cndT dt,gdT dt,aH,Ad hk,bdI,FJ hk];generalize out4++txtL ((x.2.2.take k).flatMap λg=>[lgLn g])=out5 at hlk⊢;generalize x.2.2[k]=g at hg hgi⊢;have hlz:=(JP hg hgi).2.2;have hjl:=DU (legWs (lgr g));have hwz:wsz (lgLn g)=4+wsz (legWs (lgr g)):=by unfold lgLn;rw[AX];rfl
    rw[Alr,bdS (AfZ hg hgi),bdS (show HM [[76,69,71],jb (legWs (lgr g))] out5=some (out5++(jb [wdLEG,jb (legWs (lgr g))]++[10]))from Ib (by rw[AX,HZ];have:([76,69,71]:Bt).length=3:=rfl;omega)),Agq,EE,Ac];rfl
   ·dsimp only;rw[cndF df,aV,Ac];rfl
  ·dsimp only;rw[cndF df,aV,Ac];rfl
 dsimp only;rw[cndF df,aV];refine dnE ?_;have e62:∀t:Bt,t≠[]->o62 t=some t:=λt ht=>by
  cases t with
  |nil=>exact absurd rfl ht
  |cons b t=>rfl
 have hfin:T2++txtL (P.flatMap prLns)=txtL (dbLns h F A P):=by unfold dbLns;rw[Dr,Dr,show hdLn h::F.map fxLn=[hdLn h]++F.map fxLn from rfl,Dr,hT0,<-LK,hT1,hT2]
 have hne:txtL (dbLns h F A P)≠[]:=by unfold dbLns;show jb (hdLn h)++10::_≠[];simp
 rw[hfin,bdS (e62 _ hne)]
theorem JQ(h:ws[j]? =some w):∃hj:j<(flds 1 ws).length,(flds 1 ws)[j].1=w:=by
 obtain⟨hj,e⟩:=List.getElem?_eq_some_iff.1 h;have hl:j<(flds 1 ws).length:=by rw[BB];exact hj
 refine⟨hl,?_⟩
 have hm:=Fs 1 ws;have h2:((flds 1 ws).map λf=>f.1)[j]'(by rw[bP];exact hl)=ws[j]:=List.getElem_of_eq hm _;rw[bW]at h2;rw[h2,e]
theorem Jj(hl:ws.length<=200)(h:ws[j]? =some w)(n la:Int)(hk:k=(j:Int))(hk':k'=(j:Int)+1):∃la',o155 (sc n k la) (flds 1 ws)=some (w,sc n k' la',flds 1 ws):=by obtain⟨hj,e⟩:=JQ h;subst hk;exact⟨(flds 1 ws)[j].2,by rw[Acu hj (by rw[BB];exact hl),e,show((j+1:Nat):Int)=k' by omega]⟩
theorem MG(hl:ws.length<=200)(h:ws[j]? =some w){m:Int}(hm:o130 w m=some true)(n la:Int)(hk:k=(j:Int))(hk':k'=(j:Int)+1):∃la',o156 m (sc n k la) (flds 1 ws)=some (w,sc n k' la',flds 1 ws):=by obtain⟨hj,e⟩:=JQ h;subst hk;exact⟨(flds 1 ws)[j].2,by rw[Acx hj (by rw[BB];exact hl) (by rw[e];exact hm),e,show((j+1:Nat):Int)=k' by omega]⟩
theorem Jk(hl:ws.length<=200)(h:ws[j]? =some w){vs:Line}(hv:vs.length<=100)(hi:i<vs.length)(he:vs[i]=w)(hne:∀m(hm:m<i),vs[m]≠w)(n la:Int)(hk:k=(j:Int))(hk':k'=(j:Int)+1):∃la',o161 vs (sc n k la) (flds 1 ws)=some ((i:Int),sc n k' la',flds 1 ws):=by obtain⟨hj,e⟩:=JQ h;subst hk;exact⟨(flds 1 ws)[j].2,by rw[Acv hj (by rw[BB];exact hl) hv hi (by rw[e];exact he) (λm hm=>by rw[e];exact hne m hm),show((j+1:Nat):Int)=k' by omega]⟩
theorem Uv(hl:ws.length<=200)(h:ws[j]? =some w)(n la:Int)(hk:k=(j:Int))(hk':k'=(j:Int)+1):∃la',o207 (sc n k la) (flds 1 ws)=some ((w,true),sc n k' la',flds 1 ws):=by obtain⟨hj,e⟩:=JQ h;subst hk;exact⟨(flds 1 ws)[j].2,by rw[JA hj (by rw[BB];exact hl),e,show((j+1:Nat):Int)=k' by omega]⟩
theorem AdO(hl:ws.length<=200){a b:Int}(hp:posR a b)(h:ws[j]? =some (posW a b))(n la:Int)(hk:k=(j:Int))(hk':k'=(j:Int)+1):∃la',o159 (sc n k la) (flds 1 ws)=some ((a,b),sc n k' la',flds 1 ws):=by
 obtain⟨la',e⟩:=Uv hl h n la hk hk';refine⟨la',?_⟩
 unfold o159 o212;rw[bdS e];dsimp only;rw[aK,Aj,bdS (AcH hp)];dsimp only;rw[cndF (AL rfl),bdI]
theorem Als(hl:ws.length<=200)(hz:altR z)(h:ws[j]? =some (altW z))(n la:Int)(hk:k=(j:Int))(hk':k'=(j:Int)+1):∃la',o162 (sc n k la) (flds 1 ws)=some (z,sc n k' la',flds 1 ws):=by
 obtain⟨la',e⟩:=Uv hl h n la hk hk';refine⟨la',?_⟩
 have e215:o215 (altW z)=some (z,0):=by have a1:=BN (tW (IM z) λr hr=>(bK.2 ⟨λ_=>rfl,λ_=>hr.2 hz⟩:r=true));unfold o215;rw[bdS (NP hz)];dsimp only;rw[aK,Aj,bdS a1,aK,Aj]
 unfold o162 o214;rw[bdS e];dsimp only;rw[aK,Aj,bdS e215];dsimp only;rw[cndF (AL rfl),bdI]
theorem Alt(hl:ws.length<=200)(hz:dstR z)(h:ws[j]? =some (dstW z))(n la:Int)(hk:k=(j:Int))(hk':k'=(j:Int)+1):∃la',o163 (sc n k la) (flds 1 ws)=some (z,sc n k' la',flds 1 ws):=by
 obtain⟨la',e⟩:=Uv hl h n la hk hk';refine⟨la',?_⟩
 unfold o163 KT;rw[bdS e];dsimp only;rw[aK,Aj,bdS (Um hz)];dsimp only;rw[cndF (AL rfl),bdI]
theorem Alu(hl:ws.length<=200){v:Int×Int}(hv:winR v.1 v.2)(h:ws[j]? =some (winW v))(n la:Int)(hk:k=(j:Int))(hk':k'=(j:Int)+1):∃la',o260 (sc n k la) (flds 1 ws)=some (v,sc n k' la',flds 1 ws):=by
 obtain⟨la',e⟩:=Uv hl h n la hk hk';refine⟨la',?_⟩
 unfold o260 o294;rw[bdS e];dsimp only;rw[aK,Aj,bdS (Ul hv)];dsimp only;rw[cndF (AL rfl),bdI]
theorem AaQ(ws:Line)(n k la:Int):o158 0 (sc n k la) (flds 1 ws)=some (sc n k la,flds 1 ws):=Afi _ _ rfl
theorem LL(n la:Int)(hk:k=(ws.length:Int)):o164 (((sc n k la).1.1,flds 1 ws,(sc n k la).1.2.1),((sc n k la).1.2.2,(sc n k la).2.1),(sc n k la).2.2)=some ((0,0),0,false):=by subst hk;have:=Acy (fs:=flds 1 ws) (n:=n) (la:=la) (k:=(flds 1 ws).length) rfl;rw[BB]at this;exact this
theorem LM{n:Int}(hl:ws.length<=200):o154 (n,flds 1 ws)=some (n,flds 1 ws):=DZ (by show(flds 1 ws).length<=1000;rw[BB];omega)
theorem Ags(h0:o63 h=some 0)(hs:P47 h.1.1)(hp:posR h.2.2.1 h.2.2.2)(n:Int):hdW (n,flds 1 (hdLn h))=some ((h.1.1,h.1.2.1,h.1.2.2,h.2.1,h.2.2.1,h.2.2.2),[]):=by
 have hl:(hdLn h).length<=200:=by show 4<=200;omega
 have hc:=(MD hs h0).2.1;unfold hdW;rw[bdS (LM hl)];dsimp only;obtain⟨l1,e1⟩:=Jj hl (j:=0) (w:=wdDB) rfl n 1 (k:=0) (k':=1) rfl rfl;rw[show o155 ((n,0,1),0,0,0) (flds 1 (hdLn h))=some (wdDB,sc n 1 l1,flds 1 (hdLn h))from e1,bdI];dsimp only;obtain⟨l2,e2⟩:=MG hl (j:=1) (w:=h.1.1) rfl (All hs h0) n l1 (k:=1) (k':=2) rfl rfl;rw[bdS e2];dsimp only;obtain⟨l3,e3⟩:=Jj hl (j:=2) (w:=cycW h.1.2.1) rfl n l2 (k:=2) (k':=3) rfl rfl;rw[bdS e3];dsimp only;rw[bdS (Aaz hc).2];dsimp only;rw[bdS (AaQ _ _ _ _)];dsimp only;rw[bdS hc];dsimp only;obtain⟨l4,e4⟩:=AdO hl (j:=3) hp rfl n l3 (k:=3) (k':=4) rfl rfl;rw[bdS e4];dsimp only;rw[bdS (LL (ws:=hdLn h) n l4 (k:=4) rfl)];rfl
theorem AaR(h:1<=k/\k<=6):∃i:Nat,k=(i:Int)+1/\∃hi:i<kindL.length,kindL[i]=kindW k/\∀m(hm:m<i),kindL[m]≠kindW k:=by
 rcases GX h with rfl|rfl|rfl|rfl|rfl|rfl
 ·exact⟨0,rfl,by decide,rfl,λm hm=>by omega⟩
 ·exact⟨1,rfl,by decide,rfl,by decide⟩
 ·exact⟨2,rfl,by decide,rfl,by decide⟩
 ·exact⟨3,rfl,by decide,rfl,by decide⟩
 ·exact⟨4,rfl,by decide,rfl,by decide⟩
 ·exact⟨5,rfl,by decide,rfl,by decide⟩
theorem Agt(h:FixOk (gf f))(n:Int):∃r,o95 (n,flds 1 (fxLn f))=some r/\fxOf r=gf f/\dgF r=[]:=by
 have hk:1<=f.2.2.1/\f.2.2.1<=6:=h.1;obtain⟨i,ei,hi,ek,em⟩:=AaR hk;have hl:(fxLn f).length<=200:=by unfold fxLn;have q1:=NV (b56 f.2.2.1) (altW f.2.2.2.2.1);have q2:=NV (b234 f.2.2.1) (dstW f.2.2.2.2.2);simp only[aC,aE,aN];omega
 have hi6:kindL.length=6:=rfl;have hkd:aQ .u8 (aQ .i64 ((i:Int)+1))=f.2.2.1:=by rw[AdI (by omega),ei]
 have h132:o132 f.1 f.2.2.1=some 0:=h.2.1;have h133:o133 f.2.1 f.2.2.1=some 0:=h.2.2.1;have hpos:posR f.2.2.2.1.1 f.2.2.2.1.2:=h.2.2.2.1;have w0:(fxLn f)[0]? =some (kindW f.2.2.1):=rfl;have w1:(fxLn f)[1]? =some f.1:=rfl;have w2:(fxLn f)[2]? =some f.2.1:=rfl;have w3:(fxLn f)[3]? =some (posW f.2.2.2.1.1 f.2.2.2.1.2):=rfl;unfold o95;rw[bdS (LM hl)];dsimp only;rw[show o119=some kindL from rfl,bdI];obtain⟨l1,e1⟩:=Jk hl w0 (vs:=kindL) (by omega) hi ek em n 1 (k:=0) (k':=1) rfl rfl;rw[show o161 kindL ((n,0,1),0,0,0) (flds 1 (fxLn f))=some ((i:Int),sc n 1 l1,flds 1 (fxLn f))from e1,bdI];dsimp only;rw[hkd];obtain⟨l2,e2⟩:=Jj hl w1 n l1 (k:=1) (k':=2) rfl rfl;rw[bdS e2];dsimp only;rw[bdS h132,bdS (AaQ _ _ _ _)];dsimp only;obtain⟨l3,e3⟩:=Jj hl w2 n l2 (k:=2) (k':=3) rfl rfl;rw[bdS e3];dsimp only;rw[bdS h133,bdS (AaQ _ _ _ _)];dsimp only;obtain⟨l4,e4⟩:=AdO hl hpos w3 n l3 (k:=3) (k':=4) rfl rfl;rw[bdS e4];dsimp only;rw[JB,bdI,show decide (f.2.2.1=5\/f.2.2.1=6)=b56 f.2.2.1 from rfl];have s5:∃l5:Int,∃k5:Int,(k5=4+(opW (b56 f.2.2.1) (altW f.2.2.2.2.1)).length)/\(cnd (b56 f.2.2.1) (bd (α:=DP) (o162 (sc n 4 l4) (flds 1 (fxLn f))) (λv12=>(some (((([]:Bt),([]:Bt)),v12.2.1),((f.1,f.2.1,f.2.2.1),f.2.2.2.1.1,f.2.2.2.1.2,v12.1),v12.2.2)))) (some (((([]:Bt),([]:Bt)),sc n 4 l4),((f.1,f.2.1,f.2.2.1),f.2.2.2.1.1,f.2.2.2.1.2,(0:Int)),flds 1 (fxLn f))))=some (((([]:Bt),([]:Bt)),sc n k5 l5),((f.1,f.2.1,f.2.2.1),f.2.2.2.1.1,f.2.2.2.1.2,f.2.2.2.2.1),flds 1 (fxLn f)):=by
  cases hb:b56 f.2.2.1 with
  |true=>
   have w4:(fxLn f)[4]? =some (altW f.2.2.2.2.1):=by unfold fxLn;rw[hb];rfl
   obtain⟨l5,e5⟩:=Als hl (JO h hb) w4 n l4 (k:=4) (k':=5) rfl rfl;exact⟨l5,5,rfl,by rw[Av,bdS e5]⟩
  |false=>
   have z:f.2.2.2.2.1=0:=h.2.2.2.2.2.1 (of_decide_eq_false hb);exact⟨l4,4,rfl,by rw[Aj,z]⟩
 obtain⟨l5,k5,hk5,e5⟩:=s5;rw[bdS e5];dsimp only;rw[JC,bdI,show decide (f.2.2.1=2\/f.2.2.1=3\/f.2.2.1=4)=b234 f.2.2.1 from rfl];have s6:∃l6:Int,∃k6:Int,k6=((fxLn f).length:Int)/\(cnd (b234 f.2.2.1) (bd (α:=DP) (o163 (sc n k5 l5) (flds 1 (fxLn f))) (λv15=>(cnd (v15.1==(0:Int)) (bd (α:=KQ) (o158 (2:Int) v15.2.1 v15.2.2) (λv16=>(some (((([]:Bt),([]:Bt)),v16.1),((f.1,f.2.1,f.2.2.1),(f.2.2.2.1.1,f.2.2.2.1.2),f.2.2.2.2.1,v15.1),v16.2)))) (some (((([]:Bt),([]:Bt)),v15.2.1),((f.1,f.2.1,f.2.2.1),(f.2.2.2.1.1,f.2.2.2.1.2),f.2.2.2.2.1,v15.1),v15.2.2))))) (some (((([]:Bt),([]:Bt)),sc n k5 l5),((f.1,f.2.1,f.2.2.1),(f.2.2.2.1.1,f.2.2.2.1.2),f.2.2.2.2.1,(0:Int)),flds 1 (fxLn f))))=some (((([]:Bt),([]:Bt)),sc n k6 l6),((f.1,f.2.1,f.2.2.1),(f.2.2.2.1.1,f.2.2.2.1.2),f.2.2.2.2.1,f.2.2.2.2.2),flds 1 (fxLn f)):=by
  have hlen:(fxLn f).length=4+(opW (b56 f.2.2.1) (altW f.2.2.2.2.1)).length+(opW (b234 f.2.2.1) (dstW f.2.2.2.2.2)).length:=by unfold fxLn;rw[aC,aC];rfl
  cases hb:b234 f.2.2.1 with
  |true=>
   have hd:=NY h hb;have w4:(fxLn f)[4+(opW (b56 f.2.2.1) (altW f.2.2.2.2.1)).length]? =some (dstW f.2.2.2.2.2):=by
    unfold fxLn;rw[hb,List.getElem?_append_right (by rw[aC];exact bI _),aC];have:4+(opW (b56 f.2.2.1) (altW f.2.2.2.2.1)).length-([kindW f.2.2.1,f.1,f.2.1,posW f.2.2.2.1.1 f.2.2.2.1.2].length+(opW (b56 f.2.2.1) (altW f.2.2.2.2.1)).length)=0:=by show 4+(opW (b56 f.2.2.1) (altW f.2.2.2.2.1)).length-(4+(opW (b56 f.2.2.1) (altW f.2.2.2.2.1)).length)=0;omega
    rw[this];rfl
   obtain⟨l6,e6⟩:=Alt hl hd.1 w4 n l5 (k:=k5) (k':=k5+1) (by rw[hk5];omega) (by rw[hk5];omega);refine⟨l6,k5+1,?_,?_⟩
   ·rw[hlen,hb,hk5];show _=((4+_+1:Nat):Int);omega
   ·rw[Av,bdS e6];dsimp only;rw[cndF (AU hd.2)]
  |false=>
   have z:f.2.2.2.2.2=0:=h.2.2.2.2.2.2.2 (of_decide_eq_false hb);refine⟨l5,k5,?_,by rw[Aj,z]⟩
   rw[hlen,hb,hk5];show _=((4+_+0:Nat):Int);omega
 obtain⟨l6,k6,hk6,e6⟩:=s6;rw[bdS e6];dsimp only;rw[bdS (LL n l6 hk6)];exact⟨_,rfl,rfl,rfl⟩
theorem EH:∀(k:Int)(ls:List Line)(i:Nat)(h:i<ls.length)(d:Ln),(recs k ls).getD i d=(k+(i:Int),flds 1 ls[i])
 |k,l::ls,0,h,d=>by
  show(k,flds 1 l)=(k+0,flds 1 l)
  rw[Int.add_zero]
 |k,l::ls,i+1,h,d=>by
  have hi:i<ls.length:=by simpa using h
  have:=EH (k+1) ls i hi d;show(recs (k+1) ls).getD i d=(k+((i+1:Nat):Int),flds 1 ls[i])
  rw[this,show k+1+(i:Int)=k+((i+1:Nat):Int) by omega]
theorem Agu(h:0<=k/\k<=2):∃i:Nat,k=(i:Int)/\∃hi:i<dirL.length,dirL[i]=dirW k/\∀m(hm:m<i),dirL[m]≠dirW k:=by
 have:k=0\/k=1\/k=2:=by omega
 rcases this with rfl|rfl|rfl
 ·exact⟨0,rfl,by decide,rfl,λm hm=>by omega⟩
 ·exact⟨1,rfl,by decide,rfl,by decide⟩
 ·exact⟨2,rfl,by decide,rfl,by decide⟩
theorem Ado{p:Pt_}(hp:PtOk n j p)(h0:0<=p.2.2)(hj:j<n)(k:Int):o218 (k,flds 1 (viaLn n j p)) (decide (j+1=n))=some (((p.1,p.2.1.1),p.2.1.2,p.2.2),(0,0),0,false):=by
 obtain⟨v,ev,hv⟩:=hp.1;have hl:(viaLn n j p).length<=200:=by unfold viaLn;cases decide (j+1<n)<;>simp
 have w0:(viaLn n j p)[0]? =some wdVIA:=rfl;have w1:(viaLn n j p)[1]? =some p.1:=rfl;unfold o218;rw[bdS (LM hl)];dsimp only;rw[show o195=some ()from rfl,bdI];obtain⟨l1,e1⟩:=Jk hl w0 (vs:=[wdVIA]) (by simp) (i:=0) (by simp) rfl (λm hm=>by omega) k 1 (k:=0) (k':=1) rfl rfl;rw[show o161 ([([86,73,65]:Bt)]:List Bt) ((k,0,1),0,0,0) (flds 1 (viaLn n j p))=some (((0:Nat):Int),sc k 1 l1,flds 1 (viaLn n j p))from e1,bdI];dsimp only;obtain⟨l2,e2⟩:=Jj hl w1 k l1 (k:=1) (k':=2) rfl rfl;rw[bdS e2];dsimp only;rw[bdS ev,cndF (AL hv),bdI];dsimp only;by_cases hn:j+1=n
 ·have hd:=hp.2.1 hn;rw[dt hn,aK,Aj,bdI];dsimp only;have hlen:(viaLn n j p).length=2:=by unfold viaLn;rw[df];rfl
  rw[bdS (LL (ws:=viaLn n j p) k l2 (k:=2) (by rw[hlen];rfl)),hd.1,hd.2]
 ·have hd:=hp.2.2 hn;have hlen:viaLn n j p=[wdVIA,p.1,winW p.2.1,dirW p.2.2]:=by unfold viaLn;rw[dt];rfl
  obtain⟨i,ei,hi,ek,em⟩:=Agu (k:=p.2.2) ⟨h0,hd.2⟩;have hi3:dirL.length=3:=rfl;rw[df hn,bH,Av];obtain⟨l3,e3⟩:=Alu hl (j:=2) (v:=p.2.1) hd.1 (by rw[hlen];rfl) k l2 (k:=2) (k':=3) rfl rfl;rw[bdS e3];dsimp only;rw[show o125=some dirL from rfl,bdI];obtain⟨l4,e4⟩:=Jk hl (j:=3) (w:=dirW p.2.2) (by rw[hlen];rfl) (vs:=dirL) (by omega) hi ek em k l3 (k:=3) (k':=4) rfl rfl;rw[bdS e4,bdI];dsimp only;rw[show aQ .u8 (i:Int)=p.2.2 by rw[bM];omega];rw[bdS (LL (ws:=viaLn n j p) k l4 (k:=4) (by rw[hlen];rfl))]
theorem EI(a:AQ):(aiLns a).length=a.2.length+1:=by unfold aiLns;rw[aE,EF]
theorem Vw(a:AQ)(hi:i<a.2.length):(aiLns a)[i+1]'(by rw[EI];omega)=viaLn a.2.length i a.2[i]:=by show(viaLs a a.2.length)[i]'(by rw[EF];omega)=_;unfold viaLs;rw[bW,List.getElem_range,Ad hi]
theorem Adp(h:AirG a)(h0:o70 a=some 0)(k:Int):o165 (recs k (aiLns a))=some (((a.1,0),0,0,false),a.2):=by
 have hln:=h.1.ln;have hrl:(recs k (aiLns a)).length=a.2.length+1:=by rw[BW,EI]
 unfold o165;rw[cndF AU,gdT dt,show(recs k (aiLns a)).getD (0:Int).toNat Bm=(k,flds 1 [wdAWY,a.1])from rfl,bdI];have hl:([wdAWY,a.1]:Line).length<=200:=by simp
 rw[bdS (LM hl)];dsimp only;obtain⟨l1,e1⟩:=Jk hl (j:=0) (w:=wdAWY) rfl (vs:=[wdAWY]) (by simp) (i:=0) (by simp) rfl (λm hm=>by omega) k 1 (k:=0) (k':=1) rfl rfl;rw[show o161 ([([65,73,82,87,65,89]:Bt)]:List Bt) ((k,0,1),0,0,0) (flds 1 [wdAWY,a.1])=some (((0:Nat):Int),sc k 1 l1,flds 1 [wdAWY,a.1])from e1,bdI];dsimp only;obtain⟨l2,e2⟩:=MG hl (j:=1) (w:=a.1) rfl h.1.n8 k l1 (k:=1) (k':=2) rfl rfl;rw[bdS e2];dsimp only;rw[bdS (LL (ws:=[wdAWY,a.1]) k l2 (k:=2) rfl)];dsimp only;rw[Aj];refine AN (n:=a.2.length) (λi=>((recs k (aiLns a),(i:Int)+1),([]:Bt),a.1,a.2.take i)) rfl (λi hi=>?_) ?_
 ·dsimp only;rw[cndT dt,gdT dt,show((i:Int)+1).toNat=i+1 by omega,EH k (aiLns a) (i+1) (by rw[EI];omega),Vw a hi,bdI,Ac (x:=(((recs k (aiLns a)).length:Nat):Int)-1)];have hb:((i:Int)+1==(((recs k (aiLns a)).length:Nat):Int)-1)=decide (i+1=a.2.length):=by
   by_cases e:i+1=a.2.length
   ·rw[dt e,Ba]
   ·rw[df e,AU]
  rw[hb,bdS (Ado (h.1.pt i hi) (h.2.2 _ (aG hi)) hi _)];dsimp only;rw[Aj,gdT (dt (by rw[bJ];simp;omega)),Ac,aO hi];rfl
 ·dsimp only;rw[cndF df,aV];refine dnE ?_;rw[show o70 (a.1,a.2)=some 0 from h0,bdI,cndF (AL rfl)]
theorem Agv(h:PrG p)(k:Int):prW (k,flds 1 (prLn p))=some ((p.1,p.2.1),[]):=by
 have hl:(prLn p).length<=200:=by show 3<=200;omega
 have h6:o130 p.1 6=some true:=h.1.a6;have h8:o130 p.2.1 8=some true:=h.1.n8;unfold prW;rw[bdS (LM hl)];dsimp only;obtain⟨l1,e1⟩:=Jj hl (j:=0) (w:=pw p.2.2.1) rfl k 1 (k:=0) (k':=1) rfl rfl;rw[show o155 ((k,0,1),0,0,0) (flds 1 (prLn p))=some (pw p.2.2.1,sc k 1 l1,flds 1 (prLn p))from e1,bdI];dsimp only;obtain⟨l2,e2⟩:=MG hl (j:=1) (w:=p.1) rfl h6 k l1 (k:=1) (k':=2) rfl rfl;rw[bdS e2];dsimp only;obtain⟨l3,e3⟩:=MG hl (j:=2) (w:=p.2.1) rfl h8 k l2 (k:=2) (k':=3) rfl rfl;rw[bdS e3];dsimp only;rw[bdS (LL (ws:=prLn p) k l3 (k:=3) rfl)];rfl
def partL:Line:=[[82,85,78,87,65,89],[67,79,77,77,79,78],[69,78,82,79,85,84,69],[77,73,83,83,69,68]]
theorem pL1:∀(m:Nat)(hm:m<1),partL[m]'(by have:partL.length=4:=rfl;omega)≠[67,79,77,77,79,78]:=by decide
theorem pL2:∀(m:Nat)(hm:m<2),partL[m]'(by have:partL.length=4:=rfl;omega)≠[69,78,82,79,85,84,69]:=by decide
theorem pL3:∀(m:Nat)(hm:m<3),partL[m]'(by have:partL.length=4:=rfl;omega)≠[77,73,83,83,69,68]:=by decide
theorem Agw(h:PaOk x)(k:Int):paW (k,flds 1 (paLn x))=some ((x.1,x.2.1),[]):=by
 have hl:(paLn x).length<=200:=by
  unfold paLn;split
  ·simp
  split
  ·simp
  split<;>simp
 have w0:(paLn x)[0]? =some wdPART:=by
  unfold paLn;split
  ·rfl
  split
  ·rfl
  split<;>rfl
 have hk:=h.kd;unfold paW;rw[bdS (LM hl)];dsimp only;obtain⟨l1,e1⟩:=Jj hl w0 k 1 (k:=0) (k':=1) rfl rfl;rw[show o155 ((k,0,1),0,0,0) (flds 1 (paLn x))=some (wdPART,sc k 1 l1,flds 1 (paLn x))from e1,bdI];dsimp only;have key:∃l:Int,bd (o161 [[82,85,78,87,65,89],[67,79,77,77,79,78],[69,78,82,79,85,84,69],[77,73,83,83,69,68]] (sc k 1 l1) (flds 1 (paLn x))) (λv3=>cnd (v3.1==(0:Int)) (bd (o156 8 v3.2.1 v3.2.2) λv4=>some (((1:Int),v4.1),v4.2)) (cnd (v3.1==(1:Int)) (some (((2:Int),([]:Bt)),v3.2)) (cnd (v3.1==(2:Int)) (bd (o156 8 v3.2.1 v3.2.2) λv5=>some (((3:Int),v5.1),v5.2)) (cnd (v3.1==(3:Int)) (some (((4:Int),([]:Bt)),v3.2)) (some (((0:Int),([]:Bt)),v3.2))))))=some ((x.1,x.2.1),sc k ((paLn x).length:Nat) l,flds 1 (paLn x)):=by
  have hc:x.1=1\/x.1=2\/x.1=3\/x.1=4:=by omega
  rcases hc with e|e|e|e
  ·have hp:paLn x=[wdPART,wdRWY,x.2.1]:=by unfold paLn;rw[if_pos e]
   obtain⟨l2,e2⟩:=Jk hl (j:=1) (w:=wdRWY) (by rw[hp];rfl) (vs:=partL) (by decide) (i:=0) (by decide) rfl (λm hm=>by omega) k l1 (k:=1) (k':=2) rfl rfl;rw[show o161 [[82,85,78,87,65,89],[67,79,77,77,79,78],[69,78,82,79,85,84,69],[77,73,83,83,69,68]] (sc k 1 l1) (flds 1 (paLn x))=some (((0:Nat):Int),sc k 2 l2,flds 1 (paLn x))from e2,bdI];dsimp only;obtain⟨l3,e3⟩:=MG hl (j:=2) (w:=x.2.1) (by rw[hp];rfl) (h.n8 (Or.inl e)) k l2 (k:=2) (k':=3) rfl rfl;rw[cndT (by rfl),bdS e3];exact⟨l3,by rw[e,hp];rfl⟩
  ·have hp:paLn x=[wdPART,[67,79,77,77,79,78]]:=by unfold paLn;rw[if_neg (by omega),if_pos e]
   obtain⟨l2,e2⟩:=Jk hl (j:=1) (w:=[67,79,77,77,79,78]) (by rw[hp];rfl) (vs:=partL) (by decide) (i:=1) (by decide) rfl pL1 k l1 (k:=1) (k':=2) rfl rfl;rw[show o161 [[82,85,78,87,65,89],[67,79,77,77,79,78],[69,78,82,79,85,84,69],[77,73,83,83,69,68]] (sc k 1 l1) (flds 1 (paLn x))=some (((1:Nat):Int),sc k 2 l2,flds 1 (paLn x))from e2,bdI];dsimp only;rw[cndF (by rfl),cndT (by rfl)];exact⟨l2,by rw[e,h.nn (by omega),hp];rfl⟩
  ·have hp:paLn x=[wdPART,[69,78,82,79,85,84,69],x.2.1]:=by unfold paLn;rw[if_neg (by omega),if_neg (by omega),if_pos e]
   obtain⟨l2,e2⟩:=Jk hl (j:=1) (w:=[69,78,82,79,85,84,69]) (by rw[hp];rfl) (vs:=partL) (by decide) (i:=2) (by decide) rfl pL2 k l1 (k:=1) (k':=2) rfl rfl;rw[show o161 [[82,85,78,87,65,89],[67,79,77,77,79,78],[69,78,82,79,85,84,69],[77,73,83,83,69,68]] (sc k 1 l1) (flds 1 (paLn x))=some (((2:Nat):Int),sc k 2 l2,flds 1 (paLn x))from e2,bdI];dsimp only;obtain⟨l3,e3⟩:=MG hl (j:=2) (w:=x.2.1) (by rw[hp];rfl) (h.n8 (Or.inr e)) k l2 (k:=2) (k':=3) rfl rfl;rw[cndF (by rfl),cndF (by rfl),cndT (by rfl),bdS e3];exact⟨l3,by rw[e,hp];rfl⟩
  ·have hp:paLn x=[wdPART,[77,73,83,83,69,68]]:=by unfold paLn;rw[if_neg (by omega),if_neg (by omega),if_neg (by omega)]
   obtain⟨l2,e2⟩:=Jk hl (j:=1) (w:=[77,73,83,83,69,68]) (by rw[hp];rfl) (vs:=partL) (by decide) (i:=3) (by decide) rfl pL3 k l1 (k:=1) (k':=2) rfl rfl;rw[show o161 [[82,85,78,87,65,89],[67,79,77,77,79,78],[69,78,82,79,85,84,69],[77,73,83,83,69,68]] (sc k 1 l1) (flds 1 (paLn x))=some (((3:Nat):Int),sc k 2 l2,flds 1 (paLn x))from e2,bdI];dsimp only;rw[cndF (by rfl),cndF (by rfl),cndF (by rfl),cndT (by rfl)];exact⟨l2,by rw[e,h.nn (by omega),hp];rfl⟩
 obtain⟨l,e⟩:=key;rw[bdS e];dsimp only;rw[bdS (LL (ws:=paLn x) k l rfl)];rfl
theorem Adq{fs:List Fd}(hl:fs.length<=200)(hz:wsz (fs.map λf=>f.1)<=10000):o220 fs=some (jb (fs.map λf=>f.1)):=by
 unfold o220;refine AN (n:=fs.length) (λi=>((fs,((fs.length:Nat):Int)),(i:Int),(fs.take i).map λf=>f.1)) rfl (λi hi=>?_) ?_
 ·dsimp only;rw[cndT dt,gdT dt,aH,Ad hi,bdI,gdT (dt (by simp;omega)),Ac,aO hi,aZ];rfl
 ·dsimp only;rw[cndF df,aV];refine dnE ?_;rw[bdS LI]
theorem Adr(h:o126 (lgr g)=some 0)(hi:P47 g.2.1/\P47 g.2.2.1)(k:Int):legW (k,flds 1 (lgLn g))=some (g,[]):=by
 have hok:=LG h;have hz:=Gr hok hi;have hl:(lgLn g).length<=200:=by
  have:∀l:Line,l.length<=wsz l:=λl=>by
   induction l with
   |nil=>exact bI _
   |cons x l ih=>rw[AX,aE];omega
  have:=this (lgLn g);have h2:=(JP h hi).2.2;omega
 have hne:legWs (lgr g)≠[]:=λe=>by unfold legWs at e;simp at e
 have hpos:=bD.2 hne;have hll:(lgLn g).length=(legWs (lgr g)).length+1:=rfl;have hfl:(flds 1 (lgLn g)).length=(lgLn g).length:=BB 1 _;unfold legW;rw[bdS (LM hl)];dsimp only;obtain⟨l1,e1⟩:=Jj hl (j:=0) (w:=wdLEG) rfl k 1 (k:=0) (k':=1) rfl rfl;rw[show o155 ((k,0,1),0,0,0) (flds 1 (lgLn g))=some (wdLEG,sc k 1 l1,flds 1 (lgLn g))from e1,bdI];dsimp only;have e167:∃s,o167 (sc k 1 l1) (flds 1 (lgLn g))=some (jb (legWs (lgr g)),s,flds 1 (lgLn g)):=by
  unfold o167 o219 o217;unfold sc;dsimp only;rw[AL rfl,bdI,Aj,bdI,hfl,Ac,cndF AU,gdT dt,gdT (dt (by show _/\(0:Int)<(((lgLn g).length-1:Nat):Int);omega))];have hd:cG ((lgLn g).length-(1:Int).toNat) (cS (1:Int).toNat (flds 1 (lgLn g)))=flds (1+(wdLEG.length:Int)+1) (legWs (lgr g)):=by show cG ((lgLn g).length-1) (flds (1+(wdLEG.length:Int)+1) (legWs (lgr g)))=_;rw[bU (by rw[BB,hll];omega)]
  rw[hd,bdS (Adq (by rw[BB];omega) (by rw[Fs];omega)),Fs];exact⟨_,rfl⟩
 obtain⟨s,e167⟩:=e167;rw[bdS e167];dsimp only;rw[bdS (Adm h hi)];have hjne:jb (legWs (lgr g))≠[]:=λe=>by
  cases hw:legWs (lgr g)with
  |nil=>exact hne hw
  |cons x l=>
   rw[hw,HO]at e;have:=(LH hok hi) x (by rw[hw];exact aU);exact this.1 (List.append_eq_nil_iff.1 e).1
 rw[show(jb (legWs (lgr g))==[])=false by simpa using hjne];rfl
def Stps{σ ρ:Type}(B:σ->Option (Ctl σ ρ)):Nat->σ->σ->Prop
 |0,s,t=>s=t
 |n+1,s,t=>∃u,B s=some (.go u)/\Stps B n u t
theorem ES{σ ρ:Type}{B:σ->Option (Ctl σ ρ)}{s t:σ}(h:B s=some (.go t)):Stps B 1 s t:=⟨t,h,rfl⟩
theorem Ch{σ ρ:Type}{B:σ->Option (Ctl σ ρ)}:∀{n m:Nat}{s t u:σ},Stps B n s t->Stps B m t u->Stps B (n+m) s u
 |0,m,s,t,u,h1,h2=>by have h1:s=t:=h1;subst h1;rw[Nat.zero_add];exact h2
 |n+1,m,s,t,u,h1,h2=>by obtain⟨v,e,h1⟩:=h1;rw[show n+1+m=(n+m)+1 by omega];exact⟨v,e,Ch h1 h2⟩
theorem QI{σ ρ:Type}{B:σ->Option (Ctl σ ρ)}{r:ρ}:∀{n N:Nat}{s t:σ},n<N->Stps B n s t->B t=some (.done r)->loopO N B s=some r
 |0,N+1,s,t,_,h1,h2=>by have h1:s=t:=h1;subst h1;exact GA h2
 |n+1,N+1,s,t,hn,h1,h2=>by obtain⟨v,e,h1⟩:=h1;rw[JY e];exact QI (by omega) h1 h2
def AtL(ls:List Ln)(i:Nat)(bl:List Line):Prop:=∀j(h:j<bl.length),∃h2:i+j<ls.length,ls[i+j]=(1+((i+j:Nat):Int),flds 1 bl[j])
theorem AtL.l{a b:List Line}(h:AtL ls i (a++b)):AtL ls i a:=λj hj=>by obtain⟨h2,e⟩:=h j (by rw[aC];omega);exact⟨h2,by rw[e,List.getElem_append_left hj]⟩
theorem AtL.r{a b:List Line}(h:AtL ls i (a++b)):AtL ls (i+a.length) b:=λj hj=>by
 obtain⟨h2,e⟩:=h (a.length+j) (by rw[aC];omega);have e1:i+(a.length+j)=i+a.length+j:=by omega
 refine⟨by omega,?_⟩
 have e2:(a++b)[a.length+j]'(by rw[aC];omega)=b[j]:=by rw[List.getElem_append_right (by omega)];congr 1;omega
 rw[e2]at e;simp only[e1]at e;exact e
theorem AtL.hd{l:Line}{b:List Line}(h:AtL ls i (l::b)):∃h2:i<ls.length,ls[i]=(1+(i:Int),flds 1 l):=by obtain⟨h2,e⟩:=h 0 (by simp);exact⟨by omega,by simpa using e⟩
theorem AtL.tl{l:Line}{b:List Line}(h:AtL ls i (l::b)):AtL ls (i+1) b:=AtL.r (a:=[l]) h
theorem AaS(lines:List Line):AtL (recs 1 lines) 0 lines:=λj hj=>by
 have hl:j<(recs 1 lines).length:=by rw[BW];exact hj
 refine⟨by omega,?_⟩
 have:=EH 1 lines j hj (0,[]);rw[Ad hl]at this;simp only[Nat.zero_add];exact this
def cH(ls:List Ln)(h:Az)(a p q:Bool):Cm_:=(((ls,h.1.1),h.1.2.1,h.1.2.2,h.2.1),(h.2.2.1,h.2.2.2),a,p,q)
def okE(e:El_):Prop:=shortE e/\shapeE e
structure LsOk(ls:List Ln):Prop where
 n:ls.length<=100000
 e:∀l∈ls,l.2≠[]
theorem LsOk.s2(h:LsOk ls)(ha:all.length<=1000):AR ls [] all:=⟨h.n,h.e,by simp,by omega⟩
theorem AdP(e:El_)(h1:(eP e).2.2.2=[])(h2:eQ e=[])(h3:eG e=[]):okE e:=by refine⟨⟨by rw[h1];simp,by rw[h2];simp,by rw[h3];simp⟩,by rw[h1];simp,by rw[h1,h3];rfl,λp hp=>(by rw[h1]at hp;cases hp),λg hg=>(by rw[h3]at hg;cases hg)⟩
section
variable{B:B2_}(S:Rnd2 B)(L:LsOk ls)
include S L
theorem Alv(h0:o63 h=some 0)(hs:P47 h.1.1)(hp:posR h.2.2.1 h.2.2.2)(hat:AtL ls 0 [hdLn h]){c:Cm_}(hc:c.1.1.1=ls):Stps B 1 (s2 ls 0 c [] []) (s2 ls 1 (cH ls h false false false) [] []):=by
 obtain⟨hi,e⟩:=hat.hd;have k1:w0 ls[0]=wdDB:=by rw[e];rfl
 refine ES ?_;rw[S.fDB0 ls 0 hi c [] [] (L.s2 (by simp)) k1 rfl,e,Ags h0 hs hp,bdI];subst hc;rfl
theorem Alw(hf:FixOk (gf f))(hi0:i≠0)(hat:AtL ls i [fxLn f]){a p q:Bool}(ha:all.length<=1000):∃e,fxE e=[f]/\aiE e=[]/\prE e=[]/\okE e/\Stps B 1 (s2 ls i (cH ls h a p q) [] all) (s2 ls (i+1) (cH ls h false false false) [] (all++[e])):=by
 obtain⟨hi,e⟩:=hat.hd;have hk:1<=f.2.2.1/\f.2.2.1<=6:=hf.1;obtain⟨r,er,e1,e2⟩:=Agt hf (1+(i:Int));rw[<-e]at er;have k1:w0 ls[i]=kindW f.2.2.1:=by rw[e];rfl
 have sh:=L.s2 ha;have fin:B (s2 ls i (cH ls h a p q) [] all)=bd (o95 ls[i]) (λr=>some (.go (s2 ls (i+1) (flg (cH ls h a p q) false false false) ([]++dgF r) (all++[elF ls[i] (fxOf r)]))))->Stps B 1 (s2 ls i (cH ls h a p q) [] all) (s2 ls (i+1) (cH ls h false false false) [] (all++[elF ls[i] (gf f)])):=λhB=>by refine ES ?_;rw[hB,bdS er,e1,e2];rfl
 refine⟨elF ls[i] (gf f),rfl,rfl,rfl,AdP _ rfl rfl rfl,?_⟩
 rcases GX hk with g|g|g|g|g|g
 ·exact fin (S.fWP1 ls i hi _ [] all sh (by rw[k1,g];rfl) hi0)
 ·exact fin (S.fVOR1 ls i hi _ [] all sh (by rw[k1,g];rfl) hi0)
 ·exact fin (S.fDME1 ls i hi _ [] all sh (by rw[k1,g];rfl) hi0)
 ·exact fin (S.fNDB1 ls i hi _ [] all sh (by rw[k1,g];rfl) hi0)
 ·exact fin (S.fAPT1 ls i hi _ [] all sh (by rw[k1,g];rfl) hi0)
 ·exact fin (S.fRWY1 ls i hi _ [] all sh (by rw[k1,g];rfl) hi0)
theorem AaT:∀(F:List Be)(i:Nat)(a p q:Bool)(all:List El_),(∀f∈F,FixOk (gf f))->i≠0->AtL ls i (F.map fxLn)->all.length+F.length<=1000->∃E a' p' q',fxs E=F/\ais E=[]/\prs E=[]/\E.length=F.length/\(∀e∈E,okE e)/\Stps B F.length (s2 ls i (cH ls h a p q) [] all) (s2 ls (i+F.length) (cH ls h a' p' q') [] (all++E))
 | [],i,a,p,q,all,_,_,_,_=>⟨[],a,p,q,rfl,rfl,rfl,rfl,λe he=>(by cases he),by rw[aD];rfl⟩
 |f::F,i,a,p,q,all,hF,hi0,hat,hl=>by
  have hl2:all.length+(F.length+1)<=1000:=hl;obtain⟨e,f1,f2,f3,oe,st⟩:=Alw S L (h:=h) (hF f aU) hi0 (AtL.l (a:=[fxLn f]) hat) (a:=a) (p:=p) (q:=q) (all:=all) (by omega);obtain⟨E,a',p',q',g1,g2,g3,g4,g5,st2⟩:=AaT F (i+1) false false false (all++[e]) (λx hx=>hF x (bG _ hx)) (by omega) hat.tl (by rw[aC,aS];omega);refine⟨e::E,a',p',q',?_,?_,?_,by rw[aE,aE,g4],λx hx=>?_,?_⟩
  ·unfold fxs at g1⊢;rw[aR,f1,g1];rfl
  ·unfold ais at g2⊢;rw[aR,f2,g2];rfl
  ·unfold prs at g3⊢;rw[aR,f3,g3];rfl
  ·rcases bA.1 hx with hx|hx
   ·subst hx;exact oe
   ·exact g5 x hx
  ·have:=Ch st st2;rw[aM]at this;rw[aE,cU F.length 1,<-bX];exact this
def pE(l:Ln)(p:AA)(ps:List Bh)(Q:List Ln)(G:List (List Ln)):El_:=(112,(l.1,l.2),([],[],0,(0,0),0,0),([],[]),[],(p.1,p.2.1,p.2.2.1,ps),Q,G)
end
structure okPs(n:Nat)(ps:List Bh)(Q:List Ln)(G:List (List Ln)):Prop where
 q:Q.length=ps.length
 g:G.length=ps.length
 n:ps.length<=n
 l:∀x∈ps,x.2.2.length<=100
 m:∀x∈G,x.length<=100
theorem okPs.e(hn:n<=1000){l:Ln}(h:okPs n ps Q G):okE (pE l p ps Q G):=by
 have h1:=h.q;have h2:=h.g;have h3:=h.n;refine⟨⟨by show ps.length<=_;omega,by show Q.length<=_;omega,by show G.length<=_;omega⟩,by show ps.length<=_;omega,h2,λx hx=>?_,λx hx=>?_⟩
 ·have:=h.l x hx;omega
 ·have:=h.m x hx;omega
theorem setLs(I:List α)(e x:α):(I++[e]).set ((I++[e]).length-1) x=I++[x]:=Ly I e x
theorem Ads{l:Ln}{nm:Bt}{lg:List Bw}{gl:List Ln}(hG:G.length=ps.length)(l2:Ln)(g:Bw):addG (pE l p (ps++[(k,nm,lg)]) Q (G++[gl])) l2 g=pE l p (ps++[(k,nm,lg++[g])]) Q (G++[gl++[l2]]):=by
 have e1:(ps++[(k,nm,lg)]).length-1=(G++[gl]).length-1:=by simp[hG]
 unfold addG;refine(if_pos (show 0<(ps++[(k,nm,lg)]).length by simp)).trans ?_;show(112,(l.1,l.2),([],[],0,(0,0),0,0),([],[]),[],(p.1,p.2.1,p.2.2.1,(ps++[(k,nm,lg)]).set ((ps++[(k,nm,lg)]).length-1) (((ps++[(k,nm,lg)]).getD ((ps++[(k,nm,lg)]).length-1) AD).1,((ps++[(k,nm,lg)]).getD ((ps++[(k,nm,lg)]).length-1) AD).2.1,((ps++[(k,nm,lg)]).getD ((ps++[(k,nm,lg)]).length-1) AD).2.2++[g])),Q,(G++[gl]).set ((ps++[(k,nm,lg)]).length-1) ((G++[gl]).getD ((ps++[(k,nm,lg)]).length-1) Dj++[l2]))=_;rw[HQ,setLs,e1,HQ,setLs];rfl
section
variable{B:B2_}(S:Rnd2 B)(L:LsOk ls)
include S L
theorem AaU {l:Ln} {p:AA} {n:Nat} (hn:n<=900):∀ (gs:List Bw) (i:Nat) (I:List El_) (ps:List Bh) (k:Int) (nm:Bt) (lg:List Bw) (Q:List Ln) (G:List (List Ln)) (gl:List Ln),
  (∀g∈gs,o126 (lgr g)=some 0/\P47 g.2.1/\P47 g.2.2.1)->i≠0->AtL ls i (gs.map lgLn)->I.length<=900->(∀e∈I,okE e)->okPs n (ps++[(k,nm,lg)]) Q (G++[gl])->gl.length=lg.length->lg.length+gs.length<=24->
  ∃gl',okPs n (ps++[(k,nm,lg++gs)]) Q (G++[gl'])/\Stps B gs.length (s2 ls i (cH ls h false true true) [] (I++[pE l p (ps++[(k,nm,lg)]) Q (G++[gl])])) (s2 ls (i+gs.length) (cH ls h false true true) [] (I++[pE l p (ps++[(k,nm,lg++gs)]) Q (G++[gl'])]))
 | [],i,I,ps,k,nm,lg,Q,G,gl,_,_,_,_,_,ho,_,_=>⟨gl,by rw[aD];exact ho,by rw[aD];rfl⟩
 |g::gs,i,I,ps,k,nm,lg,Q,G,gl,hg,hi0,hat,hI,hIo,ho,hgl,hlen=>by
  have hlen:lg.length+(gs.length+1)<=24:=hlen;obtain⟨hi,e⟩:=hat.hd;have hg0:=hg g aU;have hG:G.length=ps.length:=by have:=ho.g;rw[aC,aC]at this;simpa using this
  have hli:ls[i].2≠[]:=L.e _ (aG hi);have hall:∀x∈I++[pE l p (ps++[(k,nm,lg)]) Q (G++[gl])],shapeE x:=λx hx=>by
   rcases aL.1 hx with hx|hx
   ·exact(hIo x hx).2
   ·rw[aI]at hx;subst hx;exact(ho.e (by omega)).2
  have hst:B (s2 ls i (cH ls h false true true) [] (I++[pE l p (ps++[(k,nm,lg)]) Q (G++[gl])]))=some (.go (s2 ls (i+1) (cH ls h false true true) [] (I++[pE l p (ps++[(k,nm,lg++[g])]) Q (G++[gl++[ls[i]]])]))):=by rw[S.fLEG1 ls i hi _ [] _ (L.s2 (by rw[aC,aS];omega)) (by rw[e];rfl) hi0 rfl];rw[MA hli _ (by simp) (by rw[aC,aS];omega) hall];rw[show legW ls[i]=some (g,[]) by rw[e];exact Adr hg0.1 hg0.2 _];rw[bdI,bdI,Qu];unfold stG;rw[if_pos (show(pE l p (ps++[(k,nm,lg)]) Q (G++[gl])).1=112 from rfl),Ads hG];rfl
  have ho2:okPs n (ps++[(k,nm,lg++[g])]) Q (G++[gl++[ls[i]]]):=by
   refine⟨by have:=ho.q;simp at this⊢;omega,by have:=ho.g;simp at this⊢;omega,by have:=ho.n;simp at this⊢;omega,λx hx=>?_,λx hx=>?_⟩
   ·rcases aL.1 hx with hx|hx
    ·exact ho.l x (bY _ hx)
    ·rw[aI]at hx;subst hx;show(lg++[g]).length<=_;rw[aC,aS];omega
   ·rcases aL.1 hx with hx|hx
    ·exact ho.m x (bY _ hx)
    ·rw[aI]at hx;subst hx;rw[aC,aS];omega
  obtain⟨gl',ho',st'⟩:=AaU hn gs (i+1) I ps k nm (lg++[g]) Q G (gl++[ls[i]]) (λx hx=>hg x (bG _ hx)) (by omega) hat.tl hI hIo ho2 (by rw[aC,aC,hgl];rfl) (by rw[aC,aS];omega);refine⟨gl',?_,?_⟩
  ·rw[aM]at ho';exact ho'
  ·have:=Ch (ES hst) st';rw[aM]at this;rw[aE,cU gs.length 1,<-bX];exact this
theorem AaV {l:Ln} {p:AA}:∀ (xs:List Bh) (i:Nat) (q:Bool) (I:List El_) (ps:List Bh) (Q:List Ln) (G:List (List Ln)),
  (∀x∈xs,PaG x)->i≠0->AtL ls i (xs.flatMap paLns)->I.length<=900->(∀e∈I,okE e)->okPs 12 ps Q G->ps.length+xs.length<=12->
  ∃Q' G' q',okPs 12 (ps++xs) Q' G'/\Stps B (xs.flatMap paLns).length (s2 ls i (cH ls h false true q) [] (I++[pE l p ps Q G])) (s2 ls (i+(xs.flatMap paLns).length) (cH ls h false true q') [] (I++[pE l p (ps++xs) Q' G']))
 | [],i,q,I,ps,Q,G,_,_,_,_,_,ho,_=>⟨Q,G,q,by rw[aD];exact ho,by rw[aD];rfl⟩
 |x::xs,i,q,I,ps,Q,G,hx,hi0,hat,hI,hIo,ho,hlen=>by
  have hlen:ps.length+(xs.length+1)<=12:=hlen;have hx0:=hx x aU;have hat:AtL ls i (([paLn x]++x.2.2.map lgLn)++xs.flatMap paLns):=hat;obtain⟨hi,e⟩:=hat.l.l.hd;have hall:∀y∈I++[pE l p ps Q G],shortE y:=λy hy=>by
   rcases aL.1 hy with hy|hy
   ·exact(hIo y hy).1
   ·rw[aI]at hy;subst hy;exact(ho.e (by omega)).1
  have hst:B (s2 ls i (cH ls h false true q) [] (I++[pE l p ps Q G]))=some (.go (s2 ls (i+1) (cH ls h false true true) [] (I++[pE l p (ps++[(x.1,x.2.1,[])]) (Q++[ls[i]]) (G++[[]])]))):=by
   have w:w0 ls[i]=wdPART:=by
    rw[e];unfold paLn;split
    ·rfl
    split
    ·rfl
    split<;>rfl
   rw[S.fPART1 ls i hi _ [] _ (L.s2 (by rw[aC,aS];omega)) w hi0 rfl];rw[Qs _ _ (by simp) (by rw[aC,aS];omega) hall];rw[show paW ls[i]=some ((x.1,x.2.1),[]) by rw[e];exact Agw hx0.1 _];rw[bdI,bdI,Qt];unfold stP;rw[if_pos (show(pE l p ps Q G).1=112 from rfl)];rfl
  have ho2:okPs 12 (ps++[(x.1,x.2.1,([]:List Bw))]) (Q++[ls[i]]) (G++[[]]):=by
   refine⟨by have:=ho.q;simp;omega,by have:=ho.g;simp;omega,by simp;omega,λy hy=>?_,λy hy=>?_⟩
   ·rcases aL.1 hy with hy|hy
    ·exact ho.l y hy
    ·rw[aI]at hy;subst hy;simp
   ·rcases aL.1 hy with hy|hy
    ·exact ho.m y hy
    ·rw[aI]at hy;subst hy;simp
  obtain⟨gl',ho3,st3⟩:=AaU S L (h:=h) (l:=l) (p:=p) (n:=12) (by omega) x.2.2 (i+1) I ps x.1 x.2.1 [] (Q++[ls[i]]) G [] (λg hg=>⟨hx0.1.lg g hg,hx0.2 g hg⟩) (by omega) hat.l.r hI hIo ho2 rfl (by have:=hx0.1.ln.2;simp;omega);have ho3:okPs 12 (ps++[x]) (Q++[ls[i]]) (G++[gl']):=ho3;have hpl:(paLns x).length=1+x.2.2.length:=by unfold paLns;rw[aE,bP];omega
  have hr:AtL ls (i+1+x.2.2.length) (xs.flatMap paLns):=by have:=hat.r;rw[aC,bP,aS,<-bX]at this;exact this
  obtain⟨Q',G',q',ho4,st4⟩:=AaV xs (i+1+x.2.2.length) true I (ps++[x]) (Q++[ls[i]]) (G++[gl']) (λy hy=>hx y (bG _ hy)) (by omega) hr hI hIo ho3 (by rw[aC,aS];omega);refine⟨Q',G',q',?_,?_⟩
  ·rw[aM]at ho4;exact ho4
  ·have:=Ch (ES hst) (Ch st3 st4);rw[aM]at this;rw[aR,aC,hpl];rw[show i+(1+x.2.2.length+(xs.flatMap paLns).length)=i+1+x.2.2.length+(xs.flatMap paLns).length by omega,show 1+x.2.2.length+(xs.flatMap paLns).length=1+(x.2.2.length+(xs.flatMap paLns).length) by omega];exact this
theorem Alx(hp:PrG p)(hi0:i≠0)(hat:AtL ls i (prLns p)){a c:Bool}(ha:all.length<=900)(hao:∀e∈all,okE e):∃e c',fxE e=[]/\aiE e=[]/\prE e=[p]/\okE e/\Stps B (prLns p).length (s2 ls i (cH ls h a b c) [] all) (s2 ls (i+(prLns p).length) (cH ls h false true c') [] (all++[e])):=by
 have hat:AtL ls i ([prLn p]++p.2.2.2.flatMap paLns):=hat;obtain⟨hi,e⟩:=hat.l.hd;have sh:=L.s2 (all:=all) (by omega);have hpw:prW ls[i]=some ((p.1,p.2.1),[]):=by rw[e];exact Agv hp _
 have k1:w0 ls[i]=pw p.2.2.1:=by rw[e];rfl
 have fin:∀k:Int,p.2.2.1=k->B (s2 ls i (cH ls h a b c) [] all)=bd (HJ ls[i] k (flg (cH ls h a b c) false true false) [] all) (λr=>some (.go (s2 ls (i+1) r.1 r.2.1 r.2.2)))->B (s2 ls i (cH ls h a b c) [] all)=some (.go (s2 ls (i+1) (cH ls h false true false) [] (all++[pE ls[i] p [] [] []]))):=λk hk hB=>by rw[hB,Qq _ _ _ (by simp) (by omega),hpw,bdI,bdI,<-hk];rfl
 have hst:B (s2 ls i (cH ls h a b c) [] all)=some (.go (s2 ls (i+1) (cH ls h false true false) [] (all++[pE ls[i] p [] [] []]))):=by
  have hk:p.2.2.1=1\/p.2.2.1=2\/p.2.2.1=3:=hp.1.kd;rcases hk with g|g|g
  ·exact fin 1 g (S.fDEP1 ls i hi _ [] all sh (by rw[k1,g];rfl) hi0)
  ·exact fin 2 g (S.fARR1 ls i hi _ [] all sh (by rw[k1,g];rfl) hi0)
  ·exact fin 3 g (S.fAPP1 ls i hi _ [] all sh (by rw[k1,g];rfl) hi0)
 have hl:p.2.2.2.length<=12:=hp.1.ln;obtain⟨Q',G',q',ho,st⟩:=AaV S L (h:=h) (l:=ls[i]) (p:=p) p.2.2.2 (i+1) false all [] [] [] hp.2 (by omega) hat.r ha hao ⟨rfl,rfl,by simp,λx hx=>(by cases hx),λx hx=>(by cases hx)⟩ (by simp;omega);refine⟨pE ls[i] p p.2.2.2 Q' G',q',rfl,rfl,rfl,ho.e (by omega),?_⟩
 have:=Ch (ES hst) st;have hpl:(prLns p).length=1+(p.2.2.2.flatMap paLns).length:=by unfold prLns;rw[aE];omega
 rw[hpl,<-bX];exact this
theorem AaW:∀(P:List AA)(i:Nat)(a b c:Bool)(all:List El_),(∀p∈P,PrG p)->i≠0->AtL ls i (P.flatMap prLns)->all.length+P.length<=900->(∀e∈all,okE e)->∃E a' b' c',fxs E=[]/\ais E=[]/\prs E=P/\E.length=P.length/\(∀e∈E,okE e)/\Stps B (P.flatMap prLns).length (s2 ls i (cH ls h a b c) [] all) (s2 ls (i+(P.flatMap prLns).length) (cH ls h a' b' c') [] (all++E))
 | [],i,a,b,c,all,_,_,_,_,_=>⟨[],a,b,c,rfl,rfl,rfl,rfl,λe he=>(by cases he),by rw[aD];rfl⟩
 |p::P,i,a,b,c,all,hP,hi0,hat,hl,hao=>by
  have hl2:all.length+(P.length+1)<=900:=hl;have hat:AtL ls i (prLns p++P.flatMap prLns):=hat;obtain⟨e,c',f1,f2,f3,oe,st⟩:=Alx S L (h:=h) (hP p aU) hi0 hat.l (a:=a) (b:=b) (c:=c) (all:=all) (by omega) hao;obtain⟨E,a',b',c2,g1,g2,g3,g4,g5,st2⟩:=AaW P (i+(prLns p).length) false true c' (all++[e]) (λx hx=>hP x (bG _ hx)) (by omega) hat.r (by rw[aC,aS];omega) (λx hx=>by
   rcases aL.1 hx with hx|hx
   ·exact hao x hx
   ·rw[aI]at hx;subst hx;exact oe)
  refine⟨e::E,a',b',c2,?_,?_,?_,by rw[aE,aE,g4],λx hx=>?_,?_⟩
  ·unfold fxs at g1⊢;rw[aR,f1,g1];rfl
  ·unfold ais at g2⊢;rw[aR,f2,g2];rfl
  ·unfold prs at g3⊢;rw[aR,f3,g3];rfl
  ·rcases bA.1 hx with hx|hx
   ·subst hx;exact oe
   ·exact g5 x hx
  ·have:=Ch st st2;rw[aM]at this;rw[aR,aC,<-bX];exact this
end
end Go.Proofs.YtpglaekodahcoaaGreatDoor
