/-
TopCompile returns true for every input. Conditions:none.
-/
import Derived.Test.YtpglaekodahcoaaGreatDoorM7
import Derived.LaidMore
import Derived.Stop.Joined
import Derived.Stop.LaidErr
import Derived.Test.YtpglaekodahcoaaGreatDoorRows
import Derived.Lay
import Derived.Test.YtpglaekodahcoaaGreatDoorTie
import Derived.Test.YtpglaekodahcoaaGreatDoorCards
import Derived.SevenTiedAt
import Derived.ChangeMaps5
namespace Go.Proofs.YtpglaekodahcoaaGreatDoor
set_option linter.unusedVariables false
set_option linter.unusedSimpArgs false
set_option maxRecDepth 100000
open Go.RowKit
open _root_.List renaming length_append->aB,flatMap_append->aC,append_nil->aD,length_cons->aE,flatMap_cons->aG,map_append->aH,nil_append->aI,mem_cons->aJ,mem_cons_self->aK,mem_singleton->aL,length_singleton->aM,drop_eq_getElem_cons->aO,take_of_length_le->aQ,mem_append_right->aR,length_take->aS,mem_cons_of_mem->aT,mem_append_left->aU,length_map->aV,getElem_of_mem->aW,length_flatMap->aX,getElem_mem->aZ,mem_flatMap->bA,mem_append->bD,length_nil->bE,length_pos_iff->bF
open _root_.Nat renaming eq_of_beq_eq_true->aN,beq->aY,zero_add->bC,succ_mul->bG
open _root_.Bool renaming and_eq_true->bB
variable{F:List Be}{A:List AQ}{P:List AA}{h:Az}{W:World}{all:List El_}{ls:List Ln}{lines:List Line}{i:Nat}{a:AQ}{α:Type}{k:Int}{p:AA}
theorem QJ{ls:List Ln}:∀(m i:Nat),(∀j,j<m->∃h:i+j<ls.length,w0 ls[i+j]=wdVIA)->run (ls.drop i)=m+run (ls.drop (i+m))
 |0,i,_=>by rw[bC,Nat.add_zero]
 |m+1,i,h=>by
  obtain⟨hi,e⟩:=h 0 (by omega);have hi:i<ls.length:=hi;have e:w0 ls[i]=wdVIA:=e;have ih:=QJ (ls:=ls) m (i+1) λj hj=>by
   obtain⟨h1,e1⟩:=h (j+1) (by omega);have e2:i+(j+1)=i+1+j:=by omega
   refine⟨by omega,?_⟩
   simp only[e2]at e1;exact e1
  rw[aO hi];show cond (w0 ls[i]==via) (run (ls.drop (i+1))+1) 0=_;rw[e,show(wdVIA==via)=true by decide,cond_true,ih,show i+1+m=i+(m+1) by omega];omega
theorem Adt{bl:List Line}(h:AtL ls i bl):(ls.drop i).take bl.length=recs (1+(i:Int)) bl:=by
 refine List.ext_getElem ?_ λj h1 h2=>?_
 ·rw[aS,List.length_drop,BW];by_cases hb:bl.length=0
  ·omega
  ·obtain⟨h2,_⟩:=h (bl.length-1) (by omega);omega
 ·have hj:j<bl.length:=by rw[BW]at h2;exact h2
  obtain⟨h3,e⟩:=h j hj;have:=EH (1+(i:Int)) bl j hj (0,[]);rw[Ad h2]at this;rw[this,List.getElem_take,List.getElem_drop,e,show(1+((i+j:Nat):Int))=1+(i:Int)+(j:Int) by omega]
theorem AaX{l:Ln}{vs:List Ln}(c:Cm_){bad:List Dg}(hv:vs.length<=1900)(ha:all.length<=100000)(h:o165 ([(l.1,l.2)]++vs)=some (((a.1,0),0,0,false),a.2)):Jg l vs c bad all=some (c,bad,all++[elA l a vs]):=by unfold Jg;rw[gdT (dt (by simp;omega)),bdS h];dsimp only;rw[Aj,bdI];dsimp only;rw[gdT (dt ⟨by simp,by simp;omega⟩)];rfl
section
variable{B:B2_}(S:Rnd2 B)(L:LsOk ls)
include S L
theorem Uw{all:List El_}(ha:all.length<=1000):∀(m i:Nat),i≠0->(∀j,j<m->∃h:i+j<ls.length,w0 ls[i+j]=wdVIA)->Stps B m (s2 ls i (cH ls h true false false) [] all) (s2 ls (i+m) (cH ls h true false false) [] all)
 |0,i,_,_=>rfl
 |m+1,i,hi0,hv=>by
  obtain⟨hi,e⟩:=hv 0 (by omega);have hi:i<ls.length:=hi;have e:w0 ls[i]=wdVIA:=e;have ih:=Uw ha m (i+1) (by omega) λj hj=>by
   obtain⟨h1,e1⟩:=hv (j+1) (by omega);have e2:i+(j+1)=i+1+j:=by omega
   refine⟨by omega,?_⟩
   simp only[e2]at e1;exact e1
  have hst:B (s2 ls i (cH ls h true false false) [] all)=some (.go (s2 ls (i+1) (cH ls h true false false) [] all)):=S.fVIA1 ls i hi _ [] all (L.s2 ha) e hi0 rfl;have:=Ch (ES hst) ih;rw[show i+(m+1)=i+1+m by omega,Nat.add_comm m 1];exact this
theorem Aly(h0:o70 a=some 0)(hg:AirG a)(hi0:i≠0)(hat:AtL ls i (aiLns a))(hrun:run (ls.drop (i+(aiLns a).length))=0){x y z:Bool}(ha:all.length<=900):∃e,fxE e=[]/\aiE e=[a]/\prE e=[]/\okE e/\Stps B (aiLns a).length (s2 ls i (cH ls h x y z) [] all) (s2 ls (i+(aiLns a).length) (cH ls h true false false) [] (all++[e])):=by
 have hat2:AtL ls i ([[wdAWY,a.1]]++viaLs a a.2.length):=hat;obtain⟨hi,e⟩:=hat2.l.hd;have hln:=hg.1.ln;have hll:=EI a;have hvs:∀j,j<a.2.length->∃h:i+1+j<ls.length,w0 ls[i+1+j]=wdVIA:=λj hj=>by
  obtain⟨h1,e1⟩:=hat2.r j (by rw[EF];exact hj);refine⟨h1,?_⟩
  rw[show ls[i+1+j]=_ from e1];unfold viaLs;rw[List.getElem_map];rfl
 have hr:run (ls.drop (i+1))=a.2.length:=by rw[QJ a.2.length (i+1) hvs,show i+1+a.2.length=i+(aiLns a).length by omega,hrun];rfl
 have hrec:=Adt hat;have hsplit:[(ls[i].1,ls[i].2)]++(ls.drop (i+1)).take a.2.length=recs (1+(i:Int)) (aiLns a):=by rw[<-hrec,hll,aO hi];rfl
 have h165:o165 ([(ls[i].1,ls[i].2)]++(ls.drop (i+1)).take a.2.length)=some (((a.1,0),0,0,false),a.2):=by rw[hsplit];exact Adp hg h0 _
 refine⟨elA ls[i] a ((ls.drop (i+1)).take a.2.length),rfl,rfl,rfl,AdP _ rfl rfl rfl,?_⟩
 have hst:B (s2 ls i (cH ls h x y z) [] all)=some (.go (s2 ls (i+1) (cH ls h true false false) [] (all++[elA ls[i] a ((ls.drop (i+1)).take a.2.length)]))):=by rw[S.fAWY1 ls i hi _ [] all (L.s2 (by omega)) (by rw[e];rfl) hi0];rw[Qo (c:=flg (cH ls h x y z) true false false) [] all hi L.n L.e,bdI];show bd (Jg ls[i] ((ls.drop (i+1)).take (run (ls.drop (i+1)))) (cH ls h true false false) [] all) _=_;rw[hr,AaX _ (by rw[aS];omega) (by omega) h165,bdI]
 have:=Ch (ES hst) (Uw S L (h:=h) (all:=all++[elA ls[i] a ((ls.drop (i+1)).take a.2.length)]) (by rw[aB,aM];omega) a.2.length (i+1) (by omega) hvs);rw[hll,show i+(a.2.length+1)=i+1+a.2.length by omega,Nat.add_comm a.2.length 1];exact this
theorem AaY:∀(A:List AQ)(i:Nat)(a b c:Bool)(all:List El_),(∀x∈A,o70 x=some 0/\AirG x)->i≠0->AtL ls i (A.flatMap aiLns)->run (ls.drop (i+(A.flatMap aiLns).length))=0->all.length+A.length<=900->∃E a' b' c',fxs E=[]/\ais E=A/\prs E=[]/\E.length=A.length/\(∀e∈E,okE e)/\Stps B (A.flatMap aiLns).length (s2 ls i (cH ls h a b c) [] all) (s2 ls (i+(A.flatMap aiLns).length) (cH ls h a' b' c') [] (all++E))
 | [],i,a,b,c,all,_,_,_,_,_=>⟨[],a,b,c,rfl,rfl,rfl,rfl,λe he=>(by cases he),by rw[aD];rfl⟩
 |x::A,i,a,b,c,all,hA,hi0,hat,hrun,hl=>by
  have hl2:all.length+(A.length+1)<=900:=hl;have hat:AtL ls i (aiLns x++A.flatMap aiLns):=hat;have hx:=hA x aK;have hrun2:run (ls.drop (i+(aiLns x).length+(A.flatMap aiLns).length))=0:=by rw[aG,aB,<-Nat.add_assoc]at hrun;exact hrun
  have hnext:run (ls.drop (i+(aiLns x).length))=0:=by
   cases A with
   |nil=>exact hrun2
   |cons y A=>
    have hr:=hat.r;have hr:AtL ls (i+(aiLns x).length) ([wdAWY,y.1]::(viaLs y y.2.length++A.flatMap aiLns)):=hr;obtain⟨h2,e2⟩:=hr.hd;exact Ea h2 (by rw[e2];show wdAWY≠wdVIA;decide)
  obtain⟨e,f1,f2,f3,oe,st⟩:=Aly S L (h:=h) hx.1 hx.2 hi0 hat.l hnext (x:=a) (y:=b) (z:=c) (all:=all) (by omega);obtain⟨E,a',b',c2,g1,g2,g3,g4,g5,st2⟩:=AaY A (i+(aiLns x).length) true false false (all++[e]) (λy hy=>hA y (aT _ hy)) (by omega) hat.r hrun2 (by rw[aB,aM];omega);refine⟨e::E,a',b',c2,?_,?_,?_,by rw[aE,aE,g4],λx hx=>?_,?_⟩
  ·unfold fxs at g1⊢;rw[aG,f1,g1];rfl
  ·unfold ais at g2⊢;rw[aG,f2,g2];rfl
  ·unfold prs at g3⊢;rw[aG,f3,g3];rfl
  ·rcases aJ.1 hx with hx|hx
   ·subst hx;exact oe
   ·exact g5 x hx
  ·have:=Ch st st2;rw[List.append_assoc]at this;rw[aG,aB,<-Nat.add_assoc];exact this
end
theorem Ux:∀{ws:Line},ws≠[]->flds k ws≠[]
 | [],h=>absurd rfl h
 |w::ws,_=>by intro e;have:=congrArg List.length e;rw[BB]at this;simp at this
theorem Adu(h:∀l∈lines,l≠[]):∀x∈recs k lines,x.2≠[]:=λx hx=>by
 obtain⟨i,hi,rfl⟩:=aW hx;have hi2:i<lines.length:=by rw[BW]at hi;exact hi
 have:=EH k lines i hi2 (0,[]);rw[Ad hi]at this;rw[this];exact Ux (h _ (aZ hi2))
theorem QK(d:DG h F A P):∀l∈dbLns h F A P,lnOk l:=λl hl=>by
 unfold dbLns at hl;rcases bD.1 hl with hl|hl
 ·rcases bD.1 hl with hl|hl
  ·rcases aJ.1 hl with hl|hl
   ·subst hl;exact Oa (MD d.hs d.hd).1
   ·obtain⟨f,hf,rfl⟩:=List.mem_map.1 hl;have:=d.fx f hf;exact NZ this.1 this.2.1 this.2.2
  ·obtain⟨a,ha,hl⟩:=bA.1 hl;exact QE (d.ai a ha).2 l hl
 ·obtain⟨p,hp,hl⟩:=bA.1 hl;exact QG (d.pr p hp) l hl
theorem Agx (d:DG h F A P) (hn:(dbLns h F A P).length<=1800) {c0:Cm_} (hc:c0.1.1.1=recs 1 (dbLns h F A P)) :
  ∃E a b c,o43 c0=some (cH (recs 1 (dbLns h F A P)) h a b c,[],E)/\fxs E=F/\ais E=A/\prs E=P:=by
 obtain⟨B,hB,S⟩:=AkV;have hls:=AaS (dbLns h F A P);have hlen:(recs 1 (dbLns h F A P)).length=(dbLns h F A P).length:=BW 1 _;have L:LsOk (recs 1 (dbLns h F A P)):=⟨by omega,Adu λl hl=>(QK d l hl).1⟩
 have lf:=d.lf;have la:=d.la;have lp:=d.lp;have hsplit:dbLns h F A P=(([hdLn h]++F.map fxLn)++A.flatMap aiLns)++P.flatMap prLns:=rfl;have htot:(dbLns h F A P).length=1+F.length+(A.flatMap aiLns).length+(P.flatMap prLns).length:=by rw[hsplit,aB,aB,aB,aV,aM]
 rw[hB,hc];generalize hls':recs 1 (dbLns h F A P)=ls at hls hlen L hc⊢;rw[hsplit]at hls;have hP:=hls.r;have hA:=hls.l.r;have hF:=hls.l.l.r;have hH:=hls.l.l.l;simp only[aB,aV,aM,bC]at hP hA hF;have st1:=Alv S L d.hd d.hs d.ho hH (c:=c0) hc;obtain⟨E1,a1,b1,c1,f1,g1,k1,l1,o1,st2⟩:=AaT S L (h:=h) F 1 false false false [] (λf hf=>(d.fx f hf).1) (by omega) hF (by simp;omega);have hrun:run (ls.drop (1+F.length+(A.flatMap aiLns).length))=0:=by
  cases hp:P with
  |nil=>
   rw[List.drop_of_length_le (by rw[hlen,htot,hp];simp)];rfl
  |cons p P2=>
   rw[hp]at hP;have hP:AtL ls (1+F.length+(A.flatMap aiLns).length) (prLn p::(p.2.2.2.flatMap paLns++P2.flatMap prLns)):=hP;obtain⟨h2,e2⟩:=hP.hd;refine Ea h2 ?_;rw[e2];show pw p.2.2.1≠wdVIA;have hk:p.2.2.1=1\/p.2.2.1=2\/p.2.2.1=3:=(d.pr p (by rw[hp];exact aK)).1.kd;rcases hk with e|e|e<;>rw[e]<;>decide
 obtain⟨E2,a2,b2,c2,f2,g2,k2,l2,o2,st3⟩:=AaY S L (h:=h) A (1+F.length) a1 b1 c1 ([]++E1) d.ai (by omega) hA hrun (by rw[aI,l1];omega);obtain⟨E3,a3,b3,c3,f3,g3,k3,l3,o3,st4⟩:=AaW S L (h:=h) P (1+F.length+(A.flatMap aiLns).length) a2 b2 c2 ([]++E1++E2) d.pr (by omega) hP (by rw[aI,aB,l1,l2];omega) (λe he=>by
  rw[aI]at he;rcases bD.1 he with he|he
  ·exact o1 e he
  ·exact o2 e he)
 have st:=Ch (Ch (Ch st1 st2) st3) st4;refine⟨[]++E1++E2++E3,a3,b3,c3,?_,?_,?_,?_⟩
 ·exact QI (by rw[show fuelN=18446744073709551616 from rfl];omega) st (S.fE ls _ _ [] _ (by rw[hlen,htot];exact Nat.le_refl _))
 ·unfold fxs at*;rw[aI,aC,aC,f1,f2,f3,aD,aD]
 ·unfold ais at*;rw[aI,aC,aC,g1,g2,g3,aI,aD]
 ·unfold prs at*;rw[aI,aC,aC,k1,k2,k3];rfl
theorem QL:∀(k:Int)(ws:Line),∀f∈flds k ws,f.1∈ws/\k<=f.2/\f.2<=k+(wsz ws:Int)
 |_,[],f,hf=>by cases hf
 |k,w::ws,f,hf=>by
  rw[AX];rcases aJ.1 (show f∈(w,k)::flds (k+w.length+1) ws from hf)with h|h
  ·subst h;exact⟨aK,by show k<=k;omega,by show k<=_;omega⟩
  ·have:=QL _ ws f h;exact⟨aT _ this.1,by omega,by omega⟩
theorem Uy:∀l:Line,l.length<=wsz l
 | []=>Nat.le_refl _
 |x::l=>by have:=Uy l;rw[AX,aE];omega
theorem Uz{w:Bt}:∀{l:Line},w∈l->w.length<=wsz l
 | [],h=>by cases h
 |x::l,h=>by
  rw[AX];rcases aJ.1 h with h|h
  ·subst h;omega
  ·have:=Uz h;omega
theorem Agy(h:∀l∈lines,lnOk l)(hn:lines.length<=4000):∀x∈recs 1 lines,okR' x:=λx hx=>by
 obtain⟨i,hi,rfl⟩:=aW hx;have hi2:i<lines.length:=by rw[BW]at hi;exact hi
 have e:=EH 1 lines i hi2 (0,[]);rw[Ad hi]at e;have hl:=h _ (aZ hi2);have hz:=hl.2.2;rw[e];refine⟨Ux hl.1,by show(flds 1 _).length<=_;rw[BB];have:=Uy lines[i];omega,⟨by show(0:Int)<=1+(i:Int);omega,by show 1+(i:Int)<=_;omega⟩,λf hf=>?_⟩
 have hc:=QL 1 lines[i] f hf;exact⟨(hl.2.1 _ hc.1).1,by have:=Uz hc.1;omega,by omega,by omega⟩
theorem AaZ(a:AQ):(aiLns a).length=TA a:=by rw[EI];unfold TA;omega
theorem Aba(p:AA):(prLns p).length=TP p:=by
 unfold prLns TP;rw[aE,aX];have:∀l:List Bh,(l.map λx=>(paLns x).length).sum=l.length+(l.map λx=>x.2.2.length).sum:=λl=>by
  induction l with
  |nil=>rfl
  |cons x l ih=>
   simp only[List.map_cons,List.sum_cons,aE];rw[ih];have:(paLns x).length=x.2.2.length+1:=by unfold paLns;rw[aE,aV]
   omega
 rw[this];omega
theorem MH(h:Az)(F:List Be)(A:List AQ)(P:List AA):(dbLns h F A P).length=1+F.length+(A.map TA).sum+(P.map TP).sum:=by unfold dbLns;rw[aB,aB,aE,aV,aX,aX];rw[show(λa=>(aiLns a).length)=TA from funext AaZ,show(λp=>(prLns p).length)=TP from funext Aba];omega
theorem Gt{a b:List α}{x:α}(h:(a++x::b).Nodup):x∉a:=λhx=>by have:=(List.nodup_append.1 h).2.2 x hx x aK;exact this rfl
theorem Abb{l:List α}(hi:i<l.length):l=l.take i++l[i]::l.drop (i+1):=by rw[<-aO hi,List.take_append_drop]
theorem Alz(V:VD h F A P){E:List El_}(eF:fxs E=F)(eA:ais E=A)(eP':prs E=P)(hi:i<E.length):CE h.2.2 E (E.take i) E[i]:=by
 have hE:=Abb hi;have hf5:fx5 E=F.map gf:=by unfold fx5;rw[eF]
 have hF:F=fxs (E.take i)++(fxE E[i]++fxs (E.drop (i+1))):=by
  rw[<-eF];conv=>lhs;rw[hE]
  unfold fxs;rw[aC,aG]
 have hA:A=ais (E.take i)++(aiE E[i]++ais (E.drop (i+1))):=by
  rw[<-eA];conv=>lhs;rw[hE]
  unfold ais;rw[aC,aG]
 have hP:P=prs (E.take i)++(prE E[i]++prs (E.drop (i+1))):=by
  rw[<-eP'];conv=>lhs;rw[hE]
  unfold prs;rw[aC,aG]
 have hN:(nms E).Nodup:=((TZ E).nodup_iff).1 (by rw[eA,eP'];exact V.nk);have hNs:nms E=nms (E.take i)++(nmE E[i]++nms (E.drop (i+1))):=by
  conv=>lhs;rw[hE]
  unfold nms;rw[aC,aG]
 refine⟨λh1=>?_,λh1=>?_,λh1=>?_⟩
 ·have e1:fxE E[i]=[E[i].2.2.1]:=by unfold fxE;rw[if_pos h1]
  rw[e1]at hF;have hm:E[i].2.2.1∈F:=by rw[hF];exact aR _ (aU _ (aL.2 rfl))
  have hv:=V.fx _ hm;have hl:F.length=(fxs (E.take i)).length+(1+(fxs (E.drop (i+1))).length):=by
   conv=>lhs;rw[hF]
   rw[aB,aB];rfl
  have lf:=V.lf;refine⟨by omega,?_,hv.2.1,λh5=>?_,λh6=>?_⟩
  ·have:=V.nf;rw[hF]at this;unfold refs at this;rw[aH,aH,aH,aH]at this;exact Gt this
  ·have:=V.np;rw[hF]at this;unfold apts at this;rw[aH,aH,List.filter_append,List.filter_append,aH,aH]at this;have hs:([E[i].2.2.1].map gf).filter (λf=>f.1.2.2==5)=[gf E[i].2.2.1]:=by rw[List.map_singleton,List.filter_cons,if_pos (Ba h5)];rfl
   rw[hs]at this;exact Gt this
  ·rw[hf5];exact hv.2.2 h6
 ·have e1:aiE E[i]=[E[i].2.2.2.1]:=by unfold aiE;rw[if_pos h1]
  have e2:nmE E[i]=[keyA E[i].2.2.2.1.1]:=by unfold nmE;rw[if_pos h1]
  rw[e1]at hA;have hm:E[i].2.2.2.1∈A:=by rw[hA];exact aR _ (aU _ (aL.2 rfl))
  have hv:=V.ai _ hm;have hl:A.length=(ais (E.take i)).length+(1+(ais (E.drop (i+1))).length):=by
   conv=>lhs;rw[hA]
   rw[aB,aB];rfl
  have la:=V.la;refine⟨by omega,?_,λp hp=>?_⟩
  ·rw[hNs,e2]at hN;exact Gt hN
  ·rw[hf5];exact hv.2 p hp
 ·have e1:prE E[i]=[eP E[i]]:=by unfold prE;rw[if_pos h1]
  have e2:nmE E[i]=[keyP (eP E[i]).2.2.1 (eP E[i]).1 (eP E[i]).2.1]:=by unfold nmE;rw[if_neg (by omega),if_pos h1]
  rw[e1]at hP;have hm:eP E[i]∈P:=by rw[hP];exact aR _ (aU _ (aL.2 rfl))
  have hv:=V.pr _ hm;have hl:P.length=(prs (E.take i)).length+(1+(prs (E.drop (i+1))).length):=by
   conv=>lhs;rw[hP]
   rw[aB,aB];rfl
  have lp:=V.lp;refine⟨by omega,hv.1,?_,by rw[hf5];exact hv.2.1,λx hx=>by rw[hf5];exact hv.2.2 x hx⟩
  rw[hNs,e2]at hN;exact Gt hN
theorem Adv {s:Bt} {c:Cm_} (e42:o42 s=some (ls,[])) (hne:ls≠[]) (hlen:ls.length<=1800) (hr:∀ l∈ls,okR' l)
  (e43:o43 (((ls,([]:Bt)),(0:Int),(0:Int),(0:Int)),((0:Int),(0:Int)),false,false,false)=some (c,[],all))
  (h63:o63 (hd3 (c.1,(c.2.1.1,c.2.1.2,all),c.2.2))=some 0)
  (hC:∀i(hi:i<all.length),CE (hd3 (c.1,(c.2.1.1,c.2.1.2,all),c.2.2)).2.2 all (all.take i) all[i]) (lF:(fxs all).length<=400) (lA:(ais all).length<=60) (lP:(prs all).length<=60):
  Tot (λr=>∃F A P,r=MB (hd3 (c.1,(c.2.1.1,c.2.1.2,all),c.2.2)) F A P/\F.Perm (fxs all)/\A.Perm (ais all)/\P.Perm (prs all)/\Asc cF F/\Asc cA A/\Asc cP P) (o23 s):=by
 have h2:=CF (AdJ (c0:=(((ls,([]:Bt)),(0:Int),(0:Int),(0:Int)),((0:Int),(0:Int)),false,false,false)) hlen hr) e43;obtain⟨⟨j1,j2⟩,j3,j4,j5,j6⟩:=h2;dsimp only at j1 j2 j3 j4 j5 j6;obtain⟨hG,hT⟩:=j6 rfl;have hp:=bF.2 hne;unfold o23;rw[bdS e42];dsimp only;rw[cndF (df (by simp)),cndF AU,bdS e43];dsimp only;rw[cndF (df (by simp))];refine tB (Aam (n:=ls.length) (by omega) (c:=(c.1,(c.2.1.1,c.2.1.2,all),c.2.2)) (by rw[show(c.1,(c.2.1.1,c.2.1.2,all),c.2.2).1.1.1=ls from j1];exact hne) (by rw[show(c.1,(c.2.1.1,c.2.1.2,all),c.2.2).1.1.1=ls from j1];exact hr) j2 (L:=all) rfl (by omega) j5 hG) ?_;rintro⟨c3,bad3⟩ ⟨rfl,hi⟩;have hbe:bad3=[]:=hi.2 ⟨h63,hC⟩;subst hbe;dsimp only;rw[cndF (df (by simp))];refine tL (λt=>∃i:Nat,t=(((all,((all.length:Nat):Int)),(i:Int),[]),(hd3 (c.1,(c.2.1.1,c.2.1.2,all),c.2.2),fxs (all.take i)),ais (all.take i),prs (all.take i))/\i<=all.length) (λt=>all.length-t.1.2.1.toNat) ?_ ⟨0,rfl,by omega⟩ (by simp only;omega);rintro _ ⟨i,rfl,hi2⟩;dsimp only;refine tC (λhlt=>?_) λhlt=>tDn ?_
 ·have hlt:=dT hlt;have hi3:i<all.length:=by omega
  have g1:(fxs (all.take i)).length<=(all.take i).length:=BL fxE Lz _;have g2:(ais (all.take i)).length<=(all.take i).length:=BL aiE Sd _;have g3:(prs (all.take i)).length<=(all.take i).length:=BL prE Se _;rw[aS]at g1 g2 g3;have hk:=(j5 _ (aZ hi3)).2.1;have ht:all.take (i+1)=all.take i++[all[i]]:=List.take_succ_eq_append_getElem hi3;refine tB (P:=λv=>v=(((all,((all.length:Nat):Int)),(i:Int),[]),(hd3 (c.1,(c.2.1.1,c.2.1.2,all),c.2.2),fxs (all.take (i+1))),ais (all.take (i+1)),prs (all.take (i+1)))) ?_ ?_
  ·refine tG dt ?_;rw[bdI,Int.toNat_natCast,Ad hi3,ht,Eb,Gl,Gm];unfold fxE aiE prE;refine tC (λh=>?_) λh=>tC (λh2=>?_) λh2=>?_
   ·have h:=eT h;refine tG (dt (by simp only[aE,bE];omega)) (tS ?_);rw[if_pos h,if_neg (show¬all[i].1=97 by omega),if_neg (show¬all[i].1=112 by omega),aD,aD]
   ·have h:=eF h;have h2:=eT h2;refine tG (dt (by simp only[aE,bE];omega)) (tS ?_);rw[if_neg h,if_pos h2,if_neg (show¬all[i].1=112 by omega),aD,aD]
   ·have h:=eF h;have h2:=eF h2;refine tG (dt (by simp only[aE,bE];omega)) (tS ?_);rw[if_neg h,if_neg h2,if_pos (show all[i].1=112 by omega),aD,aD]
  ·rintro _ rfl;dsimp only;rw[Ac];exact tGo ⟨⟨i+1,by rw[show(i:Int)+1=((i+1:Nat):Int) by omega],by omega⟩,by simp only;omega⟩
 ·have hlt:=dF hlt;rw[aQ (by omega)];obtain⟨F,oF,pF,aF⟩:=Aar (l:=fxs all) (by omega) (λf hf=>by
   obtain⟨e,he,h2⟩:=bA.1 hf;unfold fxE at h2;split at h2
   ·rw[aL]at h2;subst h2;have:=(j5 e he).2.2.1;exact⟨by show e.2.2.1.1.length<=_;omega,by show e.2.2.1.2.1.length<=_;omega⟩
   ·cases h2)
  obtain⟨A,oA,pA,aA⟩:=Aas (l:=ais all) (by omega);obtain⟨P,oP,pP,aP⟩:=Aat (l:=prs all) (by omega);refine tB (P:=λv=>v=F) ⟨_,oF,rfl⟩ ?_;rintro _ rfl;refine tB (P:=λv=>v=A) ⟨_,oA,rfl⟩ ?_;rintro _ rfl;refine tB (P:=λv=>v=P) ⟨_,oP,rfl⟩ ?_;rintro _ rfl;exact tS ⟨_,_,_,rfl,pF,pA,pP,aF,aA,aP⟩
theorem QM(V:VS h F A P)(d:DG h F A P):o23 (txtL (dbLns h F A P))=some (MB h F A P):=by
 have hn:(dbLns h F A P).length<=1501:=by rw[MH];have:=V.ln;omega
 have hok:=QK d;have ht:=Ia _ hok;obtain⟨E,a,b,c,e43,eF,eA,eP'⟩:=Agx d (by omega) (c0:=(((recs 1 (dbLns h F A P),([]:Bt)),(0:Int),(0:Int),(0:Int)),((0:Int),(0:Int)),false,false,false)) rfl;have e42:=Acs (ls:=dbLns h F A P) (λl hl=>(hok l hl).ok) (by omega);have hne:recs 1 (dbLns h F A P)≠[]:=λe=>by have:=congrArg List.length e;rw[BW,MH]at this;simp at this
 have hlr:(recs 1 (dbLns h F A P)).length<=1800:=by rw[BW];omega
 obtain⟨r,er,F',A',P',rfl,pF,pA,pP,aF,aA,aP⟩:=Adv e42 hne hlr (Agy hok (by omega)) e43 V.vd.hd (λi hi=>Alz V.vd eF eA eP' hi) (by rw[eF];exact V.vd.lf) (by rw[eA];exact V.vd.la) (by rw[eP'];exact V.vd.lp);rw[eF]at pF;rw[eA]at pA;rw[eP']at pP;rw[er,IQ Aao V.sf aF pF,IQ Aap V.sa aA pA,IQ TY V.sp aP pP];rfl
theorem Agz{a b:Int×Int}{v:Int×Int×Int}(h:o131 a b=some v)(h0:v.2.2=0):posR b.1 b.2:=by
 unfold o131 at h;obtain⟨v3,e3,h⟩:=bdV h;rcases cnV h with⟨_,h⟩|⟨g,_⟩
 ·have h:=smV h;subst h;exact absurd h0 (by decide)
 ·obtain⟨v1,e1,e3⟩:=bdV e3;rcases cnV e3 with⟨_,e⟩|⟨_,e⟩
  ·rw[<-smV e]at g;cases g
  ·obtain⟨v2,e2,e⟩:=bdV e;rw[<-smV e]at g;exact(CF (ZW b) e2).1 (notF g)
theorem AlA{A:List Fx_}(v:AiV A a)(s:P47 a.1/\∀p∈a.2,P47 p.1):AirG a:=⟨Alo s.1 v.1.1,s.2,λp hp=>(v.1.2 p hp).1⟩
theorem Apz{A:List Fx_}(v:PrV A p)(s:inQ (qp p)):PrG p:=by have h:=Alp s v.1;exact⟨h,λx hx=>⟨h.pa x hx,λg hg=>(s.2.2 x hx).2.2 g hg⟩⟩
theorem AdQ(V:VS h F A P)(s:Sm h F A P):DG h F A P:=by obtain⟨_,_,v,e,h0⟩:=MD s.1 V.vd.hd;exact⟨Alk V s.2.1 s.2.2.2,V.vd.hd,s.1,Agz e h0,λf hf=>⟨(V.vd.fx f hf).1,s.2.1 f hf⟩,λa ha=>⟨(V.vd.ai a ha).1.1,AlA (V.vd.ai a ha) (s.2.2.1 a ha)⟩,λp hp=>Apz (V.vd.pr p hp) (s.2.2.2 p hp),V.vd.lf,V.vd.la,V.vd.lp⟩
theorem AgA{n f t:Int}(h:o115 n=some (f,t,0)):0<=n/\n<=9999/\26<=f/\f<=36524/\t=f+28:=by have h1:=MC h rfl;have h2:=CF (Lu n) h rfl;exact⟨h1.1,h1.2,h2.1,h2.2.1,h2.2.2.2.1⟩
theorem AlB{g:Bw}(h:LegOk (lgr g))(hi:P47 g.2.1/\P47 g.2.2.1):okL g/\g.2.1.length<=13/\g.2.2.1.length<=13:=by
 have l1:g.2.1.length<=13:=by
  cases e:lbt (lgr g).1.1.1 1 with
  |true=>exact(h.fx e).len hi.1
  |false=>have:=h.fx0 e;rw[show g.2.1=[]from this];simp
 have l2:g.2.2.1.length<=13:=by
  cases e:lbt (lgr g).1.1.1 2 with
  |true=>exact(h.nv e).len hi.2
  |false=>have:=h.nv0 e;rw[show g.2.2.1=[]from this];simp
 have ty:1<=g.1/\g.1<=17:=h.ty;have tu:0<=g.2.2.2.1/\g.2.2.2.1<=2:=by
  cases e:lbt (lgr g).1.1.1 4 with
  |true=>
   have t:g.2.2.2.1=1\/g.2.2.2.1=2:=h.tu e;omega
  |false=>
   have t:g.2.2.2.1=0:=h.tu0 e;omega
 have cr:0<=g.2.2.2.2.2.1/\g.2.2.2.2.2.1<=129600000:=by
  cases e:lbt (lgr g).1.1.1 16 with
  |true=>
   have t:0<=g.2.2.2.2.2.1/\g.2.2.2.2.2.1<129600000:=h.cr e;omega
  |false=>
   have t:g.2.2.2.2.2.1=0:=h.cr0 e;omega
 have di:0<=g.2.2.2.2.2.2.1/\g.2.2.2.2.2.2.1<=8000000:=by
  cases e:lbt (lgr g).1.1.1 32 with
  |true=>exact(h.di e).1
  |false=>
   have t:g.2.2.2.2.2.2.1=0:=h.di0 e;omega
 have rh:0<=g.2.2.2.2.2.2.2.1/\g.2.2.2.2.2.2.2.1<=8000000:=by
  cases e:lbt (lgr g).1.1.1 64 with
  |true=>exact(h.rh e).1
  |false=>
   have t:g.2.2.2.2.2.2.2.1=0:=h.rh0 e;omega
 have th:0<=g.2.2.2.2.2.2.2.2.1/\g.2.2.2.2.2.2.2.2.1<=129600000:=by
  cases e:lbt (lgr g).1.1.1 128 with
  |true=>
   have t:0<=g.2.2.2.2.2.2.2.2.1/\g.2.2.2.2.2.2.2.2.1<129600000:=h.th e;omega
  |false=>
   have t:g.2.2.2.2.2.2.2.2.1=0:=h.th0 e;omega
 have wi: -200000<=g.2.2.2.2.2.2.2.2.2.1.1/\g.2.2.2.2.2.2.2.2.2.1.1<=g.2.2.2.2.2.2.2.2.2.1.2/\g.2.2.2.2.2.2.2.2.2.1.2<=6000000:=h.wi;have sp:0<=g.2.2.2.2.2.2.2.2.2.2.1/\g.2.2.2.2.2.2.2.2.2.2.1<=1000:=h.sp;have rn:0<=g.2.2.2.2.2.2.2.2.2.2.2/\g.2.2.2.2.2.2.2.2.2.2.2<=120000:=h.rn;unfold okL u8R Dp;exact⟨⟨⟨by omega,by omega⟩,by omega,by omega,⟨by omega,by omega⟩,⟨by omega,by omega⟩,⟨by omega,by omega⟩,⟨by omega,by omega⟩,⟨by omega,by omega⟩,⟨by omega,by omega⟩,⟨by omega,by omega⟩,⟨by omega,by omega⟩,⟨by omega,by omega⟩⟩,l1,l2⟩
theorem Abc{x:Bh}(h:PaG x):okX x/\(paB x).length<=2400:=by
 have hk:=h.1.kd;have hl:=h.1.ln.2;have hn:x.2.1.length<=8:=by
  by_cases e:x.1=1\/x.1=3
  ·exact(h.1.nm e).2
  ·rw[h.1.nn e];simp
 have hg:∀g∈x.2.2,okL g/\g.2.1.length<=13/\g.2.2.1.length<=13:=λg hg=>AlB (LG (h.1.lg g hg)) (h.2 g hg);refine⟨⟨⟨by omega,by omega⟩,by omega,by omega,λg hgm=>(hg g hgm).1⟩,?_⟩
 have f6:=DB (f:=lgB) (k:=95) (l:=x.2.2) λg hgm=>by have:=(hg g hgm).2;rw[Jv];omega
 rw[RJ];omega
theorem Abd(h:PrG p):okR p/\(prB p).length<=29000:=by
 have hk:p.2.2.1=1\/p.2.2.1=2\/p.2.2.1=3:=h.1.kd;have h1:p.1.length<=6:=h.1.ap.2;have h2:p.2.1.length<=8:=h.1.nm.2;have hl:p.2.2.2.length<=12:=h.1.ln;refine⟨⟨by omega,by omega,⟨by omega,by omega⟩,by omega,λx hx=>(Abc (h.2 x hx)).1⟩,?_⟩
 have f5:=DB (f:=paB) (k:=2400) (l:=p.2.2.2) λx hx=>(Abc (h.2 x hx)).2;rw[RK];omega
theorem AlC(h:AirG a)(hu:∀p∈a.2,p.2.2<=255):okA a/\(awB a).length<=1300:=by
 have h1:=h.1.nm.2;have hl:=h.1.ln;have hp:∀p∈a.2,okP p/\p.1.length<=13:=λp hp=>by
  obtain⟨j,hj,rfl⟩:=aW hp;have hq:=h.1.pt j hj;have hr:=hq.1.len (h.2.1 _ hp);have h0:=h.2.2 _ hp;have hu:=hu _ hp;have hw: -200000<=a.2[j].2.1.1/\a.2[j].2.1.1<=a.2[j].2.1.2/\a.2[j].2.1.2<=6000000:=by
   by_cases e:j+1=a.2.length
   ·have:=(hq.2.1 e).1;rw[this];exact⟨by decide,by decide,by decide⟩
   ·exact(hq.2.2 e).1
  refine⟨⟨by omega,⟨by omega,by omega⟩,⟨by omega,by omega⟩,⟨h0,hu⟩⟩,hr⟩
 refine⟨⟨by omega,by omega,λp hpm=>(hp p hpm).1⟩,?_⟩
 have f3:=DB (f:=ptB) (k:=31) (l:=a.2) λp hpm=>by have:=(hp p hpm).2;rw[Jx];omega
 rw[RI];omega
theorem AdR{f:Be}(h:FixOk (gf f))(h1:P47 f.1)(h2:P47 f.2.1):okF f/\(fxB f).length<=47:=by
 have hn:=Si h h1 h2;have hk:1<=f.2.2.1/\f.2.2.1<=6:=h.1;have hp:(-32400000<=f.2.2.2.1.1/\f.2.2.2.1.1<=32400000)/\(-64800000<f.2.2.2.1.2/\f.2.2.2.1.2<=64800000):=h.2.2.2.1;have he: -200000<=f.2.2.2.2.1/\f.2.2.2.2.1<=6000000:=by
  by_cases e:f.2.2.1=5\/f.2.2.1=6
  ·exact h.2.2.2.2.1 e
  ·have t:f.2.2.2.2.1=0:=h.2.2.2.2.2.1 e;omega
 have hr:0<=f.2.2.2.2.2/\f.2.2.2.2.2<=8000000:=by
  by_cases e:f.2.2.1=2\/f.2.2.1=3\/f.2.2.1=4
  ·have t:1<=f.2.2.2.2.2/\f.2.2.2.2.2<=8000000:=h.2.2.2.2.2.2.1 e;omega
  ·have t:f.2.2.2.2.2=0:=h.2.2.2.2.2.2.2 e;omega
 refine⟨⟨by omega,by omega,⟨by omega,by omega⟩,⟨by omega,by omega⟩,⟨by omega,by omega⟩,⟨by omega,by omega⟩,⟨by omega,by omega⟩⟩,?_⟩
 rw[Jw];omega
theorem AdS(V:VS h F A P)(d:DG h F A P):okDB (dbx h F A P)/\(imgB (dbx h F A P)).length<=536870912:=by
 obtain⟨nm,hc,_⟩:=MD d.hs d.hd;have hcy:=AgA hc;have hp:(-32400000<=h.2.2.1/\h.2.2.1<=32400000)/\(-64800000<h.2.2.2/\h.2.2.2<=64800000):=d.ho;have lf:=d.lf;have la:=d.la;have lp:=d.lp;have hA:∀a∈A,okA a/\(awB a).length<=1300:=λa ha=>AlC (d.ai a ha).2 λp hp=>((V.vd.ai a ha).1.2 p hp).2;refine⟨⟨⟨?_,?_,?_,?_,?_,?_⟩,⟨?_,λf hf=>(AdR (d.fx f hf).1 (d.fx f hf).2.1 (d.fx f hf).2.2).1⟩,⟨?_,λa ha=>(hA a ha).1⟩,⟨?_,λp hp=>(Abd (d.pr p hp)).1⟩⟩,?_⟩
 ·show h.1.1.length<=255;omega
 ·show Dp h.1.2.1;exact⟨by omega,by omega⟩
 ·show Dp h.1.2.2;exact⟨by omega,by omega⟩
 ·show Dp h.2.1;exact⟨by omega,by omega⟩
 ·show Dp h.2.2.1;exact⟨by omega,by omega⟩
 ·show Dp h.2.2.2;exact⟨by omega,by omega⟩
 ·show F.length<=65535;omega
 ·show A.length<=65535;omega
 ·show P.length<=65535;omega
 ·rw[Ny];have f1:=DB (f:=fxB) (k:=47) (l:=F) λf hf=>(AdR (d.fx f hf).1 (d.fx f hf).2.1 (d.fx f hf).2.2).2;have f2:=DB (f:=awB) (k:=1300) (l:=A) λa ha=>(hA a ha).2;have f4:=DB (f:=prB) (k:=29000) (l:=P) λp hp=>(Abd (d.pr p hp)).2;show 71+h.1.1.length+(F.flatMap fxB).length+(A.flatMap awB).length+(P.flatMap prB).length<=_;omega
def hW:Az:=(([87,69,83,84],2612,9826),9854,16560000,-43200000)
theorem AlD:o63 hW=some 0:=by kernel_rfl
theorem AgB:([68,65,84,65,66,65,83,69,32,87,69,83,84,32,50,54,49,50,32,78,52,54,48,48,48,48,48,48,87,49,50,48,48,48,48,48,48,48,10]:Bt)=txtL (dbLns hW [] [] []):=by kernel_rfl
theorem Abe:VS hW [] [] []:=⟨⟨AlD,by simp,by simp,by simp,by simp[refs],by simp[apts],by simp,λf hf=>(by cases hf),λf hf=>(by cases hf),λf hf=>(by cases hf)⟩,List.Pairwise.nil,List.Pairwise.nil,List.Pairwise.nil,by simp⟩
theorem AlE:Sm hW [] [] []:=⟨by unfold P47;simp[hW],λf hf=>(by cases hf),λf hf=>(by cases hf),λf hf=>(by cases hf)⟩
theorem Abf:o6=some true:=by
 have d:=AdQ Abe AlE;have hd:=AdS Abe d;have e23:=QM Abe d;have e7:=TN (dbx hW [] [] []) d.h0;have hl:(imgB (dbx hW [] [] [])++CJ (crcI (imgB (dbx hW [] [] [])))).length=79:=by rw[aB,Ny];rfl
 refine BN ?_;unfold o6;rw[AgB];refine tB (P:=λv=>v=MB hW [] [] []) ⟨_,e23,rfl⟩ λv1 h1=>?_;subst h1;refine tB (P:=λv=>v=(0,imgB (dbx hW [] [] [])++CJ (crcI (imgB (dbx hW [] [] []))))) ⟨_,e7,rfl⟩ λv2 h2=>?_;subst h2;dsimp only;rw[hl];exact tS rfl
def zDB:DB_:=((([],0),0,0),(0,0),[],[],[])
theorem z7:o7 zDB=some (5,[]):=by kernel_rfl
theorem z22:Ji zDB zDB=some true:=Qk (by simp[zDB]) (by simp[zDB]) (by simp[zDB]) (λa ha=>by cases ha) (λa ha=>by cases ha)
theorem LV(s:Bt):o5 s=some true:=by
 refine BN ?_;unfold o5;rw[bdS Abf,Bool.not_true,Aj];have hm:0<=minI ((s.length:Nat):Int) 3000/\minI ((s.length:Nat):Int) 3000<=((s.length:Nat):Int)/\minI ((s.length:Nat):Int) 3000<=3000:=by unfold minI;split<;>omega
 refine tG (dt ⟨hm.1,hm.2.1⟩) ?_;refine tB (Alj _ (by rw[aS];omega)) λv2 h2=>?_;rcases h2 with⟨d,hd,rfl⟩|⟨h,F,A,P,rfl,V,sm⟩
 ·have hp:=bF.2 hd;refine tC (λ_=>?_) λh=>absurd (dF h) (λh=>h (by show((d.length:Nat):Int)>0;omega));refine tB (P:=λv=>v=((5:Int),([]:Bt))) ⟨_,z7,rfl⟩ λv3 h3=>?_;subst h3;refine tB (P:=λv=>v=true) ?_ λv5 h5=>tS h5;refine tC (λ_=>tB (P:=λv=>v=true) ⟨_,z22,rfl⟩ λv4 h4=>tS h4) λh=>absurd h (by decide)
 ·have d:=AdQ V sm;have hd:=AdS V d;have e23:=QM V d;have e7:=TN (dbx h F A P) d.h0;have e24:=AeD hd.1 (by omega) d.h0;have e19:=AeE hd.1 (by omega);obtain⟨a1,a2,a3,a4,b1,b2,b3,b4,e20⟩:=AeF hd.1 (by omega);have e25:=Agr d;have lf:=d.lf;have la:=d.la;have lp:=d.lp;have e22:Ji (dbx h F A P) (dbx h F A P)=some true:=Qk (by show F.length<=_;omega) (by show A.length<=_;omega) (by show P.length<=_;omega) (λa ha=>by
   have:=(d.ai a ha).2.1.ln;omega) (λp hp=>by
   have h1:=d.pr p hp;have h2:p.2.2.2.length<=12:=h1.1.ln;exact⟨by omega,λy hy=>by have:=(h1.2 y hy).1.ln.2;omega⟩)
  generalize imgB (dbx h F A P)++CJ (crcI (imgB (dbx h F A P)))=q at e7 e24 e19 e20;refine tC (λh=>absurd (dT h) (by show¬(((([]:List Dg).length:Nat):Int)>0);decide)) λ_=>?_;refine tB (P:=λv=>v=((0:Int),q)) ⟨_,e7,rfl⟩ λv6 h6=>?_;subst h6;refine tB ⟨_,e24,rfl⟩ λv7 h7=>?_;rw[<-h7];clear h7;refine tB (P:=λv=>v=(txtL (dbLns h F A P),(0:Int))) ⟨_,e25,rfl⟩ λv8 h8=>?_;rw[h8];clear h8;refine tB (P:=λv=>v=MB h F A P) ⟨_,e23,rfl⟩ λv9 h9=>?_;rw[h9];clear h9;refine tB (P:=λv=>v=((0:Int),q)) ⟨_,e7,rfl⟩ λv10 h10=>?_;rw[h10];clear h10;refine tB ⟨_,e19,rfl⟩ λv11 h11=>?_;rw[<-h11];clear h11;refine tB ⟨_,e20,rfl⟩ λv12 h12=>?_;rw[<-h12];clear h12;unfold MB;dsimp only;rw[cndF (by rfl),cndF (by rfl),cndF (by rfl),cndF (by rfl),cndF (by rfl),cndF (by rfl),cndF (by rfl),bdI];dsimp only;refine tC (λh=>absurd h (by simp)) λ_=>?_;refine tB (P:=λv=>v=true) ?_ λv18 h18=>tS h18;refine tB (P:=λv=>v=true) ⟨_,e22,rfl⟩ λv16 h16=>?_;rw[h16,Av];refine tB (P:=λv=>v=true) ⟨_,e22,rfl⟩ λv17 h17=>?_;rw[h17,Av];refine tC (λ_=>?_) λh=>absurd h (by simp);refine tC (λ_=>?_) λh=>absurd h (by simp[CZ,dbx]);refine tG (dt (by simp)) (tC (λ_=>tG (dt (by simp)) (tC (λ_=>tG (dt (by simp)) (tS ?_)) λh=>absurd h (by simp[dbx]))) λh=>absurd h (by simp[dbx]));simp[dbx]
theorem QN{g:Gh}{ρ:Env}{bl:List BV}:∀{l:List SV}{vs:List Value}(i:Nat),AB (RealS g ρ bl) l vs->∀t sv,getH (argH i l) t=some sv->∃v,getS (argS i vs) t=some v/\RealS g ρ bl sv v
 | [],[],i,_,t,sv,e=>by cases e
 |s::l,v::vs,i,h,t,sv,e=>by
  have e:cond (aY i t) (some s) (getH (argH (i+1) l) t)=some sv:=e;show∃u,cond (aY i t) (some v) (getS (argS (i+1) vs) t)=some u/\_;cases hb:aY i t with
  |true=>rw[hb]at e;injection e with e;subst e;exact⟨v,rfl,h.1⟩
  |false=>rw[hb]at e;exact QN (i+1) h.2 t sv e
 | [],_::_,_,h,_,_,_=>h.elim
 |_::_,[],_,h,_,_,_=>h.elim
def r0:List Sch:=[⟨[(0,.v (.c .b))],[]⟩]
theorem Sn {P:Program} {f:FuncId} {ps:Sch} {run:HT ps.tr->Option Bool} (h:FOk P f ⟨ps,r0,run⟩) {t:HT ps.tr} (hr:run t=some true) (l:List SV) (hc:conT ps t=some ⟨argH 0 l,[]⟩) (hW:GI (psiOf W)) {vs:List Value}
  (hv:AB (RealS (gh0 W) (λ_=>(none,0)) []) l vs) (hl:vs.length=ps.sl.length):Calls P f vs.toArray W λe w'=>e= .returned (.bool true)/\Below W.heap.size W w':=by
 have hR:Rl (gh0 W) (λ_=>(none,0)) ⟨argH 0 l,[]⟩ [] (argS 0 vs):=⟨rfl,λi bv k e=>(by cases e),λt sv e=>QN 0 hv t sv e,hW⟩
 refine QZ (P:=P) (f:=f) (args:=vs) ((h t true _ hr hc (gh0 W) _ [] vs hR hl).mono λv ψ o hle ⟨str,ρ',h1,h2,h3,h4⟩=>?_);have e:altC r0 true=some ⟨[(0,vC (.bool true))],[]⟩:=rfl;have h1:altC r0 true=some str:=h1;rw[e]at h1;injection h1 with h1;subst h1;obtain⟨u,h5,h6⟩:=h3.slot 0 _ rfl;injection h5 with h5;have h6:u= .bool true:=h6;have hlen:o.length=0:=h3.len;exact⟨List.length_eq_zero_iff.1 hlen,by rw[h5,h6]⟩
section
variable{P:Program}{t:TypeId}
end
open Go.RowKit Go.WideShapes Go.ChangeShapes Go.ChangeAt
def flG{H:Type}(f:DataW H->Option (List Lit)):List (DataW H)->Option (List Lit)
 | []=>some []
 |d::r=>match f d,flG f r with|some a,some b=>some (a++b)|_,_=>none
def flD{H:Type}:Nat->DataW H->Option (List Lit)
 |_+1,.lit x=>some [x]
 |n+1,.agg l=>flG (flD n) l
 |_,_=>none
def litV:Lit->Value
 | .int k n=> .int k n
 | .bool b=> .bool b
 | .string l=> .string (mkS l)
 |_=>undef
def contig(P:Program):Nat->List Field->Option Nat
 |off,[]=>some off
 |off,f::l=>cond (aY f.offset off) (contig P (off+P.cellsOf f.type) l) none
def okT(P:Program):Nat->TypeId->Bool
 |0,_=>false
 |d+1,t=>match P.underlying t with
  |some (.struct fs)=>(match contig P 0 fs.toList with|some e=>aY e (P.cellsOf t)|none=>false)&&fs.toList.all λf=>okT P d f.type
  |some (.array n e)=>aY (n*P.cellsOf e) (P.cellsOf t)&&okT P d e
  |some (.int _)=>true
  |some .bool=>true
  |some .string=>true
  |_=>false
section
variable{H:Type}{enc:TypeId×Value->H}{P:Program}{w:World}{base:Nat}{spare:Nat->Bool}{held:Bool}
theorem MI:∀{l:List Field}{off e:Nat},contig P off l=some e->off<=e
 | [],off,e,h=>by injection h with h;omega
 |f::l,off,e,h=>by have h:cond (aY f.offset off) (contig P (off+P.cellsOf f.type) l) none=some e:=h;obtain⟨_,h⟩:=condS h;have:=MI h;omega
theorem QO(cs:List α)(off sz e:Nat)(h:off+sz<=e):(cs.drop off).take (e-off)=(cs.drop off).take sz++(cs.drop (off+sz)).take (e-(off+sz)):=by rw[<-List.drop_drop,show e-off=sz+(e-(off+sz)) by omega,List.take_add]
theorem AdT {n m:Nat} {cs:List Value} (ih:∀ {t:TypeId} {n:Nat} {cs:List Value} {y:DataW H×List MemPlace} {ls:List Lit},okT P m t=true->DataW.trod enc P w base spare held n t cs=some y->flD m y.1=some ls->cs=ls.map litV) :
  ∀(l:List Field)(ys:List (DataW H×List MemPlace))(off e:Nat)(ls:List Lit),contig P off l=some e->(l.all λf=>okT P m f.type)=true->(∀(i:Nat) f,l[i]? =some f->DataW.trod enc P w base spare held n f.type ((cs.drop f.offset).take (P.cellsOf f.type))=ys[i]?)->ys.length=l.length->flG (flD m) (ys.map (·.1))=some ls->(cs.drop off).take (e-off)=ls.map litV
 | [],[],off,e,ls,h,_,_,_,h3=>by injection h with h;subst h;have h3:some []=some ls:=h3;injection h3 with h3;subst h3;simp
 |f::l,y::ys,off,e,ls,h,h1,h2,hl,h3=>by
  have h:cond (aY f.offset off) (contig P (off+P.cellsOf f.type) l) none=some e:=h;obtain⟨ho,h⟩:=condS h;have ho:=aN ho;have hle:=MI h;rw[List.all_cons,bB]at h1;have h3:(match flD m y.1,flG (flD m) (ys.map (·.1))with|some a,some b=>some (a++b)|_,_=>none)=some ls:=h3;split at h3
  ·rename_i a b ha hb;injection h3 with h3;subst h3;have hy:=ih h1.1 (h2 0 f rfl) ha;have hr:=AdT ih l ys _ e b h h1.2 (λi f hf=>h2 (i+1) f hf) (by simpa using hl) hb;rw[QO cs off _ e hle,aH,<-hr,<-ho,<-hy]
  ·cases h3
 | [],_::_,_,_,_,_,_,_,hl,_=>by cases hl
 |_::_,[],_,_,_,_,_,_,hl,_=>by cases hl
theorem Abg {n m:Nat} {e:TypeId} {cs:List Value} (he:okT P m e=true) (ih:∀ {t:TypeId} {n:Nat} {cs:List Value} {y:DataW H×List MemPlace} {ls:List Lit},okT P m t=true->DataW.trod enc P w base spare held n t cs=some y->flD m y.1=some ls->cs=ls.map litV) :
  ∀(k i:Nat)(ys:List (DataW H×List MemPlace))(ls:List Lit),(∀(j:Nat),j<k->DataW.trod enc P w base spare held n e ((cs.drop ((i+j)*P.cellsOf e)).take (P.cellsOf e))=ys[j]?)->ys.length=k->flG (flD m) (ys.map (·.1))=some ls->(cs.drop (i*P.cellsOf e)).take (k*P.cellsOf e)=ls.map litV
 |0,i,[],ls,_,_,h3=>by have h3:some []=some ls:=h3;injection h3 with h3;subst h3;simp
 |k+1,i,y::ys,ls,h2,hl,h3=>by
  have h3:(match flD m y.1,flG (flD m) (ys.map (·.1))with|some a,some b=>some (a++b)|_,_=>none)=some ls:=h3;split at h3
  ·rename_i a b ha hb;injection h3 with h3;subst h3;have hy:=ih he (h2 0 (by omega)) ha;rw[Nat.add_zero]at hy;have hr:=Abg he ih k (i+1) ys b (λj hj=>by have:=h2 (j+1) (by omega);rw[show i+(j+1)=i+1+j by omega]at this;exact this) (by simpa using hl) hb
   have:=QO cs (i*P.cellsOf e) (P.cellsOf e) (i*P.cellsOf e+(k+1)*P.cellsOf e) (by rw[bG];omega);rw[Nat.add_sub_cancel_left]at this;rw[this,aH,<-hr,hy,bG k,bG i];congr 2;omega
  ·cases h3
 |0,_,_::_,_,_,hl,_=>by cases hl
 |_+1,_,[],_,_,hl,_=>by cases hl
theorem So:∀(d:Nat){t:TypeId}{n:Nat}{cs:List Value}{y:DataW H×List MemPlace}{ls:List Lit},okT P d t=true->DataW.trod enc P w base spare held n t cs=some y->flD d y.1=some ls->cs=ls.map litV
 |0,t,n,cs,y,ls,h,_,_=>by cases h
 |d+1,t,n,cs,y,ls,h,ht,hl=>by
  unfold okT at h;split at h
  ·rename_i fs hu;rw[bB]at h;obtain⟨h1,h2⟩:=h;split at h1
   ·rename_i e he;have h1:=aN h1;obtain⟨xs,m,_,rfl,hc,hx,hf⟩:=DataW.trod_struct hu ht;have:=AdT (n:=m) (cs:=cs) (λh ht hl=>So d h ht hl) fs.toList xs 0 e ls he h2 (λi f hi=>hf i f (by rw[<-Array.getElem?_toList];exact hi)) (by simpa using hx) hl;rw[List.drop_zero,Nat.sub_zero,aQ (by omega)]at this;exact this
   ·cases h1
  ·rename_i k e hu;rw[bB]at h;obtain⟨h1,h2⟩:=h;have h1:=aN h1;obtain⟨xs,m,_,rfl,hc,hx,hf⟩:=DataW.trod_array hu ht;have:=Abg (n:=m) (cs:=cs) h2 (λh ht hl=>So d h ht hl) k 0 xs ls (λj hj=>by rw[bC];exact hf j hj) hx hl;rw[Nat.zero_mul,List.drop_zero,aQ (by omega)]at this;exact this
  ·rename_i k hu;obtain⟨z,rfl,rfl,_⟩:=DataW.trod_int hu ht;injection hl with hl;subst hl;rfl
  ·rename_i hu;obtain⟨z,rfl,rfl⟩:=DataW.trod_bool hu ht;injection hl with hl;subst hl;rfl
  ·rename_i hu;obtain⟨z,rfl,rfl,_⟩:=DataW.trod_string hu ht;injection hl with hl;subst hl;show[Value.string z]=[Value.string (mkS z.data.toList)]
   simp[mkS]
  ·cases h
end
theorem LN{P:Program}{W:World}:∀{ds:List (String×DataW Unit)}{ps:List MemPlace},DataW.LaidVars P W ds ps->∀(i:Nat)(nm:String)(d:DataW Unit)(g:Nat)(t:TypeId)(dep:Nat)(ls:List Lit),ds[i]? =some (nm,d)->P.globalNamed nm=some g->(P.globals[g]?).map (·.type)=some t->okT P dep t=true->flD dep d=some ls->Cells (psiOf W) ⟨g,0,none⟩ (ls.map litV)
 | [],ps,_,i,nm,d,g,t,dep,ls,h1,_,_,_,_=>by cases h1
 |(n,d0)::ds,ps,h,0,nm,d,g,t,dep,ls,h1,h3,h4,h5,h6=>by
  obtain⟨g0,t0,cs0,f0,p0,q0,hg0,ht0,hv0,hd0,_,_⟩:=h;injection h1 with h1;injection h1 with h1 h2;subst h1;subst h2;obtain rfl:=Option.some.inj (h3.symm.trans hg0);obtain rfl:=Option.some.inj (h4.symm.trans ht0);have hcs:=So dep h5 hd0 h6;intro j v hj;rw[<-hcs]at hj;rw[AF,bC];have:=World.var?_cell hg0 hv0 j;have e:W.cell? ⟨g,j,none⟩=some v:=by rw[this];simpa using hj
  unfold World.cell? at e;unfold Psi.cell? psiOf;exact e
 |(n,d0)::ds,ps,h,i+1,nm,d,g,t,dep,ls,h1,h3,h4,h5,h6=>by obtain⟨g0,t0,cs0,f0,p0,q0,hg0,ht0,hv0,hd0,hr,_⟩:=h;exact LN hr i nm d g t dep ls h1 h3 h4 h5 h6
theorem JR{P:Program}{ds:List (String×DataW Unit)}{ps:List MemPlace}(h:DataW.LaidVars P W ds ps)(i:Nat)(nm:String)(d:DataW Unit)(g:Nat)(t:TypeId)(dep:Nat)(ls:List Lit){c:Cd}{x:c.den}{cs:List Value}(h2:encV c x=some cs)(h1:ds[i]? =some (nm,d))(h3:P.globalNamed nm=some g)(h4:(P.globals[g]?).map (·.type)=some t:=by kernel_rfl)(h5:okT P dep t=true:=by kernel_rfl)(h6:flD dep d=some ls:=by kernel_rfl)(he:encV c x=some (ls.map litV):=by kernel_rfl):Cells (psiOf W) ⟨g,0,none⟩ cs:=by rw[h2]at he;injection he with he;rw[he];exact LN h i nm d g t dep ls h1 h3 h4 h5 h6
theorem QP:∀{l:List (Nat×GDV)}{k:Nat}{d:GDV},getG l k=some d->(k,d)∈l
 | [],k,d,h=>by cases h
 |(j,e)::l,k,d,h=>by
  have h:cond (aY j k) (some e) (getG l k)=some d:=h;cases hb:aY j k with
  |true=>
   rw[hb]at h;injection h with h;subst h;rw[aN hb];exact aK ..
  |false=>rw[hb]at h;exact aT _ (QP h)
def laidU:List (String×DataW Unit):=Rows.topCompileRow.laid
theorem Abh(os:Os)(args:Array Value):laidMetH Tryz.prog laidU ((World.laidAll Tryz.prog os laidU).forCall (λ_ _=>0) ⟨#[],args,[]⟩).memory:=by rw[MakeChecks.laidMetH_plain _ _ _ (by kernel_rfl)];exact laidMet_laidAll _ (by kernel_rfl) (by kernel_rfl)
theorem Sp(h:laidMetH Tryz.prog laidU W):GW W:=by
 rw[MakeChecks.laidMetH_plain _ _ _ (by kernel_rfl)]at h;have e:laidU = ("math/bits.deBruijn32tab", Rows.laid_math_bits_deBruijn32tab) :: ("math/bits.deBruijn64tab", Rows.laid_math_bits_deBruijn64tab) :: ("internal/strconv.uint64pow10", Lib.tabData .u64 Lib.pow10Tab)::laidU.drop 3:=by kernel_rfl
 rw[e]at h;exact Lib.tabIs_of_head (g:=3) (t:=364) (e:=238) (n:=20) (by kernel_rfl) (by kernel_rfl) Tryz.underlying364 Tryz.underlying238 (by kernel_rfl) (by kernel_rfl) h.tail.tail
theorem Adw{w:World}(h:GW W)(k:(psiOf W).In w):GW w:=by
 unfold GW Lib.TabIs World.var? at h⊢;rw[Option.bind_eq_some_iff]at h⊢;obtain⟨g,h1,h2⟩:=h;refine⟨g,h1,?_⟩
 cases e:W.heap[g]? with
 |none=>rw[e]at h2;cases h2
 |some o=>rw[k.m g o e];rw[e]at h2;exact h2
theorem AlF(h:laidMetH Tryz.prog laidU W):GI (psiOf W):=by
 refine⟨λw k=>Adw (Sp h) k,λk d cs h1 h2=>?_⟩
 rw[MakeChecks.laidMetH_plain _ _ _ (by kernel_rfl)]at h;obtain⟨ps,hv,_,_⟩:=h;have hm:=QP h1;rcases aJ.1 hm with e|hm
 ·injection e with e1 e2;subst e1;subst e2;exact JR hv 7 "flightdeck/leg.uses" Rows.laid_flightdeck_leg_uses 0 214 9 [.int .u16 0,.int .u16 1,.int .u16 9,.int .u16 25,.int .u16 9,.int .u16 71,.int .u16 71,.int .u16 16,.int .u16 50,.int .u16 16,.int .u16 146,.int .u16 17,.int .u16 49,.int .u16 17,.int .u16 53,.int .u16 53,.int .u16 53,.int .u16 53] h2 (by kernel_rfl) (by kernel_rfl)
 rcases aJ.1 hm with e|hm
 ·injection e with e1 e2;subst e1;subst e2;exact JR hv 6 "flightdeck/leg.names" Rows.laid_flightdeck_leg_names 1 215 9 [.string [],.string [73,70],.string [84,70],.string [67,70],.string [68,70],.string [82,70],.string [65,70],.string [67,65],.string [67,68],.string [67,73],.string [67,82],.string [70,65],.string [70,67],.string [70,77],.string [72,65],.string [72,70],.string [72,77],.string [80,73]] h2 (by kernel_rfl) (by kernel_rfl)
 rcases aJ.1 hm with e|hm
 ·injection e with e1 e2;subst e1;subst e2;exact JR hv 0 "math/bits.deBruijn32tab" Rows.laid_math_bits_deBruijn32tab 10 386 9 [.int .u8 0,.int .u8 1,.int .u8 28,.int .u8 2,.int .u8 29,.int .u8 14,.int .u8 24,.int .u8 3,.int .u8 30,.int .u8 22,.int .u8 20,.int .u8 15,.int .u8 25,.int .u8 17,.int .u8 4,.int .u8 8,.int .u8 31,.int .u8 27,.int .u8 13,.int .u8 23,.int .u8 21,.int .u8 19,.int .u8 16,.int .u8 7,.int .u8 26,.int .u8 12,.int .u8 18,.int .u8 6,.int .u8 11,.int .u8 5,.int .u8 10,.int .u8 9] h2 (by kernel_rfl) (by kernel_rfl)
 rcases aJ.1 hm with e|hm
 ·injection e with e1 e2;subst e1;subst e2;exact JR hv 1 "math/bits.deBruijn64tab" Rows.laid_math_bits_deBruijn64tab 11 387 9 [.int .u8 0,.int .u8 1,.int .u8 56,.int .u8 2,.int .u8 57,.int .u8 49,.int .u8 28,.int .u8 3,.int .u8 61,.int .u8 58,.int .u8 42,.int .u8 50,.int .u8 38,.int .u8 29,.int .u8 17,.int .u8 4,.int .u8 62,.int .u8 47,.int .u8 59,.int .u8 36,.int .u8 45,.int .u8 43,.int .u8 51,.int .u8 22,.int .u8 53,.int .u8 39,.int .u8 33,.int .u8 30,.int .u8 24,.int .u8 18,.int .u8 12,.int .u8 5,.int .u8 63,.int .u8 55,.int .u8 48,.int .u8 27,.int .u8 60,.int .u8 41,.int .u8 37,.int .u8 16,.int .u8 46,.int .u8 35,.int .u8 44,.int .u8 21,.int .u8 52,.int .u8 32,.int .u8 23,.int .u8 11,.int .u8 54,.int .u8 26,.int .u8 40,.int .u8 15,.int .u8 34,.int .u8 20,.int .u8 31,.int .u8 10,.int .u8 25,.int .u8 14,.int .u8 19,.int .u8 9,.int .u8 13,.int .u8 8,.int .u8 7,.int .u8 6] h2 (by kernel_rfl) (by kernel_rfl)
 cases hm
theorem Id (os:Os) (started:os.Started) (H:Type) (enc:TypeId×Value->H) :
  ReturnsInHanded {} Tryz.checked os 5 .any (λw args=>(Rows.topCompileSpec.pre enc Tryz.prog Tryz.f5 [] false w args/\laidMetH Tryz.prog laidU w)/\sizedMet enc Tryz.prog Tryz.f5 (OpenSpec.ofChange Rows.topCompileSpec) false w args) (Rows.topCompileSpec.post enc Tryz.prog Tryz.f5 false true false false):=by
 refine returnsInHanded_of_change_and (C:=Tryz.checked) (X:=λw _=>laidMetH Tryz.prog laidU w) (λ_ _ _ hh h=>h.of_heap hh) Tryz.own started (by kernel_rfl) Tryz.func5
  (ChangeSpec.witness_shaped (enc:=enc) (C:=Tryz.checked) (os:=os) (X:=λw _=>laidMetH Tryz.prog laidU w) false (World.laidAll Tryz.prog os laidU) #[.string ⟨#[]⟩] 8 (World.laidAll_os _ _ _) (World.shaped_of_ZipB (by kernel_rfl) (by kernel_rfl)) (by kernel_rfl) (by kernel_rfl) (by kernel_rfl) (Abh os _)) ?_
 intro W base args ds gs before hval0 hW hcnd hsz0 hL _;have hval:∀(j:Nat) t v,Tryz.f5.params[j]? =some t->args[j]? =some v->Value.okWide Tryz.prog W .any base t v:=hval0;have hW':=hW;obtain⟨p,q,hA0,hV,rfl,hfz,hnd⟩:=hW;have hA:DataW.TrodAll enc Tryz.prog W 0 (λ_=>true) true Tryz.f5.params.toList args.toList ds p:=hA0;have hA1:=hA;rw[Tryz.params5]at hA hval;obtain⟨v0,vs0,d0,ds0,p0,q0,hargs,rfl,rfl,h0,r0⟩:=trodAll_cons hA;obtain⟨rfl,rfl,rfl⟩:=trodAll_nil r0;obtain rfl:args=#[v0]:=by cases args;simp_all
 obtain⟨rfl,rfl⟩:=trodVars_none hV;have hsz:∀m∈DataW.weightsEach Tryz.prog [9] [d0],m<=reachBytes:=λm hm=>by have h9:(DataW.weightsEach Tryz.prog (Tryz.f5.params.toList++[]) ([d0]++[])).all (·<=reachBytes)=true:=hsz0;rw[Tryz.params5,aD,aD]at h9;have:=List.all_eq_true.1 h9 m hm;simpa using this
 obtain⟨s0,rfl,rfl,rfl,z0⟩:=Go.ChangeMaps.open_string Tryz.underlying9 (hval 0 9 v0 rfl rfl) h0;have zl0:s0.data.toList.length<=1125899906842624:=Nat.le_trans (hsz _ (DataW.weights_mem_each (j:=0) rfl rfl _ (by rw[DataW.weights];exact aL.2 rfl))) (by decide);have zs0:Value.string s0= .string (mkS s0.data.toList):=rfl;simp only[aD]at hW' hA1;have hrun:=Sn fo5 (t:=s0.data.toList) ((LV _)) [vC (.str s0.data.toList)] rfl (W:=W) (AlF hL) (vs:=[_]) (⟨⟨zs0,zl0⟩,trivial⟩) rfl;refine hrun.mono λe W' ⟨he,hg⟩=>?_;subst he;exact⟨_,rfl,VJ Tryz.laidOut (by intro t ht;simp only[Tryz.params5]at ht;revert t;decide+kernel) rfl rfl Tryz.underlying4 rfl hW' hA1 hg⟩
theorem jf1:Rows.topCompileRow.wf (OpenSpec.ofChange Rows.topCompileSpec)=true:=by kernel_rfl
theorem jf2:laidOutB Tryz.prog=true:=by kernel_rfl
theorem jf3:mapsRowed Tryz.prog=true:=by kernel_rfl
theorem jf4:Tryz.prog.inPlace 5=Rows.topCompileRow.inPlace:=by kernel_rfl
theorem jf5:Tryz.prog.unfollowed 5=true:=by kernel_rfl
theorem jf6:Tryz.prog.recurses 5=true:=by kernel_rfl
theorem jf7:Tryz.prog.varsNamed 5=Rows.topCompileRow.named:=by kernel_rfl
theorem jf8:joinedFacts Tryz.prog 5 Tryz.f5 Rows.topCompileSpec Rows.topCompileRow=true:=by unfold joinedFacts;rw[jf1,jf2,jf3,jf4,jf5,jf6,jf7];kernel_rfl
theorem jf9:Rows.topCompileRow.wfByText (OpenSpec.ofChange Rows.topCompileSpec)=true:=by kernel_rfl
theorem ApA:Tryz.prog.mainIs=some (true, "27a8041fd38b22cb460d6b7299e697cde53dde6f6f50b869bc665d3c32f8c90f".toList):=by kernel_rfl
theorem ApB:true=Tryz.prog.looks []:=by kernel_rfl
theorem ApC:false=Rows.topCompileRow.goesBy Tryz.prog:=by kernel_rfl
theorem IV:Rows.TopCompileSaid:=
 OpenClaim.holds_of_wide 5 Tryz.f5 rfl rfl rfl rfl rfl rfl rfl ⟨rfl,rfl,rfl,rfl,rfl⟩ rfl rfl rfl rfl rfl (by kernel_rfl) Tryz.func5 jf8
  (of_decide_eq_true (by kernel_rfl)) (by unfold Func.isWrapper;first|(rw[if_pos (by decide+kernel)];kernel_rfl)|(rw[if_neg (by decide+kernel)];exact⟨rfl,rfl⟩))
  (λos started H enc _=>Id os started H enc)
theorem topCompile_card:Rows.TopCompileCardSaid:=
 Claim7.holds_tied_plain_at .later [] [.data,.data,.data,.data,.sentinel,.sentinel,.data,.data,.pinned] true (true, "27a8041fd38b22cb460d6b7299e697cde53dde6f6f50b869bc665d3c32f8c90f") true
  IV (λ_ h=>by cases h) jf9 (λ_ h=>by cases h) topCompile_row_tie rfl ⟨rfl,rfl⟩ ApA rfl
  (λf fn hf hfn=>by
   obtain rfl:f=5:=Option.some.inj ((show Tryz.prog.funcNamed Tryz.f5.name=some 5 by kernel_rfl).symm.trans hf)|>.symm;obtain rfl:fn=Tryz.f5:=(Option.some.inj (Tryz.func5.symm.trans hfn)).symm;exact⟨ApB,λj t ht=>by
    rw[Tryz.params5]at ht;have hm:t∈[9]:=by simpa using Array.mem_of_getElem? ht
    have hall:([9].all λu=>!Tryz.prog.wantsStandIn u)=true:=by kernel_rfl
    exact(show Tryz.prog.wantsStandIn t=false by simpa using List.all_eq_true.1 hall t hm)⟩)
  ApC
end Go.Proofs.YtpglaekodahcoaaGreatDoor
