/-
The third engine,part 17:calls,shown to the end. Conditions:each lemma's own.
-/
import Derived.Test.YtpglaekodahcoaaGreatDoorM2
import Derived.Laws.Tables
import Derived.ArgAppend
import Derived.Lib.AppendStr
import Derived.Laws.IdiomStrings
namespace Go.Proofs.YtpglaekodahcoaaGreatDoor
set_option linter.unusedVariables false
set_option linter.unusedSimpArgs false
open Go.RowKit
open Go.IntKind renaming wrap->aA
open _root_.List renaming length_append->aB,getElem?_append_right->aC,getElem?_eq_getElem->aD,getElem?_append_left->aE,append_assoc->aG,getElem?_set->aH,length_take->aI,length_drop->aJ,take_append_drop->aK,getD_eq_getElem?_getD->aL,length_cons->aN,nil_append->aR,length_set->aU,getElem?_range->aX,length_replicate->aY,getElem?_eq_none->aZ,getD->bA,replicate->bB,eq_nil_of_length_eq_zero->bC,drop_eq_getElem_cons->bD,mem_of_getElem?->bF,take_append_of_le_length->bH,drop_append_of_le_length->bI,take_of_length_le->bK,getElem?_map->bM,length->bO,set->bQ,append_nil->bU,take_succ_eq_append_getElem->bY,set_append_right->cB,drop_append->cC,cons_append->cD,map_cons->cE,length_pos_iff->cK,drop_drop->cM,set_cons_succ->cN,extract_eq_take_drop->cQ,perm_append_left_iff->cR,ext_getElem?->cU,drop_eq_nil_of_le->cY,drop_of_length_le->cZ,length_map->dA,getElem?_toArray->dD,perm_append_comm->dE,mem_append_right->dG,extract_toArray->dH,toList_toArray->dJ,set_set->dP
open _root_.Nat renaming eq_of_beq_eq_true->aF,le_of_ble_eq_true->aM,beq->aP,add_sub_cancel_left->aQ,zero_add->aS,lt_or_ge->aT,le_refl->aW,add_zero->bJ,le_trans->bL,zero_le->bN,mul_le_mul_right->bP,min_eq_left->bV,one_pos->cG,sub_self->cL,ble->cT,add_mul->cV,le_mul_of_pos_left->cW,succ_mul->cX,ble_eq_true_of_le->dC,pow_le_pow_right->dI,sub_zero->dN,blt->dO,mul_one->dR
open _root_.Bool renaming and_eq_true->aO,not_eq_true'->cS
open _root_.Array renaming toArray_toList->aV,toList_inj->bG,toList_map->bR,length_toList->bS,toList_append->cJ,getElem?_modify->dB,toList_modify->dK,toList_range->dM
open _root_.Option renaming map_some->bE
open _root_.Int renaming mul_comm->bW,toNat_natCast->bX,emod_add_mul_ediv->bZ,fdiv_eq_ediv_of_nonneg->cO
open _root_.BitVec renaming ofInt->dQ
variable{t:TypeId}{P:Program}{sl:List (Nat×SV)}{x:Operand}{ty:TypeId}{own:Own}{n:Nat}{α:Type}{l:List α}{et:TypeId}{w:World}{f i:Nat}{k:Option Bk}{bl':List BV}{g:Gh}{ρ:Env}{fr:Sl}{bl:List BV}{p:Psi}{v:SV}{B:Int×Int×List α->Option (Ctl (Int×Int×List α) (List α))}{is:List (Option Nat)}{tbl:FuncId->List FSp}{parts:List (Nat×Operand)}{A:Option Addr}{cmp:α->α->Option Int}{m:Nat}{lt:α->α->Prop}{b off:Nat}{e2:List (Nat×Obj)}{cs:List Value}{ps:List (Nat×List CV)}{c:Bool}{pv:List (Nat×Value)}{lo:Option Operand}{op:Op}{s:Operand}{ats:Array TypeId}{T:Ty α}{a:Int}{l2:List Value}{j:Nat}{y:Operand}{c1 c2 zs:List Value}{et2:TypeId}{uav:List SV}{cap:Nat}{sel:Own}{fn:FuncId}{bytes:Nat}{d:α}{np nn:Nat}{u e:TypeId}{b2 g2:Nat}{β σ:Type}{q:Psi}{S:FSp}{z:α}{s0:σ}
section
noncomputable def ownBack(np f nn:Nat)(is:List (Option Nat))(sel own:Own):Own:=
 (List.range own.length).map λi=>if f<=i/\i<f+nn then(sel[np+(i-f)]?).join else @dite _ (∃j:Nat,is[j]? =some (some i)) (Classical.propDecidable _) (λh=>(sel[Classical.choose h]?).join) (λ_=>(own[i]?).join)
theorem DY:(ownBack np f nn is sel own).length=own.length:=by simp[ownBack]
theorem Fh(hi:i<own.length)(h:f<=i/\i<f+nn):(ownBack np f nn is sel own)[i]? =some (sel[np+(i-f)]?).join:=by unfold ownBack;rw[bM,aX hi];simp only[bE];rw[if_pos h]
theorem GH(hi:i<own.length)(h:¬(f<=i/\i<f+nn))(hnd:(is.filterMap id).Nodup)(hj:is[j]? =some (some i)):(ownBack np f nn is sel own)[i]? =some (sel[j]?).join:=by
 unfold ownBack;rw[bM,aX hi];simp only[bE];have hex:∃j:Nat,is[j]? =some (some i):=⟨j,hj⟩
 rw[if_neg h,dif_pos hex];have:=Bx hnd (Classical.choose_spec hex) hj;rw[this]
theorem Ef(hi:i<own.length)(h:¬(f<=i/\i<f+nn))(hj:¬∃j:Nat,is[j]? =some (some i)):(ownBack np f nn is sel own)[i]? =some (own[i]?).join:=by unfold ownBack;rw[bM,aX hi];simp only[bE];rw[if_neg h,dif_neg hj]
theorem DF{x:Option (Option α)}{k:α}(h:x.join=some k):x=some (some k):=by
 cases x with
 |none=>cases h
 |some y=>exact congrArg some h
theorem callBack {st0:List BV} {σ:List (Option Nat)} {str:HSt} {sel':Own} {ρr:Env} {g2:Gh} {v0:Value} (hr:Rl g ρ ⟨sl,bl⟩ own fr) (hg:g.le g2) (his:is=ownIds σ 0 st0) (hnp:st0.length=np) (hnd:(is.filterMap id).Nodup)
  (hnn:np+nn=str.bl.length) (hm:nn<=m) (hf:∀(i:Nat),i<m->bl[f+i]? =some .hole) (hkn:∀(j b:Nat),is[j]? =some (some b)->∃bv:BV,bl[b]? =some bv/\bv.isHole=false)
  (hlen:∀(j b:Nat)(bv:BV)(l:Nat),j<np->is[j]? =some (some b)->str.bl[j]? =some bv->bv.len=some l->∃bv0:BV,bl[b]? =some bv0/\bv0.len=some l)
  (hbase:baseSt str=true) (hR:Rl (ghB g2.b) ρr str sel' [(0,v0)]) (hρ:∀(j:Nat),j<np->ρr j=envOf σ ρ j) (hown:∀(j:Nat)(bv:BV),j<np->str.bl[j]? =some bv->bv.owned=true->∃b:Nat,is[j]? =some (some b))
  (hs2:St w g2 (sel'++dropIds 0 (is.filterMap id) own)) {s0:SV} (hs0:getH str.sl 0=some s0)
  (hbl':bl'=setNew (setUpd bl (updL (rnOf np f σ) σ 0 st0 str.bl)) f ((str.bl.drop np).map (renB (rnOf np f σ)))):
  ∃ρ' own',Ext ρ bl ρ' bl'/\St w g2 own'/\Rl g2 ρ' ⟨sl,bl'⟩ own' fr/\RealS g2 ρ' bl' (renS (rnOf np f σ) s0) v0:=by
 have hol:own.length=bl.length:=hr.len;have hsl:sel'.length=str.bl.length:=hR.len;have hbb:∀(j:Nat)(bv:BV),str.bl[j]? =some bv->baseB str.bl bv=true:=λj bv e=>by simp only[baseSt,aO]at hbase;exact Fe hbase.2 (bF e)
 have hbs:baseS str.bl s0=true:=by simp only[baseSt,aO]at hbase;exact Fe (p:=λp:Nat×SV=>baseS str.bl p.2) hbase.1 (Hl hs0)
 have hnh:∀(j:Nat)(bv:BV),str.bl[j]? =some bv->bv.isHole=false:=λj bv e=>by have:=hbb j bv e;cases bv<;>first|rfl|cases this
 have hbl:bl'.length=bl.length:=by rw[hbl',GG,GC]
 have hnl:((str.bl.drop np).map (renB (rnOf np f σ))).length=nn:=by rw[dA,aJ];omega
 have hisl:is.length=np:=by rw[his,CN,hnp]
 have hfl:∀i,i<nn->f+i<bl.length:=λi hi=>Am (hf i (by omega));have hnot:∀(b:Nat)(bv:BV),bl[b]? =some bv->bv.isHole=false->¬(f<=b/\b<f+nn):=λb bv e hh ⟨h1,h2⟩=>by have:=hf (b-f) (by omega);rw[show f+(b-f)=b by omega,e]at this;injection this with this;subst this;cases hh
 have hisj:∀(j b:Nat),is[j]? =some (some b)->sigAt σ j=some b/\j<np/\∃y,st0[j]? =some y/\y.owned=true:=λj b e=>by rw[his]at e;obtain⟨y,h1,h2,h3⟩:=Jb e;exact⟨h3,by rw[<-hnp];exact Am h1,y,h1,h2⟩
 have A2:∀(i:Nat)(bv:BV),i<nn->str.bl[np+i]? =some bv->bl'[f+i]? =some (renB (rnOf np f σ) bv):=λi bv hi e=>by rw[hbl'];refine Iw (by rw[bM,List.getElem?_drop,e];rfl) ?_;rw[hnl,GC];have:=hfl (nn-1) (by omega);omega
 have hnodup:((updL (rnOf np f σ) σ 0 st0 str.bl).map Prod.fst).Nodup:=Kw λa b i _ _ ⟨y,h1,h2⟩ ⟨z,h3,h4⟩ h5 h6=>by have e1:=Ix h1 h2 h5;have e2:=Ix h3 h4 h6;rw[dN]at e1 e2;rw[his]at hnd;exact Bx hnd e1 e2
 have A3:∀(j b:Nat)(bv:BV),is[j]? =some (some b)->str.bl[j]? =some bv->bl'[b]? =some (renB (rnOf np f σ) bv):=λj b bv e1 e2=>by obtain⟨h1,h2,y,h3,h4⟩:=hisj j b e1;obtain⟨bv0,h5,h6⟩:=hkn j b e1;have h7:=hnot b bv0 h5 h6;rw[hbl',CS (by rw[hnl];omega)];exact Mn (SK h3 e2 h4 (by rw[aS];exact h1)) hnodup (Am h5)
 have A4:∀(i:Nat),¬(f<=i/\i<f+nn)->(¬∃j:Nat,is[j]? =some (some i))->bl'[i]? =bl[i]?:=λi h1 h2=>by rw[hbl',CS (by rw[hnl];omega)];refine GF λp hp e=>h2 ?_;obtain⟨j,b0,b,h3,_,h5,h6,_⟩:=Ho hp;rw[aS,e]at h6;exact⟨j,by rw[his];exact Ix h3 h5 h6⟩
 obtain⟨ρ',hρ'⟩:∃ρ':Env,ρ'=λi=>if f<=i/\i<f+nn then ρr (np+(i-f))else ρ i:=⟨_,rfl⟩
 have hρn:∀i,i<nn->ρ' (f+i)=ρr (np+i):=λi hi=>by rw[hρ'];show(if f<=f+i/\f+i<f+nn then _ else _)=_;rw[if_pos (by omega),show f+i-f=i by omega]
 have hρo:∀i,¬(f<=i/\i<f+nn)->ρ' i=ρ i:=λi h=>by rw[hρ'];exact if_neg h
 have hx:Ext ρ bl ρ' bl':=λb bv h1 h2=>by
  have h3:=hnot b bv h1 h2;refine⟨hρo b h3,?_⟩
  by_cases hj:∃j:Nat,is[j]? =some (some b)
  ·obtain⟨j,hj⟩:=hj;obtain⟨h4,h5,_⟩:=hisj j b hj;have h6:j<str.bl.length:=by omega
   refine⟨_,A3 j b _ hj (aD h6),by rw[Iv];exact hnh j _ (aD h6),λl hl=>?_⟩
   rw[Kt]at hl;obtain⟨bv0,h7,h8⟩:=hlen j b _ l h5 hj (aD h6) hl;rw[h1]at h7;injection h7 with h7;subst h7;exact h8
  ·exact⟨bv,by rw[A4 b h3 hj];exact h1,h2,λl hl=>hl⟩
 have hren:RenOk (rnOf np f σ) ρr str.bl ρ' bl':=⟨λj bv e ho=>by
  have hh:=hnh j bv e;by_cases hj:j<np
  ·obtain⟨b,hb⟩:=hown j bv hj e ho;obtain⟨h1,_,_⟩:=hisj j b hb;obtain⟨bv0,h5,h6⟩:=hkn j b hb;have hrn:rnOf np f σ j=b:=by unfold rnOf;rw[show dO j np=true by simpa using hj,h1];rfl
   rw[hrn];refine⟨?_,_,A3 j b bv hb e,by rw[Iv];exact hh,Kt bv⟩
   rw[hρo b (hnot b bv0 h5 h6),hρ j hj];unfold envOf;rw[h1]
  ·have hlt:=Am e;have hrn:rnOf np f σ j=f+(j-np):=by unfold rnOf;rw[show dO j np=false by cases h:dO j np with|false=>rfl|true=>exact absurd (by simpa using h) hj];rfl
   rw[hrn];have e':str.bl[np+(j-np)]? =some bv:=by rw[show np+(j-np)=j by omega];exact e
   refine⟨?_,_,A2 (j-np) bv (by omega) e',by rw[Iv];exact hh,Kt bv⟩
   rw[hρn (j-np) (by omega),show np+(j-np)=j by omega]⟩
 have hle:g2.b.le g2.b:= .refl _;refine⟨ρ',ownBack np f nn is sel' own,hx,hs2.back (λi k e=>?_) (λi j k e1 e2=>?_),hr.turn hg hx (by rw[DY,hol,hbl]) (λi bv k e1 e2=>?_),?_⟩
 ·
  have hi:i<own.length:=by rw[<-DY (np:=np) (f:=f) (nn:=nn) (is:=is) (sel:=sel') (own:=own)];exact Am e
  by_cases h1:f<=i/\i<f+nn
  ·rw[Fh hi h1]at e;injection e with e;exact .inl ⟨_,DF e⟩
  ·by_cases h2:∃j:Nat,is[j]? =some (some i)
   ·obtain⟨j,hj⟩:=h2;rw[GH hi h1 hnd hj]at e;injection e with e;exact .inl ⟨_,DF e⟩
   ·rw[Ef hi h1 h2]at e;injection e with e;refine .inr ⟨i,?_⟩;rw[De (DF e),aS];have:natMem i (is.filterMap id)=false:=by
     cases hmm:natMem i (is.filterMap id)with
     |false=>rfl
     |true=>exact absurd (mem_ids.1 hmm) h2
    rw[this];rfl
 ·have hpos:∀ (i:Nat),(ownBack np f nn is sel' own)[i]? = some (some k)->∃ q:Nat,(sel'++dropIds 0 (is.filterMap id) own)[q]? = some (some k)/\((f<=i/\i < f+nn/\q=np+(i - f)/\q < sel'.length)\/(q < np/\q < sel'.length/\is[q]? = some (some i))\/(q=sel'.length+i)):=by
   intro i e;have hi:i<own.length:=by rw[<-DY (np:=np) (f:=f) (nn:=nn) (is:=is) (sel:=sel') (own:=own)];exact Am e
   by_cases h1:f<=i/\i<f+nn
   ·rw[Fh hi h1]at e;injection e with e;have e:=DF e;have hlt:=Am e;exact⟨_,by rw[aE hlt];exact e,.inl ⟨h1.1,h1.2,rfl,hlt⟩⟩
   ·by_cases h2:∃j:Nat,is[j]? =some (some i)
    ·obtain⟨j,hj⟩:=h2;rw[GH hi h1 hnd hj]at e;injection e with e;have e:=DF e;have hlt:=Am e;exact⟨j,by rw[aE hlt];exact e,.inr (.inl ⟨by rw[<-hisl];exact Am hj,hlt,hj⟩)⟩
    ·rw[Ef hi h1 h2]at e;injection e with e;refine⟨sel'.length+i,?_,.inr (.inr rfl)⟩
     rw[aC (by omega),show sel'.length+i-sel'.length=i by omega,De (DF e),aS];have:natMem i (is.filterMap id)=false:=by
      cases hmm:natMem i (is.filterMap id)with
      |false=>rfl
      |true=>exact absurd (mem_ids.1 hmm) h2
     rw[this];rfl
  obtain⟨q1,h1,c1⟩:=hpos i e1;obtain⟨q2,h2,c2⟩:=hpos j e2;have hq:=Hc hs2.nodup h1 h2 rfl;subst hq;rcases c1 with⟨a1,a2,a3,a4⟩|⟨a1,a2,a3⟩|a1<;>rcases c2 with⟨b1,b2,b3,b4⟩|⟨b1,b2,b3⟩|b1
  ·omega
  ·omega
  ·omega
  ·omega
  ·rw[a3]at b3;injection b3 with b3;injection b3
  ·omega
  ·omega
  ·omega
  ·omega
 ·
  have hi:i<own.length:=by rw[<-DY (np:=np) (f:=f) (nn:=nn) (is:=is) (sel:=sel') (own:=own)];exact Am e2
  by_cases h1:f<=i/\i<f+nn
  ·rw[Fh hi h1]at e2;injection e2 with e2;have hlt:np+(i-f)<str.bl.length:=by omega
   have e3:=A2 (i-f) _ (by omega) (aD hlt);rw[show f+(i-f)=i by omega,e1]at e3;injection e3 with e3;subst e3;have e4:sel'[np+(i-f)]? =some (sel'[np+(i-f)]'(by omega)):=aD (by omega);rw[e4]at e2;have e2:sel'[np+(i-f)]'(by omega)=k:=e2;have:=hR.blk _ _ _ (aD hlt) e4;rw[e2]at this;have h3:=hρn (i-f) (by omega);rw[show f+(i-f)=i by omega]at h3;rw[h3];exact Mm hren hle (hbb _ _ (aD hlt)) this
  ·by_cases h2:∃j:Nat,is[j]? =some (some i)
   ·obtain⟨j,hj⟩:=h2;rw[GH hi h1 hnd hj]at e2;injection e2 with e2;obtain⟨h3,h4,_⟩:=hisj j i hj;have hlt:j<str.bl.length:=by omega
    have e3:=A3 j i _ hj (aD hlt);rw[e1]at e3;injection e3 with e3;subst e3;have e4:sel'[j]? =some (sel'[j]'(by omega)):=aD (by omega);rw[e4]at e2;have e2:sel'[j]'(by omega)=k:=e2;have:=hR.blk _ _ _ (aD hlt) e4;rw[e2,hρ j h4]at this;have h5:envOf σ ρ j=ρ i:=by unfold envOf;rw[h3]
    rw[h5,<-hρo i h1]at this;exact Mm hren hle (hbb _ _ (aD hlt)) this
   ·rw[Ef hi h1 h2]at e2;injection e2 with e2;rw[A4 i h1 h2]at e1;have e4:own[i]? =some own[i]:=aD hi;rw[e4]at e2;have e2:own[i]=k:=e2;have:=hr.blk i bv _ e1 e4;rw[e2]at this;rw[hρo i h1];exact this.ext hg hx
 ·obtain⟨v1,h1,h2⟩:=hR.slot 0 s0 hs0;have h1:some v0=some v1:=h1;injection h1 with h1;subst h1;exact UT hren hle hbs h2
theorem OE:∀{is:List (Option Nat)}{l:List BV}{j:Nat}{x:Option Nat}{bv:BV},ownC is l=true->is[j]? =some x->l[j]? =some bv->bv.owned=true->∃b,x=some b
 | [],_,_,_,_,_,h,_,_=>by simp at h
 |_::_,[],_,_,_,_,_,h,_=>by simp at h
 |y::is,b::l,0,x,bv,h,h1,h2,h3=>by
  simp at h1 h2;subst h1;subst h2;simp only[ownC,aO,Bool.or_eq_true,cS]at h;rcases h.1 with h|h
  ·rw[h3]at h;cases h
  ·cases y with
   |none=>cases h
   |some b=>exact⟨b,rfl⟩
 |y::is,b::l,j+1,x,bv,h,h1,h2,h3=>by simp only[ownC,aO]at h;exact OE h.2 (by simpa using h1) (by simpa using h2) h3
def EntersBy(P:Program)(n:Nat)(sl:List (Nat×SV))(op:Op)(fn:FuncId)(uav:List SV):Prop:=∀(bl:List BV)(g:Gh)(ρ:Env)(own:Own)(fr:Sl),Rl g ρ ⟨sl,bl⟩ own fr->∃us:List Value,AB (RealS g ρ bl) uav us/\∀(o:Oper)(a:Act)(w:World),o.op=op->Fr n a fr->(execOp a.eval o).run P w= .ok (.enter fn us.toArray) w
theorem OG {c:Cand} {idl:List Nat} (hT:∀ f S,S∈tbl f->FOk P f S) (hf:∀ i,i < m->bl[f+i]? = some .hole)
  (hrun:EntersBy P n sl op fn uav) (hc:firstC (argH 0 uav) (maskB 0 idl bl) (tbl fn)=some c) (hfl:c.s.fl=[])
  (h:Told f (callN f m c) bl bl' v):EffH P n op ty sl bl bl' v:=by
 obtain⟨S,hS,hcand⟩:=Kv hc;obtain⟨rfl,hal,hab,hcon,hchk,hct⟩:=UU hcand;have hsame:=Rm hab hfl;obtain⟨r,hrn,h⟩:=h;obtain⟨str,hstr,h⟩:=Mo h
 ·split at h
  ·rename_i s0 hs0 hb;simp only[aO]at hb;obtain⟨hb1,hb2,hb3⟩:=hb;have hb1:=aM hb1;have hb2:=aM hb2;obtain⟨rfl,rfl⟩:=h;intro o a w Q K g ρ own fr h1 h2 hr hfr hs hk;obtain⟨us,hus,hex⟩:=hrun bl g ρ own fr hr;obtain⟨hnd,hrows,hlt,hlen⟩:=Mr hchk;have hra:∀t sv,getH (argH 0 uav) t=some sv->∃v,getS (argS 0 us) t=some v/\RealS g ρ bl sv v:=λt sv e=>Mq hus e;have hisl:(ownIds c.s.σ 0 c.st0.bl).length=c.st0.bl.length:=CN _ _ _;refine Wk (is:=ownIds c.s.σ 0 c.st0.bl) hex hnd (λg' hgr hgb hlent=>hT fn c.S hS c.t r c.st0 hrn hct g' (envOf c.s.σ ρ) _ us (Wl hr hra hab hsame hcon hchk hgr hgb hlent) (by rw[hal,OC,hus.len])) o a w Q K h1 h2 hfr hs
    λv' g2 own2 w2 hg2 hs2 ⟨sel',e,str',ρr,e2,hbase,hR,hρ⟩=>?_
   subst e;rw[hstr]at e2;injection e2 with e2;subst e2;obtain⟨st2,e3,_,_,_,hbl⟩:=Fa hab;rw[hcon]at e3;injection e3 with e3;subst e3;rw[hsame]at hbl;have hblk:∀(j b:Nat),(ownIds c.s.σ 0 c.st0.bl)[j]? =some (some b)->∃y bv:BV,c.st0.bl[j]? =some y/\bl[b]? =some bv/\bv.isHole=false/\∀l,y.len=some l->bv.len=some l:=λj b e=>by
    obtain⟨y,h3,h4,h5⟩:=Jb e;have hB:=hbl.get h3;rw[aS]at hB;rcases hB with rfl|⟨b',h6,h7⟩
    ·cases h4
    ·rw[h5]at h6;injection h6 with h6;subst h6;cases h7 with
     |no=>cases h4
     |cells h hs=>exact⟨_,_,h3,BP h,rfl,λl hl=>by cases hl⟩
     |@row _ d et xs h=>
      obtain⟨bv,h8,h9⟩:=h;rcases h9 with rfl|rfl
      ·exact⟨_,_,h3,BP h8,rfl,λl hl=>hl⟩
      ·exact⟨_,_,h3,BP h8,rfl,λl hl=>hl⟩
     |lent h hs=>cases h4
     |lend hl h hs=>cases h4
     |map h=>exact⟨_,_,h3,BP h,rfl,λl hl=>by cases hl⟩
     |@tree _ d et xs h=>
      obtain⟨bv,h8,h9⟩:=h;rcases h9 with rfl|rfl
      ·exact⟨_,_,h3,BP h8,rfl,λl hl=>hl⟩
      ·exact⟨_,_,h3,BP h8,rfl,λl hl=>hl⟩
   obtain⟨ρ',own',hx,hst,hrl,hv⟩:=callBack (np:=c.st0.bl.length) (nn:=str.bl.length-c.st0.bl.length) (m:=m) hr hg2 rfl rfl hnd (by omega) hb2 hf
    (λj b e=>by obtain⟨y,bv,_,h4,h5,_⟩:=hblk j b e;exact⟨bv,h4,h5⟩)
    (λj b bv l hj e1 e2 e3=>by obtain⟨y,bv0,h3,h4,_,h6⟩:=hblk j b e1;obtain⟨y',h7,h8⟩:=Kr ((hρ j hj).2 bv l e2 e3);rw[h3]at h7;injection h7 with h7;subst h7;exact⟨bv0,h4,h6 l h8⟩)
    hbase hR (λj hj=>(hρ j hj).1)
    (λj bv hj e1 e2=>by have h3:(ownIds c.s.σ 0 c.st0.bl)[j]? =some ((ownIds c.s.σ 0 c.st0.bl)[j]'(by rw[hisl];exact hj)):=aD (by rw[hisl];exact hj);obtain⟨b,hb⟩:=OE hb3 h3 e1 e2;exact⟨b,by rw[h3,hb]⟩)
    hs2 hs0 rfl
   exact hk v' g2 ρ' own' w2 hg2 hx hst hrl hv
  ·exact h.elim
theorem OH (hT:∀ f S,S∈tbl f->FOk P f S) (hf:∀ i,i < m->bl[f+i]? = some .hole) (hrun:enters P fn=true->EntersBy P n sl op fn uav) (h:Told f (callT P tbl f m fn uav) bl bl' v) :
  EffH P n op ty sl bl bl' v:=by
 unfold callT at h;obtain⟨he,h⟩:=condT h;obtain⟨idl,h⟩:=h;dsimp only at h;split at h
 ·rename_i c hc;split at h
  ·rename_i hfl;exact OG hT hf (hrun he) hc hfl h
  ·obtain⟨bl1,hfz,h⟩:=Fg h;obtain⟨idl2,h⟩:=h;dsimp only at h;split at h
   ·rename_i c2 hc2;split at h
    ·rename_i hfl;exact EffH.frz hfz (OG hT (λi hi=>hfz.hole (hf i hi)) (hrun he) hc2 hfl h)
    ·exact h.elim
   ·exact h.elim
 ·exact h.elim
theorem Wm {args:List Operand} (hT:∀ f S,S∈tbl f->FOk P f S) (hf:∀ i,i < m->bl[f+i]? = some .hole) (h:Told f (tCall P tbl sl f m x args) bl bl' v) :
  EffH P n (.call { callee:= .value x,args:=args.toArray,argTypes:=ats }) ty sl bl bl' v:=by
 unfold tCall at h;split at h
 ·rename_i fn c avs ex ea;refine OH hT hf (λhe bl g ρ own fr hr=>?_) h;obtain⟨vx,hx1,u,hu,rfl⟩:=Aa hr ex;obtain⟨vs,ha1,ha2⟩:=Ku hr ea;refine⟨u::vs,⟨hu,ha2⟩,λo a w h1 hf=>?_⟩
  have:args.toArray.map a.eval=vs.toArray:=by apply bG.1;rw[bR,hf.evs (xs:=args.toArray.toList) (by simpa using ha1)]
  simp[execOp,h1,resolve,hf.ev hx1,Deferred.ofValue,invoke,this,ET he]
 ·rename_i fv avs _ ex ea;split at h
  ·rename_i fn caps hfn;refine OH hT hf (λhe bl g ρ own fr hr=>?_) h;obtain⟨vx,hx1,hx2⟩:=Aa hr ex;obtain⟨cs,rfl,hcs⟩:=Mp hfn hx2;obtain⟨vs,ha1,ha2⟩:=Ku hr ea;refine⟨vs++cs,AB.app (Ff (f:=vC) (R:=RealS g ρ bl) hcs) ha2,λo a w h1 hf=>?_⟩
   have:args.toArray.map a.eval=vs.toArray:=by apply bG.1;rw[bR,hf.evs (xs:=args.toArray.toList) (by simpa using ha1)]
   simp[execOp,h1,resolve,hf.ev hx1,Deferred.ofValue,invoke,this,ET he]
  ·exact h.elim
 ·exact h.elim
end
section
def tField(P:Program)(sl:List (Nat×SV))(t:TypeId)(x:Operand)(i:Nat):Tr:=match P.underlying t,evH sl x with
 |some (.struct fs),some (.v (.agg l))=>(match fs[i]? with|some fd=>readT P fd.type l fd.offset|none=> .no)
 |_,_=> .no
theorem UV{u:Value}(hf:flatOf P t=true)(h:cs[off]? =some u)(w:World):(part t cs.toArray off).run P w= .ok u w:=by have h1:=DI hf w;simp[part,h1,h]
theorem UW{vs:List Value}(hf:aggOf P t=some vs.length)(h:(cs.drop off).take vs.length=vs)(w:World):(part t cs.toArray off).run P w= .ok (.agg vs.toArray) w:=by
 obtain⟨h1,h2⟩:=EJ hf w;have e:cs.toArray.extract off (off+vs.length)=vs.toArray:=by rw[dH,cQ,show off+vs.length-off=vs.length by omega,h]
 simp[part,h1,h2];simpa using h
theorem Kx{l:List CV}(h:readL P t l off=some v)(hl:AB (RealC g ρ bl) l cs):∃u,RealS g ρ bl v u/\∀w,(part t cs.toArray off).run P w= .ok u w:=by
 rcases DL h hl with⟨hf,u,h1,h2⟩|⟨vs,h1,h2,h3⟩
 ·exact⟨u,h2,UV hf h1⟩
 ·exact⟨_,h3,UW h1 h2⟩
theorem UX(h:Told f (tField P sl t x i) bl bl' v):EffH P n (.field t x i) ty sl bl bl' v:=by
 unfold tField at h;split at h
 ·rename_i fs l hu ex;split at h
  ·rename_i fd hfd;obtain⟨rfl,e⟩:=BQ h;refine .of_yld λg ρ own fr hr=>?_;obtain⟨vx,hx1,cs,rfl,hx2⟩:=Aa hr ex;obtain⟨u,h1,h2⟩:=Kx e hx2;refine⟨u,h1,λo ac w e1 e2 hf hr=>?_⟩
   have:(Instr.field t (.agg cs.toArray) i).run P w= .ok u w:=by simp only[Instr.field,run_underlying hu,Sem.run_bind,Result.andThen_ok,hfd,asAgg,Sem.run_pure,h2]
   simp[execOp,e1,hf.ev hx1,this]
  ·exact h.elim
 ·exact h.elim
def fillH(place:Nat->Option (Nat×Nat)):List CV->List (Nat×List CV)->Option (List CV)
 |cs,[]=>some cs
 |cs,(i,v)::rest=>match place i with
  |some (off,size)=>cond (aP v.length size&&cT (off+v.length) cs.length) (fillH place (setRowC cs off v) rest) none
  |none=>none
theorem Jc:∀(vs:List Value)(k off:Nat)(cells:List Value),((vs.zipIdx k).foldl (λcs p=>cs.setIfInBounds (off+p.2) p.1) cells.toArray).toList=setRow cells (off+k) vs
 | [],k,off,cells=>rfl
 |v::vs,k,off,cells=>by rw[List.zipIdx_cons,List.foldl_cons];have:=Jc vs (k+1) off (cells.set (off+k) v);rw[<-List.setIfInBounds_toArray]at this;rw[this];rfl
theorem Gd {place:Nat->Option (Nat×Nat)}:∀ {ps:List (Nat×List CV)} {pv:List (Nat×Value)} {l l':List CV} {cs:List Value},fillH place l ps=some l'->AB (RealC g ρ bl) l cs ->
  AB (λ(p:Nat×List CV)(q:Nat×Value)=>p.1=q.1/\∃us,q.2.cells=us.toArray/\AB (RealC g ρ bl) p.2 us) ps pv->∃cs',Instr.fill place cs.toArray pv=some cs'.toArray/\AB (RealC g ρ bl) l' cs'
 | [],[],l,l',cs,h,hl,_=>by injection h with h;subst h;exact⟨cs,rfl,hl⟩
 |(i,m)::ps,(j,u)::pv,l,l',cs,h,hl,hp=>by
  obtain⟨⟨e,us,h1,h2⟩,hp⟩:=hp;have e:i=j:=e;subst e;unfold fillH at h;split at h
  ·rename_i off size hpl;obtain⟨hc,h⟩:=condS h;simp only[aO]at hc;have hc1:=aF hc.1;have hc2:=aM hc.2;have h1:u.cells=us.toArray:=h1;have hus:us.length=size:=by rw[<-h2.len];exact hc1
   obtain⟨cs',h3,h4⟩:=Gd h (Cs off h2 hl) hp;refine⟨cs',?_,h4⟩
   unfold Instr.fill;rw[hpl];have hn:¬((decide (u.cells.size≠size)||decide (off+u.cells.size>cs.toArray.size))=true):=by rw[h1];have:=hl.len;have:=h2.len;simp;omega
   simp only[];rw[if_neg (by simpa using hn)];rw[<-h3];congr 1;rw[h1];have:=Jc us 0 off cs;rw[bJ]at this;apply bG.1;rw[dJ,<-this];simp[<-Array.foldl_toList]
  ·cases h
 | [],_::_,_,_,_,_,_,h=>h.elim
 |_::_,[],_,_,_,_,_,h=>h.elim
def partsH(sl:List (Nat×SV)):List (Nat×Operand)->Option (List (Nat×List CV))
 | []=>some []
 |(i,x)::l=>match evH sl x with
  |some s=>(match cellsS s,partsH sl l with|some c,some m=>some ((i,c)::m)|_,_=>none)
  |none=>none
theorem Df (hr:Rl g ρ ⟨sl,bl⟩ own fr):∀ {l:List (Nat×Operand)} {ps:List (Nat×List CV)},partsH sl l=some ps->∃ pv:List (Nat×Value),l.map (λq=>(evS fr q.2).map λv=>(q.1,v))=pv.map some /\
  AB (λ(p:Nat×List CV)(q:Nat×Value)=>p.1=q.1/\∃us,q.2.cells=us.toArray/\AB (RealC g ρ bl) p.2 us) ps pv
 | [],ps,h=>by injection h with h;subst h;exact⟨[],rfl,trivial⟩
 |(i,x)::l,ps,h=>by
  unfold partsH at h;split at h
  ·rename_i s hs;split at h
   ·rename_i c m hc hm;injection h with h;subst h;obtain⟨pv,h1,h2⟩:=Df hr hm;obtain⟨u,h3,h4⟩:=Aa hr hs;obtain⟨us,h5,h6⟩:=Da hc h4;exact⟨(i,u)::pv,by rw[cE,cE,h1];simp only[h3];rfl,⟨rfl,us,h5,h6⟩,h2⟩
   ·cases h
  ·cases h
theorem OI{a:Act}{n:Nat}(hf:Fr n a fr):∀{l:List (Nat×Operand)}{pv:List (Nat×Value)},l.map (λq=>(evS fr q.2).map λv=>(q.1,v))=pv.map some->l.map (λq=>(q.1,a.eval q.2))=pv
 | [],[],_=>rfl
 |q::l,u::pv,h=>by simp only[cE,List.cons.injEq,Option.map_eq_some_iff]at h;obtain⟨⟨v,hv,e⟩,h3⟩:=h;rw[cE,OI hf h3,hf.ev hv,e]
 | [],_::_,h=>by simp at h
 |_::_,[],h=>by simp at h
def builtH(P:Program)(t:TypeId)(ps:List (Nat×List CV)):Option (List CV):=match P.info? t,P.underlying t with
 |some it,some (.array _ e)=>(match it.zero,P.info? e with
  |some z,some ie=>(match constL z.cells.toList with|some l=>fillH (λi=>some (i*ie.size,ie.size)) l ps|none=>none)
  |_,_=>none)
 |some it,some (.struct fields)=>(match it.zero,fields.toList.mapM (λf=>(P.info? f.type).map λi=>(f.offset,i.size))with
  |some z,some places=>(match constL z.cells.toList with|some l=>fillH (places.toArray[·]?) l ps|none=>none)
  |_,_=>none)
 |_,_=>none
theorem OJ {l:List CV} (h:builtH P t ps=some l) (hp:AB (λ(p:Nat×List CV) (q:Nat×Value)=>p.1=q.1/\∃ us,q.2.cells=us.toArray/\AB (RealC g ρ bl) p.2 us) ps pv) :
  ∃cs,P.built t pv=some cs.toArray/\AB (RealC g ρ bl) l cs:=by
 unfold builtH at h;split at h
 ·rename_i it k e h1 h2;split at h
  ·rename_i z ie h3 h4;split at h
   ·rename_i l0 hl0;obtain⟨cs',h5,h6⟩:=Gd h (BE hl0) hp;exact⟨cs',by simp only[Program.built,h1,h2,h3,h4];simpa using h5,h6⟩
   ·cases h
  ·cases h
 ·rename_i it fields h1 h2;split at h
  ·rename_i z places h3 h4;split at h
   ·rename_i l0 hl0;obtain⟨cs',h5,h6⟩:=Gd h (BE hl0) hp;exact⟨cs',by simp only[Program.built,h1,h2,h3,h4];simpa using h5,h6⟩
   ·cases h
  ·cases h
 ·cases h
def tBuild(P:Program)(sl:List (Nat×SV))(t:TypeId)(parts:List (Nat×Operand)):Tr:=match partsH sl parts with
 |some ps=>(match builtH P t ps with|some l=>retT (.v (.agg l))|none=> .no)
 |none=> .no
theorem UY(h:Told f (tBuild P sl t parts) bl bl' v):EffH P n (.build t parts.toArray) ty sl bl bl' v:=by
 unfold tBuild at h;split at h
 ·rename_i ps hps;split at h
  ·rename_i l hl;obtain⟨rfl,rfl⟩:=Al h;refine .of_yld λg ρ own fr hr=>?_;obtain⟨pv,h1,h2⟩:=Df hr hps;obtain⟨cs,h3,h4⟩:=OJ hl h2;refine⟨.agg cs.toArray,⟨cs,rfl,h4⟩,λo ac w e1 e2 hf hr=>?_⟩
   have e3:(parts.toArray.map λ(q:Nat×Operand)=>(q.1,ac.eval q.2))=pv.toArray:=by apply bG.1;rw[bR,dJ];exact OI hf h1
   have e4:(Instr.build t pv.toArray).run P w= .ok (.agg cs.toArray) w:=run_build w t pv.toArray cs.toArray (by simpa using h3);simp only[execOp,e1];rw[show(parts.toArray.map λx=>match x with|(i,x)=>(i,ac.eval x))=pv.toArray from e3];simp[e4]
  ·exact h.elim
 ·exact h.elim
def rowH(P:Program)(t:TypeId)(len:Nat)(ps:List (Nat×List CV)):Option (List CV):=match P.underlying t with
 |some (.slice elem)=>(match P.info? elem with
  |some i=>cond (cT (len*i.size) 16777216) (match(if len*i.size=0 then some #[]else i.zero.map Value.cells)with
   |some zero=>(match constL ((List.range' 0 (len*i.size)).map (zero[·%zero.size]!))with
    |some l=>fillH (λj=>some (j*i.size,i.size)) l ps
    |none=>none)
   |none=>none) none
  |none=>none)
 |_=>none
theorem Iy {len:Nat} {l:List CV} (hu:P.underlying t=some (.slice et)) (h:rowH P t len ps=some l) (hp:AB (λ(p:Nat×List CV) (q:Nat×Value)=>p.1=q.1/\∃ us,q.2.cells=us.toArray/\AB (RealC g ρ bl) p.2 us) ps pv) :
  ∃cs,buildRow P t len pv=some (et,cs.toArray)/\AB (RealC g ρ bl) l cs:=by
 unfold rowH at h;rw[hu]at h;dsimp only at h;split at h
 ·rename_i i h1;obtain⟨hb,h⟩:=condS h;have hb:=aM hb;split at h
  ·rename_i zero hz;split at h
   ·rename_i l0 hl0;obtain⟨cs',h5,h6⟩:=Gd h (BE hl0) hp;refine⟨cs',?_,h6⟩
    unfold buildRow;rw[hu];simp only[h1];rw[if_neg (by omega)];simp only[hz];rw[show((Array.range (len*i.size)).map (zero[·%zero.size]!))=((List.range' 0 (len*i.size)).map (zero[·%zero.size]!)).toArray by rw[<-aV (xs:=Array.map _ _),bR,dM,List.range_eq_range'],h5];rfl
   ·cases h
  ·cases h
 ·cases h
def encN(c:Cd):Nat->List CV->(List c.den->Tr)->Tr
 |0,[],K=>K []
 |0,_::_,_=> .no
 |m+1,l,K=>encC c l λx r=>encN c m r λxs=>K (x::xs)
def EncN(bl:List BV)(c:Cd):List CV->List c.den->Prop
 |l,[]=>l=[]
 |l,x::xs=>∃m,EncD bl c l x m/\EncN bl c m xs
theorem EncN.frz{a b:List BV}(h:FrzTo a b){c:Cd}:∀{xs:List c.den}{l:List CV},EncN a c l xs->EncN b c l xs
 | [],_,e=>e
 |_::_,_,⟨m,h1,h2⟩=>⟨m,h1.frz h,h2.frz h⟩
theorem Ms{c:Cd}:∀{m:Nat}{l:List CV}{K:List c.den->Tr}{bl:List BV},Told f (encN c m l K) bl bl' v->∃xs bl1,Told f (K xs) bl1 bl' v/\FrzTo bl bl1/\EncN bl1 c l xs/\xs.length=m
 |0,[],K,bl,h=>⟨[],bl,h,.refl,rfl,rfl⟩
 |0,_::_,K,bl,h=>h.elim
 |m+1,l,K,bl,h=>by unfold encN at h;obtain⟨x,r,bl1,h2,h3,h4⟩:=CM c h;obtain⟨xs,bl2,h5,h6,h7,h8⟩:=Ms h2;exact⟨x::xs,bl2,h5,h3.trans h6,⟨r,h4.frz h6,h7⟩,by rw[aN,h8]⟩
theorem EncN.real{c:Cd}(hr:Rl g ρ ⟨sl,bl⟩ own fr):∀{xs:List c.den}{l:List CV}{cs:List Value},EncN bl c l xs->AB (RealC g ρ bl) l cs->Reps c.ty g.b cs xs
 | [],l,cs,e,h=>by
  have e:l=[]:=e;subst e;cases cs with
  |nil=>rfl
  |cons _ _=>exact h.elim
 |x::xs,l,cs,⟨m,h1,h2⟩,h=>by obtain⟨c1,c2,e,h3,h4⟩:=h1.real hr c h;exact⟨c1,c2,e,h3,h2.real hr h4⟩
def tLit(P:Program)(sl:List (Nat×SV))(f:Nat)(t:TypeId)(len:Nat)(parts:List (Nat×Operand)):Tr:=match rowOf P t,partsH sl parts with
 |some (c,et,_),some ps=>(match rowH P t len ps with
  |some l=>encN c len l λxs=>cond (cT len 140737488355328) (.done ⟨vC (.own f),[],[.row c et xs]⟩) .no
  |none=> .no)
 |_,_=> .no
theorem Hp {c:Cd} {xs:List c.den} (hf:bl[f]? = some .hole)
  (h:∀g ρ own fr,Rl g ρ ⟨sl,bl⟩ own fr->Eff P n g own fr op ty (λv' g' own'=>∃A c' k,v'= .slice A xs.length c'/\g=g'/\own'=k::own/\Buf g.b c.ty et (.slice A xs.length c') k xs)):
  EffH P n op ty sl bl (bl.set f (.row c et xs)) (vC (.own f)):=by
 intro o a w Q K g ρ own fr h1 h2 hr hfr hs hk;refine h g ρ own fr hr o a w Q K h1 h2 hfr hs λv g' own' w' hg hs' ⟨A,c',k,e1,e2,e3,hb⟩=>?_;subst e1;subst e2;subst e3;have hno:=hr.hole_none hf;have hst:St w' g (own.set f k):=by
  cases k with
  |some k=>exact hs'.fill hno
  |none=>
   have:own.set f none=own:=Ob hno;rw[this];exact hs'.fewer (by have:=hs'.nodup;rwa [Own.ids_cons]at this) λk hk=>List.mem_cons_of_mem _ hk
 have hx:Ext ρ bl (setρ ρ f (A,c')) (bl.set f (.row c et xs)):=Ext.set_hole hf;refine hk _ g (setρ ρ f (A,c')) _ w' (.refl g) hx hst (hr.lay (bv:= .row c et xs) (k:=k) (e:=(A,c')) (.refl g) hf hb) ⟨Bo (Am hf) rfl,_,by rw[Bn],λbv m e1 e2=>?_⟩;have e3:(bl.set f (.row c et xs))[f]? =some (.row c et xs):=by simp[aH,Am hf]
 have e1:(bl.set f (.row c et xs))[f]? =some bv:=e1;rw[e3]at e1;injection e1 with e1;subst e1;exact Option.some.inj e2
theorem AbC{len:Nat}(hf:bl[f]? =some .hole)(h:Told f (tLit P sl f t len parts) bl bl' v):EffH P n (.buildSlice t len parts.toArray) ty sl bl bl' v:=by
 unfold tLit at h;split at h
 ·rename_i c et by_ ps hrow hps;obtain⟨hu,_,_,_⟩:=Db hrow;split at h
  ·rename_i l hl;obtain⟨xs,bl1,h2,hfz,hen,hlen⟩:=Ms h;obtain⟨hle,h2⟩:=condT h2;have hle:=aM hle;obtain⟨rfl,rfl⟩:=h2;refine EffH.frz hfz (Hp (hfz.hole hf) λg ρ own fr hr=>?_);obtain⟨pv,h3,h4⟩:=Df hr hps;obtain⟨cs,h5,h6⟩:=Iy hu hl h4;have hreps:=hen.real hr h6;intro o a w Q K e1 e2 hfr hs hk;refine EL pv cs (by simpa using h3) h5 o a w Q K e1 e2 hfr hs λv' g' own' w' hg hs' ⟨b,e3,e4,e5⟩=>?_;refine hk v' g' own' w' hg hs' ⟨_,_,_,by rw[e3,hlen],e4,e5,?_⟩;rw[hlen];exact Ss hreps hlen hle
  ·exact h.elim
 ·exact h.elim
end
section
def bndH(sl:List (Nat×SV)):Option Operand->Option (Option Int)
 |none=>some none
 |some x=>match evH sl x with|some (.v (.c (.int _ z)))=>some (some z)|_=>none
def loN:Option Int->Nat|none=>0|some z=>z.toNat
def hiN(len:Nat):Option Int->Nat|none=>len|some z=>z.toNat
def bndOk(len:Nat):Option Int->Option Int->Bool
 |none,none=>true
 |some l,none=>decide (0<=l/\l<=(len:Int))
 |none,some h=>decide (0<=h/\h<=(len:Int))
 |some l,some h=>decide (0<=l/\l<=h/\h<=(len:Int))
def cutL{α:Type}(xs:List α):Option Int->Option Int->List α
 |none,none=>xs
 |some l,none=>xs.drop l.toNat
 |none,some h=>xs.take h.toNat
 |some l,some h=>(xs.drop l.toNat).take (h.toNat-l.toNat)
theorem MT(xs:List α)(lo hi:Option Int):cutL xs lo hi=(xs.drop (loN lo)).take (hiN xs.length hi-loN lo):=by cases lo<;>cases hi<;>simp[cutL,loN,hiN];exact(bK (by simp)).symm
theorem Ev{len:Nat}{lo hi:Option Int}(h:bndOk len lo hi=true):loN lo<=hiN len hi/\hiN len hi<=len/\(∀z,lo=some z->z=((z.toNat:Nat):Int))/\∀z,hi=some z->z=((z.toNat:Nat):Int):=by
 cases lo<;>cases hi<;>simp only[bndOk,decide_eq_true_eq]at h<;>simp only[loN,hiN]
 ·exact⟨bN _,aW _,(λz e=>by cases e),λz e=>by cases e⟩
 ·exact⟨bN _,by omega,(λz e=>by cases e),λz e=>by injection e with e;omega⟩
 ·exact⟨by omega,aW _,(λz e=>by injection e with e;omega),λz e=>by cases e⟩
 ·exact⟨by omega,by omega,(λz e=>by injection e with e;omega),λz e=>by injection e with e;omega⟩
theorem Iz(hr:Rl g ρ ⟨sl,bl⟩ own fr){z:Option Int}(h:bndH sl lo=some z)(hz:∀y,z=some y->y=((y.toNat:Nat):Int)):(lo=none/\z=none)\/∃k y u,lo=some y/\z=some u/\evS fr y=some (.int k ((u.toNat:Nat):Int)):=by
 cases lo with
 |none=>injection h with h;exact .inl ⟨rfl,h.symm⟩
 |some y=>
  simp only[bndH]at h;split at h
  ·rename_i k u hu;injection h with h;subst h;obtain⟨v,h1,rfl,_⟩:=Aa hr hu;exact .inr ⟨k,y,u,rfl,rfl,by rw[<-hz u rfl];exact h1⟩
  ·cases h
def tSlice(P:Program)(sl:List (Nat×SV))(t:TypeId)(x:Operand)(lo hi:Option Operand):Tr:=match P.underlying t,evH sl x,bndH sl lo,bndH sl hi with
 |some (.slice e),some (.v (.c (.ro c xs m))),some l,some h=>(match cellsOfT P e with
  |some z=>cond (aP z c.n) (.grd (bndOk xs.length l h) (retT (vC (.ro c (cutL xs l h) m)))) .no
  |none=> .no)
 |some (.slice e),some (.v (.c (.own b))),some l,some h=>(match cellsOfT P e with
  |some z=> .need b fun
   | .row c _ xs=>cond (aP z c.n) (.grd (bndOk xs.length l h) (retT (vC (.vw b c (loN l) (hiN xs.length h))))) .no
   | .fz c xs=>cond (aP z c.n) (.grd (bndOk xs.length l h) (retT (vC (.vw b c (loN l) (hiN xs.length h))))) .no
   |_=> .no
  |none=> .no)
 |some (.slice e),some (.v (.c (.k (.slice none 0 0)))),some l,some h=>(match cellsOfT P e with
  |some _=> .grd (bndOk 0 l h) (retT (vC (.k (.slice none 0 0))))
  |none=> .no)
 |some .string,some (.v (.c (.str xs))),some l,some h=> .grd (bndOk xs.length l h) (retT (vC (.str (cutL xs l h))))
 |_,_,_,_=> .no
theorem OK {hi:Option Operand} {sz len c:Nat} {l h:Option Int} (hr:Rl g ρ ⟨sl,bl⟩ own fr) (hx:evS fr x=some (.slice A len c)) (ht:P.underlying t=some (.slice e)) (hs:cellsOfT P e=some sz)
  (hlo:bndH sl lo=some l) (hhi:bndH sl hi=some h) (hb:bndOk len l h=true) (hc:len<=c):Yld P n p own fr (.slice t x lo hi none) ty (.slice (offA A c (loN l) sz) (hiN len h-loN l) (c-loN l)):=by
 obtain⟨h1,h2,h3,h4⟩:=Ev hb;refine Abo (loN l) (hiN len h) (hiN len h-loN l) hx ht hs ?_ ?_ h1 (bL h2 hc) rfl
 ·rcases Iz hr hlo h3 with⟨rfl,rfl⟩|⟨k,y,u,rfl,rfl,h5⟩
  ·exact .inl ⟨rfl,rfl⟩
  ·exact .inr ⟨k,y,rfl,h5⟩
 ·rcases Iz hr hhi h4 with⟨rfl,rfl⟩|⟨k,y,u,rfl,rfl,h5⟩
  ·exact .inl ⟨rfl,rfl⟩
  ·exact .inr ⟨k,y,rfl,h5⟩
theorem OL{xs:List α}{l h:Option Int}(hb:bndOk xs.length l h=true):(cutL xs l h).length=hiN xs.length h-loN l:=by obtain⟨h1,h2,_⟩:=Ev hb;rw[MT,aI,aJ];omega
theorem MU {s:Bt} {lo hi:Option Value} {l h:Nat} (ht:P.underlying t=some .string)
  (hlo:(lo=none/\l=0)\/∃k,lo=some (.int k (l:Int))) (hhi:(hi=none/\h=s.length)\/∃k,hi=some (.int k (h:Int))) (h1:l<=h) (h2:h<=s.length):
  (Instr.sliceAt t (.string (mkS s)) lo hi none).run P w= .ok (.string (mkS ((s.drop l).take (h-l)))) w:=by
 have hsz:(mkS s).size=s.length:=Eo s;have hb:(Instr.sliceBounds false (mkS s).size (mkS s).size lo hi none).run P w= .ok (l,h,s.length) w:=by
  rw[hsz];have e1:(0:Int)<=(l:Int)/\(l:Int)<=(h:Int):=⟨by omega,by omega⟩
  have e2:(0:Int)<=(h:Int)/\(h:Int)<=(s.length:Int):=⟨by omega,by omega⟩
  rcases hlo with⟨rfl,rfl⟩|⟨k,rfl⟩<;>rcases hhi with⟨rfl,rfl⟩|⟨k2,rfl⟩<;>simp[Instr.sliceBounds,Instr.sliceBound,asIntOf,e1,e2,h1,h2]
 have hex:(mkS s).extract l h=mkS ((s.drop l).take (h-l)):=by apply ByteArray.ext;rw[ByteArray.data_extract];show s.toArray.extract l h=((s.drop l).take (h-l)).toArray;rw[dH,cQ]
 simp[Instr.sliceAt,Instr.slice,run_underlying ht,hb,hex]
theorem UZ{hi:Option Operand}(h:Told f (tSlice P sl t x lo hi) bl bl' v):EffH P n (.slice t x lo hi none) ty sl bl bl' v:=by
 unfold tSlice at h;split at h
 ·rename_i e c xs m l r hu ex hlo hhi;split at h
  ·rename_i z hz;obtain⟨hc,hg,h⟩:=condT h;obtain⟨rfl,rfl⟩:=Al h;have hc:=aF hc;subst hc;refine .of_yld λg ρ own fr hr=>?_;obtain⟨vx,hx1,A,cap,rfl,ha⟩:=Aa hr ex;have hcap:xs.length<=cap:=by cases m<;>exact ha.cap
   refine⟨_,⟨_,_,rfl,?_⟩,by rw[OL hg];exact OK hr hx1 hu hz hlo hhi hg hcap⟩
   obtain⟨h1,h2,_⟩:=Ev hg;rw[MT];cases m with
   |true=>have:=Arr.cut ha (loN l) (hiN xs.length r) h1 h2;rwa [c.ty_n]at this
   |false=>have:=ArrM.cut ha (loN l) (hiN xs.length r) h1 h2;rwa [c.ty_n]at this
  ·exact h.elim
 ·rename_i e b l r hu ex hlo hhi;split at h
  ·rename_i z hz;obtain⟨bv,hb,h⟩:=h;have key:∀(c:Cd)(xs:List c.den),(∃bv,bl[b]? =some bv/\bv.len=some xs.length/\((∃et,bv= .row c et xs)\/bv= .fz c xs))->Told f (cond (aP z c.n) (.grd (bndOk xs.length l r) (retT (vC (.vw b c (loN l) (hiN xs.length r))))) .no) bl bl' v->EffH P n (.slice t x lo hi none) ty sl bl bl' v:=by
    rintro c xs ⟨bv,hb,hlen,hcase⟩ h;obtain⟨hc,hg,h⟩:=condT h;obtain⟨rfl,rfl⟩:=Al h;have hc:=aF hc;subst hc;obtain⟨h1,h2,_⟩:=Ev hg;refine .of_yld λg ρ own fr hr=>?_;obtain⟨vx,hx1,hkn,q,rfl,hl⟩:=Aa hr ex;have hl:=hl _ _ hb hlen;subst hl;have hcap:xs.length<=(ρ b).2:=by
     obtain⟨k0,hk,hB⟩:=hr.own_at hb;rcases hcase with⟨et,rfl⟩|rfl
     ·obtain⟨A,c',e1,e2⟩:=Buf.val (hB:Buf g.b c.ty et (.slice (ρ b).1 xs.length (ρ b).2) k0 xs);injection e1 with _ _ e3;rw[e3];exact e2
     ·exact hB.2.cap
    refine⟨_,⟨hkn,rfl,λbv' m' e1 e2=>?_⟩,OK hr hx1 hu hz hlo hhi hg hcap⟩
    rw[hb]at e1;injection e1 with e1;subst e1;rw[hlen]at e2;injection e2 with e2;omega
   dsimp only at h;split at h
   ·exact key _ _ ⟨_,hb,rfl,.inl ⟨_,rfl⟩⟩ h
   ·exact key _ _ ⟨_,hb,rfl,.inr rfl⟩ h
   ·exact h.elim
  ·exact h.elim
 ·rename_i e l r hu ex hlo hhi;split at h;case h_2=>exact h.elim
  rename_i m hm;obtain⟨hg,h⟩:=h;obtain⟨rfl,rfl⟩:=Al h;obtain⟨h1,h2,h3,h4⟩:=Ev hg;refine .of_yld λg ρ own fr hr=>?_;obtain⟨vx,hx1,rfl,_⟩:=Aa hr ex;have hl0:loN l=0:=by omega
  have hh0:hiN 0 r=0:=by omega
  refine⟨.slice none 0 0,⟨rfl,rfl⟩,λo a w e1 e2 hf hr'=>?_⟩
  have hlo':(lo.map a.eval=none/\(0:Nat)=0)\/∃k,lo.map a.eval=some (.int k ((0:Nat):Int)):=by
   rcases Iz hr hlo h3 with⟨rfl,rfl⟩|⟨k,y,u,rfl,rfl,h5⟩
   ·exact .inl ⟨rfl,rfl⟩
   ·have:u.toNat=0:=hl0;rw[this]at h5;exact .inr ⟨k,by simp[hf.ev h5]⟩
  have hhi':(hi.map a.eval=none/\(0:Nat)=0)\/∃k,hi.map a.eval=some (.int k ((0:Nat):Int)):=by
   rcases Iz hr hhi h4 with⟨rfl,rfl⟩|⟨k,y,u,rfl,rfl,h5⟩
   ·exact .inl ⟨rfl,rfl⟩
   ·have:u.toNat=0:=hh0;rw[this]at h5;exact .inr ⟨k,by simp[hf.ev h5]⟩
  have hb:(Instr.sliceBounds true 0 0 (lo.map a.eval) (hi.map a.eval) none).run P w= .ok (0,0,0) w:=by rcases hlo' with⟨e3,_⟩|⟨k,e3⟩<;>rcases hhi' with⟨e4,_⟩|⟨k2,e4⟩<;>rw[e3,e4]<;>simp[Instr.sliceBounds,Instr.sliceBound,asIntOf]
  have:(Instr.sliceAt t (.slice none 0 0) (lo.map a.eval) (hi.map a.eval) none).run P w= .ok (.slice none 0 0) w:=by simp[Instr.sliceAt,Instr.slice,run_underlying hu,hb,AE hm]
  simp[execOp,e1,hf.ev hx1,this]
 ·rename_i xs l r hu ex hlo hhi;obtain⟨hg,h⟩:=h;obtain⟨rfl,rfl⟩:=Al h;obtain⟨h1,h2,h3,h4⟩:=Ev hg;refine .of_yld λg ρ own fr hr=>?_;obtain⟨vx,hx1,rfl,hx2⟩:=Aa hr ex;refine⟨.string (mkS (cutL xs l r)),⟨rfl,by rw[OL hg];omega⟩,λo a w e1 e2 hf hr'=>?_⟩
  have:=MU (P:=P) (w:=w) (lo:=lo.map a.eval) (hi:=hi.map a.eval) (l:=loN l) (h:=hiN xs.length r) hu
   (by rcases Iz hr hlo h3 with ⟨rfl,rfl⟩ | ⟨k,y,u,rfl,rfl,h5⟩
       ·exact .inl ⟨rfl,rfl⟩
       ·exact .inr ⟨k,by simp[hf.ev h5,loN]⟩)
   (by rcases Iz hr hhi h4 with ⟨rfl,rfl⟩ | ⟨k,y,u,rfl,rfl,h5⟩
       ·exact .inl ⟨rfl,rfl⟩
       ·exact .inr ⟨k,by simp[hf.ev h5,hiN]⟩) h1 h2
  rw[MT];simp[execOp,e1,hf.ev hx1,this]
 ·exact h.elim
def tLen(P:Program)(sl:List (Nat×SV))(t:TypeId)(x:Operand):Tr:=match P.underlying t,evH sl x with
 |some (.slice _),some (.v (.c (.own b)))=> .need b fun
  | .row _ _ xs=>retT (vC (.int .i64 (xs.length:Int)))
  | .fz _ xs=>retT (vC (.int .i64 (xs.length:Int)))
  | .tree _ _ xs=>retT (vC (.int .i64 (xs.length:Int)))
  | .treeX _ _ xs _ _=>retT (vC (.int .i64 (xs.length:Int)))
  |_=> .no
 |some (.slice _),some (.v (.c (.ro _ xs _)))=>retT (vC (.int .i64 (xs.length:Int)))
 |some (.slice _),some (.v (.c (.vw b _ l h)))=> .need b fun
  | .row _ _ _=>retT (vC (.int .i64 ((h-l:Nat):Int)))
  | .fz _ _=>retT (vC (.int .i64 ((h-l:Nat):Int)))
  |_=> .no
 |some (.slice _),some (.v (.c (.k (.slice none 0 0))))=>retT (vC (.int .i64 0))
 |some .string,some (.v (.c (.str xs)))=>retT (vC (.int .i64 (xs.length:Int)))
 |some (.array n _),some (.v (.agg _))=>cond (cT n 1000000) (retT (vC (.int .i64 (n:Int)))) .no
 |_,_=> .no
theorem Ge(h:m<=1125899906842624:=by omega):inK .i64 (m:Int):=by simp[inK,IntKind.min,IntKind.max,IntKind.signed,IntKind.bits];omega
theorem GJ{u:Value}(hx:evS fr x=some u)(h:∀w,(Builtin.len_ #[t] ty #[u]).run P w= .ok (.int .i64 (m:Int)) w):Yld P n p own fr (.call { callee:= .builtin .len,args:=#[x],argTypes:=#[t] }) ty (.int .i64 (m:Int)):=by intro o a w e1 e2 hf hr;subst e2;simp[execOp,e1,resolve,invoke,builtin,hf.ev hx,h]
theorem AbD(h:Told f (tLen P sl t x) bl bl' v):EffH P n (.call { callee:= .builtin .len,args:=#[x],argTypes:=#[t] }) ty sl bl bl' v:=by
 unfold tLen at h;split at h
 ·rename_i e b hu ex;obtain⟨bv,hb,h⟩:=h;have key:∀(m:Nat),bv.len=some m->Told f (retT (vC (.int .i64 (m:Int)))) bl bl' v->EffH P n (.call { callee:= .builtin .len,args:=#[x],argTypes:=#[t] }) ty sl bl bl' v:=by
   intro m hm h;obtain⟨rfl,rfl⟩:=Al h;refine .of_yld λg ρ own fr hr=>?_;obtain⟨vx,hx1,hkn,q,rfl,hl⟩:=Aa hr ex;have hl:=hl _ _ hb hm;subst hl;have hle:q<=140737488355328:=by
    obtain⟨k0,hk,hB⟩:=hr.own_at hb;cases bv<;>simp only[BV.len,Option.some.injEq,reduceCtorEq]at hm<;>subst hm
    ·exact Buf.len hB
    ·exact hB.2.len
    ·exact hB.1
    ·exact hB.1
   exact⟨_,⟨rfl,Ge⟩,GJ hx1 λw=>by simp[Builtin.len_,run_underlying hu,goInt]⟩
  dsimp only at h;split at h
  ·exact key _ rfl h
  ·exact key _ rfl h
  ·exact key _ rfl h
  ·exact key _ rfl h
  ·exact h.elim
 ·rename_i e c xs m hu ex;obtain⟨rfl,rfl⟩:=Al h;refine .of_yld λg ρ own fr hr=>?_;obtain⟨vx,hx1,A,cap,rfl,ha⟩:=Aa hr ex;have hle:xs.length<=140737488355328:=by cases m<;>exact ha.len
  exact⟨_,⟨rfl,Ge⟩,GJ hx1 λw=>by simp[Builtin.len_,run_underlying hu,goInt]⟩
 ·rename_i e b c l r hu ex;obtain⟨bv,hb,h⟩:=h;have key:∀(m:Nat),bv.len=some m->Told f (retT (vC (.int .i64 ((r-l:Nat):Int)))) bl bl' v->EffH P n (.call { callee:= .builtin .len,args:=#[x],argTypes:=#[t] }) ty sl bl bl' v:=by
   intro m hm h;obtain⟨rfl,rfl⟩:=Al h;refine .of_yld λg ρ own fr hr=>?_;obtain⟨vx,hx1,hkn,rfl,hl⟩:=Aa hr ex;have hl:=hl _ _ hb hm;have hle:m<=140737488355328:=by
    obtain⟨k0,hk,hB⟩:=hr.own_at hb;cases bv<;>simp only[BV.len,Option.some.injEq,reduceCtorEq]at hm<;>subst hm
    ·exact Buf.len hB
    ·exact hB.2.len
    ·exact hB.1
    ·exact hB.1
   exact⟨_,⟨rfl,Ge⟩,GJ hx1 λw=>by simp[Builtin.len_,run_underlying hu,goInt]⟩
  dsimp only at h;split at h
  ·exact key _ rfl h
  ·exact key _ rfl h
  ·exact h.elim
 ·rename_i e hu ex;obtain⟨rfl,rfl⟩:=Al h;refine .of_yld λg ρ own fr hr=>?_;obtain⟨vx,hx1,rfl,_⟩:=Aa hr ex;exact⟨_,⟨rfl,Ge (m:=0) (by decide)⟩,GJ hx1 λw=>by simp[Builtin.len_,run_underlying hu,goInt]⟩
 ·rename_i xs hu ex;obtain⟨rfl,rfl⟩:=Al h;refine .of_yld λg ρ own fr hr=>?_;obtain⟨vx,hx1,rfl,hx2⟩:=Aa hr ex;exact⟨_,⟨rfl,Ge hx2⟩,GJ hx1 λw=>by simp[Builtin.len_,run_underlying hu,goInt,Eo]⟩
 ·rename_i m e l hu ex;obtain⟨hm,h⟩:=condT h;have hm:=aM hm;obtain⟨rfl,rfl⟩:=Al h;refine .of_yld λg ρ own fr hr=>?_;obtain⟨vx,hx1,cs,rfl,_⟩:=Aa hr ex;exact⟨_,⟨rfl,Ge⟩,GJ hx1 λw=>by simp[Builtin.len_,run_underlying hu,goInt]⟩
 ·exact h.elim
def tMM(b:Builtin)(sl:List (Nat×SV))(x y:Operand):Tr:=asI sl x λk a=>asI sl y λj c=>match sameK j k,b with
 |some _,.max=>retT (vC (.int k (maxI a c)))
 |some _,.min=>retT (vC (.int k (minI a c)))
 |_,_=> .no
theorem Aej{b:Builtin}(h:Told f (tMM b sl x y) bl bl' v):EffH P n (.call { callee:= .builtin b,args:=#[x,y],argTypes:=ats }) ty sl bl bl' v:=by
 obtain⟨k,a,ex,h1⟩:=BI h;obtain⟨j,c,ey,h2⟩:=BI h1;clear h h1;split at h2
 ·rename_i hk _;obtain⟨hk⟩:=hk;subst hk;obtain⟨rfl,rfl⟩:=Al h2;refine .of_yld λg ρ own fr hr=>?_;obtain⟨vx,hx1,rfl,hx2⟩:=Aa hr ex;obtain⟨vy,hy1,rfl,hy2⟩:=Aa hr ey;refine⟨_,⟨rfl,?_⟩,λo ac w e1 e2 hf hr=>?_⟩
  ·unfold maxI;split
   ·exact hy2
   ·exact hx2
  ·simp[execOp,e1,resolve,invoke,builtin,hf.ev hx1,hf.ev hy1,Builtin.max_,Builtin.max2,maxI]
 ·rename_i hk _;obtain⟨hk⟩:=hk;subst hk;obtain⟨rfl,rfl⟩:=Al h2;refine .of_yld λg ρ own fr hr=>?_;obtain⟨vx,hx1,rfl,hx2⟩:=Aa hr ex;obtain⟨vy,hy1,rfl,hy2⟩:=Aa hr ey;refine⟨_,⟨rfl,?_⟩,λo ac w e1 e2 hf hr=>?_⟩
  ·unfold minI;split
   ·exact hy2
   ·exact hx2
  ·simp[execOp,e1,resolve,invoke,builtin,hf.ev hx1,hf.ev hy1,Builtin.min_,Builtin.min2,minI]
 ·exact h2.elim
end
section
def tText(P:Program)(sl:List (Nat×SV))(s d:TypeId)(x:Operand):Tr:=match P.underlying s,P.underlying d with
 |some (.slice e),some .string=>(match P.underlying e,evH sl x with
  |some (.int .u8),some (.v (.c (.own b)))=> .need b fun
   | .row .y _ xs=>retT (vC (.str xs))
   | .fz .y xs=>retT (vC (.str xs))
   |_=> .no
  |some (.int .u8),some (.v (.c (.ro .y xs _)))=>retT (vC (.str xs))
  |some (.int .u8),some (.v (.c (.k (.slice none 0 0))))=>retT (vC (.str []))
  |_,_=> .no)
 |some (.slice e),some (.slice e2)=>(match aP s d,P.underlying e2,evH sl x with
  |true,some (.int .u8),some (.v (.c (.own b)))=> .need b fun
   | .row .y et xs=> .grd (decide (0<bO (α:=UInt8) xs)) (.done ⟨vC (.own b),[(b,.row .y et xs)],[]⟩)
   |_=> .no
  |_,_,_=> .no)
 |_,_=>tConv P sl s d x
theorem ghostOf(h:Rdw w p own):(⟨λb=>w.heap[b]?,w.os,w.tape,w.output⟩:Psi).In w:=⟨rfl,rfl,rfl,λb o h=>h⟩
theorem Jo {s d:TypeId} {xs:Bt} (hx:evS fr x=some (.slice A xs.length cap)) (h:ArrM g.r g.b Ci A cap xs) (hs:P.underlying s=some (.slice e)) (he:P.underlying e=some (.int .u8)) (hd:P.underlying d=some .string) :
  Yld P n g.r own fr (.convert s d x) ty (.string (mkS xs)):=Ady hx (h.toArr g.br) hs he hd
theorem AbE {s d:TypeId} {xs:Bt} (hx:evS fr x=some (.slice A xs.length cap)) (hi:own[i]? = some k) (h:Buf g.b Ci et (.slice A xs.length cap) k xs) (hs:P.underlying s=some (.slice e)) (he:P.underlying e=some (.int .u8)) (hd:P.underlying d=some .string) :
  Yld P n g.r own fr (.convert s d x) ty (.string (mkS xs)):=by
 intro o a w h1 h2 hf hr;have hk:∀b,k=some b->w.heap[b.g]? =some b.obj:=λb hb=>by subst hb;exact hr.has b (bF hi)
 have hp:=ghostOf hr;have hA:Arr (⟨λb=>w.heap[b]?,w.os,w.tape,w.output⟩:Psi) Ci A cap xs:=by
  have hle:g.b.le (⟨λb=>w.heap[b]?,w.os,w.tape,w.output⟩:Psi):=⟨hr.r.os.trans g.br.os,hr.r.tape.trans g.br.tape,hr.r.out.trans g.br.out,λb o e=>hr.r.m b o (g.br.m b o e)⟩
  exact Ra (h.mono hle) (.refl _) λb hb=>hk b hb
 exact Ady (own:=own) hx hA hs he hd o a w h1 h2 hf ⟨hp,hr.has⟩
theorem eCvM (io:Nat) {c:Nat} {xs:List α} (hb:Buf g.b T et (.slice A xs.length c) k xs) (h0:0 < xs.length) (hc:cvC P fr op=some (A,xs.length,c)) (hi:own[io]? = some k) :
  Eff P n g own fr op ty (λv g' own'=>v= .slice A xs.length c/\g=g'/\∃k',own'=own.set io k'/\Buf g.b T et (.slice A xs.length c) k' xs):=by
 intro o a w Q K h1 h2 hf hs h;unfold cvC at hc;split at hc
 ·rename_i s d x;split at hc
  ·rename_i A' l' c' e0 e e1 e2 e3;split at hc
   ·rename_i q1 q2;simp only[Option.some.injEq,Prod.mk.injEq]at hc;obtain⟨rfl,rfl,rfl⟩:=hc;rcases hb.2 with⟨_,rfl,_⟩|⟨b,cap,cs,sp,p1,p2,p3,p4,p5⟩
    ·simp at h0
    ·injection p1 with r1 r2 r3;subst r1;subst r3;rcases p2 with rfl|rfl;all_goals
     have hh:=hs.has _ (Own.get_mem hi);simp only[Bk.obj]at hh;have hshape:w.shape? b=some (et,(cs++sp).length):=by simp[World.shape?,hh]
     have hst:=hs.put (w':=w.freeze ⟨b,(cs++sp).length,none⟩ 1) (k':=⟨b,.ms et,cs++sp⟩) hi rfl (by simp[World.freeze]) (by simp[World.freeze]) (by simp[World.freeze])
      (λb' hne=>by simp[World.freeze,dB,Ne.symm hne]) (by simp[World.freeze,dB,hh,Bk.obj])
     have hrun:(execOp a.eval o).run P w= .ok (.value (.slice (some ⟨b,0,none⟩) xs.length c')) (w.freeze ⟨b,(cs++sp).length,none⟩ 1):=by
      have e4:(convert s d (.slice (some ⟨b,0,none⟩) xs.length c')).run P w= .ok (.slice (some ⟨b,0,none⟩) xs.length c') (w.freeze ⟨b,(cs++sp).length,none⟩ 1):=by
       have hsh:(shape b).run P w= .ok (some (et,(cs++sp).length)) w:=by simp[shape,Sem.run,hshape]
       have hfr:(freeze ⟨b,(cs++sp).length,none⟩ 1).run P w= .ok () (w.freeze ⟨b,(cs++sp).length,none⟩ 1):=by simp[freeze,Sem.run]
       simp only[convert,run_underlying e2,run_underlying e3,run_underlying q2,q1,Sem.run_bind,Result.andThen_ok,markStringish,hsh,hfr,Sem.run_pure]
      simp only[execOp,h1,hf.ev e1];simp[e4]
     unfold Oper.wp;rw[hrun];exact h _ _ _ _ (.refl g) hst ⟨rfl,rfl,_,rfl,hb.1,.inr ⟨b,c',cs,sp,rfl,.inr rfl,p3,p4,p5⟩⟩
   ·cases hc
  ·cases hc
 ·cases hc
theorem Wn{s d:TypeId}(h:Told f (tText P sl s d x) bl bl' v):EffH P n (.convert s d x) ty sl bl bl' v:=by
 unfold tText at h;split at h
 ·rename_i e hs hd;split at h
  ·rename_i b he ex;obtain⟨bv,hb,h⟩:=h;dsimp only at h;split at h
   ·rename_i et xs;obtain⟨rfl,rfl⟩:=Al h;refine .of_yld λg ρ own fr hr=>?_;obtain⟨vx,hx1,hkn,q,rfl,hl⟩:=Aa hr ex;have hl:=hl _ _ hb rfl;subst hl;obtain⟨k0,hk,hB⟩:=hr.own_at hb;have hB:Buf g.b Ci et (.slice (ρ b).1 (bO (α:=UInt8) xs) (ρ b).2) k0 xs:=hB;exact⟨_,⟨rfl,(bL (Buf.len hB) (by decide))⟩,AbE hx1 hk hB hs he hd⟩
   ·rename_i xs;obtain⟨rfl,rfl⟩:=Al h;refine .of_yld λg ρ own fr hr=>?_;obtain⟨vx,hx1,hkn,q,rfl,hl⟩:=Aa hr ex;have hl:=hl _ _ hb rfl;subst hl;obtain⟨k0,hk,_,hB⟩:=hr.own_at hb;have hB:Arr g.b Ci (ρ b).1 (ρ b).2 xs:=hB;exact⟨_,⟨rfl,(bL hB.len (by decide))⟩,Jo hx1 (Arr.toM hB g.br) hs he hd⟩
   ·exact h.elim
  ·rename_i xs m he ex;obtain⟨rfl,rfl⟩:=Al h;refine .of_yld λg ρ own fr hr=>?_;obtain⟨vx,hx1,A,cap,rfl,ha⟩:=Aa hr ex;cases m with
   |true=>
    have ha:Arr g.b Ci A cap xs:=ha;exact⟨_,⟨rfl,(bL ha.len (by decide))⟩,Jo hx1 (Arr.toM ha g.br) hs he hd⟩
   |false=>
    have ha:ArrM g.r g.b Ci A cap xs:=ha;exact⟨_,⟨rfl,(bL ha.len (by decide))⟩,Jo hx1 ha hs he hd⟩
  ·rename_i he ex;obtain⟨rfl,rfl⟩:=Al h;refine .of_yld λg ρ own fr hr=>?_;obtain⟨vx,hx1,rfl,_⟩:=Aa hr ex;exact⟨_,⟨rfl,by simp⟩,Jo (xs:=[]) hx1 ArrM.nil hs he hd⟩
  ·exact h.elim
 ·rename_i e e2 hs hd;split at h
  ·rename_i b hsd he ex;obtain⟨bv,hb,h⟩:=h;dsimp only at h;split at h
   ·rename_i et xs;obtain⟨hg,h⟩:=h;have h0:=of_decide_eq_true hg;obtain⟨rfl,rfl⟩:=h;have hsd:=aF hsd;subst hsd;intro o a w Q K g ρ own fr h1 h2 hr hfr hst hk;obtain⟨vx,hx1,hkn,q,rfl,hl⟩:=Aa hr ex;have hl:=hl _ _ hb rfl;subst hl;obtain⟨k0,hk0,hB⟩:=hr.own_at hb;have hB:Buf g.b Ci et (.slice (ρ b).1 (bO (α:=UInt8) xs) (ρ b).2) k0 xs:=hB;have hc:cvC P fr (.convert s s x)=some ((ρ b).1,bO (α:=UInt8) xs,(ρ b).2):=by unfold cvC;simp[hx1,hd,he];rfl
    refine eCvM (P:=P) b hB h0 hc hk0 o a w Q K h1 h2 hfr hst λv g' own' w' hg' hs' ⟨e1,e2,k',e3,hB'⟩=>?_;subst e1;subst e2;subst e3;have hx:Ext ρ bl ρ (bl.set b (.row .y et xs)):=Ext.set_at hb rfl λm hm=>hm;have hrl:=hr.setB (g':=g) (bv1:= .row .y et xs) (k:=k') (.refl g) hb rfl (λm hm=>hm) hB';exact hk _ g ρ _ w' (.refl g) hx hs' hrl (RealC.ext (.refl g) hx (x:= .own b) ⟨hkn,_,rfl,λbv m e1 e2=>by rw[hb]at e1;injection e1 with e1;subst e1;injection e2 with e2⟩)
   ·exact h.elim
  ·exact h.elim
 ·exact VZ h
def tIndex(P:Program)(sl:List (Nat×SV))(t:TypeId)(x i:Operand):Tr:=asI sl i λ_ z=>match P.underlying t,evH sl x with
 |some .string,some (.v (.c (.str xs)))=> .grd (decide (0<=z/\z<(xs.length:Int))) (retT (vC (.int .u8 ((xs.getD z.toNat 0).toNat:Int))))
 |some (.array len e),some (.v (.agg l))=>(match cellsOfT P e with
  |some m=>splitZ z (λi=>readT P e l (i*m)) len 0
  |none=> .no)
 |_,_=> .no
theorem Va{i:Operand}(h:Told f (tIndex P sl t x i) bl bl' v):EffH P n (.index t x i) ty sl bl bl' v:=by
 obtain⟨k,z,ei,h⟩:=BI h;split at h
 ·rename_i xs hu ex;obtain⟨hg,h⟩:=h;obtain⟨rfl,rfl⟩:=Al h;obtain⟨hz,hlt⟩:=Il hg;refine .of_yld λg ρ own fr hr=>?_;obtain⟨vx,hx1,rfl,_⟩:=Aa hr ex;obtain⟨vi',hi1,rfl,_⟩:=Aa hr ei;refine⟨_,⟨rfl,VN _⟩,λo a w e1 e2 hf hr=>?_⟩
  have hge:(0:Int)<=z:=by omega
  have hb:(mkS xs)[z.toNat]? =some (xs.getD z.toNat 0):=by
   have h1:z.toNat<(mkS xs).size:=by rw[Eo];exact hlt
   rw[getElem?_pos (mkS xs) z.toNat h1];congr 1;rw[aL,aD hlt];rfl
  have:(Instr.index t (.string (mkS xs)) (.int k z)).run P w= .ok (.int .u8 ((xs.getD z.toNat 0).toNat:Int)) w:=by simp only[Instr.index,asIntOf,run_underlying hu,Sem.run_bind,Sem.run_pure,Result.andThen_ok,if_pos hge,hb]
  simp[execOp,e1,hf.ev hx1,hf.ev hi1,this]
 ·rename_i len e l hu ex;split at h
  ·rename_i m hm;obtain⟨j,hlt,ez,hj⟩:=Cp h;subst ez;obtain⟨rfl,e1⟩:=BQ hj;refine .of_yld λg ρ own fr hr=>?_;obtain⟨vx,hx1,cs,rfl,hx2⟩:=Aa hr ex;obtain⟨vi',hi1,rfl,_⟩:=Aa hr ei;obtain⟨u,h1,h2⟩:=Kx e1 hx2;refine⟨u,h1,λo a w e1 e2 hf hr=>?_⟩
   have hr0:(0:Int)<=(j:Int)/\(j:Int)<(len:Int):=by omega
   have h2:∀w,(part e cs.toArray ((j:Int).toNat*m)).run P w= .ok u w:=h2;have:(Instr.index t (.agg cs.toArray) (.int k (j:Int))).run P w= .ok u w:=by simp only[Instr.index,asIntOf,run_underlying hu,Sem.run_bind,Sem.run_pure,Result.andThen_ok,if_pos hr0,AE hm,h2]
   simp[execOp,e1,hf.ev hx1,hf.ev hi1,this]
  ·exact h.elim
 ·exact h.elim
def capH(sl:List (Nat×SV)):CV->List Operand->Option CV
 |c,[]=>some c
 |c,x::l=>match evH sl x with|some (.v (.c y))=>capH sl (.cap c y) l|_=>none
def tFn(sl:List (Nat×SV))(fn:Fn)(first captured:List Operand):Tr:=match fn,first with
 | .func f,[]=>(match capH sl (.fn f) captured with|some c=>retT (vC c)|none=> .no)
 | .func f,[x]=>(match captured,evH sl x with| [],some (.v (.c c))=>retT (vC (.bnd f c))|_,_=> .no)
 |_,_=> .no
theorem Mt(hr:Rl g ρ ⟨sl,bl⟩ own fr){a:Act}(hf:Fr n a fr):∀{l:List Operand}{c c':CV}{f0:Fn}{caps:List Value},capH sl c l=some c'->RealC g ρ bl c (.func f0 #[] caps.toArray)->RealC g ρ bl c' (.func f0 #[] (caps++l.map a.eval).toArray)
 | [],c,c',f0,caps,h,hc=>by injection h with h;subst h;simpa using hc
 |x::l,c,c',f0,caps,h,hc=>by
  unfold capH at h;split at h
  ·rename_i y hy;obtain⟨u,h1,h2⟩:=Aa hr hy;have:=Mt hr hf (f0:=f0) (caps:=caps++[u]) h ⟨f0,caps.toArray,u,hc,h2,by simp⟩;rw[cE,hf.ev h1];simpa using this
  ·cases h
theorem Aek{fn:Fn}{first captured:List Operand}(h:Told f (tFn sl fn first captured) bl bl' v):EffH P n (.makeFunc fn first.toArray captured.toArray) ty sl bl bl' v:=by
 unfold tFn at h;split at h
 ·rename_i f0;split at h
  ·rename_i c hc;obtain⟨rfl,rfl⟩:=Al h;intro o a w Q K g ρ own fr h1 h2 hr hf hs hk;have hv:=Mt hr hf (caps:=[]) (f0:= .func f0) hc rfl;have hrun:(execOp a.eval o).run P w= .ok (.value (.func (.func f0) #[] (captured.map a.eval).toArray)) w:=by simp[execOp,h1,Instr.makeFunc]
   unfold Oper.wp;rw[hrun];simp only[Oper.upon];rw[aR]at hv;exact hk _ g ρ own w (.refl g) .refl hs hr hv
  ·exact h.elim
 ·rename_i f0 x;split at h
  ·rename_i c ex;obtain⟨rfl,rfl⟩:=Al h;intro o a w Q K g ρ own fr h1 h2 hr hf hs hk;obtain⟨u,hu,hc⟩:=Aa hr ex;have hrun:(execOp a.eval o).run P w= .ok (.value (.func (.func f0) #[u] #[])) w:=by simp[execOp,h1,Instr.makeFunc,hf.ev hu]
   unfold Oper.wp;rw[hrun];exact hk _ g ρ own w (.refl g) .refl hs hr ⟨u,hc,rfl⟩
  ·exact h.elim
 ·exact h.elim
def sameT:Operand->Operand->Bool
 | .tmp a,.tmp b=>aP a b
 |_,_=>false
theorem Wo(h:sameT x y=true):x=y:=by
 cases x with
 |tmp a=>cases y with
  |tmp b=>rw[aF h]
  |_=>cases h
 |_=>cases h
def tMake(P:Program)(sl:List (Nat×SV))(f:Nat)(t:TypeId)(x y:Operand):Tr:=match rowOf P t with
 |some (c,et,bytes)=>asI sl x λ_ z=>asI sl y λ_ z'=>(match zeroOf P et with
  |some zs=>(match constL zs.toList with
   |some l=> .grd (sameT x y||decide (z=z')) (encC c l λu r=> .grd (decide (0<=z/\z*bytes<=140737488355328)) (.done ⟨vC (.own f),[],[.row c et (bB z.toNat u)]⟩))
   |none=> .no)
  |none=> .no)
 |none=> .no
theorem Wp(hf:bl[f]? =some .hole)(h:Told f (tMake P sl f t x y) bl bl' v):EffH P n (.makeSlice t x y) ty sl bl bl' v:=by
 unfold tMake at h;split at h
 ·rename_i c et bytes hrow;obtain⟨hu,happ,_,hby⟩:=Db hrow;obtain⟨k,z,ex,h0⟩:=BI h;obtain⟨k',z',ey,h1⟩:=BI h0;clear h h0;split at h1
  ·rename_i zs hzs;split at h1
   ·rename_i l hl;obtain⟨hxy,h1⟩:=h1;have hxy:z=z':=by
     cases hs:sameT x y with
     |true=>
      have:=Wo hs;subst this;rw[ex]at ey;injection ey with ey;injection ey with ey;injection ey with ey;injection ey
     |false=>rw[hs,Bool.false_or]at hxy;exact of_decide_eq_true hxy
    subst hxy;obtain⟨u,r,bl1,h2,hfz,henc⟩:=CM c h1;clear h1;obtain⟨hg,rfl,rfl⟩:=h2;have hg:=of_decide_eq_true hg;refine EffH.frz hfz (Hp (hfz.hole hf) λg ρ own fr hr=>?_);obtain⟨vx,hx1,rfl,_⟩:=Aa hr ex;obtain⟨vy,hy1,rfl,_⟩:=Aa hr ey;have hz:z=((z.toNat:Nat):Int):=by omega
    have hall:=BE (g:=g) (ρ:=ρ) (bl:=bl1) hl;obtain⟨c1,c2,e1,e2,e3⟩:=henc.real hr c hall;have hl1:zs.toList.length=c.n:=by
     have h1:=happ;unfold appT at h1;unfold zeroOf at hzs;split at h1
     ·rename_i e' i hu' hi;split at h1
      ·rename_i z0 hz0;split at h1
       ·rename_i hcnd;simp only[Option.some.injEq,Prod.mk.injEq]at h1;rw[hi]at hzs;simp only[Option.bind_some,hz0,bE,Option.some.injEq]at hzs;rw[<-hzs,bS,hcnd.2,h1.1,c.ty_n]
       ·cases h1
      ·cases h1
     ·cases h1
    have hl2:c1.length=c.n:=by rw[c.ty.len e2,c.ty_n]
    have hc20:c2=[]:=by
     have:zs.toList.length=c1.length+c2.length:=by rw[e1,aB]
     exact bC (by omega)
    rw[hc20,bU]at e1;have hbm:bytes*z.toNat<=140737488355328:=by
     have:((bytes*z.toNat:Nat):Int)<=((140737488355328:Nat):Int):=by rw[Int.natCast_mul,<-hz,bW];exact hg.2
     exact Int.ofNat_le.1 this
    have hmz:z.toNat<=140737488355328:=bL (cW _ hby) hbm;intro o a w Q K h1 h2 hfr hs hk;refine AdX (T:=c.ty) z.toNat (zs:=c1) (z:=u) happ (by rw[<-hz];exact hx1) (by rw[<-hz];exact hy1) (by rw[hzs,<-e1]) e2 (by omega) hmz o a w Q K h1 h2 hfr hs λv' g' own' w' hg' hs' ⟨b,cs,e4,e5,e6,e7,e8⟩=>?_;exact hk v' g' own' w' hg' hs' ⟨_,_,_,by rw[e4,aY],e5,e6,by rw[aY];exact e8⟩
   ·exact h1.elim
  ·exact h1.elim
 ·exact h.elim
end
section
variable{sl:Sl}
theorem Vb(hr:T.rep p zs z):∀m:Nat,Reps T p (madeCells zs.toArray (m*T.n)).toList (bB m z):=by
 intro m;induction m with
 |zero=>simp[madeCells];rfl
 |succ m ih=>
  have e:(madeCells zs.toArray ((m+1)*T.n)).toList=zs++(madeCells zs.toArray (m*T.n)).toList:=by
   have hzl:zs.length=T.n:=T.len hr;apply cU;intro j;rw[List.getElem?_append];simp only[madeCells,bR,dM,bM];by_cases hj:j<zs.length
   ·rw[if_pos hj];have hj2:j<(m+1)*T.n:=by rw[cX];omega
    rw[aX hj2];simp only[bE,List.size_toArray,Nat.mod_eq_of_lt hj];rw[aD hj];simp[hj]
   ·rw[if_neg hj];by_cases hj2:j<(m+1)*T.n
    ·have hj3:j-zs.length<m*T.n:=by rw[cX]at hj2;omega
     rw[aX hj2,aX hj3];simp only[bE,List.size_toArray];congr 2;exact(Nat.mod_eq_sub_mod (by omega))
    ·have hj3:¬j-zs.length<m*T.n:=by rw[cX]at hj2;omega
     rw[aZ (by simpa using hj2),aZ (by simpa using hj3)]
  rw[e,List.replicate_succ];exact⟨zs,_,rfl,hr,ih⟩
theorem Wq {tn:TypeId} {kx kn:IntKind} (m:Nat) (ha:appT P t et=some (T.n,bytes)) (htn:P.underlying tn=some (.int kn)) (hs:evS sl s=some (.slice none 0 0)) (hx:evS sl x=some (.int kx (m:Int)))
  (h0:0<m) (hz:zeroOf P et=some zs.toArray) (hr:T.rep p zs z) (hbytes:m*bytes<=140737488355328) (hm:m<=140737488355328):
  Eff P n g own sl (.call { callee:= .builtin .append,args:=#[s,x],argTypes:=#[t,tn] }) ty (λv' g' own'=>∃b cap k,v'= .slice (some ⟨b,0,none⟩) m cap/\g=g'/\own'=k::own/\Buf p T et (.slice (some ⟨b,0,none⟩) (bB m z).length cap) k (bB m z)):=by
 intro o a w Q K h1 h2 hf hst h;obtain⟨inf,z0,ht,hinf,hz0,hsz,hby,hzs⟩:=(AppT.of ha).out;have hzc:z0.cells=zs.toArray:=by unfold zeroOf at hz;rw[hinf]at hz;simpa[hz0]using hz
 have hrun:=Lib.run_append_nil_zeros (P:=P) w t tn o.type et inf z0 kx kn ht htn hinf hz0 m h0 (by rw[hsz];exact T.pos) (by omega) (by rw[hby];exact AdZ hbytes);have hge:=grownCap_ge w m 0 et;have hle:grownCap w m 0 et<=maxLen:=grownCap_le_maxLen w m 0 et (by simp only[maxLen];omega);generalize grownCap w m 0 et=cap at hrun hge hle;have hlen:(Builtin.zeroCells z0.cells m++Builtin.zeroCells z0.cells (cap-m)).toList.length=cap*T.n:=by simp only[cJ,aB,bS,size_zeroCells,hzs,<-cV];congr 1;omega
 have hrep:Reps T p (Builtin.zeroCells z0.cells m).toList (bB m z):=by
  have e:Builtin.zeroCells z0.cells m=madeCells zs.toArray (m*T.n):=by rw[<-hzs,hzc];rfl
  rw[e];exact Vb hr m
 have hal:=(hst.drew).alloc et (Builtin.zeroCells z0.cells m++Builtin.zeroCells z0.cells (cap-m)).toList;rw[aV]at hal;have:(execOp a.eval o).run P w= .ok (.value (.slice (some ⟨w.heap.size,0,none⟩) m cap)) (w.drew.alloc (.cells (Builtin.zeroCells z0.cells m++Builtin.zeroCells z0.cells (cap-m)) et)):=by simp[execOp,h1,resolve,invoke,builtin,hf.ev hs,hf.ev hx,hrun]
 unfold Oper.wp;rw[this];exact h _ _ _ _ (.refl g) hal ⟨_,_,_,rfl,rfl,rfl,by rw[aY];exact hm,.inr ⟨w.heap.size,cap,(Builtin.zeroCells z0.cells m).toList,(Builtin.zeroCells z0.cells (cap-m)).toList,by rw[aY],.inl (by rw[cJ];rfl),hrep,by rw[<-cJ];exact hlen,hle⟩⟩
end
section
def tAppZ(P:Program)(sl:List (Nat×SV))(f:Nat)(t tn:TypeId)(s x:Operand):Tr:=match rowOf P t,P.underlying tn,evH sl s with
 |some (c,et,bytes),some (.int _),some (.v (.c (.k (.slice none 0 0))))=>asI sl x λ_ z=>(match zeroOf P et with
  |some zs=>(match constL zs.toList with
   |some l=>encC c l λu r=> .grd (decide (0<z/\z*bytes<=140737488355328)) (.done ⟨vC (.own f),[],[.row c et (bB z.toNat u)]⟩)
   |none=> .no)
  |none=> .no)
 |_,_,_=> .no
theorem Wr{tn:TypeId}(hf:bl[f]? =some .hole)(h:Told f (tAppZ P sl f t tn s x) bl bl' v):EffH P n (.call { callee:= .builtin .append,args:=#[s,x],argTypes:=#[t,tn] }) ty sl bl bl' v:=by
 unfold tAppZ at h;split at h
 ·rename_i c et bytes kn hrow htn es;obtain⟨hu,happ,_,hby⟩:=Db hrow;obtain⟨k,z,ex,h0⟩:=BI h;have h1:=h0;clear h h0;split at h1
  ·rename_i zs hzs;split at h1
   ·rename_i l hl;obtain⟨u,r,bl1,h2,hfz,henc⟩:=CM c h1;clear h1;obtain⟨hg,rfl,rfl⟩:=h2;have hg:=of_decide_eq_true hg;refine EffH.frz hfz (Hp (hfz.hole hf) λg ρ own fr hr=>?_);obtain⟨vx,hx1,rfl,_⟩:=Aa hr ex;obtain⟨vy,hy1,rfl,_⟩:=Aa hr es;have hz:z=((z.toNat:Nat):Int):=by omega
    have hall:=BE (g:=g) (ρ:=ρ) (bl:=bl1) hl;obtain⟨c1,c2,e1,e2,e3⟩:=henc.real hr c hall;have hl1:zs.toList.length=c.n:=by
     have h1:=happ;unfold appT at h1;unfold zeroOf at hzs;split at h1
     ·rename_i e' i hu' hi;split at h1
      ·rename_i z0 hz0;split at h1
       ·rename_i hcnd;simp only[Option.some.injEq,Prod.mk.injEq]at h1;rw[hi]at hzs;simp only[Option.bind_some,hz0,bE,Option.some.injEq]at hzs;rw[<-hzs,bS,hcnd.2,h1.1,c.ty_n]
       ·cases h1
      ·cases h1
     ·cases h1
    have hl2:c1.length=c.n:=by rw[c.ty.len e2,c.ty_n]
    have hc20:c2=[]:=by
     have:zs.toList.length=c1.length+c2.length:=by rw[e1,aB]
     exact bC (by omega)
    rw[hc20,bU]at e1;have hbm:bytes*z.toNat<=140737488355328:=by
     have:((bytes*z.toNat:Nat):Int)<=((140737488355328:Nat):Int):=by rw[Int.natCast_mul,<-hz,bW];exact hg.2
     exact Int.ofNat_le.1 this
    have hmz:z.toNat<=140737488355328:=bL (cW _ hby) hbm;intro o a w Q K h1 h2 hfr hs hk;refine Wq (T:=c.ty) z.toNat (zs:=c1) (z:=u) happ htn hy1 (by rw[<-hz];exact hx1) (by omega) (by rw[hzs,<-e1]) e2 (by rw[Nat.mul_comm];exact hbm) hmz o a w Q K h1 h2 hfr hs λv' g' own' w' hg' hs' ⟨b,cap,k,e4,e5,e6,e8⟩=>?_;exact hk v' g' own' w' hg' hs' ⟨_,_,_,by rw[e4,aY],e5,e6,e8⟩
   ·exact h1.elim
  ·exact h1.elim
 ·exact h.elim
end
theorem Hq:∀(vs b:List Value),vs.length<=b.length->setRow b 0 vs=vs++b.drop vs.length
 | [],b,_=>by simp[setRow]
 |v::vs,[],h=>by simp at h
 |v::vs,x::b,h=>by have h1:=EM vs [v] b 0;have h2:=Hq vs b (by simpa using h);simp only[List.length_singleton,bJ,List.singleton_append]at h1;show setRow (v::b) (0+1) vs=_;rw[aS,h1,h2];rfl
theorem Vc(vs cs:List Value)(off:Nat)(h:off+vs.length<=cs.length):setRow cs off vs=cs.take off++vs++cs.drop (off+vs.length):=by have h1:=EM vs (cs.take off) (cs.drop off) 0;rw[aK,aI,bV (by omega),bJ]at h1;rw[h1,Hq _ _ (by rw[aJ];omega),cM,aG]
section
variable{sl:Sl}
end
section
variable{sl:Sl}
theorem Jm {ty':TypeId} (ha:AppT P t et T.n bytes) (hs:St w g own) {c:Nat} {xs:List α} (hi:own[i]? = some k) (hb:Buf p T et (.slice A xs.length c) k xs)
  {l r:Nat} (hl:0<l) (hlr:l<=r) (hr:r<=xs.length) {A2:Option Addr} {c2:Nat} {news:List Value} {ys:List α} (hm:m=ys.length) (hsrc:Src w A2 m news) (hrep:Reps T p news ys) (hbytes:(r+ys.length)*bytes<=140737488355328) (hlen:r+ys.length<=140737488355328):
  ∃A' c' w' k',(Builtin.append_ #[t,t] ty' #[.slice (offA A c l T.n) (r-l) (c-l),.slice A2 m c2]).run P w= .ok (.slice A' (r-l+ys.length) c') w'/\St w' g (own.set i k')/\
   ((A'=offA A c l T.n/\c'=c-l/\Buf p T et (.slice A (xs.take r++ys).length c) k' (xs.take r++ys))\/Buf p T et (.slice A' ((xs.drop l).take (r-l)++ys).length c') k' ((xs.drop l).take (r-l)++ys)):=by
 obtain⟨inf,z,ht,hinf,hz,hsz,hby,hzs⟩:=ha.out;have hcell:cellsOfT P et=some T.n:=by simp[cellsOfT,hinf,hsz]
 have hcap:xs.length<=c:=by obtain⟨_,_,e4,e5⟩:=hb.val;injection e4 with _ _ e6;omega
 have hlr2:(xs.take r).length=r:=by rw[aI];omega
 subst hm;by_cases hy:ys=[]
 ·subst hy;refine⟨offA A c l T.n,c-l,w,k,?_,by rw[Ob hi];exact hs,.inl ⟨rfl,rfl,by rw[bU];exact hb.cut r hr⟩⟩
  have hle:r-l<=c-l:=by omega
  cases A2 with
  |none=>exact Dt ht hcell hle
  |some ad=>cases (offA A c l T.n)<;>simp[Builtin.append_,run_underlying ht,AE hcell,Builtin.lenOf,hle,Builtin.firstCells,loadCells,loadCellsFrom,storeCells]
 ·have hpos:0<ys.length:=cK.2 hy;obtain⟨ad,rfl,hnews⟩:=hsrc hpos;obtain⟨h0,hb'⟩:=hb;rcases hb' with⟨h1,h2,h3⟩|⟨b,cap,cs,sp,h1,h2,h3,h4,h5⟩
  ·subst h2;have hr:r<=0:=hr;omega
  ·injection h1 with e1 e2 e3;subst e1;subst e3;rcases h2 with rfl|rfl;all_goals
   have hnl:news.length=ys.length*T.n:=hrep.len;have hcs:=h3.len;have hrn:r*T.n<=cs.length:=by rw[hcs];exact bP _ hr
   have hold:∀j u,((cs.drop (l*T.n)).take ((r-l)*T.n))[j]? =some u->w.cell? ⟨b,l*T.n+j,none⟩=some u:=λj u hu=>by
    have:=hs.has _ (bF hi);rw[List.getElem?_take]at hu;split at hu
    ·rw[List.getElem?_drop]at hu;simp[World.cell?,this,Bk.obj];rw[aE (by rcases aT (l*T.n+j) cs.length with h|h;exact h;rw[aZ h]at hu;cases hu)];exact hu
    ·cases hu
   by_cases hroom:r-l+ys.length<=c-l
   ·have hne:¬c=l:=by omega
    have hoff:offA (some (⟨b,0,none⟩:Addr)) c l T.n=some ⟨b,l*T.n,none⟩:=by unfold offA;rw[if_neg hne];simp[AF]
    have hfit:r*T.n+news.length<=(cs++sp).length:=by rw[h4,hnl,<-cV];exact bP _ (by omega)
    obtain⟨w',hst,hs'⟩:=Bj (P:=P) (g:=g) (i:=i) (k:=⟨b,_,cs++sp⟩) (vs:=news) (own:=own) (off:=r*T.n) (cs++sp) 0 hs hi (by simpa using hrep.one) (by omega);have hadd:l*T.n+(r-l)*T.n=r*T.n:=by rw[<-cV];congr 1;omega
    have hf:=run_firstCells_some (P:=P) w T.n ys.length ad ys.length c2 news (by rw[hnl]) hnews;refine⟨offA (some ⟨b,0,none⟩) c l T.n,c-l,w',_,?_,hs',.inl ⟨rfl,rfl,?_⟩⟩
    ·rw[hoff];have hst':(storeCells ⟨b,l*T.n+(r-l)*T.n,none⟩ news).run P w= .ok () w':=by rw[hadd];exact hst
     simp[Builtin.append_,run_underlying ht,AE hcell,Builtin.lenOf,hroom,hf,AF,hst']
    ·refine⟨by rw[aB,hlr2];exact hlen,.inr ⟨b,c,cs.take (r*T.n)++news,(cs++sp).drop (r*T.n+news.length),by rw[aB],?_,(h3.take r).append hrep,?_,h5⟩⟩
     ·rw[bJ,Vc _ _ _ hfit,bH hrn];first|exact .inl rfl|exact .inr rfl
     ·rw[aB,aB,aI,aJ,bV hrn];omega
   ·have hoff:∃ a,offA (some (⟨b,0,none⟩:Addr)) c l T.n=some a/\(0 < r - l->a=⟨b,l*T.n,none⟩):=by
     unfold offA;by_cases h:c=l
     ·exact⟨⟨b,0,none⟩,by rw[if_pos h],λh'=>by omega⟩
     ·refine⟨⟨b,l*T.n,none⟩,by rw[if_neg h];simp[AF],λ_=>rfl⟩
    obtain⟨a0,ea,hab⟩:=hoff;have holen:((cs.drop (l*T.n)).take ((r-l)*T.n)).length=(r-l)*T.n:=by
     rw[aI,aJ];have:l*T.n+(r-l)*T.n=r*T.n:=by rw[<-cV];congr 1;omega
     omega
    have hbig:(r-l+ys.length)*inf.bytes<=140737488355328:=by rw[hby];exact bL (bP _ (by omega)) hbytes
    obtain ⟨v',w',hrun,how',hgrow⟩:=run_append_arg_grows (P:=P) w t ty' et inf z T.n inf.bytes ht hinf hz hsz rfl hzs T.pos a0 (r - l) (c - l) ((cs.drop (l*T.n)).take ((r - l)*T.n)) holen (λj u hu=>by
      have h0:0<r-l:=by
       rcases Nat.eq_zero_or_pos (r-l)with h|h
       ·rw[h]at hu;simp at hu
       ·exact h
      rw[hab h0,AF];exact hold j u hu) ad ys.length c2 news hnl hnews (by omega) (by simp only[maxLen];omega) hbig
    have hlenpos:0<r-l+ys.length:=by omega
    rcases how'.2 with⟨rfl,hz0⟩|⟨b',cap',cur,rfl,hge,hheap,hnc,hcm,hcsz,htake⟩
    ·omega
    ·refine⟨some ⟨b',0,none⟩,cap',w',some ⟨b',et,cur.toList⟩,by rw[ea];exact hrun,?_,.inr ?_⟩
     ·refine hs.swap hi _ hgrow.os hgrow.tape hgrow.output (λb hb hne=>hgrow.block b hb λe=>by cases e) λk' hk'=>?_;injection hk' with hk'
      subst hk';exact⟨by simpa[Bk.obj_ty]using hheap,.inr hge⟩
     ·have hpl:((xs.drop l).take (r-l)).length=r-l:=Dc hr;have hc2:cur.toList=(((cs.drop (l*T.n)).take ((r-l)*T.n))++news)++cur.toList.drop ((r-l+ys.length)*T.n):=by rw[<-htake,aK]
      refine⟨by rw[aB,hpl];omega,.inr ⟨b',cap',((cs.drop (l*T.n)).take ((r-l)*T.n))++news,cur.toList.drop ((r-l+ys.length)*T.n),by rw[aB,hpl],.inl (by rw[<-hc2]),(((h3.drop l).take (r-l)).append hrep),?_,hcm⟩⟩
      rw[<-hc2];simpa using hcsz
end
section
def tAppV(P:Program)(sl:List (Nat×SV))(t t':TypeId)(s x:Operand):Tr:=match rowOf P t,aP t t',evH sl s with
 | some (c,et,bytes),true,some (.v (.c (.vw b cv l r)))=> .need b fun
   | .row d et' xs=>(match d.same c,d.same cv,aP et' et&&cT 1 l with
    |some _,some _,true=>srcT sl d b x λys=> .grd (decide ((r+ys.length)*bytes<=140737488355328)) (.done ⟨vC (.ro d ((xs.drop l).take (r-l)++ys) true),[(b,.no)],[]⟩)
    |_,_,_=> .no)
   |_=> .no
 |_,_,_=> .no
theorem Ws {t':TypeId} (h:Told f (tAppV P sl t t' s x) bl bl' v) :
  EffH P n (.call { callee:= .builtin .append,args:=#[s,x],argTypes:=#[t,t'] }) ty sl bl bl' v:=by
 unfold tAppV at h;split at h
 ·rename_i c et bytes b cv l r hrow htt es;have htt:=aF htt;subst htt;obtain⟨hu,happ,_,hby⟩:=Db hrow;obtain⟨bv,hb,h⟩:=h;dsimp only at h;split at h
  ·rename_i d et' xs;split at h
   ·rename_i hk0 hk2 _ _ he;obtain⟨hk0⟩:=hk0;obtain⟨hk2⟩:=hk2;subst hk0;subst hk2;simp only[aO]at he;obtain⟨he,hl1⟩:=he;have he:=aF he;have hl1:=aM hl1;subst he;obtain⟨ys,h2,hsrc⟩:=FT h;clear h;obtain⟨hg,rfl,rfl⟩:=h2;have hg:=of_decide_eq_true hg;intro o a w Q K g ρ own fr h1 h2 hr hfr hs hk;obtain⟨vs',hs1,hkn,rfl,hl⟩:=Aa hr es;obtain⟨hlr,hrx⟩:=hl _ _ hb rfl;obtain⟨k0,hk0,hB⟩:=hr.own_at hb;have hB:Buf g.b d.ty et' (.slice (ρ b).1 xs.length (ρ b).2) k0 xs:=hB;obtain⟨hyl,A2,cap2,news,hx1,hx2,hx3⟩:=hsrc g ρ own fr hr;have hlb:=Am hk0;have hpl:((xs.drop l).take (r-l)).length=r-l:=Dc hrx;obtain⟨A',c',w',k',hrun,hs',hres⟩:=Jm (P:=P) (ty':=o.type) (c2:=cap2) (AppT.of happ) hs hk0 hB (l:=l) (r:=r) (by omega) hlr hrx rfl (hx3 w hs) hx2 hg (Ct hby hg);have key:∃g',g.le g'/\St w' g' ((own.set b k').set b none)/\Arr g'.b d.ty A' c' ((xs.drop l).take (r-l)++ys):=by
     have hi':(own.set b k')[b]? =some k':=by simp[aH,hlb]
     rcases hres with⟨rfl,rfl,hB'⟩|hB'
     ·have key:∃ g' , g.le g'/\St w' g' ((own.set b k').set b none)/\Arr g'.b d.ty (ρ b).1 (ρ b).2 (xs.take r++ys) :=
       Gy (K:=λ_ w'=>∃g',g.le g'/\St w' g' ((own.set b k').set b none)/\Arr g'.b d.ty (ρ b).1 (ρ b).2 (xs.take r++ys)) (n:=0) (sl:=[]) b hi' hB' (λg' h1 h2 a w' _ h3=>⟨g',h1,h3,h2⟩) ⟨#[],[]⟩ w' ⟨rfl,rfl,λ_ _ h=>by cases h⟩ hs'
      obtain⟨g',h1,h2,h3⟩:=key;refine⟨g',h1,h2,?_⟩
      have h4:=h3.cut_from l (by rw[aB,aI];omega);rw[bI (by rw[aI];omega),List.drop_take]at h4;exact h4
     ·exact Gy (K:=λ_ w'=>∃g',g.le g'/\St w' g' ((own.set b k').set b none)/\Arr g'.b d.ty A' c' ((xs.drop l).take (r-l)++ys)) (n:=0) (sl:=[]) b hi' hB' (λg' h1 h2 a w' _ h3=>⟨g',h1,h3,h2⟩) ⟨#[],[]⟩ w' ⟨rfl,rfl,λ_ _ h=>by cases h⟩ hs'
    obtain⟨g',hg1,hs2,harr⟩:=key;rw[dP]at hs2;have hx:Ext ρ bl ρ (bl.set b .no):=Ext.set_at hb rfl λm hm=>by cases hm
    have hr1:=hr.setB (g':=g') (bv1:= .no) (k:=none) hg1 hb rfl (λm hm=>by cases hm) rfl;have hrun':(execOp a.eval o).run P w= .ok (.value (.slice A' (r-l+ys.length) c')) w':=by
     have hs1':evS fr s=some (.slice (offA (ρ b).1 (ρ b).2 l d.ty.n) (r-l) ((ρ b).2-l)):=by rw[d.ty_n];exact hs1
     simp[execOp,h1,resolve,invoke,builtin,hfr.ev hs1',hfr.ev hx1,hrun]
    unfold Oper.wp;rw[hrun'];refine hk _ g' ρ _ w' hg1 hx hs2 hr1 ⟨A',c',by rw[aB,hpl],harr⟩
   ·exact h.elim
  ·exact h.elim
 ·exact h.elim
end
def tStoreC(P:Program)(sl:List (Nat×SV))(f:Nat)(t:TypeId)(x y:Operand):Tr:=match evH sl y with
 |some (.v (.c (.vw rb c l h)))=>(match evH sl x,aP l 0 with
  |some (.v (.c (.ptr b off))),true=> .need rb fun
   | .row d et xs=> .need b fun
    | .cells t0 cs=>(match fitsT P t 1 off cs.length with|true=> .done ⟨.any,[(rb,.no),(b,.cells t0 (setRowC cs off [.own f]))],[.row d et (xs.take h)]⟩|false=> .no)
    |_=> .no
   |_=> .no
  |_,_=>tStore P sl t x y)
 |_=>tStore P sl t x y
section
theorem Rl.cutF {r:Nat} {c d:Cd} {xs:List d.den} {v:Value} (hr:Rl g ρ ⟨sl,bl⟩ own fr) (hs:St w g own) (hf:bl[f]? = some .hole) (hb:bl[b]? = some (.row d et xs)) (hv:RealC g ρ bl (.vw b c 0 r) v) :
  ∃ρ' own',St w g own'/\Rl g ρ' ⟨sl,(bl.set b .no).set f (.row d et (xs.take r))⟩ own' fr/\RealC g ρ' ((bl.set b .no).set f (.row d et (xs.take r))) (.own f) v/\Ext ρ bl ρ' ((bl.set b .no).set f (.row d et (xs.take r))):=by
 obtain⟨hkn,rfl,hl⟩:=hv;have hl:=(hl _ _ hb rfl).2;have hlr:(xs.take r).length=r:=by rw[aI];omega
 obtain⟨k0,hk0,hB⟩:=hr.own_at hb;have hB:Buf g.b d.ty et (.slice (ρ b).1 xs.length (ρ b).2) k0 xs:=hB;have hB:=hB.cut r hl;have hbf:b≠f:=λe=>by subst e;rw[hf]at hb;cases hb
 have hno:=hr.hole_none hf;have hst:=hs.move (b:=b) (f:=f) (k:=k0) hk0 hno hbf;have hx:Ext ρ bl ρ (bl.set b .no):=Ext.set_at hb rfl λm hm=>by cases hm
 have hr1:=hr.setB (g':=g) (bv1:= .no) (k:=none) (.refl g) hb rfl (λm hm=>by cases hm) rfl;have hf1:(bl.set b .no)[f]? =some .hole:=by rw[AK hbf];exact hf
 have hx1:Ext ρ (bl.set b .no) (setρ ρ f (ρ b)) ((bl.set b .no).set f (.row d et (xs.take r))):=Ext.set_hole hf1;have hr2:=hr1.lay (g':=g) (bv:= .row d et (xs.take r)) (k:=k0) (e:=ρ b) (.refl g) hf1 hB;have hlt:f<(bl.set b .no).length:=by rw[aU];exact Am hf
 refine⟨setρ ρ f (ρ b),_,hst,hr2,?_,hx.trans hx1⟩
 rw[FU,dN,dN];refine⟨⟨.row d et (xs.take r),by simp[aH,Am hf],rfl⟩,r,by rw[Bn],λbv m e1 e2=>?_⟩
 have e3:((bl.set b .no).set f (.row d et (xs.take r)))[f]? =some (.row d et (xs.take r)):=by simp[aH,Am hf]
 rw[e3]at e1;injection e1 with e1;subst e1;have e2:some (xs.take r).length=some m:=e2;injection e2 with e2;omega
theorem Ky(hf:∀rb c l r,evH sl y=some (.v (.c (.vw rb c l r)))->bl[f]? =some .hole)(h:Told f (tStoreC P sl f t x y) bl bl' v):EffH P n (.store t x y) ty sl bl bl' v:=by
 unfold tStoreC at h;split at h;case h_2=>exact LZ h
 rename_i rb c l r ey;split at h;case h_2=>exact LZ h
 rename_i b off ex hl0;have hl0:=aF hl0;subst hl0;have hf:=hf _ _ _ _ ey;obtain⟨bv,hrb,h⟩:=h;dsimp only at h;split at h;case h_2=>exact h.elim
 rename_i d et xs;obtain⟨bv,hb,h⟩:=h;dsimp only at h;split at h;case h_2=>exact h.elim
 rename_i t0 lc;split at h;case h_2=>exact h.elim
 rename_i hfit;obtain⟨rfl,rfl⟩:=h;obtain⟨hz,hle⟩:=Hj hfit;have hbr:rb≠b:=λe=>by subst e;rw[hrb]at hb;cases hb
 have hfb:f≠b:=λe=>by subst e;rw[hf]at hb;cases hb
 intro o a w Q K g ρ own fr h1 h2 hr hfr hs hk;obtain⟨vx,hx1,hx2⟩:=Aa hr ex;obtain⟨vy,hy1,hy2⟩:=Aa hr ey;have hy2:RealC g ρ bl (.vw rb c 0 r) vy:=hy2;obtain⟨ρ1,own1,hs1,hr1,hv1,he1⟩:=hr.cutF hs hf hrb hy2;have hx2:=RealC.ext (.refl g) he1 hx2;obtain⟨_,ad,ha,rfl⟩:=hx2;have hb1:((bl.set rb .no).set f (.row d et (xs.take r)))[b]? =some (.cells t0 lc):=by rw[AK hfb,AK hbr];exact hb
 obtain⟨k,hko,b0,cs,rfl,h4,h5⟩:=hr1.own_at hb1;rw[ha]at h4;injection h4 with h4;subst h4;rw[AF,aS]at hx1;have hone:=FQ hv1;refine Jn (P:=P) (vs:=[vy]) hx1 hy1 hko rfl hone.2 hz (by rw[List.all_cons,hone.1];rfl) (dC (by rw[<-h5.len];exact hle)) rfl o a w Q K h1 h2 hfr hs1 λv g' own' w' hg hs' ⟨e1,e2⟩=>?_
 subst e1;subst e2;have e:applyE bl f ⟨.any,[(rb,.no),(b,.cells t0 (setRowC lc off [.own f]))],[.row d et (xs.take r)]⟩=((bl.set rb .no).set f (.row d et (xs.take r))).set b (.cells t0 (setRowC lc off [.own f])):=by show((bl.set rb .no).set b _).set f _=_;exact List.set_comm _ _ (Ne.symm hfb)
 rw[e]at hk;have hx:Ext ρ1 ((bl.set rb .no).set f (.row d et (xs.take r))) ρ1 (((bl.set rb .no).set f (.row d et (xs.take r))).set b (.cells t0 (setRowC lc off [.own f]))):=Ext.set_at hb1 rfl λm hm=>by cases hm
 have hrl:=hr1.setB (g':=g) (bv1:= .cells t0 (setRowC lc off [.own f])) (k:=some ⟨b0,t0,setRow cs off [vy]⟩) (.refl g) hb1 rfl (λm hm=>by cases hm) ⟨b0,_,rfl,ha,(Cs off (vs:=[CV.own f]) (us:=[vy]) (show AB (RealC g ρ1 _) [CV.own f] [vy]from⟨hv1,trivial⟩) h5).mono λ_ _=>RealC.ext (.refl g) hx⟩;exact hk v g ρ1 _ w' (.refl g) (he1.trans hx) hs' hrl trivial
end
open Go.RowKit Go.WideShapes Go.ChangeShapes Go.Deep
def mpPut{α:Type}:List (Bt×α)->Bt->α->List (Bt×α)
 | [],k,v=>[(k,v)]
 |x::l,k,v=>cond (strEq k x.1) ((k,v)::l) (x::mpPut l k v)
def mpGet{α:Type}(d:α):List (Bt×α)->Bt->α
 | [],_=>d
 |x::l,k=>cond (strEq k x.1) x.2 (mpGet d l k)
def mpHas{α:Type}:List (Bt×α)->Bt->Bool
 | [],_=>false
 |x::l,k=>cond (strEq k x.1) true (mpHas l k)
section
variable{c:Cd}
theorem IA{k u:Value}:∀{cs:List Value}{xs:List (Bt×c.den)}(j:Nat),MRS c p cs xs->mapEnts (cs++[k,u]) j=mapEnts cs j++[⟨k,u,j+cs.length/2⟩]
 | [],[],j,_=>rfl
 | [],_::_,_,h=>h.elim
 | [_],_,_,h=>h.elim
 |k'::v::cs,[],_,h=>h.elim
 |k'::v::cs,x::xs,j,h=>by
  have ih:=IA (k:=k) (u:=u) (j+1) h.2.2;show⟨k',v,j⟩::mapEnts (cs++[k,u]) (j+1)=⟨k',v,j⟩::(mapEnts cs (j+1)++_);rw[ih];have:j+1+cs.length/2=j+(k'::v::cs).length/2:=by simp only[aN];omega
  rw[this]
theorem Jd(a b:Bt):Instr.sameNow .string (.string (mkS a)) (.string (mkS b))=some (strEq a b):=by
 show some (mkS a==mkS b)=_;congr 1;rw[CZ];have h1:(mkS a==mkS b)=true↔(a==b)=true:=by rw[MapKept.bytes_beq,beq_iff_eq];exact⟨λh=>by rw[<-Bv a,<-Bv b,h],λh=>by rw[h]⟩
 cases e1:(mkS a==mkS b)<;>cases e2:(a==b)<;>simp_all
theorem findS (kk:Bt) (hk:kk.length<=1125899906842624):∀ (cs:List Value) (xs:List (Bt×c.den)) (j i:Nat),MRS c p cs xs ->
  (∃m v b,Instr.findNow .string (.string (mkS kk)) (mapEnts cs j) i=some (some (i+m,v))/\(mapEnts cs j)[m]? =some ⟨.string (mkS kk),v,b⟩/\mpHas xs kk=true/\(∀d,c.ty.rep p [v] (mpGet d xs kk))/\
   ∀u y,c.ty.rep p [u] y->∃cs',(mapEnts cs j).modify m (λe=>{ e with key:= .string (mkS kk),val:=u })=mapEnts cs' j/\cs'.length=cs.length/\MRS c p cs' (mpPut xs kk y))\/
  (Instr.findNow .string (.string (mkS kk)) (mapEnts cs j) i=some none/\mpHas xs kk=false/\(∀d,mpGet d xs kk=d)/\∀u y,c.ty.rep p [u] y->MRS c p (cs++[.string (mkS kk),u]) (mpPut xs kk y))
 | [],[],j,i,_=> .inr ⟨rfl,rfl,λ_=>rfl,λu y h=>⟨⟨rfl,hk⟩,h,trivial⟩⟩
 | [],_::_,_,_,h=>h.elim
 | [_],_,_,_,h=>h.elim
 |_::_::_,[],_,_,h=>h.elim
 |k::v::cs,x::xs,j,i,h=>by
  obtain⟨⟨rfl,hx⟩,h2,h3⟩:=h;cases he:strEq kk x.1 with
  |true=>
   have e0:kk=x.1:=by rw[CZ]at he;simpa using he
   subst e0;refine .inl ⟨0,v,j,?_,rfl,?_,λd=>?_,λu y hu=>⟨.string (mkS x.1)::u::cs,rfl,rfl,?_⟩⟩
   ·show(match Instr.sameNow .string (.string (mkS x.1)) (.string (mkS x.1))with|some true=>some (some (i,v))|some false=>_|none=>_)=_;rw[Jd,he];rfl
   ·show cond (strEq x.1 x.1) _ _=_;rw[he];rfl
   ·show c.ty.rep p [v] (cond (strEq x.1 x.1) x.2 _);rw[he];exact h2
   ·show MRS c p _ (cond (strEq x.1 x.1) _ _);rw[he];exact⟨⟨rfl,hx⟩,hu,h3⟩
  |false=>
   have hf:Instr.findNow .string (.string (mkS kk)) (mapEnts (.string (mkS x.1)::v::cs) j) i=Instr.findNow .string (.string (mkS kk)) (mapEnts cs (j+1)) (i+1):=by show(match Instr.sameNow .string (.string (mkS kk)) (.string (mkS x.1))with|some true=>_|some false=>_|none=>_)=_;rw[Jd,he]
   have hg:∀d,mpGet d (x::xs) kk=mpGet d xs kk:=λd=>by show cond (strEq kk x.1) _ _=_;rw[he];rfl
   have hh:mpHas (x::xs) kk=mpHas xs kk:=by show cond (strEq kk x.1) _ _=_;rw[he];rfl
   have hp:∀y,mpPut (x::xs) kk y=x::mpPut xs kk y:=λy=>by show cond (strEq kk x.1) _ _=_;rw[he];rfl
   rw[hf,hh];rcases findS kk hk cs xs (j+1) (i+1) h3 with⟨m,w,b,q1,q2,q0,q3,q4⟩|⟨q1,q0,q2,q3⟩
   ·refine .inl ⟨m+1,w,b,by rw[q1];congr 3;omega,q2,q0,λd=>by rw[hg];exact q3 d,λu y hu=>?_⟩;obtain⟨cs',c1,c2,c3⟩:=q4 u y hu;refine⟨.string (mkS x.1)::v::cs',?_,by simp only[aN];omega,by rw[hp];exact⟨⟨rfl,hx⟩,h2,c3⟩⟩
    show⟨.string (mkS x.1),v,j⟩::(mapEnts cs (j+1)).modify m _=⟨.string (mkS x.1),v,j⟩::mapEnts cs' (j+1);rw[c1]
   ·exact .inr ⟨q1,q0,λd=>by rw[hg];exact q2 d,λu y hu=>by rw[hp];exact⟨⟨rfl,hx⟩,h2,q3 u y hu⟩⟩
end
def mapOf(P:Program)(t:TypeId):Option Cd:=match P.underlying t with
 |some (.map kt et)=>(match P.underlying kt,P.underlying et,(P.info? et).bind (·.zero)with
  |some .string,some .bool,some (.bool false)=>some .b
  |some .string,some (.int k),some (.int j z)=>(match sameK j k,eqZ z 0 with|some _,true=>some (.i k)|_,_=>none)
  |_,_,_=>none)
 |_=>none
def datC:(c:Cd)->CV->Option c.den
 | .b,.bool x=>some x
 | .i k,.int j x=>match sameK j k with|some _=>some x|none=>none
 |_,_=>none
def celC:(c:Cd)->c.den->Option CV
 | .b,x=>some (.bool x)
 | .i k,x=>some (.int k x)
 |_,_=>none
def tMakeMap(P:Program)(f:Nat)(t:TypeId)(r:Option Operand):Tr:=match r,mapOf P t with
 |none,some c=> .done ⟨vC (.mp f),[],[.map c []]⟩
 |_,_=> .no
def tMapUpd(P:Program)(sl:List (Nat×SV))(t:TypeId)(m k v:Operand):Tr:=match mapOf P t,evH sl m,evH sl k,evH sl v with
 |some c,some (.v (.c (.mp b))),some (.v (.c (.str kk))),some (.v (.c u))=> .need b fun
  | .map d xs=>(match c.same d,datC d u with
   |some _,some y=> .done ⟨.any,[(b,.map d (mpPut xs kk y))],[]⟩
   |_,_=> .no)
  |_=> .no
 |_,_,_,_=> .no
def tLkp(P:Program)(sl:List (Nat×SV))(t:TypeId)(m k:Operand)(ok:Bool):Tr:=match mapOf P t,evH sl m,evH sl k with
 |some c,some (.v (.c (.mp b))),some (.v (.c (.str kk)))=> .need b fun
  | .map d xs=>(match c.same d,celC d (mpGet d.dflt xs kk),ok with
   |some _,some y,false=>retT (vC y)
   |some _,some y,true=>retT (.tup [.c y,.c (.bool (mpHas xs kk))])
   |_,_,_=> .no)
  |_=> .no
 |_,_,_=> .no
section
theorem OM{c:Cd}{u:CV}{y:c.den}{v:Value}(h:datC c u=some y)(hr:RealC g ρ bl u v):c.ty.rep p [v] y:=by
 unfold datC at h;split at h
 ·injection h with h;subst h;have hr:v=_:=hr;subst hr;rfl
 ·split at h
  ·rename_i hk _;obtain⟨hk⟩:=hk;subst hk;injection h with h;subst h;obtain⟨rfl,h2⟩:=hr;exact⟨rfl,h2⟩
  ·cases h
 ·cases h
theorem Mu{c:Cd}{y:c.den}{u:CV}{v:Value}(h:celC c y=some u)(hr:c.ty.rep g.b [v] y):RealC g ρ bl u v:=by
 unfold celC at h;split at h
 ·injection h with h;subst h;have hr:[v]=[Value.bool _]:=hr;injection hr
 ·injection h with h;subst h;obtain⟨hr,h2⟩:=hr;injection hr with hr;exact⟨hr,h2⟩
 ·cases h
theorem Kz{c:Cd}(h:mapOf P t=some c):∃kt et z,P.underlying t=some (.map kt et)/\P.underlying kt=some .string/\(∀w,(zeroValue et).run P w= .ok z w)/\∀p:Psi,c.ty.rep p [z] c.dflt:=by
 unfold mapOf at h;split at h
 ·rename_i kt et hu;have hz:∀z,(P.info? et).bind (·.zero)=some z->∀w,(zeroValue et).run P w= .ok z w:=λz e6 w=>by
   cases e:P.info? et with
   |none=>rw[e]at e6;cases e6
   |some i=>
    rw[e]at e6;have e6:i.zero=some z:=e6;simp[zeroValue,typeInfo,program,Sem.run,bind,Sem.bind,e,e6,pure]
  split at h
  ·rename_i e1 e2 e3;injection h with h;subst h;exact⟨kt,et,_,hu,e1,hz _ e3,λp=>rfl⟩
  ·rename_i k j z e1 e2 e3;split at h
   ·rename_i hk _ hz0;obtain⟨hk⟩:=hk;subst hk;injection h with h;subst h;have:=Wb hz0;subst this;exact⟨kt,et,_,hu,e1,hz _ e3,λp=>⟨rfl,EX _⟩⟩
   ·cases h
  ·cases h
 ·cases h
theorem ON{r:Option Operand}(hf:bl[f]? =some .hole)(h:Told f (tMakeMap P f t r) bl bl' v):EffH P n (.makeMap t r) ty sl bl bl' v:=by
 unfold tMakeMap at h;split at h;case h_2=>exact h.elim
 rename_i c hc;obtain⟨rfl,rfl⟩:=h;intro o a w Q K g ρ own fr h1 h2 hr hfr hs hk;have hst:=hs.allocK ⟨w.heap.size,mapB [],[]⟩ rfl;have:(execOp a.eval o).run P w= .ok (.value (.map (some w.heap.size))) (w.alloc (.map #[] 0)):=by simp[execOp,h1,Instr.makeMap,newObj,Sem.run]
 unfold Oper.wp;rw[this];have hx:Ext ρ bl (setρ ρ f (some ⟨w.heap.size,0,none⟩,0)) (bl.set f (.map c [])):=Ext.set_hole hf;exact hk _ g (setρ ρ f (some ⟨w.heap.size,0,none⟩,0)) _ _ (.refl g) hx (hst.fill (hr.hole_none hf)) (hr.lay (.refl g) hf ⟨w.heap.size,[],rfl,rfl,trivial⟩) ⟨Bo (Am hf) rfl,w.heap.size,by rw[Bn],rfl⟩
theorem Ry{m k u:Operand}(h:Told f (tMapUpd P sl t m k u) bl bl' v):EffH P n (.mapUpdate t m k u) ty sl bl bl' v:=by
 unfold tMapUpd at h;split at h;case h_2=>exact h.elim
 rename_i c b kk uc hc em ek eu;obtain⟨kt,et,z,e4,e5,_,_⟩:=Kz hc;obtain⟨bv,hb,h⟩:=h;dsimp only at h;split at h;case h_2=>exact h.elim
 rename_i d xs;split at h;case h_2=>exact h.elim
 rename_i y _ hy;obtain⟨rfl,rfl⟩:=h;intro o a w Q K g ρ own fr h1 h2 hr hf hs hk;obtain⟨vm,e1,hkn,b0,ha,rfl⟩:=Aa hr em;obtain⟨vk,e2,rfl,hkl⟩:=Aa hr ek;obtain⟨vu,e3,hu⟩:=Aa hr eu;have hu:RealC g ρ bl uc vu:=hu;have hrep:∀p:Psi,d.ty.rep p [vu] y:=λp=>OM hy hu;obtain⟨k0,hi,b1,cs,rfl,ha1,hmr⟩:=hr.own_at hb;rw[ha]at ha1;injection ha1 with ha1;injection ha1 with ha1;subst ha1
 have hblk:w.heap[b0]? =some (.map (mapEnts cs 0).toArray (cs.length/2)):=hs.has _ (Own.get_mem hi);have hkey:MapKept.IsKey .string (.string (mkS kk)):=trivial;have fin:∀cs',MRS d g.b cs' (mpPut xs kk y)->∀w',St w' g (own.set b (some ⟨b0,mapB cs',[]⟩))->K (a.put o.dst undef) w':=λcs' hm w' hst=>by
  have hx:Ext ρ bl ρ (bl.set b (.map d (mpPut xs kk y))):=Ext.set_at hb rfl λm hm=>by cases hm
  have hrl:=hr.setB (g':=g) (bv1:= .map d (mpPut xs kk y)) (k:=some ⟨b0,mapB cs',[]⟩) (.refl g) hb rfl (λm hm=>by cases hm) ⟨b0,cs',rfl,ha,hm⟩;exact hk undef g ρ _ w' (.refl g) hx hst hrl trivial
 rcases findS (p:=g.b) kk hkl cs xs 0 0 hmr with⟨m,v,b',q1,q2,_,_,q4⟩|⟨q1,_,_,q3⟩
 ·obtain⟨cs',c1,c2,c3⟩:=q4 vu y (hrep g.b);have hst:=hs.put (w':={ w with heap:=w.heap.setIfInBounds b0 (.map (mapEnts cs' 0).toArray (cs.length/2)) }) (k':=⟨b0,mapB cs',[]⟩) hi rfl rfl rfl rfl (λr' hne=>(MapKept.heap_set hblk).2 r' hne) (by rw[(MapKept.heap_set hblk).1];show some (Obj.map (mapEnts cs' 0).toArray (cs.length/2))=some (Obj.map (mapEnts cs' 0).toArray (cs'.length/2));rw[c2])
  have hmod:(mapEnts cs 0).toArray.modify m (λe=>{ e with key:= .string (mkS kk),val:=vu })=(mapEnts cs' 0).toArray:=by apply bG.1;rw[dK,c1]
  have hq:((mapEnts cs 0).toArray[m]?.map (·.key)).getD (.string (mkS kk))= .string (mkS kk):=by rw[dD,q2];rfl
  have:(execOp a.eval o).run P w= .ok .skip { w with heap:=w.heap.setIfInBounds b0 (.map (mapEnts cs' 0).toArray (cs.length/2)) }:=by
   rw[aS]at q1;have hrun:(Instr.mapUpdate t (.map (some b0)) (.string (mkS kk)) vu).run P w= .ok () { w with heap:=w.heap.setIfInBounds b0 (.map (mapEnts cs' 0).toArray (cs.length/2)) }:=by simp only[Instr.mapUpdate,Sem.run_bind,run_underlying e4,MapKept.run_getObj_map hblk,MapKept.run_checkKey e5 hkey,MapKept.run_findKey e5 q1,Result.andThen,hq,MapKept.run_keyThatStays hkey,MapKept.run_setObj_map _ hblk,hmod]
   simp[execOp,h1,hf.ev e1,hf.ev e2,hf.ev e3,hrun]
  unfold Oper.wp;rw[this];exact fin cs' c3 _ hst
 ·have hst:=hs.put (w':={ w with heap:=w.heap.setIfInBounds b0 (.map (mapEnts (cs++[.string (mkS kk),vu]) 0).toArray (cs.length / 2+1)) }) (k':=⟨b0,mapB (cs++[.string (mkS kk),vu]),[]⟩) hi rfl rfl rfl rfl (λr' hne=>(MapKept.heap_set hblk).2 r' hne) (by
   rw[(MapKept.heap_set hblk).1];have:(cs++[Value.string (mkS kk),vu]).length/2=cs.length/2+1:=by rw[aB];simp only[aN,List.length_nil];omega
   show _=some (Obj.map (mapEnts (cs++[.string (mkS kk),vu]) 0).toArray ((cs++[Value.string (mkS kk),vu]).length/2));rw[this])
  have hpush:(mapEnts cs 0).toArray.push ⟨.string (mkS kk),vu,cs.length/2⟩=(mapEnts (cs++[.string (mkS kk),vu]) 0).toArray:=by rw[IA 0 hmr];simp
  have:(execOp a.eval o).run P w= .ok .skip { w with heap:=w.heap.setIfInBounds b0 (.map (mapEnts (cs++[.string (mkS kk),vu]) 0).toArray (cs.length/2+1)) }:=by
   have hrun:(Instr.mapUpdate t (.map (some b0)) (.string (mkS kk)) vu).run P w= .ok () { w with heap:=w.heap.setIfInBounds b0 (.map (mapEnts (cs++[.string (mkS kk),vu]) 0).toArray (cs.length/2+1)) }:=by simp only[Instr.mapUpdate,Sem.run_bind,run_underlying e4,MapKept.run_getObj_map hblk,MapKept.run_checkKey e5 hkey,MapKept.run_findKey e5 q1,Result.andThen,MapKept.run_setObj_map _ hblk,hpush]
   simp[execOp,h1,hf.ev e1,hf.ev e2,hf.ev e3,hrun]
  unfold Oper.wp;rw[this];exact fin _ (q3 vu y (hrep g.b)) _ hst
theorem Rz{m k u:Operand}(h:Told f (tMapUpd P sl t m k u) bl bl' v):EffH P n (.insert t m k u) ty sl bl bl' v:=by
 unfold tMapUpd at h;split at h;case h_2=>exact h.elim
 rename_i c b kk uc hc em ek eu;obtain⟨kt,et,z,e4,e5,_,_⟩:=Kz hc;obtain⟨bv,hb,h⟩:=h;dsimp only at h;split at h;case h_2=>exact h.elim
 rename_i d xs;split at h;case h_2=>exact h.elim
 rename_i y _ hy;obtain⟨rfl,rfl⟩:=h;intro o a w Q K g ρ own fr h1 h2 hr hf hs hk;obtain⟨vm,e1,hkn,b0,ha,rfl⟩:=Aa hr em;obtain⟨vk,e2,rfl,hkl⟩:=Aa hr ek;obtain⟨vu,e3,hu⟩:=Aa hr eu;have hu:RealC g ρ bl uc vu:=hu;have hrep:∀p:Psi,d.ty.rep p [vu] y:=λp=>OM hy hu;obtain⟨k0,hi,b1,cs,rfl,ha1,hmr⟩:=hr.own_at hb;rw[ha]at ha1;injection ha1 with ha1;injection ha1 with ha1;subst ha1
 have hblk:w.heap[b0]? =some (.map (mapEnts cs 0).toArray (cs.length/2)):=hs.has _ (Own.get_mem hi);have hkey:MapKept.IsKey .string (.string (mkS kk)):=trivial;have fin:∀cs',MRS d g.b cs' (mpPut xs kk y)->∀w',St w' g (own.set b (some ⟨b0,mapB cs',[]⟩))->K (a.put o.dst undef) w':=λcs' hm w' hst=>by
  have hx:Ext ρ bl ρ (bl.set b (.map d (mpPut xs kk y))):=Ext.set_at hb rfl λm hm=>by cases hm
  have hrl:=hr.setB (g':=g) (bv1:= .map d (mpPut xs kk y)) (k:=some ⟨b0,mapB cs',[]⟩) (.refl g) hb rfl (λm hm=>by cases hm) ⟨b0,cs',rfl,ha,hm⟩;exact hk undef g ρ _ w' (.refl g) hx hst hrl trivial
 rcases findS (p:=g.b) kk hkl cs xs 0 0 hmr with⟨m,v,b',q1,q2,_,_,q4⟩|⟨q1,_,_,q3⟩
 ·obtain⟨cs',c1,c2,c3⟩:=q4 vu y (hrep g.b);have hst:=hs.put (w':={ w with heap:=w.heap.setIfInBounds b0 (.map (mapEnts cs' 0).toArray (cs.length/2)) }) (k':=⟨b0,mapB cs',[]⟩) hi rfl rfl rfl rfl (λr' hne=>(MapKept.heap_set hblk).2 r' hne) (by rw[(MapKept.heap_set hblk).1];show some (Obj.map (mapEnts cs' 0).toArray (cs.length/2))=some (Obj.map (mapEnts cs' 0).toArray (cs'.length/2));rw[c2])
  have hmod:(mapEnts cs 0).toArray.modify m (λe=>{ e with key:= .string (mkS kk),val:=vu })=(mapEnts cs' 0).toArray:=by apply bG.1;rw[dK,c1]
  have hq:((mapEnts cs 0).toArray[m]?.map (·.key)).getD (.string (mkS kk))= .string (mkS kk):=by rw[dD,q2];rfl
  have:(execOp a.eval o).run P w= .ok .skip { w with heap:=w.heap.setIfInBounds b0 (.map (mapEnts cs' 0).toArray (cs.length/2)) }:=by
   rw[aS]at q1;have hrun:(Instr.mapUpdate t (.map (some b0)) (.string (mkS kk)) vu).run P w= .ok () { w with heap:=w.heap.setIfInBounds b0 (.map (mapEnts cs' 0).toArray (cs.length/2)) }:=by simp only[Instr.mapUpdate,Sem.run_bind,run_underlying e4,MapKept.run_getObj_map hblk,MapKept.run_checkKey e5 hkey,MapKept.run_findKey e5 q1,Result.andThen,hq,MapKept.run_keyThatStays hkey,MapKept.run_setObj_map _ hblk,hmod]
   simp[execOp,h1,hf.ev e1,hf.ev e2,hf.ev e3,hrun]
  unfold Oper.wp;rw[this];exact fin cs' c3 _ hst
 ·have hst:=hs.put (w':={ w with heap:=w.heap.setIfInBounds b0 (.map (mapEnts (cs++[.string (mkS kk),vu]) 0).toArray (cs.length / 2+1)) }) (k':=⟨b0,mapB (cs++[.string (mkS kk),vu]),[]⟩) hi rfl rfl rfl rfl (λr' hne=>(MapKept.heap_set hblk).2 r' hne) (by
   rw[(MapKept.heap_set hblk).1];have:(cs++[Value.string (mkS kk),vu]).length/2=cs.length/2+1:=by rw[aB];simp only[aN,List.length_nil];omega
   show _=some (Obj.map (mapEnts (cs++[.string (mkS kk),vu]) 0).toArray ((cs++[Value.string (mkS kk),vu]).length/2));rw[this])
  have hpush:(mapEnts cs 0).toArray.push ⟨.string (mkS kk),vu,cs.length/2⟩=(mapEnts (cs++[.string (mkS kk),vu]) 0).toArray:=by rw[IA 0 hmr];simp
  have:(execOp a.eval o).run P w= .ok .skip { w with heap:=w.heap.setIfInBounds b0 (.map (mapEnts (cs++[.string (mkS kk),vu]) 0).toArray (cs.length/2+1)) }:=by
   have hrun:(Instr.mapUpdate t (.map (some b0)) (.string (mkS kk)) vu).run P w= .ok () { w with heap:=w.heap.setIfInBounds b0 (.map (mapEnts (cs++[.string (mkS kk),vu]) 0).toArray (cs.length/2+1)) }:=by simp only[Instr.mapUpdate,Sem.run_bind,run_underlying e4,MapKept.run_getObj_map hblk,MapKept.run_checkKey e5 hkey,MapKept.run_findKey e5 q1,Result.andThen,MapKept.run_setObj_map _ hblk,hpush]
   simp[execOp,h1,hf.ev e1,hf.ev e2,hf.ev e3,hrun]
  unfold Oper.wp;rw[this];exact fin _ (q3 vu y (hrep g.b)) _ hst
theorem AbF{m k:Operand}{ok:Bool}(h:Told f (tLkp P sl t m k ok) bl bl' v):EffH P n (.lookup t m k ok) ty sl bl bl' v:=by
 unfold tLkp at h;split at h;case h_2=>exact h.elim
 rename_i c b kk hc em ek;obtain⟨kt,et,z,e4,e5,hz,hd⟩:=Kz hc;obtain⟨bv,hb,h⟩:=h;dsimp only at h;split at h;case h_2=>exact h.elim
 rename_i d xs;have key:∀(hcd:PLift (c=d))(y:CV),celC d (mpGet d.dflt xs kk)=some y->∀(w:World)(g:Gh)(ρ:Env)(own:Own)(fr:Sl)(a:Act)(o:Oper),o.op= .lookup t m k ok->Rl g ρ ⟨sl,bl⟩ own fr->Fr n a fr->St w g own->∃u,RealC g ρ bl y u/\(execOp a.eval o).run P w= .ok (.value (match ok with|false=>u|true=> .tuple #[u,.bool (mpHas xs kk)])) w:=λ⟨hcd⟩ y hy w g ρ own fr a o h1 hr hf hs=>by
  subst hcd;obtain⟨vm,e1,hkn,b0,ha,rfl⟩:=Aa hr em;obtain⟨vk,e2,rfl,hkl⟩:=Aa hr ek;obtain⟨k0,hi,b1,cs,rfl,ha1,hmr⟩:=hr.own_at hb;rw[ha]at ha1;injection ha1 with ha1;injection ha1 with ha1;subst ha1;have hblk:w.heap[b0]? =some (.map (mapEnts cs 0).toArray (cs.length/2)):=hs.has _ (Own.get_mem hi);have hkey:MapKept.IsKey .string (.string (mkS kk)):=trivial;rcases findS (p:=g.b) kk hkl cs xs 0 0 hmr with⟨m',v',b',q1,q2,q0,q3,_⟩|⟨q1,q0,q2,_⟩
  ·rw[aS]at q1;refine⟨v',Mu hy (q3 _),?_⟩
   cases ok<;>simp[execOp,h1,hf.ev e1,hf.ev e2,Instr.lookup,Sem.run_bind,run_underlying e4,MapKept.run_getObj_map hblk,MapKept.run_checkKey e5 hkey,MapKept.run_findKey e5 q1,Result.andThen,q0]
  ·refine⟨z,Mu hy (by rw[q2];exact hd g.b),?_⟩
   cases ok<;>simp[execOp,h1,hf.ev e1,hf.ev e2,Instr.lookup,Sem.run_bind,run_underlying e4,MapKept.run_getObj_map hblk,MapKept.run_checkKey e5 hkey,MapKept.run_findKey e5 q1,Result.andThen,q0,hz]
 split at h
 ·rename_i y hcd hy _;obtain⟨rfl,rfl⟩:=Al h;intro o a w Q K g ρ own fr h1 h2 hr hf hs hk;obtain⟨u,hu,he⟩:=key (by assumption) y hy w g ρ own fr a o h1 hr hf hs;unfold Oper.wp;rw[he];exact hk u g ρ own w (.refl g) .refl hs hr hu
 ·rename_i y hcd hy _;obtain⟨rfl,rfl⟩:=Al h;intro o a w Q K g ρ own fr h1 h2 hr hf hs hk;obtain⟨u,hu,he⟩:=key (by assumption) y hy w g ρ own fr a o h1 hr hf hs;unfold Oper.wp;rw[he];exact hk _ g ρ own w (.refl g) .refl hs hr ⟨[u,.bool (mpHas xs kk)],rfl,hu,rfl,trivial⟩
 ·exact h.elim
end
open Go.RowKit Go.Lib
theorem Cu(l:Bt):strCells (mkS l)=l.map λx=> .int .u8 (x.toNat:Int):=by simp[strCells,mkS]
theorem Bq(l:Bt):(mkS l).size=l.length:=by simp[mkS,ByteArray.size]
theorem Ael {w':World} {i:TypeInfo} (ht:P.underlying t=some (.slice e)) (hu:P.underlying u=some .string) (hi:P.info? e=some i) (hz:i.zero=some (.int .u8 0)) (hsize:i.size=1) (hby:i.bytes=1)
  {v v':Value} {xs:List Value} (hown:w.ownsRow 0 e 1 v n xs) {s:ByteArray} (hb:n+s.size<=140737488355328) (hrun:(Builtin.append_ #[t,u] ty #[v,.string s]).run P w= .ok v' w')
  (h0:v'= .slice none 0 0↔v= .slice none 0 0/\s.size=0):v'.ownBlock=v.ownBlock\/v'.ownBlock=some w.heap.size:=by
 have hxl:xs.length=n:=by simpa using hown.1
 rcases hown.2 with⟨rfl,rfl⟩|⟨g,cap,cur,rfl,hbg,hg,hnc,hcm,hcs,htake⟩
 ·by_cases hm:s.size=0
  ·left;rw[h0.2 ⟨rfl,hm⟩]
  ·right;have hr:=run_append_nil_string (P:=P) w t u ty e i (.int .u8 0) ht hu hi hz s (by omega) (by omega) (by rw[hby];omega);rw[hr]at hrun;injection hrun with h1 h2;rw[<-h1];rfl
 ·by_cases hroom:n+s.size<=cap
  ·have hcs':cur.size=cap:=by simpa using hcs
   have hr:=run_append_room_string (P:=P) w t u ty e i ht hu hi hsize g n cap cur hg s hroom (by omega);rw[hr]at hrun;injection hrun with h1 h2;left;rw[<-h1];rfl
  ·have hr:=run_append_grow_string (P:=P) w t u ty e i (.int .u8 0) ht hu hi hz ⟨g,0,none⟩ n cap xs (by rw[hsize];simpa using hxl) (hown.cells (g:=g) rfl) s (by omega) (by omega) (by rw[hby];exact growslice_fits (by omega) (by omega));rw[hr]at hrun;injection hrun with h1 h2;right;rw[<-h1];rfl
def bytS(P:Program)(t u:TypeId):Option TypeId:=match P.underlying t,P.underlying u with
 |some (.slice e),some .string=>(match P.info? e with
  |some i=>(match i.zero with
   |some (.int .u8 (.ofNat 0))=>cond (aP i.size 1&&aP i.bytes 1) (some e) none
   |_=>none)
  |none=>none)
 |_,_=>none
theorem SL(h:bytS P t u=some e):∃i,P.underlying t=some (.slice e)/\P.underlying u=some .string/\P.info? e=some i/\i.zero=some (.int .u8 0)/\i.size=1/\i.bytes=1:=by
 unfold bytS at h;split at h
 ·rename_i e' h1 h2;split at h
  ·rename_i i h3;split at h
   ·rename_i h4;obtain⟨hc,he⟩:=condS h;injection he with he;subst he;simp only[aO]at hc;exact⟨i,h1,h2,h3,h4,aF hc.1,aF hc.2⟩
   ·cases h
  ·cases h
 ·cases h
section
theorem Fi {ty':TypeId} (ha:bytS P t u=some et) (hs:St w g own) {v:Value} {xs l:Bt} (hi:own[i]? = some k) (hb:Jl p Ci et v k xs)
  (hlen:xs.length+l.length<=140737488355328):
  ∃v' k' w',(Builtin.append_ #[t,u] ty' #[v,.string (mkS l)]).run P w= .ok v' w'/\Buf p Ci et v' k' (xs++l)/\St w' g (own.set i k'):=by
 obtain⟨inf,ht,hu,hinf,hz,hsz,hby⟩:=SL ha;have hrep:Reps Ci p (strCells (mkS l)) l:=by rw[Cu];exact FN
 have hown:∃cs,Reps Ci p cs xs/\w.ownsRow 0 et 1 v xs.length cs/\(∀b,v.ownBlock=some b->∃kb,k=some kb/\kb.g=b):=by
  rcases hb.2 with⟨rfl,rfl,rfl⟩|⟨b,cap,cs,sp,rfl,rfl,h3,h4,h5⟩
  ·exact⟨[],rfl,World.ownsRow_nil w 0 et 1,λb hb=>by simp[Value.ownBlock]at hb⟩
  ·have hcl:cs.length=xs.length:=by have:=h3.len;simpa[Ci]using this
   have h4:(cs++sp).length=cap:=by have:=h4;simpa[Ci]using this
   refine⟨cs,h3,⟨by omega,.inr ⟨b,cap,_,rfl,bN _,hs.has _ (bF hi),?_,h5,by simpa using h4,?_⟩⟩,λb' hb=>⟨_,rfl,by simpa[Value.ownBlock]using hb⟩⟩
   ·rw[aB]at h4;omega
   ·simp[<-hcl]
 obtain⟨cs,hrx,how,hblk⟩:=hown;obtain⟨v',w',hrun,how',hgrow,h0⟩:=run_append_own_string (P:=P) w 0 t u ty' et inf ht hu hinf hz hsz hby v xs.length cs how (mkS l) (by rw[Bq];simp only[maxLen];omega) (by rw[Bq];omega) (bN _);have hat:=Ael ht hu hinf hz hsz hby how (by rw[Bq];omega) hrun h0;rw[Bq]at how' h0;rcases how'.2 with⟨rfl,hz0⟩|⟨b',cap,cur,rfl,_,hheap,hnc,hcm,hcs,htake⟩
 ·obtain⟨rfl,hl0⟩:=h0.1 rfl;have hl:l=[]:=bC hl0;subst hl;have hx:xs=[]:=bC (by simpa using hz0);subst hx;refine⟨_,k,w',hrun,by simpa using hb.toBuf,hs.swap hi k hgrow.os hgrow.tape hgrow.output (λb hb hne=>hgrow.block b hb λe=>by cases e) λk' hk'=>?_⟩
  rcases hb.2 with⟨_,_,hk0⟩|⟨b,cap,cs,sp,e1,_⟩
  ·rw[hk0]at hk';cases hk'
  ·cases e1
 ·refine⟨_,some ⟨b',et,cur.toList⟩,w',hrun,?_,?_⟩
  ·have hn1:Ci.n=1:=rfl;have hc2:cur.toList=(cs++strCells (mkS l))++cur.toList.drop ((xs.length+l.length)*1):=by rw[<-htake,aK]
   refine⟨by rw[aB];exact hlen,.inr ⟨b',cap,cs++strCells (mkS l),cur.toList.drop ((xs.length+l.length)*1),by rw[aB],(.inl (by rw[<-hc2])),hrx.append hrep,?_,hcm⟩⟩
   rw[<-hc2,hn1];simpa using hcs
  ·refine hs.swap hi _ hgrow.os hgrow.tape hgrow.output (λb hb hne=>hgrow.block b hb λe=>?_) λk' hk'=>?_
   ·obtain⟨kb,e1,e2⟩:=hblk b e.symm;exact hne kb e1 e2.symm
   ·injection hk' with hk';subst hk';refine⟨by simpa[Bk.obj_ty]using hheap,?_⟩
    rcases hat with h1|h1
    ·left;obtain⟨kb,e1,e2⟩:=hblk b' (by rw[<-h1];rfl);exact⟨kb,e1,e2⟩
    ·right;have:b'=w.heap.size:=by simpa[Value.ownBlock]using h1
     exact Nat.le_of_eq this.symm
theorem LS {ty':TypeId} (ha:bytS P t u=some et) (hs:St w g own) {sp:List Value} {xs l:Bt} (hi:own[i]? = some (some ⟨b,.ms et,cs++sp⟩)) (h3:Reps Ci p cs xs) (h4:(cs++sp).length=cap*Ci.n) (h5:cap<=maxLen)
  (hlen:xs.length+l.length<=140737488355328):
  ∃v' k' w',(Builtin.append_ #[t,u] ty' #[.slice (some ⟨b,0,none⟩) xs.length cap,.string (mkS l)]).run P w= .ok v' w'/\Buf p Ci et v' k' (xs++l)/\St w' g (own.set i k'):=by
 obtain⟨inf,ht,hu,hinf,hz,hsz,hby⟩:=SL ha;have hcell:cellsOfT P et=some 1:=by simp[cellsOfT,hinf,hsz]
 have hrep:Reps Ci p (strCells (mkS l)) l:=by rw[Cu];exact FN
 have hnl:(strCells (mkS l)).length=l.length:=by rw[Cu,dA]
 have hcx:cs.length=xs.length:=by have:=h3.len;simpa[Ci]using this
 have h4':(cs++sp).length=cap:=by simpa[Ci]using h4
 by_cases hroom:xs.length+l.length<=cap
 ·have hfit:xs.length+(strCells (mkS l)).length<=(cs++sp).length:=by rw[hnl,h4'];exact hroom
  obtain⟨w',hst,hs'⟩:=Bj (P:=P) (g:=g) (i:=i) (k:=⟨b,.ms et,cs++sp⟩) (vs:=strCells (mkS l)) (own:=own) (off:=xs.length) (cs++sp) 0 hs hi (λv hv=>List.all_eq_true.1 hrep.one v hv) (by simpa using hfit);have hf:=run_firstCells_string (P:=P) w 1 (mkS l);rw[Bq]at hf;refine⟨.slice (some ⟨b,0,none⟩) (xs.length+l.length) cap,some ⟨b,.ms et,setRow (cs++sp) (xs.length+0) (strCells (mkS l))⟩,w',?_,?_,hs'⟩
  ·have hst:(storeCells ⟨b,xs.length,none⟩ (strCells (mkS l))).run P w= .ok () w':=hst;simp[Builtin.append_,run_underlying ht,run_underlying hu,AE hcell,Builtin.lenOf,Bq,hroom,hf,Addr.add_lit,hst]
  ·rw[bJ,CY _ _ _ hfit,<-hcx,List.take_left,cC,hcx,<-aB];refine⟨by rw[aB];exact hlen,.inr ⟨b,cap,cs++strCells (mkS l),_,rfl,.inr rfl,h3.append hrep,?_,h5⟩⟩
   have e:=congrArg bO (CY (strCells (mkS l)) (cs++sp) xs.length hfit);rw[Ed,h4,<-hcx,List.take_left,cC]at e;rw[e,hcx]
 ·have holds:∀ j u,cs[j]? = some u->w.cell? ((⟨b,0,none⟩:Addr).add j)=some u:=λj u hu=>by have hk:=hs.has _ (bF hi);rw[AF];simp[World.cell?,hk,Bk.obj];rw[aE (by rcases aT j cs.length with h|h;exact h;rw[aZ h]at hu;cases hu)];exact hu
  have hr:=run_append_grow_string (P:=P) w t u ty' et inf (.int .u8 0) ht hu hinf hz ⟨b,0,none⟩ xs.length cap cs (by rw[hsz,hcx,dR]) holds (mkS l) (by rw[Bq];omega) (by rw[Bq];omega) (by rw[hby,Bq];exact growslice_fits (by omega) (by omega));have hge:=grownCap_ge w (xs.length+(mkS l).size) cap et;have hle:grownCap w (xs.length+(mkS l).size) cap et<=maxLen:=grownCap_le_maxLen w _ cap et (by rw[Bq];simp only[maxLen];omega);rw[Bq]at hr hge hle;generalize grownCap w (xs.length+l.length) cap et=gc at hr hge hle;refine⟨_,some ⟨w.heap.size,et,cs++strCells (mkS l)++(Builtin.zeroCells (Value.int .u8 0).cells (gc-(xs.length+l.length))).toList⟩,_,hr,?_,?_⟩
  ·refine⟨by rw[aB];exact hlen,.inr ⟨w.heap.size,gc,cs++strCells (mkS l),_,by rw[aB],.inl rfl,h3.append hrep,?_,hle⟩⟩
   have hz1:(Value.int IntKind.u8 0).cells.size=1:=rfl;have hn1:Ci.n=1:=rfl;have e1:(Builtin.zeroCells (Value.int IntKind.u8 0).cells (gc-(xs.length+l.length))).toList.length=gc-(xs.length+l.length):=by rw[bS (xs:=Builtin.zeroCells _ _),size_zeroCells,hz1,dR]
   rw[aB,aB,hnl,hcx,e1,hn1];omega
  ·refine hs.swap hi _ rfl rfl rfl (λb' hb' hne=>heap_alloc_old w.drew _ hb') λk' hk'=>?_;injection hk' with hk'
   subst hk';refine⟨?_,.inr (aW _)⟩
   have e:=heap_alloc_new w.drew (.cells (cs.toArray++(strCells (mkS l)).toArray++Builtin.zeroCells (Value.int .u8 0).cells (gc-(xs.length+l.length))) et);refine e.trans ?_;simp[Bk.obj_ty]
theorem LU {ty':TypeId} (ha:bytS P t u=some et) (hs:St w g own) {v:Value} {xs l:Bt} (hi:own[i]? = some k) (hb:Buf p Ci et v k xs)
  (hlen:xs.length+l.length<=140737488355328):
  ∃v' k' w',(Builtin.append_ #[t,u] ty' #[v,.string (mkS l)]).run P w= .ok v' w'/\Buf p Ci et v' k' (xs++l)/\St w' g (own.set i k'):=by
 rcases hb with⟨h0,h|⟨b,cap,cs,sp,rfl,h2|rfl,h3,h4,h5⟩⟩
 ·exact Fi ha hs hi ⟨h0,.inl h⟩ hlen
 ·exact Fi ha hs hi ⟨h0,.inr ⟨b,cap,cs,sp,rfl,h2,h3,h4,h5⟩⟩ hlen
 ·exact LS ha hs hi h3 h4 h5 hlen
abbrev catY(xs ys:Bt):Bt:=xs++ys
def tAppS(P:Program)(sl:List (Nat×SV))(f:Nat)(t t':TypeId)(s x:Operand):Tr:=match bytS P t t',evH sl x with
 |some et,some (.v (.c (.str ys)))=>(match evH sl s with
  |some (.v (.c (.own b)))=> .need b fun
   | .row .y et' xs=>(match aP et' et with
    |true=> .grd (decide (xs.length+ys.length<=140737488355328)) (.done ⟨vC (.own f),[(b,.no)],[.row .y et' (catY xs ys)]⟩)
    |false=> .no)
   |_=> .no
  |some (.v (.c (.k (.slice none 0 0))))=> .grd (decide (ys.length<=140737488355328)) (.done ⟨vC (.own f),[],[.row .y et ys]⟩)
  |_=> .no)
 |_,_=> .no
theorem OO {sl:Sl} (i:Nat) {v:Value} {xs l:Bt} (p:Psi) (ha:bytS P t u=some et) (hs:evS sl s=some v) (hx:evS sl x=some (.string (mkS l))) (hi:own[i]? = some k) (hb:Buf p Ci et v k xs)
  (hlen:xs.length+l.length<=140737488355328):
  Eff P n g own sl (.call { callee:= .builtin .append,args:=#[s,x],argTypes:=#[t,u] }) ty (λv' g' own'=>∃A' c' k',v'= .slice A' (xs++l).length c'/\g=g'/\own'=own.set i k'/\Buf p Ci et (.slice A' (xs++l).length c') k' (xs++l)):=by
 intro o a w Q K h1 h2 hf hst h;obtain⟨v',k',w',hrun,hb',hst'⟩:=LU (P:=P) (ty':=o.type) ha hst hi hb hlen;obtain⟨A',c',rfl,_⟩:=hb'.val;have:(execOp a.eval o).run P w= .ok (.value (.slice A' (xs++l).length c')) w':=by simp[execOp,h1,resolve,invoke,builtin,hf.ev hs,hf.ev hx,hrun]
 unfold Oper.wp;rw[this];exact h _ _ _ _ (.refl g) hst' ⟨A',c',k',rfl,rfl,rfl,hb'⟩
theorem Wt {t':TypeId} (hf:bl[f]? = some .hole) (h:Told f (tAppS P sl f t t' s x) bl bl' v) :
  EffH P n (.call { callee:= .builtin .append,args:=#[s,x],argTypes:=#[t,t'] }) ty sl bl bl' v:=by
 unfold tAppS at h;split at h;case h_2=>exact h.elim
 rename_i et ys hbs ex;split at h
 ·rename_i b es;obtain⟨bv,hb,h⟩:=h;dsimp only at h;split at h;case h_2=>exact h.elim
  rename_i et' xs;split at h;case h_2=>exact h.elim
  rename_i he;have he:=aF he;subst he;obtain⟨hg,rfl,rfl⟩:=h;have hg:=of_decide_eq_true hg;have hbf:b≠f:=λe=>by subst e;rw[hf]at hb;injection hb with hb;cases hb
  intro o a w Q K g ρ own fr h1 h2 hr hfr hs hk;obtain⟨vs',hs1,hkn,l,rfl,hl⟩:=Aa hr es;obtain⟨vx,hx1,rfl,hxl⟩:=Aa hr ex;have hl:=hl _ _ hb rfl;subst hl;obtain⟨k0,hk0,hB⟩:=hr.own_at hb;have hB:Buf g.b Ci et' (.slice (ρ b).1 xs.length (ρ b).2) k0 xs:=hB;refine OO b g.b hbs hs1 hx1 hk0 hB hg o a w Q K h1 h2 hfr hs λv g' own' w' hle hs' ⟨A',c',k',e1,e2,e3,hB'⟩=>?_;subst e1;subst e2;subst e3;have hno:=hr.hole_none hf;have hlb:=Am hk0;have hst:=hs'.move (b:=b) (f:=f) (k:=k') (by simp[aH,hlb]) (by rw[AK hbf];exact hno) hbf;rw[dP]at hst;have hx:Ext ρ bl ρ (bl.set b .no):=Ext.set_at hb rfl λm hm=>by cases hm
  have hr1:=hr.setB (g':=g) (bv1:= .no) (k:=none) (.refl g) hb rfl (λm hm=>by cases hm) rfl;have hf1:(bl.set b .no)[f]? =some .hole:=by rw[AK hbf];exact hf
  have hx1':Ext ρ (bl.set b .no) (setρ ρ f (A',c')) ((bl.set b .no).set f (.row .y et' (catY xs ys))):=Ext.set_hole hf1;have hr2:=hr1.lay (g':=g) (bv:= .row .y et' (catY xs ys)) (k:=k') (e:=(A',c')) (.refl g) hf1 hB';refine hk _ g (setρ ρ f (A',c')) _ w' (.refl g) (hx.trans hx1') hst hr2 ⟨Bo (Am hf1) rfl,_,by rw[Bn],λbv m e1 e2=>?_⟩;have:bv= .row .y et' (catY xs ys):=by
   have e3:((bl.set b .no).set f (.row .y et' (catY xs ys)))[f]? =some (.row .y et' (catY xs ys)):=by simp[aH,Am hf]
   have e1:((bl.set b .no).set f (.row .y et' (catY xs ys)))[f]? =some bv:=e1;rw[e3]at e1;injection e1 with e1;exact e1.symm
  subst this;exact Option.some.inj e2
 ·rename_i es;obtain⟨hg,rfl,rfl⟩:=h;have hg:=of_decide_eq_true hg;intro o a w Q K g ρ own fr h1 h2 hr hfr hs hk;obtain⟨vs',hs1,rfl,_⟩:=Aa hr es;obtain⟨vx,hx1,rfl,hxl⟩:=Aa hr ex;have hno:=hr.hole_none hf;refine OO (xs:=[]) f g.b hbs hs1 hx1 hno Buf.nil (by simpa using hg) o a w Q K h1 h2 hfr hs λv g' own' w' hle hs' ⟨A',c',k',e1,e2,e3,hB'⟩=>?_;subst e1;subst e2;subst e3;rw[aR]at hB';have hx1':Ext ρ bl (setρ ρ f (A',c')) (bl.set f (.row .y et ys)):=Ext.set_hole hf;have hr2:=hr.lay (g':=g) (bv:= .row .y et ys) (k:=k') (e:=(A',c')) (.refl g) hf hB';refine hk _ g (setρ ρ f (A',c')) _ w' (.refl g) hx1' hs' hr2 ⟨Bo (Am hf) rfl,_,by rw[Bn],λbv m e1 e2=>?_⟩;have e3:(bl.set f (.row .y et ys))[f]? =some (.row .y et ys):=by simp[aH,Am hf]
  have e1:(bl.set f (.row .y et ys))[f]? =some bv:=e1;rw[e3]at e1;injection e1 with e1;subst e1;exact Option.some.inj e2
 ·exact h.elim
end
def tBytes(P:Program)(sl:List (Nat×SV))(f:Nat)(s d:TypeId)(x:Operand):Tr:=match P.underlying s,P.underlying d,evH sl x with
 |some .string,some (.slice e),some (.v (.c (.str l)))=>(match P.underlying e with
  |some (.int .u8)=> .grd (decide (l.length<=140737488355328)) (.done ⟨vC (.own f),[],[.row .y e l]⟩)
  |_=> .no)
 |_,_,_=>tText P sl s d x
section
theorem Vd{s d:TypeId}(hf:∀l e,P.underlying d=some (.slice e)->evH sl x=some (.v (.c (.str l)))->bl[f]? =some .hole)(h:Told f (tBytes P sl f s d x) bl bl' v):EffH P n (.convert s d x) ty sl bl bl' v:=by
 unfold tBytes at h;split at h;case h_2=>exact Wn h
 rename_i e l hs hd ex;have hf:=hf _ _ hd ex;split at h;case h_2=>exact h.elim
 rename_i he;obtain⟨hg,h⟩:=h;have hg:decide (l.length<=140737488355328)=true:=hg;have hxl:=of_decide_eq_true hg;obtain⟨rfl,rfl⟩:=h;refine Hp (c:= .y) (et:=e) (xs:=l) hf λg ρ own fr hr=>?_;obtain⟨vx,hx1,rfl,_⟩:=Aa hr ex;intro o a w Q K h1 h2 hfr hst h;have hrun:=run_bytes_of_string (P:=P) w s d e (mkS l) hs hd he;have hge:=grownCap_ge w (mkS l).size 0 e;have hle:grownCap w (mkS l).size 0 e<=maxLen:=grownCap_le_maxLen w _ 0 e (by rw[Bq];simp only[maxLen];omega);rw[Bq]at hge hle hrun;generalize grownCap w l.length 0 e=gc at hge hle hrun;have hb:bytesRow (mkS l) gc=((strCells (mkS l))++bB (gc-l.length) (Value.int .u8 0)).toArray:=by apply Array.ext';simp[bytesRow,strCells,Bq]
 rw[hb]at hrun;have hal:=hst.drew.allocK ⟨w.heap.size,.ms e,strCells (mkS l)++bB (gc-l.length) (Value.int .u8 0)⟩ rfl;have:(execOp a.eval o).run P w= .ok (.value (.slice (some ⟨w.heap.size,0,none⟩) l.length gc)) (w.drew.alloc (Bk.obj ⟨w.heap.size,.ms e,strCells (mkS l)++bB (gc-l.length) (Value.int .u8 0)⟩)):=by simp[execOp,h1,hfr.ev hx1,hrun,Bk.obj]
 unfold Oper.wp;rw[this];refine h _ _ _ _ (.refl g) hal ⟨_,_,_,rfl,rfl,rfl,hxl,.inr ⟨w.heap.size,gc,strCells (mkS l),_,rfl,.inr rfl,by rw[Cu];exact FN,?_,hle⟩⟩;have hn1:(Cd.y.ty).n=1:=rfl;rw[aB,Cu,dA,aY,hn1];omega
end
def tLitF(P:Program)(sl:List (Nat×SV))(f:Nat)(t:TypeId)(len:Nat)(parts:List (Nat×Operand)):Tr:=match rowOf P t with
 |some _=>tLit P sl f t len parts
 |none=>(match P.underlying t,partsH sl parts with
  |some (.slice et),some ps=>(match cellsOfT P et,rowH P t len ps with
   |some 1,some l=>cond (cT len 1000) (.done ⟨vC (.sc f len),[],[.cells et l]⟩) .no
   |_,_=> .no)
  |_,_=> .no)
def tIndexF(P:Program)(sl:List (Nat×SV))(t:TypeId)(x i:Operand):Tr:=match evH sl x with
 |some (.v (.c (.sc b n)))=>asI sl i λk z=>(match P.underlying t with
  |some (.slice e)=>(match cellsOfT P e with
   |some 1=>splitZ z (λj=>retT (vC (.ptr b j))) n 0
   |_=> .no)
  |_=> .no)
 |_=>tIndexA P sl t x i
def tLenF(P:Program)(sl:List (Nat×SV))(t:TypeId)(x:Operand):Tr:=match evH sl x with
 |some (.v (.c (.sc _ n)))=>(match P.underlying t with|some (.slice _)=>retT (vC (.int .i64 (n:Int)))|_=> .no)
 |_=>tLen P sl t x
section
theorem KA{len:Nat}(hf:bl[f]? =some .hole)(h:Told f (tLitF P sl f t len parts) bl bl' v):EffH P n (.buildSlice t len parts.toArray) ty sl bl bl' v:=by
 unfold tLitF at h;split at h
 ·exact AbC hf h
 split at h;case h_2=>exact h.elim
 rename_i et ps hu hps;split at h;case h_2=>exact h.elim
 rename_i l hc hl;obtain⟨hle,h⟩:=condT h;have hle:=aM hle;obtain⟨rfl,rfl⟩:=h;intro o a w Q K g ρ own fr e1 e2 hr hfr hs hk;obtain⟨pv,h3,h4⟩:=Df hr hps;obtain⟨cs,h5,h6⟩:=Iy hu hl h4;refine EL pv cs (by simpa using h3) h5 o a w Q K e1 e2 hfr hs λv' g' own' w' hg hs' ⟨b,e3,e4,e5⟩=>?_;subst e3;subst e4;subst e5;have hx:Ext ρ bl (setρ ρ f (some ⟨b,0,none⟩,0)) (bl.set f (.cells et l)):=Ext.set_hole hf;exact hk _ g (setρ ρ f (some ⟨b,0,none⟩,0)) _ w' (.refl g) hx (hs'.fill (hr.hole_none hf)) (hr.lay (.refl g) hf ⟨b,cs,rfl,rfl,h6.mono λ_ _=>RealC.ext (.refl g) hx⟩) ⟨Bo (Am hf) rfl,hle,b,by rw[Bn],rfl⟩
theorem KB{i:Operand}(h:Told f (tIndexF P sl t x i) bl bl' v):EffH P n (.indexAddr t x i) ty sl bl bl' v:=by
 unfold tIndexF at h;split at h;case h_2=>exact Rj h
 rename_i b m ex;obtain⟨k,z,ei,h⟩:=BI h;split at h;case h_2=>exact h.elim
 rename_i e hu;split at h;case h_2=>exact h.elim
 rename_i hc;obtain⟨j,hj,rfl,h'⟩:=Cp h;obtain⟨rfl,rfl⟩:=Al h';refine .of_yld λg ρ own fr hr=>?_;obtain⟨vx,hx1,hkn,hm,kb,ha,rfl⟩:=Aa hr ex;obtain⟨vi,hi1,rfl,_⟩:=Aa hr ei;refine⟨_,⟨hkn,⟨kb,0,none⟩,ha,rfl⟩,?_⟩
 have:=GZ (P:=P) (n:=n) (p:=g.r) (own:=own) (ty:=ty) j hx1 hi1 (by omega) hu hc
 rwa [dR]at this
theorem Wu(h:Told f (tLenF P sl t x) bl bl' v):EffH P n (.call { callee:= .builtin .len,args:=#[x],argTypes:=#[t] }) ty sl bl bl' v:=by
 unfold tLenF at h;split at h;case h_2=>exact AbD h
 rename_i b m ex;split at h;case h_2=>exact h.elim
 rename_i e hu;obtain⟨rfl,rfl⟩:=Al h;refine .of_yld λg ρ own fr hr=>?_;obtain⟨vx,hx1,hkn,hm,kb,ha,rfl⟩:=Aa hr ex;exact⟨_,⟨rfl,by simp[inK,IntKind.min,IntKind.max,IntKind.signed,IntKind.bits];omega⟩,GJ hx1 λw=>by simp[Builtin.len_,run_underlying hu,goInt]⟩
end
structure LeafOf where
 c:Cd
 x:c.den
 off:Nat
def TD.leafAt:(t:TD)->t.cd.den->Nat->Option LeafOf
 | .c x,d,off=>some ⟨x,d,off⟩
 | .p a b,d,off=>match dO off a.cd.n with
  |true=>a.leafAt d.1 off
  |false=>b.leafAt d.2 (off-a.cd.n)
 | .o _ _,_,_=>none
variable{td:TD}{xs:List td.cd.den}
def openL:(t:TD)->t.cd.den->List BV
 | .c _,_=>[]
 | .p a b,d=>openL a d.1++openL b d.2
 | .o et a,d=>[mkT a et d]
def idsFrom:Nat->Nat->List Nat
 |_,0=>[]
 |f,m+1=>f::idsFrom (f+1) m
theorem Je:∀(a f b:Nat),idsFrom f (a+b)=idsFrom f a++idsFrom (f+a) b
 |0,f,b=>by rw[aS];rfl
 |a+1,f,b=>by rw[show a+1+b=(a+b)+1 by omega];show f::idsFrom (f+1) (a+b)=f::idsFrom (f+1) a++idsFrom (f+(a+1)) b;rw[Je a (f+1) b,show f+1+a=f+(a+1) by omega];rfl
theorem Jf:∀{m f i:Nat},i<m->(idsFrom f m)[i]? =some (f+i)
 |m+1,f,0,h=>rfl
 |m+1,f,i+1,h=>by show(idsFrom (f+1) m)[i]? =_;rw[Jf (by omega),show f+1+i=f+(i+1) by omega]
theorem RA{a:Nat}(h:a<b):dO a b=true:=by simp[dO,Nat.ble_eq];omega
theorem Cv:∀(c:Cd),0<c.n
 | .i _=>cG
 | .y=>cG
 | .b=>cG
 | .s=>cG
 | .a _=>cG
 | .p c d=>Nat.add_pos_left (Cv c) _
section
theorem Fj:∀{t:TD}{cs:List Value}{d:t.cd.den}{e:List (Nat×Obj)},TRep p t cs d e->cs.length=t.cd.n
 | .c c,cs,d,e,h=>by rw[c.ty.len h.1,Cd.ty_n];rfl
 | .p a b,cs,d,e,⟨c1,c2,e1,e2,h1,h2,h3,h4⟩=>by subst h1;rw[aB,Fj h3,Fj h4];rfl
 | .o et a,cs,d,e,⟨v,k,h1,_⟩=>by subst h1;rfl
theorem Ew:∀{t:TD}{cs:List Value}{d:t.cd.den}{js:List Nat},TRepX g ρ bl t cs d js->cs.length=t.cd.n
 | .c c,cs,d,js,h=>by rw[c.ty.len h.1,Cd.ty_n];rfl
 | .p a b,cs,d,js,⟨c1,c2,j1,j2,h1,h2,h3,h4⟩=>by subst h1;rw[aB,Ew h3,Ew h4];rfl
 | .o et a,cs,d,js,⟨v,j,h1,_⟩=>by subst h1;rfl
theorem Fk:∀{t:TD}{cs:List Value}{d:t.cd.den}{js:List Nat},TRepX g ρ bl t cs d js->js.length=t.no
 | .c c,cs,d,js,h=>by rw[h.2];rfl
 | .p a b,cs,d,js,⟨c1,c2,j1,j2,h1,h2,h3,h4⟩=>by subst h2;rw[aB,Fk h3,Fk h4];rfl
 | .o et a,cs,d,js,⟨v,j,h1,h2,_⟩=>by subst h2;rfl
def LeafIn(p:Psi)(cs:List Value)(off:Nat)(l:LeafOf):Prop:=∃o0,off=o0+l.off/\l.c.ty.rep p ((cs.drop o0).take l.c.n) l.x
theorem OP{l:LeafOf}(hl:LeafIn p c1 off l):LeafIn p (c1++c2) off l:=by
 obtain⟨o0,h1,h2⟩:=hl;have hn:=l.c.ty.len h2;rw[Cd.ty_n,aI,aJ]at hn;have hp:=Cv l.c;refine⟨o0,h1,?_⟩
 rw[bI (by omega),bH (by rw[aJ];omega)];exact h2
theorem MV{l:LeafOf}(hl:LeafIn p c2 off l):LeafIn p (c1++c2) (c1.length+off) l:=by
 obtain⟨o0,h1,h2⟩:=hl;refine⟨c1.length+o0,by omega,?_⟩
 rw[cC,cY (by omega),aR,aQ];exact h2
theorem KC:∀{t:TD}{cs:List Value}{d:t.cd.den}{e:List (Nat×Obj)}{off:Nat}{l:LeafOf},TRep p t cs d e->t.leafAt d off=some l->LeafIn p cs off l
 | .c c,cs,d,e,off,l,h,hl=>by
  injection hl with hl;subst hl;refine⟨0,by simp,?_⟩
  have:=c.ty.len h.1;rw[Cd.ty_n]at this;rw[List.drop_zero,bK (by rw[this];exact aW _)];exact h.1
 | .p a b,cs,d,e,off,l,⟨c1,c2,e1,e2,h1,h2,h3,h4⟩,hl=>by
  subst h1;unfold TD.leafAt at hl;split at hl
  ·exact OP (KC h3 hl)
  ·rename_i hb;have hge:a.cd.n<=off:=by
    rcases aT off a.cd.n with h|h
    ·rw[RA h]at hb;cases hb
    ·exact h
   have:=MV (c1:=c1) (KC h4 hl)
   rwa [Fj h3,Nat.add_sub_cancel' hge]at this
 | .o et a,cs,d,e,off,l,h,hl=>by cases hl
theorem Fl:∀{t:TD}{cs:List Value}{d:t.cd.den}{js:List Nat}{off m:Nat},TRepX g ρ bl t cs d js->t.ownAt off=some m->∃j v,js[m]? =some j/\cs[off]? =some v/\RealC g ρ bl (.own j) v
 | .c c,cs,d,js,off,m,h,hl=>by cases hl
 | .p a b,cs,d,js,off,m,⟨c1,c2,j1,j2,h1,h2,h3,h4⟩,hl=>by
  subst h1;subst h2;unfold TD.ownAt at hl;split at hl
  ·obtain⟨j,v,g1,g2,g3⟩:=Fl h3 hl;exact⟨j,v,by rw[aE (Am g1)];exact g1,by rw[aE (Am g2)];exact g2,g3⟩
  ·rename_i hb;have hge:a.cd.n<=off:=by
    rcases aT off a.cd.n with h|h
    ·rw[RA h]at hb;cases hb
    ·exact h
   split at hl
   ·rename_i m' hm;injection hl with hl;subst hl;obtain⟨j,v,g1,g2,g3⟩:=Fl h4 hm;refine⟨j,v,?_,?_,g3⟩
    ·rw[aC (by rw[Fk h3];omega),Fk h3,aQ];exact g1
    ·rw[aC (by rw[Ew h3];omega),Ew h3];exact g2
   ·cases hl
 | .o et a,cs,d,js,off,m,⟨v,j,h1,h2,h3⟩,hl=>by have hl:cond (aP off 0) (some 0) none=some m:=hl;obtain⟨e,hl⟩:=condS hl;injection hl with hl;subst hl;have e:=aF e;subst e;exact⟨j,v,by rw[h2];rfl,by rw[h1];rfl,h3⟩
theorem Fm{t:TD}:∀{xs:List t.cd.den}{cs:List Value}{e:List (Nat×Obj)},RowE (TRep p t) cs xs e->cs.length=xs.length*t.cd.n
 | [],cs,e,h=>by rw[h.1];simp
 |x::xs,cs,e,⟨c1,c2,e1,e2,h1,h2,h3,h4⟩=>by subst h1;rw[aB,Fj h3,Fm h4,aN,cX,Nat.add_comm]
theorem GK {t:TD}:∀ {xs:List t.cd.den} {cs:List Value} {e:List (Nat×Obj)} {i:Nat},RowE (TRep p t) cs xs e->i < xs.length ->
  ∃c1 c c2 e1 ex e2,cs=c1++(c++c2)/\e=e1++(ex++e2)/\RowE (TRep p t) c1 (xs.take i) e1/\TRep p t c (xs.getD i t.cd.dflt) ex/\RowE (TRep p t) c2 (xs.drop (i+1)) e2
 | [],cs,e,i,h,hi=>by cases hi
 |x::xs,cs,e,0,⟨c1,c2,e1,e2,h1,h2,h3,h4⟩,hi=>⟨[],c1,c2,[],e1,e2,h1,h2,⟨rfl,rfl⟩,h3,h4⟩
 |x::xs,cs,e,i+1,⟨c1,c2,e1,e2,h1,h2,h3,h4⟩,hi=>by obtain⟨d1,d,d2,f1,fx,f2,g1,g2,g3,g4,g5⟩:=GK h4 (i:=i) (by simpa using hi);subst g1;subst g2;exact⟨c1++d1,d,d2,e1++f1,fx,f2,by rw[h1,aG],by rw[h2,aG],⟨c1,d1,e1,f1,rfl,rfl,h3,g3⟩,g4,g5⟩
theorem AbG{c sp:List Value}{o:Nat}{v:Value}(h1:c1.length=m)(h2:c[o]? =some v):((c1++(c++c2))++sp)[m+o]? =some v:=by subst h1;have:=Am h2;rw[aG,aC (by omega),aQ,aG,aE this];exact h2
theorem AbH{t:TD}{xs:List t.cd.den}{e:Option Addr×Nat}(h:RowB t.isC (TRep g.b t) t.cd.n et (.slice e.1 xs.length e.2) k xs):∃k',satOf k'=satOf k/\∀ρ bl,BlkR g ρ bl k' e (mkT t et xs):=by
 cases t with
 |c c=>
  obtain⟨k',h1,h2⟩:=AgL h;exact⟨k',h1,λ_ _=>h2⟩
 |p a b=>exact⟨k,rfl,λ_ _=>h⟩
 |o e a=>exact⟨k,rfl,λ_ _=>h⟩
theorem Ce:∀{t:TD}{d:t.cd.den},(openL t d).length=t.no
 | .c _,d=>rfl
 | .p a b,d=>by show(openL a d.1++openL b d.2).length=a.no+b.no;rw[aB,Ce,Ce]
 | .o et a,d=>rfl
theorem GL:∀ {t:TD} {cs:List Value} {d:t.cd.den} {e:List (Nat×Obj)},TRep g.b t cs d e->∃ (ks:List (Option Bk)) (hs:List (Option Addr×Nat)),ks.length=t.no/\hs.length=t.no /\
  (∀(m:Nat)(bv:BV)(k:Option Bk)(h:Option Addr×Nat),(openL t d)[m]? =some bv->ks[m]? =some k->hs[m]? =some h->bv.isHole=false/\∀ρ bl,BlkR g ρ bl k h bv)/\ks.flatMap satOf=e/\
  ∀(ρ:Env)(bl:List BV)(f:Nat),(∀(m:Nat)(h:Option Addr×Nat)(bv:BV),hs[m]? =some h->(openL t d)[m]? =some bv->ρ (f+m)=h/\bl[f+m]? =some bv)->TRepX g ρ bl t cs d (idsFrom f t.no)
 | .c c,cs,d,e,h=>⟨[],[],rfl,rfl,λm bv k h e=>by(cases e),h.2.symm,λρ bl f _=>⟨h.1,rfl⟩⟩
 | .p a b,cs,d,e,⟨c1,c2,e1,e2,h1,h2,h3,h4⟩=>by
  obtain⟨ks1,hs1,a1,a2,a3,a4,a5⟩:=GL h3;obtain⟨ks2,hs2,b1,b2,b3,b4,b5⟩:=GL h4;refine⟨ks1++ks2,hs1++hs2,by rw[aB,a1,b1];rfl,by rw[aB,a2,b2];rfl,λm bv k h g1 g2 g3=>?_,by rw[List.flatMap_append,a4,b4,h2],λρ bl f hall=>?_⟩
  ·have g1:(openL a d.1++openL b d.2)[m]? =some bv:=g1;rcases aT m a.no with hm|hm
   ·rw[aE (by rw[Ce];exact hm)]at g1;rw[aE (by rw[a1];exact hm)]at g2;rw[aE (by rw[a2];exact hm)]at g3;exact a3 m bv k h g1 g2 g3
   ·rw[aC (by rw[Ce];exact hm),Ce]at g1;rw[aC (by rw[a1];exact hm),a1]at g2;rw[aC (by rw[a2];exact hm),a2]at g3;exact b3 _ bv k h g1 g2 g3
  ·show TRepX g ρ bl (.p a b) cs d (idsFrom f (a.no+b.no));rw[Je];refine⟨c1,c2,_,_,h1,rfl,a5 ρ bl f λm h bv g1 g2=>?_,b5 ρ bl (f+a.no) λm h bv g1 g2=>?_⟩
   ·refine hall m h bv (by rw[aE (Am g1)];exact g1) ?_;show(openL a d.1++openL b d.2)[m]? =some bv;rw[aE (Am g2)];exact g2
   ·have:=hall (a.no+m) h bv (by rw [aC (by omega),a2,aQ];exact g1) (by show(openL a d.1++openL b d.2)[a.no+m]? =some bv;rw[aC (by rw[Ce];omega),Ce,aQ];exact g2)
    rwa [<-Nat.add_assoc]at this
 | .o et a,cs,d,e,⟨v,k,h1,h2,h3⟩=>by
  have hv:∃A c,v= .slice A (d:List a.cd.den).length c:=by
   rcases h2 with⟨_,⟨h,h0,_⟩|⟨_,_,_,_,_,h,_⟩⟩
   ·exact⟨none,0,by rw[h];rw[show(d:List a.cd.den)=[]from h0];rfl⟩
   ·exact⟨_,_,h⟩
  obtain⟨A,c,rfl⟩:=hv;obtain⟨k',h4,h5⟩:=AbH (e:=(A,c)) h2;refine⟨[k'],[(A,c)],rfl,rfl,λm bv k h g1 g2 g3=>?_,by rw[h3,<-h4];simp,λρ bl f hall=>?_⟩
  ·cases m with
   |zero=>
    have g1:mkT a et d=bv:=by simpa[openL]using g1
    have g2:k'=k:=by simpa using g2
    have g3:(A,c)=h:=by simpa using g3
    subst g1;subst g2;subst g3;exact⟨Om,h5⟩
   |succ m=>simp at g2
  ·obtain⟨g1,g2⟩:=hall 0 (A,c) (mkT a et d) rfl rfl;refine⟨_,f,h1,rfl,⟨⟨_,g2,Om⟩,_,by rw[show ρ f=(A,c)from g1],λbv m g3 g4=>?_⟩⟩
   have g2:bl[f]? =some (mkT a et d):=g2;rw[g2]at g3;injection g3 with g3;subst g3;have g5:=(Sy (t:=a) (et:=et) (xs:=d)).symm.trans g4;injection g5
def setO:Own->Nat->List (Option Bk)->Own
 |o,_,[]=>o
 |o,f,k::l=>setO (o.set f k) (f+1) l
theorem OQ:∀{l:List (Option Bk)}{o:Own}{f:Nat},(setO o f l).length=o.length
 | [],_,_=>rfl
 |k::l,o,f=>by rw[setO,OQ,aU]
theorem Hr:∀{l:List (Option Bk)}{o:Own}{f i:Nat},(i<f\/f+l.length<=i)->(setO o f l)[i]? =o[i]?
 | [],_,_,_,_=>rfl
 |v::l,o,f,i,h=>by rw[aN]at h;rw[setO,Hr (by omega),AK]
theorem SM:∀{l:List (Option Bk)}{o:Own}{f m:Nat}{v:Option Bk},l[m]? =some v->f+l.length<=o.length->(setO o f l)[f+m]? =some v
 | [],_,_,_,_,h,_=>by simp at h
 |u::l,o,f,0,v,h,hl=>by simp at h;subst h;rw[aN]at hl;rw[setO,Hr (.inl (by omega)),bJ];simp[aH];omega
 |u::l,o,f,m+1,v,h,hl=>by rw[aN]at hl;rw[setO,show f+(m+1)=f+1+m by omega];exact SM (by simpa using h) (by rw[aU];omega)
theorem Mv:∀{ks:List (Option Bk)}{o:Own}{f:Nat},(∀m,m<ks.length->o[f+m]? =some none)->(allO (setO o f ks)).Perm (ks.flatMap satOf++allO o)
 | [],o,f,h=>List.Perm.refl _
 |k::l,o,f,h=>by
  have h0:o[f]? =some none:=by simpa using h 0 (by simp)
  have ih:=Mv (ks:=l) (o:=o.set f k) (f:=f+1) λm hm=>by rw[AK,show f+1+m=f+(m+1) by omega];exact h (m+1) (by simpa using hm)
  have h1:(allO (o.set f k)).Perm (satOf k++allO o):=Bl k h0;rw[setO,List.flatMap_cons];refine ih.trans ((h1.append_left _).trans ?_);rw[<-aG];exact List.perm_append_comm.append_right _
theorem AbI {t:TD} {xs:List t.cd.den} (hr:Rl g ρ ⟨sl,bl⟩ own fr) (hs:St w g own) (hb:bl[b]? = some (.tree t et xs)) (hi:i < xs.length) (hno:0 < t.no) (hf:∀ m,m < t.no->bl[f+m]? = some .hole) :
  ∃ρ' own',St w g own'/\Ext ρ bl ρ' (setNew (bl.set b (.treeX t et xs i (idsFrom f t.no))) f (openL t (xs.getD i t.cd.dflt)))/\Rl g ρ' ⟨sl,setNew (bl.set b (.treeX t et xs i (idsFrom f t.no))) f (openL t (xs.getD i t.cd.dflt))⟩ own' fr:=by
 obtain⟨k,hk,hrow⟩:=hr.own_at hb;have hrow:RowB t.isC (TRep g.b t) t.cd.n et (.slice (ρ b).1 xs.length (ρ b).2) k xs:=hrow;rcases hrow with⟨h0,⟨_,h1,_⟩|⟨b0,cap,cs,sp,e,h1,h2,h3,h4,h5⟩⟩
 ·subst h1;cases hi
 have hnc:t.isC=false:=by
  cases t with
  |c c=>exact absurd hno (Nat.lt_irrefl 0)
  |p a b=>rfl
  |o e a=>rfl
 rcases h2 with h2|⟨hc,_⟩
 case inr=>rw[hnc]at hc;cases hc
 obtain⟨c1,c,c2,e1,ex,e2,q1,q2,q3,q4,q5⟩:=GK h3 hi;subst q1;subst q2;obtain⟨ks,hds,r1,r2,r3,r4,r5⟩:=GL q4;have hol:(openL t (xs.getD i t.cd.dflt)).length=t.no:=Ce;have hlen:own.length=bl.length:=hr.len;have hbl:=Am hb;have hbf:b<f\/f+t.no<=b:=by
  rcases aT b f with h|h
  ·exact .inl h
  ·rcases aT b (f+t.no)with h'|h'
   ·have:=hf (b-f) (by omega);rw[show f+(b-f)=b by omega,hb]at this;cases this
   ·exact .inr h'
 have hfl:f+t.no<=bl.length:=by have:=Am (hf (t.no-1) (by omega));omega
 let bl1:=bl.set b (.treeX t et xs i (idsFrom f t.no));let own1:Own:=own.set b (some ⟨b0,.tr et (e1++e2),(c1++(c++c2))++sp⟩);let ρ':Env:=λj=>if f<=j then(match hds[j-f]? with|some h=>h|none=>ρ j)else ρ j
 have hρ_in:∀m h,hds[m]? =some h->ρ' (f+m)=h:=λm h e=>by show(if f<=f+m then(match hds[f+m-f]? with|some h=>h|none=>ρ (f+m))else ρ (f+m))=h;rw[if_pos (by omega),aQ,e]
 have hρ_out:∀j,(j<f\/f+t.no<=j)->ρ' j=ρ j:=λj hj=>by
  show(if f<=j then(match hds[j-f]? with|some h=>h|none=>ρ j)else ρ j)=ρ j;split
  ·rw[aZ (by rw[r2];omega)]
  ·rfl
 have hout:∀j,(j<f\/f+t.no<=j)->(setNew bl1 f (openL t (xs.getD i t.cd.dflt)))[j]? =bl1[j]?:=λj hj=>CS (by rw[hol];exact hj);have hin:∀m bv,(openL t (xs.getD i t.cd.dflt))[m]? =some bv->(setNew bl1 f (openL t (xs.getD i t.cd.dflt)))[f+m]? =some bv:=λm bv e=>Iw e (by rw[hol];simpa[bl1]using hfl);have hx:Ext ρ bl ρ' (setNew bl1 f (openL t (xs.getD i t.cd.dflt))):=λj bv g1 g2=>by
  have hj:j<f\/f+t.no<=j:=by
   rcases aT j f with h|h
   ·exact .inl h
   ·rcases aT j (f+t.no)with h'|h'
    ·have:=hf (j-f) (by omega);rw[show f+(j-f)=j by omega,g1]at this;injection this with this;subst this;cases g2
    ·exact .inr h'
  refine⟨hρ_out j hj,?_⟩
  rw[hout j hj];by_cases eq:j=b
  ·subst eq;rw[hb]at g1;injection g1 with g1;subst g1;exact⟨.treeX t et xs i (idsFrom f t.no),by simp[bl1,aH,hbl],rfl,λm h=>h⟩
  ·exact⟨bv,by show(bl.set b _)[j]? =_;rw[AK (λe=>eq e.symm)];exact g1,g2,λm h=>h⟩
 have hnone:∀m,m<ks.length->own1[f+m]? =some none:=λm hm=>by rw[r1]at hm;show(own.set b _)[f+m]? =_;rw[AK];obtain⟨k0,e1,e2⟩:=hr.own_at (hf m hm);rw[e1,show k0=none from e2]
 have hs':St w g (setO own1 f ks):=hs.regroup (by
  refine(Mv hnone).trans ?_;rw[r4];have a1:=Bl (some ⟨b0,.tr et (e1++e2),(c1++(c++c2))++sp⟩) hk;have a5:(satOf k).Perm (satOf (some ⟨b0,.tr et (e1++e2),(c1++(c++c2))++sp⟩)++ex):=by rw[h2];refine List.Perm.cons _ ?_;show(e1++(ex++e2)).Perm ((e1++e2)++ex);rw[aG];exact(dE).append_left _
  have a6:=(a5.append_right (allO own1)).symm.trans a1;rw[aG]at a6;exact(cR _).1 a6)
 refine⟨ρ',setO own1 f ks,hs',hx,hr.turn (.refl g) hx ?_ λj bv kj g1 g2=>?_⟩
 ·rw[OQ,GG];simpa[own1]using hlen
 ·rcases aT j f with hj|hj
  ·rw[hout j (.inl hj)]at g1;rw[Hr (.inl hj)]at g2;rw[hρ_out j (.inl hj)];rcases BF g1 with⟨rfl,rfl,_⟩|⟨g3,g4⟩
   ·rcases BF g2 with⟨_,rfl,_⟩|⟨g5,_⟩
    ·refine⟨h0,hi,b0,cap,c1,c,c2,sp,e1,e2,?_,rfl,h4,h5,q3,r5 ρ' _ f λm h bv g6 g7=>⟨hρ_in m h g6,hin m bv g7⟩,q5⟩
     injection h1 with h6 h7 h8;exact Prod.ext h6 h8
    ·exact absurd rfl g5
   ·rcases BF g2 with⟨g5,_⟩|⟨_,g6⟩
    ·exact absurd g5 g3
    ·exact(hr.blk _ _ _ g4 g6).ext (.refl g) hx
  ·rcases aT j (f+t.no)with hj2|hj2
   ·obtain⟨m,rfl⟩:∃m,j=f+m:=⟨j-f,by omega⟩
    have hm:m<t.no:=by omega
    have g3:=hin m _ (aD (by rw[hol];exact hm));have g4:(setO own1 f ks)[f+m]? =some (ks[m]'(by rw[r1];exact hm)):=SM (aD _) (by rw[r1];simpa[own1,hlen]using hfl);rw[g3]at g1;injection g1 with g1;rw[g4]at g2;injection g2 with g2;have g5:=hρ_in m _ (aD (by rw[r2];exact hm));rw[g5,<-g1,<-g2];exact(r3 m _ _ _ (aD _) (aD _) (aD _)).2 _ _
   ·rw[hout j (.inr hj2)]at g1;rw[Hr (.inr (by rw[r1];exact hj2))]at g2;rw[hρ_out j (.inr hj2)];rcases BF g1 with⟨rfl,rfl,_⟩|⟨g3,g4⟩
    ·rcases BF g2 with⟨_,rfl,_⟩|⟨g5,_⟩
     ·refine⟨h0,hi,b0,cap,c1,c,c2,sp,e1,e2,?_,rfl,h4,h5,q3,r5 ρ' _ f λm h bv g6 g7=>⟨hρ_in m h g6,hin m bv g7⟩,q5⟩
      injection h1 with h6 h7 h8;exact Prod.ext h6 h8
     ·exact absurd rfl g5
    ·rcases BF g2 with⟨g5,_⟩|⟨_,g6⟩
     ·exact absurd g5 g3
     ·exact(hr.blk _ _ _ g4 g6).ext (.refl g) hx
def Cd.as:Cd->Nat
 | .a _=>1
 | .p c d=>c.as+d.as
 |_=>0
theorem SN:∀(t:TD),t.no<=t.cd.as
 | .c c=>bN _
 | .p a b=>Nat.add_le_add (SN a) (SN b)
 | .o _ _=>aW 1
def flatSl(P:Program)(t:TypeId):Bool:=flatOf P t&&(match P.underlying t with|some (.slice _)=>true|_=>false)
theorem Mw(h:flatSl P t=true):flatOf P t=true:=by unfold flatSl at h;rw[aO]at h;exact h.1
def tLoadT(P:Program)(sl:List (Nat×SV))(f:Nat)(t:TypeId)(x:Operand):Tr:=match evH sl x with
 |some (.v (.c (.eo b c i off)))=> .need b fun
  | .tree td et xs=>(match td.cd.same c with
   |some _=>(match td.leafAt (xs.getD i td.cd.dflt) off with
    |some l=>readB P t l.c l.x l.off
    |none=>(match td.ownAt off,flatSl P t with
     |some m,true=> .done ⟨vC (.own (f+m)),[(b,.treeX td et xs i (idsFrom f td.no))],openL td (xs.getD i td.cd.dflt)⟩
     |_,_=> .no))
   |none=> .no)
  | .treeX td _ xs i0 js=>(match td.cd.same c,td.ownAt off,flatSl P t with
   |some _,some m,true=>(match js[m]? with
    |some j=> .grd (aP i i0) (retT (vC (.own j)))
    |none=> .no)
   |_,_,_=> .no)
  |_=>tLoad P sl t x
 |_=>tLoad P sl t x
theorem KD:∀{t:TD}{off m:Nat},t.ownAt off=some m->m<t.no
 | .c c,off,m,h=>by cases h
 | .p a b,off,m,h=>by
  unfold TD.ownAt at h;show m<a.no+b.no;split at h
  ·have:=KD h;omega
  ·split at h
   ·rename_i m' hm;injection h with h;have:=KD hm;omega
   ·cases h
 | .o et a,off,m,h=>by have h:cond (aP off 0) (some 0) none=some m:=h;obtain⟨e,h⟩:=condS h;injection h with h;subst h;exact cG
theorem KE {js:List Nat} (hb:bl[b]? = some (.treeX td et xs i js)) (ex:evH sl x=some (.v (.c (.eo b td.cd i off)))) (hm:td.ownAt off=some m) (hfl:flatOf P t=true) (hj:js[m]? = some j) :
  EffH P n (.load t x) ty sl bl bl (vC (.own j)):=by
 refine .of_yld λg ρ own fr hr=>?_;obtain⟨w,h1,h2⟩:=Aa hr ex;obtain⟨_,a,ha,rfl,hlt⟩:=h2;obtain⟨k,hk,h0,h00,b0,cap,c1,c,c2,sp,e1,e2,q1,q2,q3,q4,q5,q6,q7⟩:=hr.own_at hb;obtain⟨j',v,r1,r2,r3⟩:=Fl q6 hm;rw[hj]at r1;injection r1 with r1;subst r1
 refine⟨v,r3,?_⟩
 rw[q1]at ha;injection ha with ha;subst ha;rw[AF,aS]at h1;subst q2;refine MJ h1 hk rfl hfl ?_;show((c1++(c++c2))++sp)[i*td.cd.n+off]? =some v;refine AbG ?_ r2;rw[Fm q5,aI,bV (by omega)]
theorem Ve(hf:∀b c i off m,evH sl x=some (.v (.c (.eo b c i off)))->flatSl P t=true->m<c.as->bl[f+m]? =some .hole)(h:Told f (tLoadT P sl f t x) bl bl' v):EffH P n (.load t x) ty sl bl bl' v:=by
 unfold tLoadT at h;split at h;case h_2=>exact Ok h
 rename_i b c i off ex;obtain⟨bv,hb,h⟩:=h;dsimp only at h;split at h
 ·rename_i td et xs;split at h;case h_2=>exact h.elim
  rename_i hs _;obtain⟨hs⟩:=hs;subst hs;split at h
  ·rename_i l hl;obtain⟨rfl,e⟩:=BQ (EO h);refine .of_yld λg ρ own fr hr=>?_;obtain⟨w,h1,h2⟩:=Aa hr ex;obtain⟨_,a,ha,rfl,hlt⟩:=h2;have hlt:=hlt _ _ hb rfl;obtain⟨k,hk,hrow⟩:=hr.own_at hb;have hrow:RowB td.isC (TRep g.b td) td.cd.n et (.slice (ρ b).1 xs.length (ρ b).2) k xs:=hrow;rcases hrow with⟨h0,⟨_,h3,_⟩|⟨b0,cap,cs,sp,e0,h3,h4,h5,h6,h7⟩⟩
   ·subst h3;cases hlt
   have hkb:∃kb:Bk,k=some kb/\kb.g=b0/\kb.cs=cs++sp:=by
    rcases h4 with h4|⟨_,_,h4⟩
    ·exact⟨_,h4,rfl,rfl⟩
    ·exact⟨_,h4,rfl,rfl⟩
   obtain⟨kb,rfl,h8,h9⟩:=hkb;injection h3 with h10 _ _;rw[ha]at h10;injection h10 with h10;subst h10;obtain⟨c1,c,c2,e1,ex',e2,q1,q2,q3,q4,q5⟩:=GK h5 hlt;subst q1;obtain⟨o0,h11,h12⟩:=KC q4 hl;have hc1:c1.length=i*td.cd.n:=by rw[Fm q3,aI,bV (by omega)]
   rw[AF,aS,h11,<-Nat.add_assoc]at h1;refine Oj (m:=l.c.n) h1 hk h8 e ?_ (l.c.cv_real h12)
   ·rw[h9];have hn:=l.c.ty.len h12;rw[Cd.ty_n,aI,aJ]at hn;have hp:=Cv l.c;rw[aG,cC,cY (by omega),aR,hc1,aQ,aG,bI (by omega),bH (by rw[aJ];omega)]
  ·split at h;case h_2=>exact h.elim
   rename_i m hm hfl;obtain⟨rfl,rfl⟩:=h;have hml:=KD hm;have hlen:(idsFrom f td.no)[m]? =some (f+m):=Jf hml;intro o a w Q K g ρ own fr h1 h2 hr hfr hs hk;obtain⟨w1,g1,g2⟩:=Aa hr ex;obtain⟨_,a1,ha,_,hlt⟩:=g2;have hlt:=hlt _ _ hb rfl;obtain⟨ρ',own',hs',hx,hr'⟩:=AbI hr hs hb hlt (by omega) λm' hm'=>hf b _ i off m' ex hfl (Nat.lt_of_lt_of_le hm' (SN td));have hb1:(setNew (bl.set b (.treeX td et xs i (idsFrom f td.no))) f (openL td (xs.getD i td.cd.dflt)))[b]? =some (.treeX td et xs i (idsFrom f td.no)):=by
    have hbf:b<f\/f+td.no<=b:=by
     rcases aT b f with h|h
     ·exact .inl h
     ·rcases aT b (f+td.no)with h'|h'
      ·have:=hf b _ i off (b-f) ex hfl (Nat.lt_of_lt_of_le (by omega) (SN td));rw[show f+(b-f)=b by omega,hb]at this;cases this
      ·exact .inr h'
    rw[CS (by rw[Ce];exact hbf),aH,if_pos rfl,if_pos (Am hb)]
   exact KE (P:=P) (n:=n) (ty:=ty) hb1 ex hm (Mw hfl) hlen o a w Q K g ρ' own' fr h1 h2 hr' hfr hs' λv g' ρ2 own2 w' e1 e2 e3 e4 e5=>hk v g' ρ2 own2 w' e1 (hx.trans e2) e3 e4 e5
 ·rename_i td et xs i0 js;split at h;case h_2=>exact h.elim
  rename_i hs m _ hm hfl;obtain⟨hs⟩:=hs;subst hs;split at h;case h_2=>exact h.elim
  rename_i j hj;obtain⟨he,h⟩:=h;obtain⟨h3,rfl⟩:=Al h;subst h3;have he:=aF he;subst he;exact KE hb ex hm (Mw hfl) hj
 ·exact Ok h
end
def tStoreT(P:Program)(sl:List (Nat×SV))(f:Nat)(t:TypeId)(x y:Operand):Tr:=match evH sl x,evH sl y with
 |some (.v (.c (.eo b c i off))),some (.v (.c (.own j)))=> .need b fun
  | .treeX td et xs i0 js=>(match td.cd.same c,td.ownAt off,fitsT P t 1 off td.cd.n with
   |some _,some m,true=> .grd (aP i i0) (.done ⟨.any,[(b,.treeX td et xs i0 (js.set m j))],[]⟩)
   |_,_,_=> .no)
  |_=>tStoreC P sl f t x y
 |_,_=>tStoreC P sl f t x y
section
theorem Dy{m:List α}{x:α}(h:i<l.length):(l++m).set i x=l.set i x++m:=by
 induction l generalizing i with
 |nil=>cases h
 |cons a l ih=>
  cases i with
  |zero=>rfl
  |succ i=>simp only[cD,cN,ih (by simpa using h)]
theorem Eg{m:List α}{x:α}:(l++m).set (l.length+i) x=l++m.set i x:=by
 induction l with
 |nil=>simp
 |cons a l ih=>simp only[cD,aN,show l.length+1+i=(l.length+i)+1 by omega,cN,ih]
theorem MW{j:Nat}{u:Value}(hu:RealC g ρ bl (.own j) u):∀{t:TD}{cs:List Value}{d:t.cd.den}{js:List Nat}{off m:Nat},TRepX g ρ bl t cs d js->t.ownAt off=some m->TRepX g ρ bl t (cs.set off u) d (js.set m j)
 | .c c,cs,d,js,off,m,h,hl=>by cases hl
 | .p a b,cs,d,js,off,m,⟨c1,c2,j1,j2,h1,h2,h3,h4⟩,hl=>by
  subst h1;subst h2;unfold TD.ownAt at hl;split at hl
  ·obtain⟨j',v,g1,g2,_⟩:=Fl h3 hl;exact⟨_,c2,_,j2,Dy (Am g2),Dy (Am g1),MW hu h3 hl,h4⟩
  ·rename_i hb;have hge:a.cd.n<=off:=by
    rcases aT off a.cd.n with h|h
    ·rw[RA h]at hb;cases hb
    ·exact h
   split at hl
   ·rename_i m' hm;injection hl with hl;subst hl;have e1:(c1++c2).set off u=c1++c2.set (off-a.cd.n) u:=by rw[<-Eg,Ew h3,Nat.add_sub_cancel' hge]
    have e2:(j1++j2).set (a.no+m') j=j1++j2.set m' j:=by rw[<-Eg,Fk h3]
    exact⟨c1,_,j1,_,e1,e2,h3,MW hu h4 hm⟩
   ·cases hl
 | .o et a,cs,d,js,off,m,⟨v,j',h1,h2,h3⟩,hl=>by have hl:cond (aP off 0) (some 0) none=some m:=hl;obtain⟨e,hl⟩:=condS hl;injection hl with hl;subst hl;have e:=aF e;subst e;exact⟨u,j,by rw[h1];rfl,by rw[h2];rfl,hu⟩
theorem RB(hf:∀rb c l r,evH sl y=some (.v (.c (.vw rb c l r)))->bl[f]? =some .hole)(h:Told f (tStoreT P sl f t x y) bl bl' v):EffH P n (.store t x y) ty sl bl bl' v:=by
 unfold tStoreT at h;split at h;case h_2=>exact Ky hf h
 rename_i b c i off j ex ey;obtain⟨bv,hb,h⟩:=h;dsimp only at h;split at h;case h_2=>exact Ky hf h
 rename_i td et xs i0 js;split at h;case h_2=>exact h.elim
 rename_i hs m _ hm hfit;obtain⟨hs⟩:=hs;subst hs;obtain⟨he,rfl,rfl⟩:=h;have he:=aF he;subst he;obtain⟨hz,hle⟩:=Hj hfit;intro o a w Q K g ρ own fr h1 h2 hr hf hs hk;obtain⟨vx,hx1,hx2⟩:=Aa hr ex;obtain⟨u,hy1,hy2⟩:=Aa hr ey;obtain⟨us,hc1,hc2⟩:=Da (l:=[.own j]) rfl hy2;have hus:us=[u]:=by have hc3:=(FQ (hy2:RealC g ρ bl (.own j) u)).2;rw[hc3]at hc1;have:=congrArg Array.toList hc1;simpa using this.symm
 subst hus;obtain⟨_,ad,ha,rfl,hlt⟩:=hx2;obtain⟨k,hko,h0,h00,b0,cap,c1,cx,c2,sp,e1,e2,q1,q2,q3,q4,q5,q6,q7⟩:=hr.own_at hb;subst q2;rw[q1]at ha;injection ha with ha;subst ha;rw[AF,aS]at hx1;obtain⟨j',v',r1,r2,_⟩:=Fl q6 hm;have hoff:=Am r2;have hc1l:c1.length=i*td.cd.n:=by rw[Fm q5,aI,bV (by omega)]
 have hset:setRow ((c1++(cx++c2))++sp) (i*td.cd.n+off) [u]=(c1++(cx.set off u++c2))++sp:=by show((c1++(cx++c2))++sp).set (i*td.cd.n+off) u=_;rw[<-hc1l,aG,Eg,Dy (by rw[aB];omega),Dy hoff,<-aG]
 refine Jn (P:=P) hx1 hy1 hko rfl hc1 (by simpa using hz) (Hi hc2) (by apply dC;show i*td.cd.n+off+1<=((c1++(cx++c2))++sp).length;rw[aB,aB,aB,hc1l];omega) hset o a w Q K h1 h2 hf hs λv g' own' w' hg hs' ⟨e3,e4⟩=>?_
 subst e3;subst e4;have hx:Ext ρ bl ρ (bl.set b (.treeX td et xs i (js.set m j))):=Ext.set_at hb rfl λm hm=>hm;have hrl:=hr.setB (g':=g) (bv1:= .treeX td et xs i (js.set m j)) (k:=some ⟨b0,.tr et (e1++e2),(c1++(cx.set off u++c2))++sp⟩) (.refl g) hb rfl (λm hm=>hm)
  ⟨h0,h00,b0,cap,c1,cx.set off u,c2,sp,e1,e2,q1,rfl,by rw[<-q3];simp[aB,aU],q4,q5,MW (RealC.ext (.refl g) hx hy2) (TRepX.ext (.refl g) hx q6) hm,q7⟩
 exact hk v g ρ _ w' (.refl g) hx hs' hrl trivial
end
def getT:List (TypeId×TD)->TypeId->Option TD
 | [],_=>none
 |(k,t)::l,e=>cond (aP k e) (some t) (getT l e)
def encT:(t:TD)->List CV->(t.cd.den->List CV->Tr)->Tr
 | .c c,l,K=>encC c l K
 | .p a b,l,K=>encT a l λx r=>encT b r λy r=>K (x,y) r
 | .o _ a,l,K=>headC l λx r=>match x with
  | .k (.slice none 0 0)=>K ([]:List a.cd.den) r
  |_=> .no
def EncT(bl:List BV):(t:TD)->List CV->t.cd.den->List CV->Prop
 | .c c,l,x,r=>EncD bl c l x r
 | .p a b,l,x,r=>∃m,EncT bl a l x.1 m/\EncT bl b m x.2 r
 | .o _ a,l,x,r=>l= .k (.slice none 0 0)::r/\x=([]:List a.cd.den)
theorem EncT.frz{a b:List BV}(h:FrzTo a b):∀(t:TD){l r:List CV}{x:t.cd.den},EncT a t l x r->EncT b t l x r
 | .c c,_,_,_,e=>EncD.frz h c e
 | .p c d,_,_,_,⟨m,h1,h2⟩=>⟨m,EncT.frz h c h1,EncT.frz h d h2⟩
 | .o _ _,_,_,_,e=>e
def encTN(t:TD):Nat->List CV->(List t.cd.den->Tr)->Tr
 |0,[],K=>K []
 |0,_::_,_=> .no
 |m+1,l,K=>encT t l λx r=>encTN t m r λxs=>K (x::xs)
def EncTN(bl:List BV)(t:TD):List CV->List t.cd.den->Prop
 |l,[]=>l=[]
 |l,x::xs=>∃m,EncT bl t l x m/\EncTN bl t m xs
theorem EncTN.frz{a b:List BV}(h:FrzTo a b){t:TD}:∀{xs:List t.cd.den}{l:List CV},EncTN a t l xs->EncTN b t l xs
 | [],_,e=>e
 |_::_,_,⟨m,h1,h2⟩=>⟨m,h1.frz h,h2.frz h⟩
section
theorem IB:∀(t:TD){l:List CV}{K:t.cd.den->List CV->Tr}{bl:List BV},Told f (encT t l K) bl bl' v->∃x r bl1,Told f (K x r) bl1 bl' v/\FrzTo bl bl1/\EncT bl1 t l x r
 | .c c,l,K,bl,h=>CM c h
 | .p a b,l,K,bl,h=>by obtain⟨x,r,bl1,h1,h2,h3⟩:=IB a h;obtain⟨y,q,bl2,h4,h5,h6⟩:=IB b h1;exact⟨(x,y),q,bl2,h4,h2.trans h5,r,h3.frz h5,h6⟩
 | .o et a,l,K,bl,h=>by
  obtain⟨x,r,rfl,h2⟩:=CL h;clear h;split at h2
  ·exact⟨[],r,bl,h2,.refl,rfl,rfl⟩
  ·exact h2.elim
theorem KF{t:TD}:∀{m:Nat}{l:List CV}{K:List t.cd.den->Tr}{bl:List BV},Told f (encTN t m l K) bl bl' v->∃xs bl1,Told f (K xs) bl1 bl' v/\FrzTo bl bl1/\EncTN bl1 t l xs/\xs.length=m
 |0,[],K,bl,h=>⟨[],bl,h,.refl,rfl,rfl⟩
 |0,_::_,K,bl,h=>h.elim
 |m+1,l,K,bl,h=>by unfold encTN at h;obtain⟨x,r,bl1,h2,h3,h4⟩:=IB t h;obtain⟨xs,bl2,h5,h6,h7,h8⟩:=KF h2;exact⟨x::xs,bl2,h5,h3.trans h6,⟨r,h4.frz h6,h7⟩,by rw[aN,h8]⟩
theorem EncT.real(hr:Rl g ρ ⟨sl,bl⟩ own fr):∀(t:TD){l r:List CV}{x:t.cd.den}{cs:List Value},EncT bl t l x r->AB (RealC g ρ bl) l cs->∃c1 c2,cs=c1++c2/\TRep g.b t c1 x []/\AB (RealC g ρ bl) r c2
 | .c c,l,r,x,cs,e,h=>by obtain⟨c1,c2,h1,h2,h3⟩:=EncD.real hr c e h;exact⟨c1,c2,h1,⟨h2,rfl⟩,h3⟩
 | .p a b,l,r,x,cs,⟨m,e1,e2⟩,h=>by obtain⟨c1,c2,rfl,h3,h4⟩:=EncT.real hr a e1 h;obtain⟨c3,c4,rfl,h5,h6⟩:=EncT.real hr b e2 h4;exact⟨c1++c3,c4,by rw[aG],⟨c1,c3,[],[],rfl,rfl,h3,h5⟩,h6⟩
 | .o et a,l,r,x,[],⟨e,_⟩,h=>by subst e;exact h.elim
 | .o et a,l,r,x,u::cs,⟨e,e2⟩,h=>by subst e;subst e2;obtain⟨⟨hv,_⟩,h2⟩:=h;exact⟨[u],cs,rfl,⟨u,none,rfl,⟨bN _,.inl ⟨hv,rfl,rfl⟩⟩,rfl⟩,h2⟩
theorem EncTN.real{t:TD}(hr:Rl g ρ ⟨sl,bl⟩ own fr):∀{xs:List t.cd.den}{l:List CV}{cs:List Value},EncTN bl t l xs->AB (RealC g ρ bl) l cs->RowE (TRep g.b t) cs xs []
 | [],l,cs,e,h=>by
  have e:l=[]:=e;subst e;cases cs with
  |nil=>exact⟨rfl,rfl⟩
  |cons _ _=>exact h.elim
 |x::xs,l,cs,⟨m,h1,h2⟩,h=>by obtain⟨c1,c2,e,h3,h4⟩:=h1.real hr t h;exact⟨c1,c2,[],[],e,rfl,h3,h2.real hr h4⟩
theorem St.remark{k2:Option Bk}(h:St w g own)(hi:own[i]? =some k)(e:(satOf k2).Perm (satOf k)):St w g (own.set i k2):=h.regroup (by have h1:=(Bl k2 hi).trans (e.append_right _);exact(cR _).1 h1)
def nilOw:TD->List CV->Option (List CV)
 | .c c,l=>some (l.drop c.n)
 | .p a b,l=>match nilOw a l with|some r=>nilOw b r|none=>none
 | .o _ _,x::r=>(match x with| .k (.slice none 0 0)=>some r|_=>none)
 | .o _ _,[]=>none
def nilOwN(t:TD):Nat->List CV->Bool
 |0,_=>true
 |m+1,l=>match nilOw t l with|some r=>nilOwN t m r|none=>false
def tLitT(P:Program)(sl:List (Nat×SV))(f:Nat)(t:TypeId)(len:Nat)(parts:List (Nat×Operand)):Tr:=match rowOf P t,partsH sl parts with
 |some (c,et,by_),some ps=>(match getT TDT et,rowH P t len ps with
  |some td,some l=>(match td.cd.same c,nilOwN td len l with
   |some _,true=>encTN td len l λxs=>cond (cT len 140737488355328&&cT 1 len) (.done ⟨vC (.own f),[],[.tree td et xs]⟩) .no
   |_,_=>tLitF P sl f t len parts)
  |_,_=>tLitF P sl f t len parts)
 |_,_=>tLitF P sl f t len parts
theorem Wv{len:Nat}(hf:bl[f]? =some .hole)(h:Told f (tLitT P sl f t len parts) bl bl' v):EffH P n (.buildSlice t len parts.toArray) ty sl bl bl' v:=by
 unfold tLitT at h;split at h;case h_2=>exact KA hf h
 rename_i c et by_ ps hrow hps;split at h;case h_2=>exact KA hf h
 rename_i td l htd hl;split at h;case h_2=>exact KA hf h
 rename_i hs _ _;obtain⟨hs⟩:=hs;subst hs;obtain⟨hu,happ,hcell,_⟩:=Db hrow;obtain⟨xs,bl1,h2,hfz,hen,hlen⟩:=KF h;obtain⟨hle,h2⟩:=condT h2;simp only[aO]at hle;have hle0:=aM hle.2;have hle:=aM hle.1;obtain⟨rfl,rfl⟩:=h2;refine EffH.frz hfz ?_;have hf:=hfz.hole hf;intro o a w Q K g ρ own fr e1 e2 hr hfr hs hk;obtain⟨pv,h3,h4⟩:=Df hr hps;obtain⟨cs,h5,h6⟩:=Iy hu hl h4;have hrow:=hen.real hr h6;refine EL pv cs (by simpa using h3) h5 o a w Q K e1 e2 hfr hs λv' g' own' w' hg hs' ⟨b,e3,e4,e5⟩=>?_;subst e3;subst e4;subst e5;have hno:=hr.hole_none hf;have hst0:St w' g (own.set f (some ⟨b,et,cs⟩)):=hs'.fill hno;have hlt:=Am hno;have hst:St w' g (own.set f (some ⟨b,.tr et [],cs⟩)):=by
  have:=St.remark (k2:=some ⟨b,.tr et [],cs⟩) (i:=f) (k:=some ⟨b,et,cs⟩) hst0 (by simp[aH,hlt]) (List.Perm.refl _)
  rwa [dP]at this
 have hB:RowB td.isC (TRep g.b td) td.cd.n et (.slice (some ⟨b,0,none⟩) xs.length len) (some ⟨b,.tr et [],cs⟩) xs:=by
  refine⟨by rw[hlen];exact hle,.inr ⟨b,len,cs,[],[],rfl,.inl (by rw[bU]),hrow,by rw[bU,Fm hrow,hlen],?_⟩⟩
  simp only[maxLen];omega
 have hx:Ext ρ bl1 (setρ ρ f (some ⟨b,0,none⟩,len)) (bl1.set f (.tree td et xs)):=Ext.set_hole hf;refine hk _ g (setρ ρ f (some ⟨b,0,none⟩,len)) _ w' (.refl g) hx hst (hr.lay (bv:= .tree td et xs) (k:=some ⟨b,.tr et [],cs⟩) (e:=(some ⟨b,0,none⟩,len)) (.refl g) hf hB) ⟨Bo (Am hf) rfl,_,by rw[Bn],λbv m e1 e2=>?_⟩;have e3:(bl1.set f (.tree td et xs))[f]? =some (.tree td et xs):=by simp[aH,Am hf]
 have e1:(bl1.set f (.tree td et xs))[f]? =some bv:=e1;rw[e3]at e1;injection e1 with e1;subst e1;have e2:some xs.length=some m:=e2;rw[hlen]at e2;exact Option.some.inj e2
end
def tIndexT(P:Program)(sl:List (Nat×SV))(t:TypeId)(x i:Operand):Tr:=match P.underlying t,evH sl x with
 |some (.slice e),some (.v (.c (.own b)))=> .need b fun
  | .tree td _ xs=>asI sl i λk z=>(match cellsOfT P e with
   |some m=>cond (aP m td.cd.n) (.grd (decide (0<=z/\z<(xs.length:Int))) (retT (vC (.eo b td.cd z.toNat 0)))) .no
   |none=> .no)
  | .treeX td _ xs _ _=>asI sl i λk z=>(match cellsOfT P e with
   |some m=>cond (aP m td.cd.n) (.grd (decide (0<=z/\z<(xs.length:Int))) (retT (vC (.eo b td.cd z.toNat 0)))) .no
   |none=> .no)
  |_=>tIndexF P sl t x i
 |some (.slice e),some (.v (.c (.vw b c l r)))=> .need b fun
  | .row d _ xs=>asI sl i λk z=>(match cellsOfT P e,d.same c with
   |some m,some _=>cond (aP m c.n) (.grd (decide (0<=z/\z<((r-l:Nat):Int))) (retT (vC (.eo b c (l+z.toNat) 0)))) .no
   |_,_=> .no)
  |_=> .no
 |_,_=>tIndexF P sl t x i
def chT(n:Nat)(h:0<n):Ty (List Value):=⟨n,h,λ_ cs x=>cs=x/\x.length=n/\x.all Ig=true,λh=>by rw[h.1,h.2.1],λh=>by rw[h.1];exact h.2.2,λ_ h=>h⟩
section
theorem RC{i:Operand}(h:Told f (tIndexT P sl t x i) bl bl' v):EffH P n (.indexAddr t x i) ty sl bl bl' v:=by
 unfold tIndexT at h;split at h;case h_3=>exact KB h
 case h_2=>
  rename_i e b c l r hu ex;obtain⟨bv,hb,h⟩:=h;dsimp only at h;split at h;case h_2=>exact h.elim
  rename_i d et xs;obtain⟨k,z,ei,h⟩:=BI h;split at h;case h_2=>exact h.elim
  rename_i m hs0 hm _;obtain⟨hs0⟩:=hs0;subst hs0;obtain⟨hmc,hg,h⟩:=condT h;obtain⟨rfl,rfl⟩:=Al h;have hmc:=aF hmc;subst hmc;obtain⟨hz,hlt⟩:=Il hg;refine .of_yld λg ρ own fr hr=>?_;obtain⟨vx,hx1,hkn,rfl,hl⟩:=Aa hr ex;obtain⟨vi',hi1,rfl,_⟩:=Aa hr ei;obtain⟨hl1,hl2⟩:=hl _ _ hb rfl;obtain⟨k0,hk,hB⟩:=hr.own_at hb;have hB:Buf g.b d.ty et (.slice (ρ b).1 xs.length (ρ b).2) k0 xs:=hB;have hlx:l+z.toNat<xs.length:=by omega
  obtain⟨kb,cs,e,_⟩:=Buf.open_ hB hlx d.dflt;have hcap:xs.length<=(ρ b).2:=by obtain⟨A1,c1,e1,e2⟩:=hB.val;injection e1 with _ _ e3;rw[e3];exact e2
  rw[hz]at hi1;refine⟨_,⟨hkn,_,e,by rw[bJ],λbv' m' e1 e2=>?_⟩,?_⟩
  ·rw[hb]at e1;injection e1 with e1;subst e1;injection e2 with e2;omega
  ·rw[e]at hx1;unfold offA at hx1;rw[if_neg (by omega)]at hx1;have hx1:evS fr x=some (.slice (some ((⟨kb.g,0,none⟩:Addr).add (l*d.n))) (r-l) ((ρ b).2-l)):=hx1;have:=GZ (P:=P) (n:=n) (ty:=ty) (p:=g.r) (own:=own) z.toNat hx1 hi1 hlt hu hm
   rwa [FM,<-cV]at this
 rename_i e b hu ex;obtain⟨bv,hb,h⟩:=h
 have key:∀ (c:Cd) (l:Nat) (k:IntKind) (z:Int) (ei:evH sl i=some (.v (.c (.int k z)))),bv.len=some l->(∀ g ρ own fr,Rl g ρ ⟨sl,bl⟩ own fr->z.toNat < l->∃ a,(ρ b).1=some a)->Told f (match cellsOfT P e with
   |some m=>cond (aP m c.n) (.grd (decide (0<=z/\z<(l:Int))) (retT (vC (.eo b c z.toNat 0)))) .no
   |none=> .no) bl bl' v->EffH P n (.indexAddr t x i) ty sl bl bl' v:=by
  intro c l k z ei hlen hA h;split at h;case h_2=>exact h.elim
  rename_i m hm;obtain⟨hmc,hg,h⟩:=condT h;obtain⟨rfl,rfl⟩:=Al h;have hmc:=aF hmc;subst hmc;obtain⟨hz,hlt⟩:=Il hg;refine .of_yld λg ρ own fr hr=>?_;obtain⟨vx,hx1,hkn,l',rfl,hl⟩:=Aa hr ex;obtain⟨vi',hi1,rfl,_⟩:=Aa hr ei;have hl:=hl _ _ hb hlen;subst hl;obtain⟨a,ha⟩:=hA g ρ own fr hr hlt;rw[hz]at hi1;refine⟨_,⟨hkn,a,ha,by rw[bJ],λbv' m' e1 e2=>?_⟩,?_⟩
  ·rw[hb]at e1;injection e1 with e1;subst e1;rw[hlen]at e2;injection e2 with e2;omega
  ·rw[ha]at hx1;exact GZ z.toNat hx1 hi1 hlt hu hm
 dsimp only at h;split at h
 ·rename_i td et xs;obtain⟨k,z,ei,h⟩:=BI h;refine key td.cd xs.length k z ei rfl (λg ρ own fr hr hlt=>?_) h;obtain⟨k0,hk,hB⟩:=hr.own_at hb;rcases(hB:RowB td.isC (TRep g.b td) td.cd.n et (.slice (ρ b).1 xs.length (ρ b).2) k0 xs)with⟨_,⟨_,h3,_⟩|⟨b0,cap,cs,sp,e0,h3,_⟩⟩
  ·subst h3;cases hlt
  ·injection h3 with h3 _ _;exact⟨_,h3⟩
 ·rename_i td et xs i0 js;obtain⟨k,z,ei,h⟩:=BI h;refine key td.cd xs.length k z ei rfl (λg ρ own fr hr hlt=>?_) h;obtain⟨k0,hk,h0,h00,b0,cap,c1,cx,c2,sp,e1,e2,q1,_⟩:=hr.own_at hb;rw[q1];exact⟨_,rfl⟩
 ·exact KB h
theorem KG:∀{t:TD}{cs:List Value}{d:t.cd.den}{e:List (Nat×Obj)},TRep p t cs d e->cs.all Ig=true
 | .c c,cs,d,e,h=>c.ty.one h.1
 | .p a b,cs,d,e,⟨c1,c2,e1,e2,h1,h2,h3,h4⟩=>by subst h1;rw[List.all_append,KG h3,KG h4];rfl
 | .o et a,cs,d,e,⟨v,k,h1,h2,_⟩=>by subst h1;rcases h2 with⟨_,⟨h,_⟩|⟨_,_,_,_,_,h,_⟩⟩<;>subst h<;>rfl
theorem OR{t:TD}:∀{xs ys:List t.cd.den}{c1 c2:List Value}{e1 e2:List (Nat×Obj)},RowE (TRep p t) c1 xs e1->RowE (TRep p t) c2 ys e2->RowE (TRep p t) (c1++c2) (xs++ys) (e1++e2)
 | [],ys,c1,c2,e1,e2,h1,h2=>by obtain⟨rfl,rfl⟩:=h1;exact h2
 |x::xs,ys,c1,c2,e1,e2,⟨d1,d2,f1,f2,r1,r2,r3,r4⟩,h2=>by subst r1;subst r2;exact⟨d1,d2++c2,f1,f2++e2,by rw[aG],by rw[aG],r3,OR r4 h2⟩
theorem SO{t:TD}{q:Psi}:∀{xs:List t.cd.den}{cs:List Value}{e:List (Nat×Obj)},RowE (TRep p t) cs xs e->∃chs:List (List Value),chs.length=xs.length/\Reps (chT t.cd.n (Cv _)) q cs chs
 | [],cs,e,h=>⟨[],rfl,h.1⟩
 |x::xs,cs,e,⟨c1,c2,e1,e2,h1,h2,h3,h4⟩=>by obtain⟨chs,g1,g2⟩:=SO (q:=q) h4;exact⟨c1::chs,by rw[aN,aN,g1],c1,c2,h1,⟨rfl,Fj h3,KG h3⟩,g2⟩
theorem Jp{m:Nat}{h:0<m}{q:Psi}:∀{chs:List (List Value)}{cs:List Value},Reps (chT m h) q cs chs->cs=chs.flatten
 | [],cs,h=>h
 |c::chs,cs,⟨c1,c2,h1,h2,h3⟩=>by have h2:c1=c/\_:=h2;rw[h1,h2.1,Jp h3];rfl
theorem St.drop(h:St w g own)(hi:own[i]? =some k):St w g (own.set i none):=by have h1:(allO own).Perm (satOf k++allO (own.set i none)):=(Bl none hi).symm;obtain⟨h2,h3⟩:=h.all;have h4:=(h1.map (·.1)).nodup_iff.1 h2;rw[List.map_append]at h4;exact .of_all h.r (List.nodup_append.1 h4).2.1 λp hp=>h3 p (h1.mem_iff.2 (dG _ hp))
def tAppT(P:Program)(sl:List (Nat×SV))(f:Nat)(t t':TypeId)(s x:Operand):Tr:=match evH sl s,evH sl x,rowOf P t,aP t t' with
 |some (.v (.c (.own b))),some (.v (.c (.own b2))),some (c,et,bytes),true=> .need b fun
  | .tree td et1 xs=>(match td.cd.same c,aP et1 et&&(!aP b b2&&!td.isC)with
   |some _,true=> .need b2 fun
    | .tree td2 et2 ys=>(match td2.same td,aP et2 et with
     |some h,true=> .grd (decide (0<ys.length/\(xs.length+ys.length)*bytes<=140737488355328)) (.done ⟨vC (.own f),[(b,.no),(b2,.no)],[.tree td et (xs++(h.down▸ys:List td.cd.den))]⟩)
     |_,_=> .no)
    |_=> .no
   |_,_=> .no)
  |_=>tApp P sl f t t' s x
 |some (.v (.c (.k (.slice none 0 0)))),some (.v (.c (.own b2))),some (c,et,bytes),true=> .need b2 fun
  | .tree td et2 ys=>(match td.cd.same c,aP et2 et&&!td.isC with
   |some _,true=> .grd (decide (0<ys.length/\ys.length*bytes<=140737488355328)) (.done ⟨vC (.own f),[(b2,.no)],[.tree td et ys]⟩)
   |_,_=> .no)
  |_=>tApp P sl f t t' s x
 |_,_,_,_=>tApp P sl f t t' s x
theorem IC{v:Value}(h:RowB false (TRep p td) td.cd.n et v k xs):∃(k0:Option Bk)(cs:List Value)(e:List (Nat×Obj))(chs:List (List Value)),satOf k=satOf k0++e/\(k0=none->k=none)/\(∀kb,k0=some kb->k=some ⟨kb.g,.tr et e,kb.cs⟩/\kb.t= .ty et)/\RowE (TRep p td) cs xs e/\chs.length=xs.length/\Reps (chT td.cd.n (Cv _)) q cs chs/\Jl q (chT td.cd.n (Cv _)) et v k0 chs/\∀kb,k0=some kb->∀(j:Nat)(u:Value),cs[j]? =some u->kb.cs[j]? =some u:=by
 rcases h with⟨h0,⟨h1,h2,h3⟩|⟨b,cap,cs,sp,e,h1,h2|⟨h2,_⟩,h3,h4,h5⟩⟩
 ·subst h2;subst h3;exact⟨none,[],[],[],rfl,λ_=>rfl,λkb e=>(by cases e),⟨rfl,rfl⟩,rfl,rfl,⟨bN _,.inl ⟨h1,rfl,rfl⟩⟩,λkb e=>(by cases e)⟩
 ·subst h2;obtain⟨chs,g1,g2⟩:=SO (q:=q) h3;refine⟨some ⟨b,.ty et,cs++sp⟩,cs,e,chs,rfl,(λe=>by cases e),λkb hk=>by injection hk with hk;subst hk;exact⟨rfl,rfl⟩,h3,g1,g2,⟨by rw[g1];exact h0,.inr ⟨b,cap,cs,sp,by rw[g1];exact h1,rfl,g2,h4,h5⟩⟩,λkb hk j u hj=>?_⟩
  injection hk with hk;subst hk;show(cs++sp)[j]? =some u;rw[aE (Am hj)];exact hj
 ·cases h2
theorem KH {c:Nat} {ys:List td.cd.den} {e1:List (Nat×Obj)} {ch1 ch2:List (List Value)} (hm:m=(xs++ys).length) (hpos:0 < ys.length) (h:Jl q (chT td.cd.n (Cv _)) et (.slice A m c) k (ch1++ch2))
  (hx:RowE (TRep p td) c1 xs e1) (hy:RowE (TRep p td) c2 ys e2) (hcx:ch1.length=xs.length) (hcy:ch2.length=ys.length) (h1:Reps (chT td.cd.n (Cv _)) q c1 ch1) (h2:Reps (chT td.cd.n (Cv _)) q c2 ch2):
  ∃b l,k=some ⟨b,.ty et,l⟩/\RowB td.isC (TRep p td) td.cd.n et (.slice A m c) (some ⟨b,.tr et (e1++e2),l⟩) (xs++ys):=by
 rcases h with⟨h0,⟨_,h3,_⟩|⟨b,cap,cs,sp,h3,h4,h5,h6,h7⟩⟩
 ·have:=congrArg bO h3;rw[aB]at this;have:ch1.length+ch2.length=0:=this;omega
 ·refine⟨b,cs++sp,h4,?_⟩
  have e:cs=c1++c2:=by rw[Jp h5,List.flatten_append,<-Jp h1,<-Jp h2]
  subst e;have hl:(ch1++ch2).length=(xs++ys).length:=by rw[aB,aB,hcx,hcy]
  injection h3 with h8 h9 h10;subst h8;subst h10;subst hm;exact⟨by rw[<-hl];exact h0,.inr ⟨b,c,_,sp,_,rfl,.inl rfl,OR hx hy,h6,h7⟩⟩
theorem St.sub{own':Own}{X:List (Nat×Obj)}(h:St w g own)(h1:(allO own).Perm (X++allO own')):St w g own':=by obtain⟨h2,h3⟩:=h.all;have h4:=(h1.map (·.1)).nodup_iff.1 h2;rw[List.map_append]at h4;exact .of_all h.r (List.nodup_append.1 h4).2.1 λp hp=>h3 p (h1.mem_iff.2 (dG _ hp))
theorem Ww{k1 k0:Option Bk}{e1:List (Nat×Obj)}(h:St w g own)(hne:b≠b2)(hb:own[b]? =some k1)(hb2:own[b2]? =some (some ⟨g2,.tr et2 e2,l2⟩))(he:satOf k1=satOf k0++e1):St w g ((own.set b k0).set b2 (some ⟨g2,.tr et2 (e2++e1),l2⟩)):=
 h.two hne hb hb2 (by rw[he];show(satOf k0++((g2,_)::(e2++e1))).Perm ((satOf k0++e1)++((g2,_)::e2));rw[aG];refine List.Perm.append_left _ ?_;exact(List.Perm.cons _ dE).trans (List.perm_middle.symm))
theorem Vf {g1:Nat} {l1:List Value} {e1:List (Nat×Obj)} (h:St w g own) (hne:b≠b2) (hbf:b≠f) (hbf2:b2≠f) (hb:own[b]? = some (some ⟨g1,.ty et,l1⟩)) (hb2:own[b2]? = some (some ⟨g2,.tr et2 (e2++e1),l2⟩)) (hf:own[f]? = some none) :
  St w g (((own.set b none).set b2 none).set f (some ⟨g1,.tr et (e1++e2),l1⟩)):=by
 have h1:=(Bl none hb).symm;have hb2':(own.set b none)[b2]? =some (some ⟨g2,.tr et2 (e2++e1),l2⟩):=by rw[AK hne];exact hb2
 have h2:=(Bl none hb2').symm;have hf':((own.set b none).set b2 none)[f]? =some none:=by rw[AK hbf2,AK hbf];exact hf
 have h3:=Bl (some ⟨g1,.tr et (e1++e2),l1⟩) hf';refine h.sub (X:=[(g2,Bk.obj ⟨g2,.tr et2 (e2++e1),l2⟩)]) ?_;have h4:=h1.trans (h2.append_left _);refine h4.trans ?_;refine List.Perm.trans ?_ (List.Perm.append_left _ h3.symm);show((g1,_)::((g2,_)::(e2++e1)++_)).Perm ((g2,_)::((g1,_)::(e1++e2)++_));exact(List.Perm.swap _ _ _).trans (List.Perm.cons _ (List.Perm.cons _ (List.perm_append_comm.append_right _)))
theorem RD {g1:Nat} {l1:List Value} (h:St w g own) (hbf2:b2≠f) (hb2:own[b2]? = some (some ⟨g2,.tr et2 e2,l2⟩)) (hf:own[f]? = some (some ⟨g1,.ty et,l1⟩)) :
  St w g ((own.set b2 none).set f (some ⟨g1,.tr et e2,l1⟩)):=by
 have h1:=(Bl none hb2).symm;have hf':(own.set b2 none)[f]? =some (some ⟨g1,.ty et,l1⟩):=by rw[AK hbf2];exact hf
 have h3:=Bl (some ⟨g1,.tr et e2,l1⟩) hf';have h4:(allO ((own.set b2 none).set f (some ⟨g1,.tr et e2,l1⟩))).Perm (e2++allO (own.set b2 none)):=(List.perm_cons _).1 h3;refine h.sub (X:=[(g2,Bk.obj ⟨g2,.tr et2 e2,l2⟩)]) (h1.trans ?_);exact List.Perm.cons _ h4.symm
theorem Wx {t':TypeId} (hf:bl[f]? = some .hole) (h:Told f (tAppT P sl f t t' s x) bl bl' v) :
  EffH P n (.call { callee:= .builtin .append,args:=#[s,x],argTypes:=#[t,t'] }) ty sl bl bl' v:=by
 unfold tAppT at h;split at h
 ·rename_i b b2 c et bytes es ex hrow htt;have htt:=aF htt;subst htt;obtain⟨hu,happ,_,hby⟩:=Db hrow;obtain⟨bv,hb,h⟩:=h;dsimp only at h;split at h;case h_2=>exact MM hf h
  rename_i td et1 xs;split at h;case h_2=>exact h.elim
  rename_i hs0 _ he;obtain⟨hs0⟩:=hs0;subst hs0;simp only[aO,cS]at he;obtain⟨he1,hne,hnc⟩:=he;have he1:=aF he1;subst he1;have hne:b≠b2:=λe=>by subst e;simp at hne
  obtain⟨bv2,hb2,h⟩:=h;dsimp only at h;split at h;case h_2=>exact h.elim
  rename_i td2 et2 ys;split at h;case h_2=>exact h.elim
  rename_i hs2 _ he2;obtain⟨hs2⟩:=hs2;subst hs2;have he2:=aF he2;subst he2;obtain⟨hg,rfl,rfl⟩:=h;obtain⟨hpos,hg⟩:=of_decide_eq_true hg;have hpos:0<ys.length:=hpos;have hg:(xs.length+ys.length)*bytes<=140737488355328:=hg;have hbf:b≠f:=λe=>by subst e;rw[hf]at hb;injection hb with hb;cases hb
  have hbf2:b2≠f:=λe=>by subst e;rw[hf]at hb2;injection hb2 with hb2;cases hb2
  intro o a w Q K g ρ own fr h1 h2 hr hfr hs hk;obtain⟨vs',hs1,hkn,l,rfl,hl⟩:=Aa hr es;have hl:=hl _ _ hb rfl;subst hl;obtain⟨vx',hx1,hkn2,l,rfl,hl⟩:=Aa hr ex;have hl:=hl _ _ hb2 rfl;subst hl;obtain⟨k1,hk1,hB1⟩:=hr.own_at hb;obtain⟨k2,hk2,hB2⟩:=hr.own_at hb2;have hB1:RowB td2.isC (TRep g.b td2) td2.cd.n et2 (.slice (ρ b).1 xs.length (ρ b).2) k1 xs:=hB1;have hB2:RowB td2.isC (TRep g.b td2) td2.cd.n et2 (.slice (ρ b2).1 ys.length (ρ b2).2) k2 ys:=hB2;rw[hnc]at hB1 hB2;obtain⟨k10,c1,e1,ch1,a1,a2,a3,a4,a5,a6,a7,_⟩:=IC (q:=g.b) hB1;obtain⟨k20,c2,e2,ch2,b1,b2',b3,b4,b5,b6,b7,b8⟩:=IC (q:=g.b) hB2;have hA2:∃kb,k20=some kb/\(ρ b2).1=some ⟨kb.g,0,none⟩:=by
   rcases b7 with⟨_,⟨_,h3,_⟩|⟨q,cap,cs,sp,h3,h4,_⟩⟩
   ·have:=congrArg bO h3;rw[b5]at this;have:ys.length=0:=this;omega
   ·injection h3 with h3 _ _;exact⟨_,h4,h3⟩
  obtain⟨kb2,rfl,hA2⟩:=hA2;obtain⟨b9,b10⟩:=b3 kb2 rfl;subst b9;have hs2:=Ww (k0:=k10) hs hne hk1 hk2 a1;have hi1:((own.set b k10).set b2 (some ⟨kb2.g,.tr et2 (e2++e1),kb2.cs⟩))[b]? =some k10:=by rw[AK (λe=>hne e.symm),aH,if_pos rfl,if_pos (Am hk1)]
  have hi2:((own.set b k10).set b2 (some ⟨kb2.g,.tr et2 (e2++e1),kb2.cs⟩))[b2]? =some (some ⟨kb2.g,.tr et2 (e2++e1),kb2.cs⟩):=by rw[aH,if_pos rfl,if_pos (by rw[aU];exact Am hk2)]
  have hcn:appT P t et2=some ((chT td2.cd.n (Cv _)).n,bytes):=by rw[happ,Cd.ty_n];rfl
  refine LX (T:=chT td2.cd.n (Cv _)) (xs:=ch1) (ys:=ch2) b g.b c2 hcn hs1 hx1 hi1 a7 b5.symm (λw' hw'=>by rw[hA2];exact Su hi2 (λj u hj=>b8 kb2 rfl j u hj) w' hw') b6 (by rw[a5,b5];exact Ct hby hg) (by rw[a5,b5];exact hg) o a w Q K h1 h2 hfr hs2 λv g' own' w' hle hs' ⟨A',c',k',q1,q2,q3,q4⟩=>?_
  subst q1;subst q2;subst q3;have hlen:(ch1++ch2).length=(xs++ys).length:=by rw[aB,aB,a5,b5]
  obtain⟨g1,l1,rfl,hB⟩:=KH hlen hpos q4 a4 b4 a5 b5 a6 b6;have hno:=hr.hole_none hf;have hlb:=Am hk1;have hlb2:=Am hk2;have hlf:=Am hno;have hst:=Vf (f:=f) (e1:=e1) (e2:=e2) hs' hne hbf hbf2 (by
   rw[aH,if_pos rfl,if_pos (by simpa using hlb)]) (by
   rw[AK hne];exact hi2) (by
   rw[AK hbf,AK hbf2,AK hbf];exact hno)
  have hown:(((((own.set b k10).set b2 (some ⟨kb2.g,.tr et2 (e2++e1),kb2.cs⟩)).set b (some ⟨g1,.ty et2,l1⟩)).set b none).set b2 none).set f (some ⟨g1,.tr et2 (e1++e2),l1⟩)=((own.set b none).set b2 none).set f (some ⟨g1,.tr et2 (e1++e2),l1⟩):=by
   apply cU;intro j;simp only[aH,aU];by_cases j1:f=j
   ·simp[j1]
   ·simp only[if_neg j1];by_cases j2:b2=j
    ·simp[j2]
    ·simp only[if_neg j2];by_cases j3:b=j
     ·simp[j3]
     ·simp only[if_neg j3]
  rw[hown]at hst;have hx:Ext ρ bl ρ (bl.set b .no):=Ext.set_at hb rfl λm hm=>by cases hm
  have hr1:=hr.setB (g':=g) (bv1:= .no) (k:=none) (.refl g) hb rfl (λm hm=>by cases hm) rfl;have hb2':(bl.set b .no)[b2]? =some (.tree td2 et2 ys):=by rw[AK hne];exact hb2
  have hx2:Ext ρ (bl.set b .no) ρ ((bl.set b .no).set b2 .no):=Ext.set_at hb2' rfl λm hm=>by cases hm
  have hr2:=hr1.setB (g':=g) (bv1:= .no) (k:=none) (.refl g) hb2' rfl (λm hm=>by cases hm) rfl;have hf1:((bl.set b .no).set b2 .no)[f]? =some .hole:=by rw[AK hbf2,AK hbf];exact hf
  have hx1':Ext ρ ((bl.set b .no).set b2 .no) (setρ ρ f (A',c')) (((bl.set b .no).set b2 .no).set f (.tree td2 et2 (xs++ys))):=Ext.set_hole hf1;rw[hlen]at hB;have hr3:=hr2.lay (g':=g) (bv:= .tree td2 et2 (xs++ys)) (k:=some ⟨g1,.tr et2 (e1++e2),l1⟩) (e:=(A',c')) (.refl g) hf1 hB;refine hk _ g (setρ ρ f (A',c')) _ w' (.refl g) ((hx.trans hx2).trans hx1') hst hr3 ⟨Bo (Am hf1) rfl,_,by rw[Bn],λbv m e1 e2=>?_⟩;have e3:(((bl.set b .no).set b2 .no).set f (.tree td2 et2 (xs++ys)))[f]? =some (.tree td2 et2 (xs++ys)):=by simp[aH,Am hf]
  have e1:(((bl.set b .no).set b2 .no).set f (.tree td2 et2 (xs++ys)))[f]? =some bv:=e1;rw[e3]at e1;injection e1 with e1;subst e1;rw[hlen];exact Option.some.inj e2
 ·rename_i b2 c et bytes es ex hrow htt;have htt:=aF htt;subst htt;obtain⟨hu,happ,_,hby⟩:=Db hrow;obtain⟨bv2,hb2,h⟩:=h;dsimp only at h;split at h;case h_2=>exact MM hf h
  rename_i td et2 ys;split at h;case h_2=>exact h.elim
  rename_i hs0 _ he;obtain⟨hs0⟩:=hs0;subst hs0;simp only[aO,cS]at he;obtain⟨he2,hnc⟩:=he;have he2:=aF he2;subst he2;obtain⟨hg,rfl,rfl⟩:=h;obtain⟨hpos,hg⟩:=of_decide_eq_true hg;have hbf2:b2≠f:=λe=>by subst e;rw[hf]at hb2;injection hb2 with hb2;cases hb2
  intro o a w Q K g ρ own fr h1 h2 hr hfr hs hk;obtain⟨vs',hs1,rfl,_⟩:=Aa hr es;obtain⟨vx',hx1,hkn2,l,rfl,hl⟩:=Aa hr ex;have hl:=hl _ _ hb2 rfl;subst hl;obtain⟨k2,hk2,hB2⟩:=hr.own_at hb2;have hB2:RowB td.isC (TRep g.b td) td.cd.n et2 (.slice (ρ b2).1 ys.length (ρ b2).2) k2 ys:=hB2;rw[hnc]at hB2;obtain⟨k20,c2,e2,ch2,b1,b2',b3,b4,b5,b6,b7,b8⟩:=IC (q:=g.b) hB2;have hA2:∃kb,k20=some kb/\(ρ b2).1=some ⟨kb.g,0,none⟩:=by
   rcases b7 with⟨_,⟨_,h3,_⟩|⟨q,cap,cs,sp,h3,h4,_⟩⟩
   ·have:=congrArg bO h3;rw[b5]at this;have:ys.length=0:=this;omega
   ·injection h3 with h3 _ _;exact⟨_,h4,h3⟩
  obtain⟨kb2,rfl,hA2⟩:=hA2;obtain⟨b9,b10⟩:=b3 kb2 rfl;subst b9;have hno:=hr.hole_none hf;have hcn:appT P t et2=some ((chT td.cd.n (Cv _)).n,bytes):=by rw[happ,Cd.ty_n];rfl
  have hbuf0:Jl g.b (chT td.cd.n (Cv _)) et2 (.slice none 0 0) none ([]:List (List Value)):=⟨bN _,.inl ⟨rfl,rfl,rfl⟩⟩
  refine LX (T:=chT td.cd.n (Cv _)) (xs:=[]) (ys:=ch2) f g.b c2 hcn hs1 hx1 hno hbuf0 b5.symm (λw' hw'=>by rw[hA2];exact Su hk2 (λj u hj=>b8 kb2 rfl j u hj) w' hw') b6 (by rw[b5];simpa using Ct hby hg) (by rw[b5];simpa using hg) o a w Q K h1 h2 hfr hs λv g' own' w' hle hs' ⟨A',c',k',q1,q2,q3,q4⟩=>?_
  subst q1;subst q2;subst q3;have hlen:([]++ch2).length=([]++ys:List td.cd.den).length:=by rw[aR,aR,b5]
  obtain⟨g1,l1,rfl,hB⟩:=KH (xs:=[]) (c1:=[]) (e1:=[]) (ch1:=[]) hlen hpos q4 ⟨rfl,rfl⟩ b4 rfl b5 rfl b6;have hlf:=Am hno;have hst:=RD (f:=f) hs' hbf2 (by rw[AK (λe=>hbf2 e.symm)];exact hk2) (by rw[aH,if_pos rfl,if_pos hlf]);have hown:((own.set f (some ⟨g1,.ty et2,l1⟩)).set b2 none).set f (some ⟨g1,.tr et2 e2,l1⟩)=(own.set b2 none).set f (some ⟨g1,.tr et2 e2,l1⟩):=by
   apply cU;intro j;simp only[aH,aU];by_cases j1:f=j
   ·simp[j1]
   ·simp only[if_neg j1]
  rw[hown]at hst;have hx:Ext ρ bl ρ (bl.set b2 .no):=Ext.set_at hb2 rfl λm hm=>by cases hm
  have hr1:=hr.setB (g':=g) (bv1:= .no) (k:=none) (.refl g) hb2 rfl (λm hm=>by cases hm) rfl;have hf1:(bl.set b2 .no)[f]? =some .hole:=by rw[AK hbf2];exact hf
  have hx1':Ext ρ (bl.set b2 .no) (setρ ρ f (A',c')) ((bl.set b2 .no).set f (.tree td et2 ys)):=Ext.set_hole hf1;rw[hlen]at hB;have hr3:=hr1.lay (g':=g) (bv:= .tree td et2 ys) (k:=some ⟨g1,.tr et2 e2,l1⟩) (e:=(A',c')) (.refl g) hf1 hB;refine hk _ g (setρ ρ f (A',c')) _ w' (.refl g) (hx.trans hx1') hst hr3 ⟨Bo (Am hf1) rfl,_,by rw[Bn],λbv m e1 e2=>?_⟩;have e3:((bl.set b2 .no).set f (.tree td et2 ys))[f]? =some (.tree td et2 ys):=by simp[aH,Am hf]
  have e1:((bl.set b2 .no).set f (.tree td et2 ys))[f]? =some bv:=e1;rw[e3]at e1;injection e1 with e1;subst e1;rw[hlen];exact Option.some.inj e2
 ·exact MM hf h
end
def mxNew(S:FSp):List Sch->Nat
 | []=>0
 |s::l=>Nat.max (s.bl.length-S.ps.bl.length) (mxNew S l)
def mxL:List FSp->Nat
 | []=>0
 |S::l=>Nat.max (mxNew S S.rs) (mxL l)
def stepM(P:Program)(tbl:FuncId->List FSp)(sl:List (Nat×SV)):Op->Nat
 | .alloc _=>1
 | .box _ _=>1
 | .buildSlice _ _ _=>1
 | .makeSlice _ _ _=>1
 | .makeMap _ _=>1
 | .convert _ d x=>match P.underlying d,evH sl x with|some (.slice _),some (.v (.c (.str _)))=>1|_,_=>0
 | .load t x=>match flatSl P t,evH sl x with|true,some (.v (.c (.eo _ c _ _)))=>c.as|_,_=>0
 | .store _ _ y=>match evH sl y with|some (.v (.c (.vw _ _ _ _)))=>1|_=>0
 | .call c=>match c.callee with
  | .builtin .append=>1
  | .value x=>(match evH sl x with
   |some (.v (.c (.bnd f _)))=>mxL (tbl f)
   |some (.v (.c fv))=>(match fnOf fv with|some (f,_)=>mxL (tbl f)|none=>0)
   |_=>0)
  |_=>0
 |_=>0
def isView(sl:List (Nat×SV))(s:Operand):Bool:=match evH sl s with
 |some (.v (.c (.vw _ _ l _)))=>cT 1 l
 |_=>false
def stepC(P:Program)(tbl:FuncId->List FSp)(sl:List (Nat×SV))(f m:Nat)(cl:Callee)(args:List Operand)(ats:List TypeId):Tr:=match cl with
 | .value x=>tCall P tbl sl f m x args
 | .invoke _ _=> .no
 | .builtin b=>(match b,args,ats with
  | .append,[s,x],[t,t']=>(match P.underlying t' with|some (.int _)=>tAppZ P sl f t t' s x|some .string=>tAppS P sl f t t' s x|_=>(match isView sl s with|true=>tAppV P sl t t' s x|false=>tAppT P sl f t t' s x))
  | .len,[x],[t]=>tLenF P sl t x
  |b,[x,y],_=>tMM b sl x y
  |_,_,_=> .no)
def stepH(P:Program)(tbl:FuncId->List FSp)(sl:List (Nat×SV))(f:Nat)(op:Op)(ty:TypeId):Tr:=match op with
 | .move x=>tMove sl x
 | .assign x=>tMove sl x
 | .pick c x y=>tPick sl c x y
 | .alloc t=>tAlloc P f t
 | .box t x=>tBox sl f t x
 | .build t parts=>tBuild P sl t parts.toList
 | .buildSlice t len parts=>tLitT P sl f t len parts.toList
 | .load t x=>tLoadT P sl f t x
 | .store t x y=>tStoreT P sl f t x y
 | .nilCheck x=>tNil sl x
 | .binOp op t x y _=>tBin P sl op t x y
 | .unOp op _ x=>tUn sl op x
 | .convert s d x=>tBytes P sl f s d x
 | .makeFunc fn first captured=>tFn sl fn first.toList captured.toList
 | .makeMap t r=>tMakeMap P f t r
 | .mapUpdate t m k v=>tMapUpd P sl t m k v
 | .insert t m k v=>tMapUpd P sl t m k v
 | .lookup t m k ok=>tLkp P sl t m k ok
 | .makeSlice t x y=>tMake P sl f t x y
 | .slice t x lo hi none=>tSlice P sl t x lo hi
 | .fieldAddr t x i=>tFieldA P sl t x i
 | .field t x i=>tField P sl t x i
 | .indexAddr t x i=>tIndexT P sl t x i
 | .index t x i=>tIndex P sl t x i
 | .extract x i=>tExtract sl x i
 | .call c=>stepC P tbl sl f (stepM P tbl sl op) c.callee c.args.toList c.argTypes.toList
 |_=> .no
section
theorem Wy(hT:∀f S,S∈tbl f->FOk P f S){c:Call}(hf:∀i,i<stepM P tbl sl (.call c)->bl[f+i]? =some .hole)(h:Told f (stepC P tbl sl f (stepM P tbl sl (.call c)) c.callee c.args.toList c.argTypes.toList) bl bl' v):EffH P n (.call c) ty sl bl bl' v:=by
 obtain⟨cl,args,ats⟩:=c;cases cl with
 |value x=>
  have:=Wm (n:=n) (ty:=ty) (ats:=ats) hT hf h;simpa using this
 |invoke x name=>
  exact h.elim
 |builtin b=>
  simp only[stepC]at h;split at h
  ·rename_i s x t t' ha ht;have ha:args=#[s,x]:=by rw[<-aV (xs:=args),ha]
   have ht:ats=#[t,t']:=by rw[<-aV (xs:=ats),ht]
   subst ha;subst ht;split at h
   ·exact Wr (by have:=hf 0 (by simp[stepM]);simpa using this) h
   ·exact Wt (by have:=hf 0 (by simp[stepM]);simpa using this) h
   ·split at h
    ·exact Ws h
    ·exact Wx (by have:=hf 0 (by simp[stepM]);simpa using this) h
  ·rename_i x t ha ht;have ha:args=#[x]:=by rw[<-aV (xs:=args),ha]
   have ht:ats=#[t]:=by rw[<-aV (xs:=ats),ht]
   subst ha;subst ht;exact Wu h
  ·rename_i x y ha _;have ha:args=#[x,y]:=by rw[<-aV (xs:=args),ha]
   subst ha;exact Aej h
  ·exact h.elim
theorem Wz(hT:∀f S,S∈tbl f->FOk P f S)(hf:∀i,i<stepM P tbl sl op->bl[f+i]? =some .hole)(h:Told f (stepH P tbl sl f op ty) bl bl' v):EffH P n op ty sl bl bl' v:=by
 have h1:0<stepM P tbl sl op->bl[f]? =some .hole:=λh0=>by simpa using hf 0 h0
 cases op with
 |move x=>exact(Oi h).1
 |assign x=>exact(Oi h).2
 |pick c x y=>exact VQ h
 |alloc t=>exact UK (h1 (by simp[stepM])) h
 |box t x=>exact Abr (h1 (by simp[stepM])) h
 |build t parts=>simpa using UY (n:=n) (ty:=ty) h
 |buildSlice t len parts=>simpa using Wv (n:=n) (ty:=ty) (h1 (by simp[stepM])) h
 |load t x=>exact Ve (λb c i off m e1 e2 hm=>hf m (by simp[stepM,e1,e2,hm])) h
 |store t x y=>exact RB (λrb c l r e=>h1 (by simp[stepM,e])) h
 |nilCheck x=>exact Abu h
 |binOp op t x y u=>exact Abt h
 |unOp op t x=>exact Aee h
 |convert s d x=>exact Vd (λl e hd hx=>by have:=hf 0 (by simp[stepM,hd,hx]);simpa using this) h
 |makeFunc fn first captured=>simpa using Aek (n:=n) (ty:=ty) h
 |makeMap t r=>exact ON (h1 (by simp[stepM])) h
 |mapUpdate t m k u=>exact Ry h
 |insert t m k u=>exact Rz h
 |lookup t m k ok=>exact AbF h
 |makeSlice t x y=>exact Wp (h1 (by simp[stepM])) h
 |slice t x lo hi mx=>cases mx with
  |none=>exact UZ h
  |some _=>exact h.elim
 |fieldAddr t x i=>exact Rg h
 |field t x i=>exact UX h
 |indexAddr t x i=>exact RC h
 |index t x i=>exact Va h
 |extract x i=>exact Ot h
 |call c=>exact Wy hT hf h
 |_=>exact h.elim
end
abbrev Tbl:=List (FuncId×FSp)
def lkT:Tbl->FuncId->List FSp
 | [],_=>[]
 |(f,S)::l,g=>cond (aP f g) (S::lkT l g) (lkT l g)
structure TOk(P:Program)(T:Tbl):Prop where
 ok:∀f S,S∈lkT T f->FOk P f S
theorem TOk.nil:TOk P []:=⟨λf S h=>by cases h⟩
theorem TOk.cons{T:Tbl}{f:FuncId}(h:TOk P T)(k:FOk P f S):TOk P ((f,S)::T):=⟨λg S' hm=>by
 unfold lkT at hm;cases hb:aP f g with
 |true=>
  rw[hb]at hm;have:=aF hb;subst this;rcases List.mem_cons.1 hm with rfl|hm
  ·exact k
  ·exact h.ok _ _ hm
 |false=>rw[hb]at hm;exact h.ok _ _ hm⟩
def stpT(P:Program)(T:Tbl)(h:TOk P T):Stp P:=⟨stepH P (lkT T),stepM P (lkT T),λhf hT=>Wz h.ok hf hT⟩
theorem FOk.run_eq{f:FuncId}{ps:Sch}{rs:List Sch}{r1 r2:HT ps.tr->Option (ALT rs)}(h:FOk P f ⟨ps,rs,r1⟩)(e:∀t,r1 t=r2 t):FOk P f ⟨ps,rs,r2⟩:=by
 have:r1=r2:=funext e
 rwa [<-this]
theorem FOk.of_none{f:FuncId}(h:∀t,S.run t=none):FOk P f S:=λt r st0 hr=>by rw[h t]at hr;cases hr
def byteAt(n:Int)(i:Nat):UInt8:=u8 (IntKind.u8.wrap (shrK .i64 n (8*(i:Int))))
def putB(n:Int)(k:Nat):Bt:=(List.range k).map (byteAt n)
theorem Bi(n:Int)(k:Nat):(putB n k).length=k:=by simp[putB]
theorem Vg(n:Int)(k:Nat):putB n (k+1)=putB n k++[byteAt n k]:=by simp[putB,List.range_succ]
theorem KI{z:Int}(h:0<=z/\z<=255):((u8 z).toNat:Int)=z:=by unfold u8;rw[UInt8.toNat_ofNat'];omega
theorem AgN(i:Nat)(h:i<8):(2:Int)^(min (8*(i:Int)).toNat 64)=256^i:=by
 have:min (8*(i:Int)).toNat 64=8*i:=by omega
 rw[this,Int.pow_mul];rfl
theorem MX(n:Int)(i:Nat)(h:i<8):shrK .i64 n (8*(i:Int))=n/256^i:=by unfold shrK;rw[show IntKind.i64.bits=64 from rfl,AgN i h,cO];exact Int.pow_nonneg (by decide)
theorem MY(n:Int)(i:Nat)(h:i<8):((byteAt n i).toNat:Int)=n/256^i%256:=by unfold byteAt;rw[KI (QY _),MX n i h,IntKind.wrap_u8]
def natL(p:Bt):Nat->Nat
 |0=>0
 |k+1=>natL p k+(p.getD k 0).toNat*256^k
theorem Jq(p:Bt):∀k,natL p k<256^k
 |0=>by simp[natL]
 |k+1=>by have:=Jq p k;have h:=UInt8.toNat_lt (p.getD k 0);rw[natL,Nat.pow_succ];have:(p.getD k 0).toNat*256^k<=255*256^k:=bP _ (by omega);omega
def getK(p:Bt):Nat->Int
 |0=>0
 |k+1=>lorK .u64 (getK p k) (shlK .u64 ((p.getD k 0).toNat:Int) (8*(k:Int)))
theorem AbJ{a:Nat}(ha:a<2^64)(hb:b<2^64):lorK .u64 (a:Int) (b:Int)=((a|||b:Nat):Int):=by
 unfold lorK;have h1:(dQ IntKind.u64.bits (a:Int)|||dQ IntKind.u64.bits (b:Int)).toNat=a|||b:=by
  rw[BitVec.toNat_or];have e:∀x:Nat,x<2^64->(dQ IntKind.u64.bits (x:Int)).toNat=x:=λx hx=>by rw[BitVec.toNat_ofInt];show((x:Int)%((2^64:Nat):Int)).toNat=x;omega
  rw[e a ha,e b hb]
 rw[h1];have:a|||b<2^64:=Nat.or_lt_two_pow ha hb;exact QX
theorem AbK{k:Nat}(hb:b<256)(hk:k<8):shlK .u64 (b:Int) (8*(k:Int))=((b*256^k:Nat):Int):=by
 unfold shlK;rw[show IntKind.u64.bits=64 from rfl,AgN k hk];have:b*256^k<2^64:=by
  have h8:k=0\/k=1\/k=2\/k=3\/k=4\/k=5\/k=6\/k=7:=by omega
  rcases h8 with rfl|rfl|rfl|rfl|rfl|rfl|rfl|rfl<;>simp only[Nat.reducePow]<;>omega
 have e:(b:Int)*256^k=((b*256^k:Nat):Int):=by simp
 rw[e];exact QX
theorem SP(p:Bt):∀k,k<=8->getK p k=(natL p k:Int)
 |0,_=>rfl
 |k+1,h=>by
  have ih:=SP p k (by omega);have hb:=UInt8.toNat_lt (p.getD k 0);have hlt:=Jq p k;have hp:(256:Nat)^k=2^(8*k):=by rw[Nat.pow_mul]
  have h64:256^(k+1)<=2^64:=by have:(256:Nat)^(k+1)<=256^8:=dI (by decide) h;exact this
  have hs:=Jq p (k+1);rw[natL]at hs;rw[getK,ih,AbK hb (by omega),AbJ (by omega) (by omega),natL];congr 1;have:=Nat.two_pow_add_eq_or_of_lt (i:=8*k) (b:=natL p k) (by rw[<-hp];exact hlt) (p.getD k 0).toNat;rw[<-hp]at this;rw[Nat.or_comm,Nat.mul_comm ((p.getD k 0).toNat),<-this,Nat.add_comm]
def getI(p:Bt)(k:Nat):Int:=IntKind.i64.wrap (natL p k:Int)
theorem RE(p:Bt)(k:Nat)(h:k<=7):getI p k=(natL p k:Int):=by unfold getI;have:=Jq p k;have h2:(256:Nat)^k<=256^7:=dI (by decide) h;exact Ac
theorem ID(n:Int):∀(k m:Nat)(q:Bt),k<=m->m<=8->(natL (putB n m++q) k:Int)=n%256^k
 |0,m,q,_,_=>by simp[natL,Int.emod_one]
 |k+1,m,q,h,h8=>by
  have ih:=ID n k m q (by omega) h8;have e:(putB n m++q).getD k 0=byteAt n k:=by rw[aL,aE (by rw[Bi];omega)];simp[putB,aX (by omega:k<m)]
  rw[natL,e];have hb:=MY n k (by omega);have:((natL (putB n m++q) k+(byteAt n k).toNat*256^k:Nat):Int)=(natL (putB n m++q) k:Int)+((byteAt n k).toNat:Int)*256^k:=by simp
  rw[this,ih,hb,Int.pow_succ];have hpos:(0:Int)<256^k:=Int.pow_pos (by decide);rw[bW (256^k) 256];have e1:=bZ n (256^k);have e2:=bZ (n/256^k) 256;have e3:n/(256*256^k)=n/256^k/256:=by rw[bW,Int.ediv_ediv,if_neg (λh=>absurd h.1 (by omega))];simp
  have e4:=bZ n (256*256^k);rw[e3]at e4;generalize n/256^k=q at*;generalize(256:Int)^k=b at*;have e5:b*q=b*(q%256)+256*b*(q/256):=by
   conv=>lhs;rw[<-e2]
   rw[Int.mul_add,<-Int.mul_assoc,bW b 256]
  rw[bW (q%256) b];omega
theorem dt{p:Prop}[Decidable p](h:p:=by omega):decide p=true:=decide_eq_true h
theorem df{p:Prop}[Decidable p](h:¬p:=by omega):decide p=false:=decide_eq_false h
theorem w8{k:Nat}(h:k<=1000):IntKind.i64.wrap (8*((k:Nat):Int))=8*(k:Int):=Ac
theorem EU{b:Int}(h:a≠b:=by omega):(a !=b)=true:=by simpa using h
theorem AL{b:Int}(h:a=b:=by omega):(a !=b)=false:=by simpa using h
theorem Ba{b:Int}(h:a=b:=by omega):(a==b)=true:=by simpa using h
theorem AU{b:Int}(h:a≠b:=by omega):(a==b)=false:=by simpa using h
theorem Vh(n:Int)(q:Bt)(h: -9223372036854775808<=n/\n<=9223372036854775807):getI (putB n 8++q) 8=n:=by unfold getI;have e:=ID n 8 8 q (aW _) (aW _);rw[e,IntKind.wrap_i64];simp only[Int.reducePow];omega
set_option maxRecDepth 100000
theorem cndT{x y:α}(h:c=true:=by decide):cnd c x y=x:=by subst h;rfl
theorem cndF{x y:α}(h:c=false:=by simp):cnd c x y=y:=by subst h;rfl
theorem gdT{x:Option α}(h:c=true:=by decide):gd c x=x:=by subst h;rfl
theorem bdS{x:Option α}{t:α}{k:α->Option β}(h:x=some t):bd x k=k t:=by subst h;rfl
theorem bdI(t:α)(k:α->Option β):bd (some t) k=k t:=rfl
theorem dnS(x:β):dnO (α:=α) (some x)=some (.done x):=rfl
theorem Dh{ρ:Type}{B:σ->Option (Ctl σ ρ)}(S:Nat->σ){r:ρ}(h:∀i,i<n->B (S i)=some (.go (S (i+1))))(hd:B (S n)=some (.done r))(hn:n<18446744073709551616:=by omega):loopO fuelN B (S 0)=some r:=by
 have key:∀k m,k<=n->k<m->loopO m B (S (n-k))=some r:=by
  intro k;induction k with
  |zero=>
   intro m _ hm;obtain⟨j,rfl⟩:∃j,m=j+1:=⟨m-1,by omega⟩
   exact GA hd
  |succ k ih=>
   intro m hk hm;obtain⟨j,rfl⟩:∃j,m=j+1:=⟨m-1,by omega⟩
   rw[JY (h (n-(k+1)) (by omega)),show n-(k+1)+1=n-k by omega];exact ih j (by omega) (by omega)
 have:=key n fuelN (aW _) (by show n<18446744073709551616;exact hn);rw[cL]at this;exact this
theorem Ad(h:i<l.length):l.getD i d=l[i]:=by rw[aL,aD h];rfl
theorem Vi{ρ:Type}{B:σ->Option (Ctl σ ρ)}(I:σ->Prop)(m:σ->Nat){Q:ρ->Prop}(h:∀s,I s->(∃s',B s=some (.go s')/\I s'/\m s'<m s)\/(∃r,B s=some (.done r)/\Q r))(h0:I s0)(hm:m s0<18446744073709551615):∃r,loopO fuelN B s0=some r/\Q r:=by
 have key:∀n s,m s<n->I s->∃r,loopO n B s=some r/\Q r:=by
  intro n;induction n with
  |zero=>intro s hs;omega
  |succ n ih=>
   intro s hs hi;rcases h s hi with⟨s',h1,h2,h3⟩|⟨r,h1,h2⟩
   ·rw[JY h1];exact ih s' (by omega) h2
   ·exact⟨r,GA h1,h2⟩
 exact key fuelN s0 (by show m s0<18446744073709551616;omega) h0
theorem Vj{ρ:Type}{B:σ->Option (Ctl σ ρ)}(S:Nat->σ)(n:Nat){r:ρ}(e:S 0=s0)(h:∀i,i<n->B (S i)=some (.go (S (i+1))))(hd:B (S n)=some (.done r))(hn:n<18446744073709551616):loopO fuelN B s0=some r:=e▸Dh S h hd hn
section
def sw(d:α)(l:List α)(i j:Nat):List α:=(l.set i (l.getD j d)).set j (l.getD i d)
theorem OS(l:List α)(i k:Nat)(v:α):(l.set i v).getD k d=if i=k/\k<l.length then v else l.getD k d:=by
 rw[aL,aH];by_cases h:i=k
 ·subst h;by_cases h2:i<l.length
  ·rw[if_pos rfl,if_pos h2,if_pos ⟨rfl,h2⟩];rfl
  ·rw[if_pos rfl,if_neg h2,if_neg (λh=>h2 h.2),aL,aZ (by omega)]
 ·rw[if_neg h,if_neg (λh'=>h h'.1),<-aL]
theorem MZ(hi:i<l.length)(hj:j<l.length)(k:Nat):(sw d l i j).getD k d=if j=k then l.getD i d else if i=k then l.getD j d else l.getD k d:=by
 unfold sw;rw[OS,OS,aU];by_cases h:j=k
 ·subst h;rw[if_pos ⟨rfl,hj⟩,if_pos rfl]
 ·rw[if_neg (λh'=>h h'.1),if_neg h];by_cases h2:i=k
  ·subst h2;rw[if_pos ⟨rfl,hi⟩,if_pos rfl]
  ·rw[if_neg (λh'=>h2 h'.1),if_neg h2]
theorem pc2(hij:i<j)(hj:j<l.length):∃A x B y C,l=A++x::(B++y::C)/\A.length=i/\A.length+1+B.length=j/\l.getD i d=x/\l.getD j d=y:=by
 refine⟨l.take i,l[i],(l.drop (i+1)).take (j-i-1),l[j],l.drop (j+1),?_,by simp;omega,by simp;omega,Ad _,Ad _⟩
 have h1:l.drop (i+1)=(l.drop (i+1)).take (j-i-1)++l[j]::l.drop (j+1):=by
  have h2:(l.drop (i+1)).drop (j-i-1)=l[j]::l.drop (j+1):=by rw[cM,show i+1+(j-i-1)=j by omega];exact bD hj
  rw[<-h2,aK]
 rw[<-h1,<-bD,aK]
theorem AdB(A B C:List α)(x y:α)(hi:A.length=i)(hj:A.length+1+B.length=j):((A++x::(B++y::C)).set i y).set j x=A++y::(B++x::C):=by subst hi;subst hj;rw[cB _ _ (aW _),cL,List.set_cons_zero,cB _ _ (by omega),show A.length+1+B.length-A.length=B.length+1 by omega,cN,cB _ _ (aW _),cL,List.set_cons_zero]
theorem AbL(A B C:List α)(x y:α):(A++y::(B++x::C)).Perm (A++x::(B++y::C)):=by refine List.Perm.append_left A ?_;have h1:(B++x::C).Perm (x::(B++C)):=List.perm_middle;have h2:(x::(B++C))=x::(B++C):=rfl;exact(h1.cons y).trans ((List.Perm.swap x y (B++C)).trans ((List.perm_middle.symm).cons x))
theorem KJ(hij:i<j)(hj:j<l.length):(sw d l i j).Perm l:=by obtain⟨A,x,B,y,C,rfl,h1,h2,h3,h4⟩:=pc2 (d:=d) hij hj;unfold sw;rw[h3,h4,AdB A B C x y h1 h2];exact AbL A B C x y
theorem AbM(hij:i≠j)(hi:i<l.length)(hj:j<l.length):(sw d l i j).Perm l:=by
 by_cases h:i<j
 ·exact KJ h hj
 ·have e:sw d l i j=sw d l j i:=by unfold sw;rw[List.set_comm _ _ hij]
  rw[e];exact KJ (by omega) hi
def Rr(d:α)(a b:Nat)(l r:List α):Prop:=r.Perm l/\(∀k,¬(a<=k/\k<b)->r.getD k d=l.getD k d)/\(∀k,a<=k->k<b->∃j,a<=j/\j<b/\r.getD k d=l.getD j d)
theorem Rr.len{a:Nat}{r:List α}(h:Rr d a b l r):r.length=l.length:=h.1.length_eq
theorem Rr.refl(a b:Nat)(l:List α):Rr d a b l l:=⟨List.Perm.refl _,λ_ _=>rfl,λk h1 h2=>⟨k,h1,h2,rfl⟩⟩
theorem Rr.trans{a b:Nat}{l m r:List α}(h:Rr d a b l m)(g:Rr d a b m r):Rr d a b l r:=by
 obtain⟨h1,h2,h3⟩:=h;obtain⟨g1,g2,g3⟩:=g;refine⟨g1.trans h1,λk hk=>(g2 k hk).trans (h2 k hk),λk hk hk2=>?_⟩
 obtain⟨j,a1,a2,a3⟩:=g3 k hk hk2;obtain⟨i,b1,b2,b3⟩:=h3 j a1 a2;exact⟨i,b1,b2,a3.trans b3⟩
theorem Rr.wide{a a' b':Nat}{m:List α}(h:Rr d a b l m)(ha:a'<=a)(hb:b<=b'):Rr d a' b' l m:=by
 obtain⟨h1,h2,h3⟩:=h;refine⟨h1,λk hk=>h2 k (by omega),λk hk hk2=>?_⟩
 by_cases hin:a<=k/\k<b
 ·obtain⟨j,a1,a2,a3⟩:=h3 k hin.1 hin.2;exact⟨j,by omega,by omega,a3⟩
 ·exact⟨k,hk,hk2,h2 k hin⟩
theorem Rr.sw{a b:Nat}{l:List α}{i j:Nat}(hij:i≠j)(hi:a<=i/\i<b)(hj:a<=j/\j<b)(hb:b<=l.length):Rr d a b l (sw d l i j):=by
 have g:=MZ (d:=d) (l:=l) (i:=i) (j:=j) (by omega) (by omega);refine⟨AbM hij (by omega) (by omega),λk hk=>?_,λk hk hk2=>?_⟩
 ·rw[g,if_neg (by omega),if_neg (by omega)]
 ·rw[g];by_cases h:j=k
  ·rw[if_pos h];exact⟨i,hi.1,hi.2,rfl⟩
  ·rw[if_neg h];by_cases h2:i=k
   ·rw[if_pos h2];exact⟨j,hj.1,hj.2,rfl⟩
   ·rw[if_neg h2];exact⟨k,hk,hk2,rfl⟩
def Srt(lt:α->α->Prop)(d:α)(l:List α)(a b:Nat):Prop:=∀p q,a<=p->p<q->q<b->¬lt (l.getD q d) (l.getD p d)
structure Ord3(lt:α->α->Prop):Prop where
 asy:∀x y,lt x y->¬lt y x
 ntr:∀x y z,¬lt y x->¬lt z y->¬lt z x
def CmpOn(cmp:α->α->Option Int)(lt:α->α->Prop)(l:List α):Prop:=∀x∈l,∀y∈l,∃v,cmp x y=some v/\(v<0↔lt x y)
theorem CmpOn.perm{m:List α}(h:CmpOn cmp lt l)(p:m.Perm l):CmpOn cmp lt m:=λx hx y hy=>h x (p.mem_iff.1 hx) y (p.mem_iff.1 hy)
theorem CmpOn.at(h:CmpOn cmp lt l)(hi:i<l.length)(hj:j<l.length):∃v,cmp (l.getD i d) (l.getD j d)=some v/\(v<0↔lt (l.getD i d) (l.getD j d)):=by rw[Ad hi,Ad hj];exact h _ (List.getElem_mem hi) _ (List.getElem_mem hj)
end
def gIns{α:Type}(d:α)(cmp:α->α->Option Int)(a0:Int)(a1:Int)(a2:List α):Option (List α):=
 (loopO (σ:=(Int×Int)×Int×List α) fuelN (λ(v1:(Int×Int)×Int×List α)=>(cnd (decide (v1.2.1<v1.1.2)) (loopO (σ:=(Int×Int)×Int×Int×List α) fuelN (λ(v2:(Int×Int)×Int×Int×List α)=>(bd (α:=((Int×Int×Int)×Int×Bool×List α)) (cnd (decide (v2.2.2.1>v2.1.1)) (gd (decide ((0:Int)<=v2.2.2.1/\v2.2.2.1<((v2.2.2.2.length:Nat):Int))) (bd (α:=α) (some (bA v2.2.2.2 v2.2.2.1.toNat d)) (λv6=>(gd (decide ((0:Int)<=(aA .i64 (v2.2.2.1-(1:Int)))/\(aA .i64 (v2.2.2.1-(1:Int)))<((v2.2.2.2.length:Nat):Int))) (bd (α:=α) (some (bA v2.2.2.2 ((aA .i64 (v2.2.2.1-(1:Int))).toNat) d)) (λv7=>(bd (α:=Int) (cmp v6 v7) (λv8=>(some ((v2.1.1,v2.1.2,v2.2.1),v2.2.2.1,(decide (v8<(0:Int))),v2.2.2.2)))))))))) (some ((v2.1.1,v2.1.2,v2.2.1),v2.2.2.1,false,v2.2.2.2))) (λv9=>(cnd v9.2.2.1 (gd (decide ((0:Int)<=(aA .i64 (v9.2.1-(1:Int)))/\(aA .i64 (v9.2.1-(1:Int)))<((v9.2.2.2.length:Nat):Int))) (bd (α:=α) (some (bA v9.2.2.2 ((aA .i64 (v9.2.1-(1:Int))).toNat) d)) (λv12=>(gd (decide ((0:Int)<=v9.2.1/\v9.2.1<((v9.2.2.2.length:Nat):Int))) (bd (α:=α) (some (bA v9.2.2.2 v9.2.1.toNat d)) (λv13=>(gd (decide ((0:Int)<=v9.2.1/\v9.2.1<((v9.2.2.2.length:Nat):Int))) (gd (decide ((0:Int)<=(aA .i64 (v9.2.1-(1:Int)))/\(aA .i64 (v9.2.1-(1:Int)))<(((bQ v9.2.2.2 v9.2.1.toNat v12).length:Nat):Int))) (some (Ctl.go ((v9.1.1,v9.1.2.1),v9.1.2.2,(aA .i64 (v9.2.1-(1:Int))),(bQ (bQ v9.2.2.2 v9.2.1.toNat v12) ((aA .i64 (v9.2.1-(1:Int))).toNat) v13)))))))))))) (dnO (some (Ctl.go ((v9.1.1,v9.1.2.1),(aA .i64 (v9.1.2.2+(1:Int))),v9.2.2.2)))))))) (v1.1,v1.2.1,v1.2)) (dnO (some v1.2.2)))) ((a0,a1),(aA .i64 (a0+(1:Int))),a2))
def gSwr{α:Type}(d:α)(a0:Int)(a1:Int)(a2:Int)(a3:List α):Option (List α):=
 (loopO (σ:=(Int×Int)×Int×Int×List α) fuelN (λ(v2:(Int×Int)×Int×Int×List α)=>(cnd (decide (v2.2.2.1<v2.2.1)) (gd (decide ((0:Int)<=(aA .i64 (v2.1.2+v2.2.2.1))/\(aA .i64 (v2.1.2+v2.2.2.1))<((v2.2.2.2.length:Nat):Int))) (bd (α:=α) (some (bA v2.2.2.2 ((aA .i64 (v2.1.2+v2.2.2.1)).toNat) d)) (λv5=>(gd (decide ((0:Int)<=(aA .i64 (v2.1.1+v2.2.2.1))/\(aA .i64 (v2.1.1+v2.2.2.1))<((v2.2.2.2.length:Nat):Int))) (bd (α:=α) (some (bA v2.2.2.2 ((aA .i64 (v2.1.1+v2.2.2.1)).toNat) d)) (λv6=>(gd (decide ((0:Int)<=(aA .i64 (v2.1.1+v2.2.2.1))/\(aA .i64 (v2.1.1+v2.2.2.1))<((v2.2.2.2.length:Nat):Int))) (gd (decide ((0:Int)<=(aA .i64 (v2.1.2+v2.2.2.1))/\(aA .i64 (v2.1.2+v2.2.2.1))<(((bQ v2.2.2.2 ((aA .i64 (v2.1.1+v2.2.2.1)).toNat) v5).length:Nat):Int))) (some (Ctl.go (v2.1,v2.2.1,(aA .i64 (v2.2.2.1+(1:Int))),(bQ (bQ v2.2.2.2 ((aA .i64 (v2.1.1+v2.2.2.1)).toNat) v5) ((aA .i64 (v2.1.2+v2.2.2.1)).toNat) v6)))))))))))) (dnO (some v2.2.2.2)))) ((a0,a1),a2,(0:Int),a3))
def gRot{α:Type}(d:α)(a0:Int)(a1:Int)(a2:Int)(a3:List α):Option (List α):=
 (loopO (σ:=(Int×Int)×Int×List α) fuelN (λ(v1:(Int×Int)×Int×List α)=>(cnd (v1.1.2 !=v1.2.1) (cnd (decide (v1.1.2>v1.2.1)) (bd (α:=(List α)) (gSwr d (aA .i64 (v1.1.1-v1.1.2)) v1.1.1 v1.2.1 v1.2.2) (λv2=>(some (Ctl.go ((v1.1.1,(aA .i64 (v1.1.2-v1.2.1))),v1.2.1,v2))))) (bd (α:=(List α)) (gSwr d (aA .i64 (v1.1.1-v1.1.2)) (aA .i64 ((aA .i64 (v1.1.1+v1.2.1))-v1.1.2)) v1.1.2 v1.2.2) (λv3=>(some (Ctl.go (v1.1,(aA .i64 (v1.2.1-v1.1.2)),v3)))))) (dnO (bd (α:=(List α)) (gSwr d (aA .i64 (v1.1.1-v1.1.2)) v1.1.1 v1.1.2 v1.2.2) (λv4=>(some v4)))))) ((a1,(aA .i64 (a1-a0))),(aA .i64 (a2-a1)),a3))
def gSymF{α:Type}(d:α)(cmp:α->α->Option Int)(ih:Int->Int->Int->(List α)->Option (List α))(a0:Int)(a1:Int)(a2:Int)(a3:List α):Option (List α):=
 (cnd ((aA .i64 (a1-a0))==(1:Int)) (loopO (σ:=(Int×Int)×Int×List α) fuelN (λ(v1:(Int×Int)×Int×List α)=>(cnd (decide (v1.1.2<v1.2.1)) (gd (decide ((0:Int)<=(aA .i64 (shrK .u64 (aA .u64 (aA .i64 (v1.1.2+v1.2.1))) (1:Int)))/\(aA .i64 (shrK .u64 (aA .u64 (aA .i64 (v1.1.2+v1.2.1))) (1:Int)))<((v1.2.2.length:Nat):Int))) (bd (α:=α) (some (bA v1.2.2 ((aA .i64 (shrK .u64 (aA .u64 (aA .i64 (v1.1.2+v1.2.1))) (1:Int))).toNat) d)) (λv5=>(gd (decide ((0:Int)<=v1.1.1/\v1.1.1<((v1.2.2.length:Nat):Int))) (bd (α:=α) (some (bA v1.2.2 v1.1.1.toNat d)) (λv6=>(bd (α:=Int) (cmp v5 v6) (λv7=>(cnd (decide (v7<(0:Int))) (some (Ctl.go ((v1.1.1,(aA .i64 ((aA .i64 (shrK .u64 (aA .u64 (aA .i64 (v1.1.2+v1.2.1))) (1:Int)))+(1:Int)))),v1.2))) (some (Ctl.go (v1.1,(aA .i64 (shrK .u64 (aA .u64 (aA .i64 (v1.1.2+v1.2.1))) (1:Int))),v1.2.2)))))))))))) (dnO (loopO (σ:=Int×Int×List α) fuelN (λ(v8:Int×Int×List α)=>(cnd (decide (v8.2.1<(aA .i64 (v8.1-(1:Int))))) (gd (decide ((0:Int)<=(aA .i64 (v8.2.1+(1:Int)))/\(aA .i64 (v8.2.1+(1:Int)))<((v8.2.2.length:Nat):Int))) (bd (α:=α) (some (bA v8.2.2 ((aA .i64 (v8.2.1+(1:Int))).toNat) d)) (λv11=>(gd (decide ((0:Int)<=v8.2.1/\v8.2.1<((v8.2.2.length:Nat):Int))) (bd (α:=α) (some (bA v8.2.2 v8.2.1.toNat d)) (λv12=>(gd (decide ((0:Int)<=v8.2.1/\v8.2.1<((v8.2.2.length:Nat):Int))) (gd (decide ((0:Int)<=(aA .i64 (v8.2.1+(1:Int)))/\(aA .i64 (v8.2.1+(1:Int)))<(((bQ v8.2.2 v8.2.1.toNat v11).length:Nat):Int))) (some (Ctl.go (v8.1,(aA .i64 (v8.2.1+(1:Int))),(bQ (bQ v8.2.2 v8.2.1.toNat v11) ((aA .i64 (v8.2.1+(1:Int))).toNat) v12)))))))))))) (dnO (some v8.2.2)))) (v1.1.2,v1.1.1,v1.2.2))))) ((a0,a1),a2,a3)) (cnd ((aA .i64 (a2-a1))==(1:Int)) (loopO (σ:=(Int×Int)×Int×List α) fuelN (λ(v13:(Int×Int)×Int×List α)=>(cnd (decide (v13.1.2<v13.2.1)) (gd (decide ((0:Int)<=v13.1.1/\v13.1.1<((v13.2.2.length:Nat):Int))) (bd (α:=α) (some (bA v13.2.2 v13.1.1.toNat d)) (λv17=>(gd (decide ((0:Int)<=(aA .i64 (shrK .u64 (aA .u64 (aA .i64 (v13.1.2+v13.2.1))) (1:Int)))/\(aA .i64 (shrK .u64 (aA .u64 (aA .i64 (v13.1.2+v13.2.1))) (1:Int)))<((v13.2.2.length:Nat):Int))) (bd (α:=α) (some (bA v13.2.2 ((aA .i64 (shrK .u64 (aA .u64 (aA .i64 (v13.1.2+v13.2.1))) (1:Int))).toNat) d)) (λv18=>(bd (α:=Int) (cmp v17 v18) (λv19=>(cnd (!(decide (v19<(0:Int)))) (some (Ctl.go ((v13.1.1,(aA .i64 ((aA .i64 (shrK .u64 (aA .u64 (aA .i64 (v13.1.2+v13.2.1))) (1:Int)))+(1:Int)))),v13.2))) (some (Ctl.go (v13.1,(aA .i64 (shrK .u64 (aA .u64 (aA .i64 (v13.1.2+v13.2.1))) (1:Int))),v13.2.2)))))))))))) (dnO (loopO (σ:=Int×Int×List α) fuelN (λ(v20:Int×Int×List α)=>(cnd (decide (v20.2.1>v20.1)) (gd (decide ((0:Int)<=(aA .i64 (v20.2.1-(1:Int)))/\(aA .i64 (v20.2.1-(1:Int)))<((v20.2.2.length:Nat):Int))) (bd (α:=α) (some (bA v20.2.2 ((aA .i64 (v20.2.1-(1:Int))).toNat) d)) (λv23=>(gd (decide ((0:Int)<=v20.2.1/\v20.2.1<((v20.2.2.length:Nat):Int))) (bd (α:=α) (some (bA v20.2.2 v20.2.1.toNat d)) (λv24=>(gd (decide ((0:Int)<=v20.2.1/\v20.2.1<((v20.2.2.length:Nat):Int))) (gd (decide ((0:Int)<=(aA .i64 (v20.2.1-(1:Int)))/\(aA .i64 (v20.2.1-(1:Int)))<(((bQ v20.2.2 v20.2.1.toNat v23).length:Nat):Int))) (some (Ctl.go (v20.1,(aA .i64 (v20.2.1-(1:Int))),(bQ (bQ v20.2.2 v20.2.1.toNat v23) ((aA .i64 (v20.2.1-(1:Int))).toNat) v24)))))))))))) (dnO (some v20.2.2)))) (v13.1.2,v13.1.1,v13.2.2))))) ((a1,a0),a1,a3)) (bd (α:=(((Int×Int)×Int×Int)×(Int×Int)×Int×List α)) (cnd (decide (a1>(aA .i64 (shrK .u64 (aA .u64 (aA .i64 (a0+a2))) (1:Int))))) (some (((a0,a1),a2,(aA .i64 (shrK .u64 (aA .u64 (aA .i64 (a0+a2))) (1:Int)))),((aA .i64 ((aA .i64 (shrK .u64 (aA .u64 (aA .i64 (a0+a2))) (1:Int)))+a1)),(aA .i64 ((aA .i64 ((aA .i64 (shrK .u64 (aA .u64 (aA .i64 (a0+a2))) (1:Int)))+a1))-a2))),(aA .i64 (shrK .u64 (aA .u64 (aA .i64 (a0+a2))) (1:Int))),a3)) (some (((a0,a1),a2,(aA .i64 (shrK .u64 (aA .u64 (aA .i64 (a0+a2))) (1:Int)))),((aA .i64 ((aA .i64 (shrK .u64 (aA .u64 (aA .i64 (a0+a2))) (1:Int)))+a1)),a0),a1,a3))) (λv25=>(loopO (σ:=(((Int×Int)×Int×Int)×(Int×Int)×Int×Int×List α)) fuelN (λ(v26:(((Int×Int)×Int×Int)×(Int×Int)×Int×Int×List α))=>(cnd (decide (v26.2.1.2<v26.2.2.1)) (gd (decide ((0:Int)<=(aA .i64 (v26.2.2.2.1-(aA .i64 (shrK .u64 (aA .u64 (aA .i64 (v26.2.1.2+v26.2.2.1))) (1:Int)))))/\(aA .i64 (v26.2.2.2.1-(aA .i64 (shrK .u64 (aA .u64 (aA .i64 (v26.2.1.2+v26.2.2.1))) (1:Int)))))<((v26.2.2.2.2.length:Nat):Int))) (bd (α:=α) (some (bA v26.2.2.2.2 ((aA .i64 (v26.2.2.2.1-(aA .i64 (shrK .u64 (aA .u64 (aA .i64 (v26.2.1.2+v26.2.2.1))) (1:Int))))).toNat) d)) (λv30=>(gd (decide ((0:Int)<=(aA .i64 (shrK .u64 (aA .u64 (aA .i64 (v26.2.1.2+v26.2.2.1))) (1:Int)))/\(aA .i64 (shrK .u64 (aA .u64 (aA .i64 (v26.2.1.2+v26.2.2.1))) (1:Int)))<((v26.2.2.2.2.length:Nat):Int))) (bd (α:=α) (some (bA v26.2.2.2.2 ((aA .i64 (shrK .u64 (aA .u64 (aA .i64 (v26.2.1.2+v26.2.2.1))) (1:Int))).toNat) d)) (λv31=>(bd (α:=Int) (cmp v30 v31) (λv32=>(cnd (!(decide (v32<(0:Int)))) (some (Ctl.go (v26.1,(v26.2.1.1,(aA .i64 ((aA .i64 (shrK .u64 (aA .u64 (aA .i64 (v26.2.1.2+v26.2.2.1))) (1:Int)))+(1:Int)))),v26.2.2))) (some (Ctl.go (v26.1,v26.2.1,(aA .i64 (shrK .u64 (aA .u64 (aA .i64 (v26.2.1.2+v26.2.2.1))) (1:Int))),v26.2.2.2)))))))))))) (dnO (bd (α:=((Int×Int×Int)×Int×Int×List α)) (bd (α:=(((Int×Int)×Int×Int)×(Int×Int)×Bool×List α)) (cnd (decide (v26.2.1.2<v26.1.1.2)) (some (v26.1,(v26.2.1.2,(aA .i64 (v26.2.1.1-v26.2.1.2))),(decide (v26.1.1.2<(aA .i64 (v26.2.1.1-v26.2.1.2)))),v26.2.2.2.2)) (some (v26.1,(v26.2.1.2,(aA .i64 (v26.2.1.1-v26.2.1.2))),false,v26.2.2.2.2))) (λv33=>(cnd v33.2.2.1 (bd (α:=(List α)) (gRot d v33.2.1.1 v33.1.1.2 v33.2.1.2 v33.2.2.2) (λv34=>(some ((v33.1.1.1,v33.1.2),v33.2.1.1,v33.2.1.2,v34)))) (some ((v33.1.1.1,v33.1.2),v33.2.1.1,v33.2.1.2,v33.2.2.2))))) (λv35=>(bd (α:=((Int×Int)×Int×List α)) (bd (α:=((Int×Int×Int)×(Int×Int)×Bool×List α)) (cnd (decide (v35.1.1<v35.2.1)) (some (v35.1,(v35.2.1,v35.2.2.1),(decide (v35.2.1<v35.1.2.2)),v35.2.2.2)) (some (v35.1,(v35.2.1,v35.2.2.1),false,v35.2.2.2))) (λv36=>(cnd v36.2.2.1 (bd (α:=(List α)) (ih v36.1.1 v36.2.1.1 v36.1.2.2 v36.2.2.2) (λv37=>(some (v36.1.2,v36.2.1.2,v37)))) (some (v36.1.2,v36.2.1.2,v36.2.2.2))))) (λv38=>(bd (α:=((Int×Int)×Int×Bool×List α)) (cnd (decide (v38.1.2<v38.2.1)) (some (v38.1,v38.2.1,(decide (v38.2.1<v38.1.1)),v38.2.2)) (some (v38.1,v38.2.1,false,v38.2.2))) (λv39=>(cnd v39.2.2.1 (bd (α:=(List α)) (ih v39.1.2 v39.2.1 v39.1.1 v39.2.2.2) (λv40=>(some v40))) (some v39.2.2.2))))))))))) (v25.1,v25.2.1,v25.2.2.1,(aA .i64 (v25.2.1.1-(1:Int))),v25.2.2.2))))))
def gSym{α:Type}(d:α)(cmp:α->α->Option Int)(k:Nat):Int->Int->Int->List α->Option (List α):=Nat.rec (motive:=λ_=>Int->Int->Int->List α->Option (List α)) (λ_ _ _ _=>none) (λ_ ih=>gSymF d cmp ih) k
def gStab{α:Type}(d:α)(cmp:α->α->Option Int)(a0:Int)(a1:List α):Option (List α):=
 (loopO (σ:=(Int×Int)×Int×List α) fuelN (λ(v2:(Int×Int)×Int×List α)=>(cnd (decide (v2.2.1<=v2.1.1)) (bd (α:=(List α)) (gIns d cmp v2.1.2 v2.2.1 v2.2.2) (λv3=>(some (Ctl.go ((v2.1.1,v2.2.1),(aA .i64 (v2.2.1+(20:Int))),v3))))) (dnO (bd (α:=(List α)) (gIns d cmp v2.1.2 v2.1.1 v2.2.2) (λv4=>(loopO (σ:=Int×Int×List α) fuelN (λ(v6:Int×Int×List α)=>(cnd (decide (v6.2.1<v6.1)) (loopO (σ:=(Int×Int)×Int×Int×List α) fuelN (λ(v8:(Int×Int)×Int×Int×List α)=>(cnd (decide (v8.2.2.1<=v8.1.1)) (bd (α:=(List α)) (gSym d cmp fuelN v8.2.1 (aA .i64 (v8.2.1+v8.1.2)) v8.2.2.1 v8.2.2.2) (λv9=>(some (Ctl.go (v8.1,v8.2.2.1,(aA .i64 (v8.2.2.1+(aA .i64 ((2:Int)*v8.1.2)))),v9))))) (dnO (cnd (decide ((aA .i64 (v8.2.1+v8.1.2))<v8.1.1)) (bd (α:=(List α)) (gSym d cmp fuelN v8.2.1 (aA .i64 (v8.2.1+v8.1.2)) v8.1.1 v8.2.2.2) (λv10=>(some (Ctl.go (v8.1.1,(aA .i64 (v8.1.2*(2:Int))),v10))))) (some (Ctl.go (v8.1.1,(aA .i64 (v8.1.2*(2:Int))),v8.2.2.2))))))) ((v6.1,v6.2.1),(0:Int),(aA .i64 ((2:Int)*v6.2.1)),v6.2.2)) (dnO (some v6.2.2)))) (v2.1.1,(20:Int),v4))))))) ((a0,(0:Int)),(20:Int),a1))
def Tot{α:Type}(Q:α->Prop)(x:Option α):Prop:=∃r,x=some r/\Q r
def CP{α β:Type}(P:α->Prop)(Q:β->Prop):Ctl α β->Prop
 | .go t=>P t
 | .done r=>Q r
section
variable{P:α->Prop}{Q:β->Prop}
theorem tS{r:β}(h:Q r:=by simp):Tot Q (some r):=⟨r,rfl,h⟩
theorem tW{x:Option β}{R:β->Prop}(h:Tot R x)(hp:∀r,R r->Q r):Tot Q x:=by obtain⟨r,e,k⟩:=h;exact⟨r,e,hp r k⟩
theorem tB{x:Option α}{k:α->Option β}(h:Tot P x)(k1:∀t,P t->Tot Q (k t)):Tot Q (bd x k):=by obtain⟨t,rfl,ht⟩:=h;exact k1 t ht
theorem tBT{x:Option α}{k:α->Option β}(h:Tot (λ_=>True) x)(k1:∀t,Tot Q (k t)):Tot Q (bd x k):=tB h λt _=>k1 t
theorem tI{t:α}{k:α->Option β}(h:Tot Q (k t)):Tot Q (bd (some t) k):=h
theorem tC{x y:Option β}(h1:c=true->Tot Q x)(h2:c=false->Tot Q y):Tot Q (cnd c x y):=by
 cases c with
 |true=>exact h1 rfl
 |false=>exact h2 rfl
theorem tG{x:Option β}(h:c=true)(k:Tot Q x):Tot Q (gd c x):=by subst h;exact k
theorem tGo{t:α}(h:P t):Tot (CP P Q) (some (.go t)):=⟨_,rfl,h⟩
theorem tDn{x:Option β}(h:Tot Q x):Tot (CP P Q) (dnO x):=by obtain⟨r,rfl,hr⟩:=h;exact⟨_,rfl,hr⟩
theorem tJ{x:Option (Ctl α β)}{k:α->Option β}(h:Tot (CP P Q) x)(k1:∀t,P t->Tot Q (k t)):Tot Q (jd x k):=by
 obtain⟨c,rfl,hc⟩:=h;cases c with
 |go t=>exact k1 t hc
 |done r=>exact⟨r,rfl,hc⟩
theorem tL{B:σ->Option (Ctl σ β)}(I:σ->Prop)(m:σ->Nat)(h:∀s,I s->Tot (CP (λs'=>I s'/\m s'<m s) Q) (B s))(h0:I s0)(hm:m s0<18446744073709551615):Tot Q (loopO fuelN B s0):=by
 refine Vi I m (λs hs=>?_) h0 hm;obtain⟨c,e,hc⟩:=h s hs;cases c with
 |go t=>exact .inl ⟨t,e,hc.1,hc.2⟩
 |done r=>exact .inr ⟨r,e,hc⟩
theorem tM{x:Option (α ⊕ β)}{γ:Type}{R:γ->Prop}{s:α ⊕ β}{f:α->Option γ}{g:β->Option γ}(h1:∀a,s= .inl a->Tot R (f a))(h2:∀b,s= .inr b->Tot R (g b)):Tot R (sm s f g):=by
 cases s with
 |inl a=>exact h1 a rfl
 |inr b=>exact h2 b rfl
end
theorem dT{p:Prop}[Decidable p](h:decide p=true):p:=of_decide_eq_true h
theorem dF{p:Prop}[Decidable p](h:decide p=false):¬p:=of_decide_eq_false h
theorem eT{b:Int}(h:(a==b)=true):a=b:=by simpa using h
theorem eF{b:Int}(h:(a==b)=false):a≠b:=by simpa using h
theorem nT{b:Int}(h:(a !=b)=true):a≠b:=by simpa using h
theorem nF{b:Int}(h:(a !=b)=false):a=b:=by simpa using h
theorem notT{a:Bool}(h:(!a)=true):a=false:=by simpa using h
theorem notF{a:Bool}(h:(!a)=false):a=true:=by simpa using h
theorem sT{a b:Bt}(h:(a==b)=true):a=b:=by simpa using h
theorem sF{a b:Bt}(h:(a==b)=false):a≠b:=by simpa using h
section
theorem RF (o:Ord3 lt) (hl:l.length<=1099511627776) (hc:CmpOn cmp lt l) (a b i:Nat) (hai:a<=i) (hi:i < l.length) (hs:Srt lt d l a i) {B:(Int×Int)×Int×Int×List α->Option (Ctl ((Int×Int)×Int×Int×List α) (Ctl ((Int×Int)×Int×List α) (List α)))}
  (hB:∀(m:List α)(j:Nat),a<=j->j<=i->m.length=l.length->B (((a:Int),(b:Int)),(i:Int),(j:Int),m)=
   if j=a then some (.done (.go (((a:Int),(b:Int)),((i+1:Nat):Int),m)))else
   bd (cmp (m.getD j d) (m.getD (j-1) d)) λv=>if v<0 then some (.go (((a:Int),(b:Int)),(i:Int),((j-1:Nat):Int),sw d m j (j-1)))else some (.done (.go (((a:Int),(b:Int)),((i+1:Nat):Int),m)))):
  Tot (λc=>∃r,c= .go (((a:Int),(b:Int)),((i+1:Nat):Int),r)/\Rr d a (i+1) l r/\Srt lt d r a (i+1)) (loopO fuelN B (((a:Int),(b:Int)),(i:Int),(i:Int),l)):=by
 refine tL (λs=>∃(j:Nat)(m:List α),s=(((a:Int),(b:Int)),(i:Int),(j:Int),m)/\(a<=j/\j<=i)/\Rr d a (i+1) l m/\∀p q,a<=p->p<q->q<=i->q≠j->¬lt (m.getD q d) (m.getD p d)) (λs=>s.2.2.1.toNat) ?_ ⟨i,l,rfl,⟨hai,aW _⟩,Rr.refl _ _ _,λp q h1 h2 h3 h4=>hs p q h1 h2 (by omega)⟩ (by simp;omega);rintro _ ⟨j,m,rfl,⟨hj1,hj2⟩,hr,hinv⟩;have hml:=hr.len;rw[hB m j hj1 hj2 hml];have fin:(∀p,a<=p->p<j->¬lt (m.getD j d) (m.getD p d))->Srt lt d m a (i+1):=λh p q h1 h2 h3=>by
  by_cases e:q=j
  ·subst e;exact h p h1 h2
  ·exact hinv p q h1 h2 (by omega) e
 by_cases hja:j=a
 ·rw[if_pos hja];exact tS (⟨m,rfl,hr,fin λp h1 h2=>by omega⟩:∃r,_)
 rw[if_neg hja];obtain⟨k,rfl⟩:∃k,j=k+1:=⟨j-1,by omega⟩
 rw[show k+1-1=k by omega];obtain⟨v,hv,hvl⟩:=(hc.perm hr.1).at (d:=d) (i:=k+1) (j:=k) (by omega) (by omega);rw[hv];show Tot _ (if v<0 then _ else _);by_cases hlt:v<0
 ·rw[if_pos hlt];have hl2:=o.asy _ _ (hvl.1 hlt);have g2:=MZ (d:=d) (l:=m) (i:=k+1) (j:=k) (by omega) (by omega);refine tGo ⟨⟨k,_,rfl,by omega,hr.trans (Rr.sw (by omega) (by omega) (by omega) (by omega)),λp q h1 h2 h3 h4=>?_⟩,by simp only;omega⟩;rw[g2,g2];rw[if_neg (λe=>h4 e.symm) (c:=k=q)];by_cases q1:k+1=q
  ·rw[if_pos q1];by_cases p1:k=p
   ·rw[if_pos p1];exact hl2
   ·rw[if_neg p1,if_neg (by omega)];exact hinv p k h1 (by omega) (by omega) (by omega)
  ·rw[if_neg q1];by_cases p1:k=p
   ·rw[if_pos p1];exact hinv (k+1) q (by omega) (by omega) h3 (λe=>q1 e.symm)
   ·rw[if_neg p1];by_cases p2:k+1=p
    ·rw[if_pos p2];exact hinv k q (by omega) (by omega) h3 (λe=>q1 e.symm)
    ·rw[if_neg p2];exact hinv p q h1 h2 h3 (λe=>q1 e.symm)
 ·rw[if_neg hlt];have hn:¬lt (m.getD (k+1) d) (m.getD k d):=λh=>hlt (hvl.2 h);refine tS (⟨m,rfl,hr,fin λp h1 h2=>?_⟩:∃r,_);by_cases p1:p=k
  ·subst p1;exact hn
  ·exact o.ntr _ _ _ (hinv p k h1 (by omega) (by omega) (by omega)) hn
theorem SQ (o:Ord3 lt) (hl:l.length<=1099511627776) (hc:CmpOn cmp lt l) (a b:Nat) (hab:a<=b) (hb:b<=l.length:=by omega) :
  Tot (λr=>Rr d a b l r/\Srt lt d r a b) (gIns d cmp (a:Int) (b:Int) l):=by
 unfold gIns;rw[Ac];refine tL (λs=>∃(i:Nat)(m:List α),s=(((a:Int),(b:Int)),(i:Int),m)/\(a+1<=i/\i<=b+1)/\Rr d a b l m/\Srt lt d m a i/\(i=b+1->a=b)) (λs=>b+1-s.2.1.toNat) ?_ ⟨a+1,l,by simp,by omega,Rr.refl _ _ _,λp q h1 h2 h3=>by omega,by omega⟩ (by simp only;omega);rintro _ ⟨i,m,rfl,⟨hi1,hi2⟩,hr,hs,hx⟩;have hml:=hr.len;dsimp only;refine tC (λhlt=>?_) λhlt=>tDn (tS ⟨hr,λp q p1 p2 p3=>hs p q p1 p2 (by have:=dF hlt;omega)⟩);have hlt:=dT hlt;refine tW (RF o (by omega) (hc.perm hr.1) a b i (by omega) (by omega) hs ?_) ?_
 ·intro m2 j hja0 hj hm2;dsimp only;by_cases hja:j=a
  ·subst hja;rw[cndF df,bdI];dsimp only;rw[cndF rfl,Ac,if_pos rfl];rfl
  ·rw[if_neg hja,cndT dt,gdT dt,bdI,Ac,gdT dt,bdI,show((j:Int)-1)=((j-1:Nat):Int) by omega,bX,bX];cases e:cmp (m2.getD j d) (m2.getD (j-1) d)with
   |none=>rfl
   |some v=>
    simp only[bdI];by_cases hv:v<0
    ·rw[cndT (dt hv),if_pos hv,Ac,show((j:Int)-1)=((j-1:Nat):Int) by omega,gdT dt,gdT dt,gdT dt,gdT (dt (by rw[aU];omega)),bX,bX];rfl
    ·rw[cndF (df hv),if_neg hv,Ac];rfl
 ·rintro c ⟨r,rfl,h1,h2⟩;exact⟨⟨i+1,r,rfl,by omega,hr.trans (h1.wide (aW _) (by omega)),h2,by omega⟩,by simp only;omega⟩
theorem Na (A B Z:List α):∀ (X Y:List α) {a b n:Nat},A.length=a->X.length=n->Y.length=n->a+n+B.length=b->(A++(X++(B++(Y++Z)))).length<=1099511627776 ->
  gSwr d (a:Int) (b:Int) (n:Int) (A++(X++(B++(Y++Z))))=some (A++(Y++(B++(X++Z)))):=by
 intro X Y a b n hA hX hY hb hl;simp only[aB]at hl;have S0:((((a:Int),(b:Int)),(n:Int),((0:Nat):Int),A++(Y.take 0++X.drop 0++(B++(X.take 0++Y.drop 0++Z)))):(Int×Int)×Int×Int×List α)=(((a:Int),(b:Int)),(n:Int),(0:Int),A++(X++(B++(Y++Z)))):=by simp
 unfold gSwr;refine Vj (λi=>((((a:Int),(b:Int)),(n:Int),(i:Int),A++(Y.take i++X.drop i++(B++(X.take i++Y.drop i++Z)))):(Int×Int)×Int×Int×List α)) n S0 (λi hi=>?_) ?_ (by omega)
 ·have e1:A++(Y.take i++X.drop i++(B++(X.take i++Y.drop i++Z)))=(A++Y.take i)++X[i]::((X.drop (i+1)++(B++X.take i))++Y[i]::(Y.drop (i+1)++Z)):=by rw[bD (i:=i) (l:=X) (by omega),bD (i:=i) (l:=Y) (by omega)];simp only[aG,cD,aR]
  have e2:A++(Y.take (i+1)++X.drop (i+1)++(B++(X.take (i+1)++Y.drop (i+1)++Z)))=(A++Y.take i)++Y[i]::((X.drop (i+1)++(B++X.take i))++X[i]::(Y.drop (i+1)++Z)):=by rw[bY (i:=i) (l:=X) (by omega),bY (i:=i) (l:=Y) (by omega)];simp only[aG,cD,aR]
  have len:((A++Y.take i)++X[i]::((X.drop (i+1)++(B++X.take i))++Y[i]::(Y.drop (i+1)++Z))).length=A.length+(n+(B.length+(n+Z.length))):=by simp;omega
  have pa:(A++Y.take i).length=a+i:=by simp;omega
  have pb:(A++Y.take i).length+1+(X.drop (i+1)++(B++X.take i)).length=b+i:=by simp;omega
  have ga:((A++Y.take i)++X[i]::((X.drop (i+1)++(B++X.take i))++Y[i]::(Y.drop (i+1)++Z))).getD (a+i) d=X[i]:=by rw[aL,aC (by omega),pa,cL];rfl
  have gb:((A++Y.take i)++X[i]::((X.drop (i+1)++(B++X.take i))++Y[i]::(Y.drop (i+1)++Z))).getD (b+i) d=Y[i]:=by rw[aL,aC (by omega),<-pb,show∀x y:Nat,x+1+y-x=y+1 by omega,List.getElem?_cons_succ,aC (by omega),cL];rfl
  dsimp only;rw[e1,e2,cndT dt,Ac,Ac,gdT dt,bdI,gdT dt,bdI,gdT dt,gdT (dt (by rw[aU];omega)),show((a:Int)+(i:Int)).toNat=a+i by omega,show((b:Int)+(i:Int)).toNat=b+i by omega,ga,gb,AdB _ _ _ _ _ pa pb,Ac];rfl
 ·dsimp only;rw[cndF df];rw[bK (by omega),cZ (by omega),bK (by omega),cZ (by omega)];simp;rfl
theorem AbN (A U V Z:List α) {a:Nat} (hA:A.length=a) (hU:a+U.length=m) (hV:m+V.length=b) (hU0:U≠[]) (hV0:V≠[]) (hl:(A++(U++(V++Z))).length<=1099511627776) :
  gRot d (a:Int) (m:Int) (b:Int) (A++(U++(V++Z)))=some (A++(V++(U++Z))):=by
 have hul:0<U.length:=cK.2 hU0;have hvl:0<V.length:=cK.2 hV0;have hl2:=hl;simp only[aB]at hl2;have key:Tot (λr=>r=A++(V++(U++Z))) (gRot d (a:Int) (m:Int) (b:Int) (A++(U++(V++Z)))):=by
  unfold gRot;rw[Ac,Ac];refine tL (λs=>∃(A' U' V' Z':List α),s=(((m:Int),((U'.length:Nat):Int)),((V'.length:Nat):Int),A'++(U'++(V'++Z')))/\A'.length+U'.length=m/\0<U'.length/\0<V'.length/\A'++(V'++(U'++Z'))=A++(V++(U++Z))/\(A'++(U'++(V'++Z'))).length=(A++(U++(V++Z))).length) (λs=>s.1.2.toNat+s.2.1.toNat) ?_ ⟨A,U,V,Z,by rw[show(m:Int)-(a:Int)=((U.length:Nat):Int) by omega,show(b:Int)-(m:Int)=((V.length:Nat):Int) by omega],by omega,hul,hvl,rfl,rfl⟩ (by simp only;omega);rintro _ ⟨A',U',V',Z',rfl,h1,h2,h3,h4,h5⟩;have h6:=h5;simp only[aB]at h6;dsimp only;rw[Ac];refine tC (λhne=>?_) λheq=>?_
  ·have hne:=nT hne;refine tC (λhgt=>?_) λhgt=>?_
   ·have hgt:=dT hgt;have e0:A'++(U'++(V'++Z'))=A'++(U'.take V'.length++(U'.drop V'.length++(V'++Z'))):=by conv=>lhs;rw[<-aK V'.length U',aG]
    have hs:=Na (d:=d) A' (U'.drop V'.length) Z' (U'.take V'.length) V' (a:=A'.length) (b:=m) (n:=V'.length) rfl (by rw[aI];omega) rfl (by rw[aJ];omega) (by rw[<-e0,h5];exact hl);rw[show(m:Int)-((U'.length:Nat):Int)=((A'.length:Nat):Int) by omega,e0];refine(bdS hs).symm▸?_;rw[Ac];refine tGo ⟨⟨A'++V',U'.drop V'.length,U'.take V'.length,Z',?_,?_,?_,?_,?_,?_⟩,?_⟩
    ·rw[aG,aJ,aI];congr 2
     ·congr 1;omega
     ·congr 1;omega
    ·rw[aB,aJ];omega
    ·rw[aJ];omega
    ·rw[aI];omega
    ·rw[<-h4,<-aG (U'.take V'.length),aK,aG]
    ·rw[<-h5];simp only[aB,aJ,aI];omega
    ·simp only;omega
   ·have hgt:=dF hgt;have e0:A'++(U'++(V'++Z'))=A'++(U'++(V'.take (V'.length-U'.length)++(V'.drop (V'.length-U'.length)++Z'))):=by conv=>lhs;rw[<-aK (V'.length-U'.length) V',aG]
    have hs:=Na (d:=d) A' (V'.take (V'.length-U'.length)) Z' U' (V'.drop (V'.length-U'.length)) (a:=A'.length) (b:=m+(V'.length-U'.length)) (n:=U'.length) rfl rfl (by rw[aJ];omega) (by rw[aI];omega) (by rw[<-e0,h5];exact hl);rw[show(m:Int)-((U'.length:Nat):Int)=((A'.length:Nat):Int) by omega,Ac (x:=(m:Int)+_),Ac,show(m:Int)+((V'.length:Nat):Int)-((U'.length:Nat):Int)=((m+(V'.length-U'.length):Nat):Int) by omega,e0];refine(bdS hs).symm▸?_;rw[Ac];refine tGo ⟨⟨A',V'.drop (V'.length-U'.length),V'.take (V'.length-U'.length),U'++Z',?_,?_,?_,?_,?_,?_⟩,?_⟩
    ·rw[aJ,aI];congr 2
     ·congr 1;omega
     ·congr 1;omega
    ·rw[aJ];omega
    ·rw[aJ];omega
    ·rw[aI];omega
    ·rw[<-h4,<-aG (V'.take (V'.length-U'.length)),aK]
    ·rw[<-h5];simp only[aB,aJ,aI];omega
    ·simp only;omega
  ·have heq:=nF heq;have hs:=Na (d:=d) A' [] Z' U' V' (a:=A'.length) (b:=m) (n:=U'.length) rfl rfl (by omega) (by simp;omega) (by rw[aR,h5];exact hl);rw[aR,aR]at hs;rw[show(m:Int)-((U'.length:Nat):Int)=((A'.length:Nat):Int) by omega];refine tDn ?_;refine(bdS hs).symm▸?_;exact tS h4
 obtain⟨r,h1,rfl⟩:=key;exact h1
end
section
theorem Jr{x y:Nat}(h:x+y<=9223372036854775807:=by omega):aA .i64 (shrK .u64 (aA .u64 (aA .i64 ((x:Int)+(y:Int)))) (1:Int))=(((x+y)/2:Nat):Int):=by
 rw[Ac (x:=(x:Int)+(y:Int))];have e1:aA .u64 ((x:Int)+(y:Int))=(x:Int)+(y:Int):=by rw[IntKind.wrap_u64];omega
 rw[e1];have e2:shrK .u64 ((x:Int)+(y:Int)) (1:Int)=((x:Int)+(y:Int))/2:=by unfold shrK;show((x:Int)+(y:Int)).fdiv (2^(min 1 64))=_;rw[cO _ (by decide)];rfl
 rw[e2,Ac];omega
theorem Srt.sub{a a' b':Nat}(h:Srt lt d l a b)(ha:a<=a')(hb:b'<=b):Srt lt d l a' b':=λp q h1 h2 h3=>h p q (by omega) h2 (by omega)
theorem Srt.le(o:Ord3 lt)(irr:∀x,¬lt x x){a:Nat}(h:Srt lt d l a b){p q:Nat}(h1:a<=p)(h2:p<=q)(h3:q<b):¬lt (l.getD q d) (l.getD p d):=by
 by_cases e:p=q
 ·subst e;exact irr _
 ·exact h p q h1 (by omega) h3
theorem Ord3.irr(o:Ord3 lt)(x:α):¬lt x x:=λh=>o.asy x x h h
theorem AbO (A U V Z:List α) {k:Nat}:(A++(V++(U++Z))).getD k d =
  if k<A.length then(A++(U++(V++Z))).getD k d
  else if k<A.length+V.length then(A++(U++(V++Z))).getD (k+U.length) d
  else if k<A.length+V.length+U.length then(A++(U++(V++Z))).getD (k-V.length) d
  else(A++(U++(V++Z))).getD k d:=by
 simp only[aL];by_cases h1:k<A.length
 ·rw[if_pos h1,aE h1,aE h1]
 ·rw[if_neg h1,aC (by omega)];by_cases h2:k<A.length+V.length
  ·rw[if_pos h2,aE (by omega),aC (by omega),aC (by omega),aE (by omega)];exact congrArg (λi=>V[i]?.getD d) (by omega)
  ·rw[if_neg h2,aC (by omega)];by_cases h3:k<A.length+V.length+U.length
   ·rw[if_pos h3,aE (by omega),aC (by omega),aE (by omega)];exact congrArg (λi=>U[i]?.getD d) (by omega)
   ·rw[if_neg h3,aC (by omega),aC (by omega),aC (by omega),aC (by omega)];exact congrArg (λi=>Z[i]?.getD d) (by omega)
theorem AlI(l:List α){s e:Nat}(h1:s<=m)(h2:m<=e)(h3:e<=l.length):∃A U V Z,l=A++(U++(V++Z))/\A.length=s/\s+U.length=m/\m+V.length=e:=by
 refine⟨l.take s,(l.drop s).take (m-s),(l.drop m).take (e-m),l.drop e,?_,by simp;omega,by simp;omega,by simp;omega⟩
 have e1:(l.drop m).drop (e-m)=l.drop e:=by rw[cM];congr 1;omega
 have e2:(l.drop s).drop (m-s)=l.drop m:=by rw[cM];congr 1;omega
 rw[<-e1,aK,<-e2,aK,aK]
theorem WA (o:Ord3 lt) (hl:l.length<=1099511627776) {a:Nat} (hai:a < i) (hib:i<=b) (hb:b<=l.length) (h1:∀ p,a < p->p < i->lt (l.getD p d) (l.getD a d)) (h2:∀ p,i<=p->p < b->¬ lt (l.getD p d) (l.getD a d)) (hs:Srt lt d l (a+1) b)
  (hB:∀(m:List α)(k:Nat),a<=k->k<i->m.length=l.length->B ((i:Int),(k:Int),m)=if k+1<i then some (.go ((i:Int),((k+1:Nat):Int),sw d m k (k+1)))else some (.done m)):
  Tot (λr=>Rr d a b l r/\Srt lt d r a b) (loopO fuelN B ((i:Int),(a:Int),l)):=by
 refine tL (λs=>∃(k:Nat)(m:List α),s=((i:Int),(k:Int),m)/\(a<=k/\k<i)/\Rr d a b l m/\∀p,m.getD p d=if a<=p/\p<k then l.getD (p+1) d else if p=k then l.getD a d else l.getD p d) (λs=>i-s.2.1.toNat) ?_ ⟨a,l,rfl,⟨aW _,hai⟩,Rr.refl _ _ _,λp=>?_⟩ (by simp only;omega)
 ·rintro _ ⟨k,m,rfl,⟨hk1,hk2⟩,hr,hg⟩;have hml:=hr.len;rw[hB m k hk1 hk2 hml];by_cases hlt:k+1<i
  ·rw[if_pos hlt];refine tGo ⟨⟨k+1,_,rfl,⟨by omega,hlt⟩,hr.trans (Rr.sw (by omega) (by omega) (by omega) (by omega)),λp=>?_⟩,by simp only;omega⟩;rw[MZ (by omega) (by omega),hg k,hg (k+1),hg p];by_cases e1:k+1=p
   ·subst e1;rw[if_pos rfl,if_neg (by omega),if_pos rfl,if_neg (by omega),if_pos rfl]
   ·rw[if_neg e1];by_cases e2:k=p
    ·subst e2;rw[if_pos rfl,if_neg (by omega),if_neg (by omega),if_pos (by omega)]
    ·rw[if_neg e2];by_cases e3:a<=p/\p<k
     ·rw[if_pos e3,if_pos (by omega)]
     ·rw[if_neg e3,if_neg (by omega),if_neg (by omega),if_neg (by omega)]
  ·rw[if_neg hlt];refine tS ⟨hr,λp q p1 p2 p3=>?_⟩;rw[hg p,hg q];by_cases e1:a<=q/\q<k
   ·rw[if_pos e1,if_pos (by omega)];exact hs (p+1) (q+1) (by omega) (by omega) (by omega)
   ·rw[if_neg e1];by_cases e2:q=k
    ·rw[if_pos e2,if_pos (by omega)];exact o.asy _ _ (h1 (p+1) (by omega) (by omega))
    ·rw[if_neg e2];by_cases e3:a<=p/\p<k
     ·rw[if_pos e3];exact hs (p+1) q (by omega) (by omega) p3
     ·rw[if_neg e3];by_cases e4:p=k
      ·rw[if_pos e4];exact h2 q (by omega) p3
      ·rw[if_neg e4];exact hs p q (by omega) p2 p3
 ·by_cases e:p=a
  ·rw[if_neg (by omega),if_pos e,e]
  ·rw[if_neg (by omega),if_neg e]
theorem Vk (o:Ord3 lt) (hl:l.length<=1099511627776) {a:Nat} (hai:a<=i) (him:i<=m) (hb:m+1<=l.length) (h1:∀ p,a<=p->p < i->¬ lt (l.getD m d) (l.getD p d)) (h2:∀ p,i<=p->p < m->lt (l.getD m d) (l.getD p d)) (hs:Srt lt d l a m)
  (hB:∀(x:List α)(k:Nat),i<=k->k<=m->x.length=l.length->B ((i:Int),(k:Int),x)=if i<k then some (.go ((i:Int),((k-1:Nat):Int),sw d x k (k-1)))else some (.done x)):
  Tot (λr=>Rr d a (m+1) l r/\Srt lt d r a (m+1)) (loopO fuelN B ((i:Int),(m:Int),l)):=by
 refine tL (λs=>∃(k:Nat)(x:List α),s=((i:Int),(k:Int),x)/\(i<=k/\k<=m)/\Rr d a (m+1) l x/\∀p,x.getD p d=if k<p/\p<=m then l.getD (p-1) d else if p=k then l.getD m d else l.getD p d) (λs=>s.2.1.toNat) ?_ ⟨m,l,rfl,⟨him,aW _⟩,Rr.refl _ _ _,λp=>?_⟩ (by simp only;omega)
 ·rintro _ ⟨k,x,rfl,⟨hk1,hk2⟩,hr,hg⟩;have hml:=hr.len;rw[hB x k hk1 hk2 hml];by_cases hlt:i<k
  ·rw[if_pos hlt];obtain⟨j,rfl⟩:∃j,k=j+1:=⟨k-1,by omega⟩
   rw[show j+1-1=j by omega];refine tGo ⟨⟨j,_,rfl,by omega,hr.trans (Rr.sw (by omega) (by omega) (by omega) (by omega)),λp=>?_⟩,by simp only;omega⟩;rw[MZ (by omega) (by omega),hg j,hg (j+1),hg p];by_cases e1:j=p
   ·subst e1;rw[if_pos rfl,if_neg (by omega),if_pos rfl,if_neg (by omega),if_pos rfl]
   ·rw[if_neg e1];by_cases e2:j+1=p
    ·subst e2;rw[if_pos rfl,if_neg (by omega),if_neg (by omega),if_pos (by omega)];rfl
    ·rw[if_neg e2];by_cases e3:j+1<p/\p<=m
     ·rw[if_pos e3,if_pos (by omega)]
     ·rw[if_neg e3,if_neg (by omega),if_neg (by omega),if_neg (by omega)]
  ·rw[if_neg hlt];refine tS ⟨hr,λp q p1 p2 p3=>?_⟩;rw[hg p,hg q];by_cases e1:k<p/\p<=m
   ·rw[if_pos e1,if_pos (by omega)];exact hs (p-1) (q-1) (by omega) (by omega) (by omega)
   ·rw[if_neg e1];by_cases e2:p=k
    ·rw[if_pos e2,if_pos (by omega)];exact o.asy _ _ (h2 (q-1) (by omega) (by omega))
    ·rw[if_neg e2];by_cases e3:k<q/\q<=m
     ·rw[if_pos e3];exact hs p (q-1) p1 (by omega) (by omega)
     ·rw[if_neg e3];by_cases e4:q=k
      ·rw[if_pos e4];exact h1 p p1 (by omega)
      ·rw[if_neg e4];exact hs p q p1 p2 (by omega)
 ·by_cases e:p=m
  ·rw[if_neg (by omega),if_pos e,e]
  ·by_cases e2:m<p/\p<=m
   ·omega
   ·rw[if_neg e2,if_neg e]
end
end Go.Proofs.YtpglaekodahcoaaGreatDoor
