/-
TopDamage,plain:lists are read again. Conditions:texts of at most 255 bytes,numbers in their types,lists of at most 65535 elements.
-/
import Derived.Test.YtpglaekodahcoaaGreatDoorM5
namespace Go.Proofs.YtpglaekodahcoaaGreatDoor
set_option linter.unusedVariables false
set_option linter.unusedSimpArgs false
set_option maxRecDepth 100000
open Go.RowKit
open _root_.List renaming getElem_mem->aA,length_pos_iff->aC,length_append->aD,length_cons->aE,length_nil->aH,take_succ_eq_append_getElem->aJ,mem_singleton->aK,length_take->aL,append_assoc->aM,length_drop->aN,mem_append->aP,getD->aR,append_nil->aS,mem_cons_self->aT,getD_eq_getElem?_getD->aV,take_length->aW,getElem_of_mem->aX,getElem?_append_right->bA,drop_eq_getElem_cons->bB,length_set->bC,mem_cons_of_mem->bD,length->bE,mem_of_mem_take->bF,mem_of_mem_drop->bG,sum_append->bI,map_append->bJ,take_left->bK,take_of_length_le->bM,append_eq_nil_iff->bN,set_append_right->bO,mem_append_right->bP,drop->bQ,take->bS,drop_left->bU,getElem?_append_left->bX,getElem_append_right->bY,getElem?_eq_getElem->cB,getElem_append_left->cC,take_append_drop->cG,eq_nil_or_concat->cJ,concat_eq_append->cK,set->cL,mem_append_left->cN,mem_cons->cQ
open _root_.Int renaming toNat_natCast->aB,le_refl->aY,tdiv_eq_ediv_of_nonneg->aZ,fdiv_eq_ediv_of_nonneg->bV,tmod_eq_emod_of_nonneg->bW,toNat->cE
open Go.IntKind renaming wrap->aF,wrap_u8->bR,wrap_u64->cD
open _root_.Bool renaming not_false->aG,not_true->aI
open Go.Lib renaming countByte->aO
open _root_.Nat renaming le_refl->aQ,add_assoc->bH,sub_self->bL,zero_le->bZ,pow_le_pow_right->cM,beq->cO,le_trans->cS
open _root_.BitVec renaming ofInt->aU,toNat_ofInt->cR
variable{α:Type}{i:Nat}{w:Bt}{n:Nat}{x:Option α}{Q:α->Prop}{m y:Int}{k:Nat}{β:Type}{la:Int}{ws:List Bt}{at_:Nat}{b:UInt8}{q:Bt}{r:α}
theorem CT(f:α->List β){l:List α}(h:i<l.length):l.flatMap f=(l.take i).flatMap f++(f l[i]++(l.drop (i+1)).flatMap f):=by rw[<-List.flatMap_cons,<-bB h,<-List.flatMap_append,cG]
section
variable{p:Bt}{stop:Nat}
theorem Aex {l:List Be} (hl:l.length<=65535) (hf:∀ a∈l,okF a) (h:Ahead p at_ stop (lsB fxB l++q)) (hs:at_+(lsB fxB l).length<=stop) :
  o85 (rdr p at_ stop)=some (rdr p (at_+(lsB fxB l).length) stop,l):=by
 have e:lsB fxB l++q=putB ((l.length:Nat):Int) 2++(l.flatMap fxB++q):=by simp[lsB]
 have hst:=h.st;have hln:=h.ln;rw[e]at h;rw[BG]at hs⊢;unfold o85;refine(bdS (Lr (k:=2) h)).trans ?_;have h:=h.n8;refine AN (n:=l.length) (λi=>((((l.length:Nat):Int),(i:Int)),rdr p (at_+2+((l.take i).flatMap fxB).length) stop,l.take i)) (by simp) (λi hi=>?_) ?_
 ·have hm:=BK fxB hi;have hA:Ahead p (at_+2+((l.take i).flatMap fxB).length) stop (fxB l[i]++((l.drop (i+1)).flatMap fxB++q)):=by rw[CT fxB hi,aM,aM]at h;exact h.next
  dsimp only;rw[cndT dt,cndF rfl];refine(bdS (Aew (hf _ (aA hi)) hA (by omega))).trans ?_;dsimp only;rw[gdT (dt (by simp only[aL,aE,aH];omega)),Ac,AV fxB hi,aD,<-bH (at_+2),aJ hi];rfl
 ·dsimp only;rw[cndF df,aW];refine dnE ?_;rw[show at_+2+(l.flatMap fxB).length=at_+(2+(l.flatMap fxB).length) by omega]
theorem Ach {l:List Pt_} (hl:l.length<=65535) (hf:∀ a∈l,okP a) (h:Ahead p at_ stop (lsB ptB l++q)) (hs:at_+(lsB ptB l).length<=stop) :
  o148 (rdr p at_ stop)=some (rdr p (at_+(lsB ptB l).length) stop,l):=by
 have e:lsB ptB l++q=putB ((l.length:Nat):Int) 2++(l.flatMap ptB++q):=by simp[lsB]
 have hst:=h.st;have hln:=h.ln;rw[e]at h;rw[BG]at hs⊢;unfold o148;refine(bdS (Lr (k:=2) h)).trans ?_;have h:=h.n8;refine AN (n:=l.length) (λi=>((((l.length:Nat):Int),(i:Int)),rdr p (at_+2+((l.take i).flatMap ptB).length) stop,l.take i)) (by simp) (λi hi=>?_) ?_
 ·have hm:=BK ptB hi;have hA:Ahead p (at_+2+((l.take i).flatMap ptB).length) stop (ptB l[i]++((l.drop (i+1)).flatMap ptB++q)):=by rw[CT ptB hi,aM,aM]at h;exact h.next
  dsimp only;rw[cndT dt,cndF rfl];refine(bdS (Acf (hf _ (aA hi)) hA (by omega))).trans ?_;dsimp only;rw[gdT (dt (by simp only[aL,aE,aH];omega)),Ac,AV ptB hi,aD,<-bH (at_+2),aJ hi];rfl
 ·dsimp only;rw[cndF df,aW];refine dnE ?_;rw[show at_+2+(l.flatMap ptB).length=at_+(2+(l.flatMap ptB).length) by omega]
theorem Aci {l:List Bw} (hl:l.length<=65535) (hf:∀ a∈l,okL a) (h:Ahead p at_ stop (lsB lgB l++q)) (hs:at_+(lsB lgB l).length<=stop) :
  o201 (rdr p at_ stop)=some (rdr p (at_+(lsB lgB l).length) stop,l):=by
 have e:lsB lgB l++q=putB ((l.length:Nat):Int) 2++(l.flatMap lgB++q):=by simp[lsB]
 have hst:=h.st;have hln:=h.ln;rw[e]at h;rw[BG]at hs⊢;unfold o201;refine(bdS (Lr (k:=2) h)).trans ?_;have h:=h.n8;refine AN (n:=l.length) (λi=>((((l.length:Nat):Int),(i:Int)),rdr p (at_+2+((l.take i).flatMap lgB).length) stop,l.take i)) (by simp) (λi hi=>?_) ?_
 ·have hm:=BK lgB hi;have hA:Ahead p (at_+2+((l.take i).flatMap lgB).length) stop (lgB l[i]++((l.drop (i+1)).flatMap lgB++q)):=by rw[CT lgB hi,aM,aM]at h;exact h.next
  dsimp only;rw[cndT dt,cndF rfl];refine(bdS (Acg (hf _ (aA hi)) hA (by omega))).trans ?_;dsimp only;rw[gdT (dt (by simp only[aL,aE,aH];omega)),Ac,AV lgB hi,aD,<-bH (at_+2),aJ hi];rfl
 ·dsimp only;rw[cndF df,aW];refine dnE ?_;rw[show at_+2+(l.flatMap lgB).length=at_+(2+(l.flatMap lgB).length) by omega]
def okA(a:AQ):Prop:=a.1.length<=255/\a.2.length<=65535/\∀x∈a.2,okP x
theorem Aey {a:AQ} (hf:okA a) (h:Ahead p at_ stop (awB a++q)) (hs:at_+(awB a).length<=stop) :
  o88 (rdr p at_ stop)=some (a.1,rdr p (at_+(awB a).length) stop,a.2):=by
 obtain⟨n,l⟩:=a;obtain⟨f1,f2,f3⟩:=hf;have e:awB (n,l)++q=txB n++(lsB ptB l++q):=by simp[awB,txsB]
 have hn:(awB (n,l)).length=n.length+1+(lsB ptB l).length:=by simp only[awB,aD,Cf]
 rw[hn]at hs⊢;rw[e]at h;dsimp only at*;unfold o88;refine(bdS (Ei h (by omega) f1)).trans ?_;have h:=h.tx;refine(bdS (Ach f2 f3 h (by omega))).trans ?_;dsimp only;rw[show at_+(n.length+1)+(lsB ptB l).length=at_+(n.length+1+(lsB ptB l).length) by omega]
def okX(x:Bh):Prop:=u8R x.1/\x.2.1.length<=255/\x.2.2.length<=65535/\∀y∈x.2.2,okL y
theorem Acj {a:Bh} (hf:okX a) (h:Ahead p at_ stop (paB a++q)) (hs:at_+(paB a).length<=stop) :
  o151 (rdr p at_ stop)=some ((a.1,a.2.1),rdr p (at_+(paB a).length) stop,a.2.2):=by
 obtain⟨k,n,l⟩:=a;obtain⟨f0,f1,f2,f3⟩:=hf;have e:paB (k,n,l)++q=u8 k::(txB n++(lsB lgB l++q)):=by simp[paB,txsB]
 have hn:(paB (k,n,l)).length=n.length+2+(lsB lgB l).length:=by simp only[paB,aE,aD,Cf];omega
 rw[hn]at hs⊢;rw[e]at h;dsimp only at*;unfold o151;refine(bdS (FC f0 h)).trans ?_;have h:=h.by1;refine(bdS (Ei h (by omega) f1)).trans ?_;have h:=h.tx;refine(bdS (Aci f2 f3 h (by omega))).trans ?_;dsimp only;rw[show at_+1+(n.length+1)+(lsB lgB l).length=at_+(n.length+2+(lsB lgB l).length) by omega]
theorem Aez {l:List AQ} (hl:l.length<=65535) (hf:∀ a∈l,okA a) (h:Ahead p at_ stop (lsB awB l++q)) (hs:at_+(lsB awB l).length<=stop) :
  o87 (rdr p at_ stop)=some (rdr p (at_+(lsB awB l).length) stop,l):=by
 have e:lsB awB l++q=putB ((l.length:Nat):Int) 2++(l.flatMap awB++q):=by simp[lsB]
 have hst:=h.st;have hln:=h.ln;rw[e]at h;rw[BG]at hs⊢;unfold o87;refine(bdS (Lr (k:=2) h)).trans ?_;have h:=h.n8;refine AN (n:=l.length) (λi=>((((l.length:Nat):Int),(i:Int)),rdr p (at_+2+((l.take i).flatMap awB).length) stop,l.take i)) (by simp) (λi hi=>?_) ?_
 ·have hm:=BK awB hi;have hA:Ahead p (at_+2+((l.take i).flatMap awB).length) stop (awB l[i]++((l.drop (i+1)).flatMap awB++q)):=by rw[CT awB hi,aM,aM]at h;exact h.next
  dsimp only;rw[cndT dt,cndF rfl];refine(bdS (Aey (hf _ (aA hi)) hA (by omega))).trans ?_;dsimp only;rw[gdT (dt (by simp only[aL,aE,aH];omega)),Ac,AV awB hi,aD,<-bH (at_+2),aJ hi];rfl
 ·dsimp only;rw[cndF df,aW];refine dnE ?_;rw[show at_+2+(l.flatMap awB).length=at_+(2+(l.flatMap awB).length) by omega]
theorem Ack {l:List Bh} (hl:l.length<=65535) (hf:∀ a∈l,okX a) (h:Ahead p at_ stop (lsB paB l++q)) (hs:at_+(lsB paB l).length<=stop) :
  o150 (rdr p at_ stop)=some (rdr p (at_+(lsB paB l).length) stop,l):=by
 have e:lsB paB l++q=putB ((l.length:Nat):Int) 2++(l.flatMap paB++q):=by simp[lsB]
 have hst:=h.st;have hln:=h.ln;rw[e]at h;rw[BG]at hs⊢;unfold o150;refine(bdS (Lr (k:=2) h)).trans ?_;have h:=h.n8;refine AN (n:=l.length) (λi=>((((l.length:Nat):Int),(i:Int)),rdr p (at_+2+((l.take i).flatMap paB).length) stop,l.take i)) (by simp) (λi hi=>?_) ?_
 ·have hm:=BK paB hi;have hA:Ahead p (at_+2+((l.take i).flatMap paB).length) stop (paB l[i]++((l.drop (i+1)).flatMap paB++q)):=by rw[CT paB hi,aM,aM]at h;exact h.next
  dsimp only;rw[cndT dt,cndF rfl];refine(bdS (Acj (hf _ (aA hi)) hA (by omega))).trans ?_;dsimp only;rw[gdT (dt (by simp only[aL,aE,aH];omega)),Ac,AV paB hi,aD,<-bH (at_+2),aJ hi];rfl
 ·dsimp only;rw[cndF df,aW];refine dnE ?_;rw[show at_+2+(l.flatMap paB).length=at_+(2+(l.flatMap paB).length) by omega]
def okR(x:AA):Prop:=x.1.length<=255/\x.2.1.length<=255/\u8R x.2.2.1/\x.2.2.2.length<=65535/\∀y∈x.2.2.2,okX y
theorem AeA {a:AA} (hf:okR a) (h:Ahead p at_ stop (prB a++q)) (hs:at_+(prB a).length<=stop) :
  o90 (rdr p at_ stop)=some ((a.1,a.2.1,a.2.2.1),rdr p (at_+(prB a).length) stop,a.2.2.2):=by
 obtain⟨m,n,k,l⟩:=a;obtain⟨f0,f1,f2,f3,f4⟩:=hf;have e:prB (m,n,k,l)++q=txB m++(txB n++(u8 k::(lsB paB l++q))):=by simp[prB,txsB]
 have hn:(prB (m,n,k,l)).length=m.length+n.length+3+(lsB paB l).length:=by simp only[prB,aE,aD,Gi];omega
 rw[hn]at hs⊢;rw[e]at h;dsimp only at*;unfold o90;refine(bdS (Ei h (by omega) f0)).trans ?_;have h:=h.tx;refine(bdS (Ei h (by omega) f1)).trans ?_;have h:=h.tx;refine(bdS (FC f2 h)).trans ?_;have h:=h.by1;refine(bdS (Ack f3 f4 h (by omega))).trans ?_;dsimp only;rw[show at_+(m.length+1)+(n.length+1)+1+(lsB paB l).length=at_+(m.length+n.length+3+(lsB paB l).length) by omega]
theorem AeB {l:List AA} (hl:l.length<=65535) (hf:∀ a∈l,okR a) (h:Ahead p at_ stop (lsB prB l++q)) (hs:at_+(lsB prB l).length<=stop) :
  o89 (rdr p at_ stop)=some (rdr p (at_+(lsB prB l).length) stop,l):=by
 have e:lsB prB l++q=putB ((l.length:Nat):Int) 2++(l.flatMap prB++q):=by simp[lsB]
 have hst:=h.st;have hln:=h.ln;rw[e]at h;rw[BG]at hs⊢;unfold o89;refine(bdS (Lr (k:=2) h)).trans ?_;have h:=h.n8;refine AN (n:=l.length) (λi=>((((l.length:Nat):Int),(i:Int)),rdr p (at_+2+((l.take i).flatMap prB).length) stop,l.take i)) (by simp) (λi hi=>?_) ?_
 ·have hm:=BK prB hi;have hA:Ahead p (at_+2+((l.take i).flatMap prB).length) stop (prB l[i]++((l.drop (i+1)).flatMap prB++q)):=by rw[CT prB hi,aM,aM]at h;exact h.next
  dsimp only;rw[cndT dt,cndF rfl];refine(bdS (AeA (hf _ (aA hi)) hA (by omega))).trans ?_;dsimp only;rw[gdT (dt (by simp only[aL,aE,aH];omega)),Ac,AV prB hi,aD,<-bH (at_+2),aJ hi];rfl
 ·dsimp only;rw[cndF df,aW];refine dnE ?_;rw[show at_+2+(l.flatMap prB).length=at_+(2+(l.flatMap prB).length) by omega]
end
def okH(x:DB_):Prop:=x.1.1.1.length<=255/\Dp x.1.1.2/\Dp x.1.2.1/\Dp x.1.2.2/\Dp x.2.1.1/\Dp x.2.1.2
def okDB(x:DB_):Prop:=okH x/\(x.2.2.1.length<=65535/\∀a∈x.2.2.1,okF a)/\(x.2.2.2.1.length<=65535/\∀a∈x.2.2.2.1,okA a)/\(x.2.2.2.2.length<=65535/\∀a∈x.2.2.2.2,okR a)
theorem HN {b c:Bt} {t:Int} (ht:u8R t) (h:Ahead b at_ b.length (secB t c++q)) (hl:at_+(c.length+5)<=b.length:=by omega) (h4:c.length < 256 ^ 4:=by omega) :
  o81 (rdr b at_ b.length)=some (t,rdr b (at_+1) b.length)/\o82 (4:Int) (rdr b (at_+1) b.length)=some (((c.length:Nat):Int),rdr b (at_+5) b.length)/\Ahead b (at_+5) (at_+5+c.length) (c++q):=by
 have e:secB t c++q=u8 t::(putB ((c.length:Nat):Int) 4++(c++q)):=by simp[secB]
 rw[e]at h;have h1:=h.by1;have h2:=h1.n8;refine⟨FC ht h,?_,⟨h2.dr,by omega,h2.ln⟩⟩
 exact Lr (k:=4) h1 (by decide) (by omega) h4
theorem Acl {b:Bt} {stop:Nat} {x:DB_} (hx:okH x) (h:Ahead b at_ stop (hdB x++q)) (hs:at_+(hdB x).length<=stop) {k:_->_->_->_->_->_->Option β} :
  (bd (o83 (rdr b at_ stop)) λv11=>bd (o84 v11.2) λv12=>bd (o84 v12.2) λv13=>bd (o84 v13.2) λv14=>bd (o84 v14.2) λv15=>bd (o84 v15.2) λv16=>k v11 v12 v13 v14 v15 v16)=
   k (x.1.1.1,rdr b (at_+(x.1.1.1.length+1)) stop) (x.1.1.2,rdr b (at_+(x.1.1.1.length+1)+8) stop) (x.1.2.1,rdr b (at_+(x.1.1.1.length+1)+8+8) stop) (x.1.2.2,rdr b (at_+(x.1.1.1.length+1)+8+8+8) stop) (x.2.1.1,rdr b (at_+(x.1.1.1.length+1)+8+8+8+8) stop) (x.2.1.2,rdr b (at_+(x.1.1.1.length+1)+8+8+8+8+8) stop):=by
 obtain⟨f1,f2,f3,f4,f5,f6⟩:=hx;rw[II]at hs;have e:hdB x++q=txB x.1.1.1++(putB x.1.1.2 8++(putB x.1.2.1 8++(putB x.1.2.2 8++(putB x.2.1.1 8++(putB x.2.1.2 8++q))))):=by simp[hdB,txsB,nsB]
 rw[e]at h;refine(bdS (Ei h (by omega) f1)).trans ?_;have h:=h.tx;refine(bdS (BH h (by omega) f2)).trans ?_;have h:=h.n8;refine(bdS (BH h (by omega) f3)).trans ?_;have h:=h.n8;refine(bdS (BH h (by omega) f4)).trans ?_;have h:=h.n8;refine(bdS (BH h (by omega) f5)).trans ?_;have h:=h.n8;exact(bdS (BH h (by omega) f6)).trans rfl
theorem AeC{σ ρ:Type}{B:σ->Option (Ctl σ ρ)}{s0 s1 s2 s3 s4:σ}{r:ρ}(h0:B s0=some (.go s1))(h1:B s1=some (.go s2))(h2:B s2=some (.go s3))(h3:B s3=some (.go s4))(h4:B s4=some (.done r)):loopO fuelN B s0=some r:=by
 refine Dh (n:=4) (λi=>match i with|0=>s0|1=>s1|2=>s2|3=>s3|_=>s4) (λi hi=>?_) h4 (by decide);match i,hi with
 |0,_=>exact h0
 |1,_=>exact h1
 |2,_=>exact h2
 |3,_=>exact h3
theorem YN(b:Bt):opn (b++CJ (crcI b))=(b,0):=by
 have hl:(b++CJ (crcI b)).length-4=b.length:=by simp[CJ]
 unfold opn;rw[hl,bK,bU,if_pos rfl]
theorem bdbd{γ:Type}{t:α}{f:α->Option β}{g:β->Option γ}(h:x=some t):bd (bd x f) g=bd (f t) g:=by subst h;rfl
theorem RL{x:DB_}(hx:okDB x)(hlen:(imgB x).length<=1073741824):∃s,(∃e1 e2 e3 e4 f1 f2 f3 f4:Int,s=[(1,e1,f1,1),(2,e2,f2,((x.2.2.1.length:Nat):Int)),(3,e3,f3,((x.2.2.2.1.length:Nat):Int)),(4,e4,f4,((x.2.2.2.2.length:Nat):Int))])/\o39 (imgB x++CJ (crcI (imgB x)))=some ((((x.1.1.1,x.1.1.2,x.1.2.1),(x.1.2.2,x.2.1.1),x.2.1.2,0),x.2.2.1),x.2.2.2.1,x.2.2.2.2,s):=by
 obtain⟨hH,⟨hF,hF2⟩,⟨hA,hA2⟩,⟨hP,hP2⟩⟩:=hx;have himg:imgB x=magic++(secB 1 (hdB x)++(secB 2 (lsB fxB x.2.2.1)++(secB 3 (lsB awB x.2.2.2.1)++(secB 4 (lsB prB x.2.2.2.2)++[])))):=by simp[imgB]
 have hL:(imgB x).length=24+(hdB x).length+(lsB fxB x.2.2.1).length+(lsB awB x.2.2.2.1).length+(lsB prB x.2.2.2.2).length:=by rw[himg];simp only[aD,Do,magic,aE,aH];omega
 have A0:Ahead (imgB x) 0 (imgB x).length (magic++(secB 1 (hdB x)++(secB 2 (lsB fxB x.2.2.1)++(secB 3 (lsB awB x.2.2.2.1)++(secB 4 (lsB prB x.2.2.2.2)++[]))))):=⟨by rw[List.drop_zero];exact himg,aQ _,by omega⟩
 have ho:=Aeq (q:=imgB x++CJ (crcI (imgB x))) (by simp[CJ]) (by simp[CJ];omega);rw[YN]at ho;generalize imgB x=b at A0 hL ho hlen⊢;clear himg;generalize hc1:hdB x=c1 at A0 hL;generalize hc2:lsB fxB x.2.2.1=c2 at A0 hL;generalize hc3:lsB awB x.2.2.2.1=c3 at A0 hL;generalize hc4:lsB prB x.2.2.2.2=c4 at A0 hL;have A1:Ahead b 4 b.length (secB 1 c1++(secB 2 c2++(secB 3 c3++(secB 4 c4++[])))):=A0.next;obtain⟨t1,l1,R1⟩:=HN (t:=1) ⟨by decide,by decide⟩ A1;have A2:Ahead b (4+(c1.length+5)) b.length (secB 2 c2++(secB 3 c3++(secB 4 c4++[]))):=by have:=A1.next;rwa [Do]at this
 obtain⟨t2,l2,R2⟩:=HN (t:=2) ⟨by decide,by decide⟩ A2;have A3:Ahead b (4+(c1.length+5)+(c2.length+5)) b.length (secB 3 c3++(secB 4 c4++[])):=by have:=A2.next;rwa [Do]at this
 obtain⟨t3,l3,R3⟩:=HN (t:=3) ⟨by decide,by decide⟩ A3;have A4:Ahead b (4+(c1.length+5)+(c2.length+5)+(c3.length+5)) b.length (secB 4 c4++[]):=by have:=A3.next;rwa [Do]at this
 obtain⟨t4,l4,R4⟩:=HN (t:=4) ⟨by decide,by decide⟩ A4;generalize hp2:4+(c1.length+5)=p2 at*;generalize hp3:p2+(c2.length+5)=p3 at*;generalize hp4:p3+(c3.length+5)=p4 at*;have hp5:p4+(c4.length+5)=b.length:=by omega
 refine⟨[]++[(1,((4+5:Nat):Int),((c1.length:Nat):Int),1)]++[(2,((p2+5:Nat):Int),((c2.length:Nat):Int),((x.2.2.1.length:Nat):Int))]++[(3,((p3+5:Nat):Int),((c3.length:Nat):Int),((x.2.2.2.1.length:Nat):Int))]++[(4,((p4+5:Nat):Int),((c4.length:Nat):Int),((x.2.2.2.2.length:Nat):Int))],⟨_,_,_,_,_,_,_,_,rfl⟩,?_⟩
 unfold o39;refine(bdS ho).trans ?_;refine(cndF (show((0:Int)!=0)=false from rfl)).trans ?_;refine(bdS (Nz (n:=4) A0 rfl)).trans ?_;refine(cndF (show(!(magic==([70,68,66,49]:Bt)))=false from by decide)).trans ?_;refine AeC (s1:=(((b,2),[],rdr b p2 b.length),(((x.1.1.1,x.1.1.2,x.1.2.1),x.1.2.2,x.2.1.1,x.2.1.2),[]++[(1,((4+5:Nat):Int),((c1.length:Nat):Int),1)]),[],[],[]))
  (s2:=(((b,3),[],rdr b p3 b.length),(((x.1.1.1,x.1.1.2,x.1.2.1),x.1.2.2,x.2.1.1,x.2.1.2),[]++[(1,((4+5:Nat):Int),((c1.length:Nat):Int),1)]++[(2,((p2+5:Nat):Int),((c2.length:Nat):Int),((x.2.2.1.length:Nat):Int))]),x.2.2.1,[],[]))
  (s3:=(((b,4),[],rdr b p4 b.length),(((x.1.1.1,x.1.1.2,x.1.2.1),x.1.2.2,x.2.1.1,x.2.1.2),[]++[(1,((4+5:Nat):Int),((c1.length:Nat):Int),1)]++[(2,((p2+5:Nat):Int),((c2.length:Nat):Int),((x.2.2.1.length:Nat):Int))]++[(3,((p3+5:Nat):Int),((c3.length:Nat):Int),((x.2.2.2.1.length:Nat):Int))]),x.2.2.1,x.2.2.2.1,[]))
  (s4:=(((b,5),[],rdr b b.length b.length),(((x.1.1.1,x.1.1.2,x.1.2.1),x.1.2.2,x.2.1.1,x.2.1.2),[]++[(1,((4+5:Nat):Int),((c1.length:Nat):Int),1)]++[(2,((p2+5:Nat):Int),((c2.length:Nat):Int),((x.2.2.1.length:Nat):Int))]++[(3,((p3+5:Nat):Int),((c3.length:Nat):Int),((x.2.2.2.1.length:Nat):Int))]++[(4,((p4+5:Nat):Int),((c4.length:Nat):Int),((x.2.2.2.2.length:Nat):Int))]),x.2.2.1,x.2.2.2.1,x.2.2.2.2)) ?_ ?_ ?_ ?_ ?_
 ·refine(bdS (cndT (dt (show(1:Int)<=4 by decide)))).trans ?_;refine(cndT rfl).trans ?_;refine(bdS ((bdS t1).trans (cndF (show((1:Int)!=1)=false from rfl)))).trans ?_;refine(bdS l1).trans ?_;refine(bdS (cndF rfl)).trans ?_;refine(cndF (show decide (((c1.length:Nat):Int)>aF .i64 (((b.length:Nat):Int)-((4+5:Nat):Int)))=false by rw[Ac];exact df)).trans ?_;have hw:aF .i64 (((4+5:Nat):Int)+((c1.length:Nat):Int))=((4+5+c1.length:Nat):Int):=by rw[Ac];omega
  have hpos:((4+5+c1.length:Nat):Int)=(p2:Int):=by omega
  have R1':Ahead b (4+5) (4+5+c1.length) (hdB x++(secB 2 c2++(secB 3 c3++(secB 4 c4++[])))):=by rw[hc1];exact R1
  have hh:=II x;rw[hc1]at hh;dsimp only;rw[hw];refine(bdS ((cndT (show((1:Int)==1)=true from rfl)).trans (Acl hH R1' (by rw[hc1];exact aQ _)))).trans ?_;refine(bdS (cndF rfl)).trans ?_;refine(cndF (show((((4+5+(x.1.1.1.length+1)+8+8+8+8+8:Nat)):Int)!=((4+5+c1.length:Nat):Int))=false from AL)).trans ?_;refine(gdT rfl).trans ?_;dsimp only;rw[hpos];rfl
 ·refine(bdS (cndT (dt (show(2:Int)<=4 by decide)))).trans ?_;refine(cndT rfl).trans ?_;refine(bdS ((bdS t2).trans (cndF (show((2:Int)!=2)=false from rfl)))).trans ?_;refine(bdS l2).trans ?_;refine(bdS (cndF rfl)).trans ?_;refine(cndF (show decide (((c2.length:Nat):Int)>aF .i64 (((b.length:Nat):Int)-((p2+5:Nat):Int)))=false by rw[Ac];exact df)).trans ?_;have hw:aF .i64 (((p2+5:Nat):Int)+((c2.length:Nat):Int))=((p2+5+c2.length:Nat):Int):=by rw[Ac];omega
  have hpos:((p2+5+c2.length:Nat):Int)=(p3:Int):=by omega
  have R':Ahead b (p2+5) (p2+5+c2.length) (lsB fxB x.2.2.1++(secB 3 c3++(secB 4 c4++[]))):=by rw[hc2];exact R2
  have e:=Aex hF hF2 R' (by rw[hc2];exact aQ _);rw[hc2]at e;dsimp only;rw[hw];rw[cndF (show((2:Int)==1)=false from rfl),cndT (show((2:Int)==2)=true from rfl)];refine(bdbd e).trans ?_;refine(bdS rfl).trans ?_;refine(bdS (cndF rfl)).trans ?_;refine(cndF (show((((p2+5+c2.length:Nat)):Int)!=((p2+5+c2.length:Nat):Int))=false from AL rfl)).trans ?_;refine(gdT rfl).trans ?_;dsimp only;rw[hpos];rfl
 ·refine(bdS (cndT (dt (show(3:Int)<=4 by decide)))).trans ?_;refine(cndT rfl).trans ?_;refine(bdS ((bdS t3).trans (cndF (show((3:Int)!=3)=false from rfl)))).trans ?_;refine(bdS l3).trans ?_;refine(bdS (cndF rfl)).trans ?_;refine(cndF (show decide (((c3.length:Nat):Int)>aF .i64 (((b.length:Nat):Int)-((p3+5:Nat):Int)))=false by rw[Ac];exact df)).trans ?_;have hw:aF .i64 (((p3+5:Nat):Int)+((c3.length:Nat):Int))=((p3+5+c3.length:Nat):Int):=by rw[Ac];omega
  have hpos:((p3+5+c3.length:Nat):Int)=(p4:Int):=by omega
  have R':Ahead b (p3+5) (p3+5+c3.length) (lsB awB x.2.2.2.1++(secB 4 c4++[])):=by rw[hc3];exact R3
  have e:=Aez hA hA2 R' (by rw[hc3];exact aQ _);rw[hc3]at e;dsimp only;rw[hw];rw[cndF (show((3:Int)==1)=false from rfl),cndF (show((3:Int)==2)=false from rfl),cndT (show((3:Int)==3)=true from rfl)];refine(bdbd e).trans ?_;refine(bdS rfl).trans ?_;refine(bdS (cndF rfl)).trans ?_;refine(cndF (show((((p3+5+c3.length:Nat)):Int)!=((p3+5+c3.length:Nat):Int))=false from AL rfl)).trans ?_;refine(gdT rfl).trans ?_;dsimp only;rw[hpos];rfl
 ·refine(bdS (cndT (dt (show(4:Int)<=4 by decide)))).trans ?_;refine(cndT rfl).trans ?_;refine(bdS ((bdS t4).trans (cndF (show((4:Int)!=4)=false from rfl)))).trans ?_;refine(bdS l4).trans ?_;refine(bdS (cndF rfl)).trans ?_;refine(cndF (show decide (((c4.length:Nat):Int)>aF .i64 (((b.length:Nat):Int)-((p4+5:Nat):Int)))=false by rw[Ac];exact df)).trans ?_;have hw:aF .i64 (((p4+5:Nat):Int)+((c4.length:Nat):Int))=((p4+5+c4.length:Nat):Int):=by rw[Ac];omega
  have hpos:((p4+5+c4.length:Nat):Int)=(b.length:Int):=by omega
  have R':Ahead b (p4+5) (p4+5+c4.length) (lsB prB x.2.2.2.2++[]):=by rw[hc4];exact R4
  have e:=AeB hP hP2 R' (by rw[hc4];exact aQ _);rw[hc4]at e;dsimp only;rw[hw];rw[cndF (show((4:Int)==1)=false from rfl),cndF (show((4:Int)==2)=false from rfl),cndF (show((4:Int)==3)=false from rfl)];refine(bdbd e).trans ?_;refine(bdS rfl).trans ?_;refine(bdS (cndF rfl)).trans ?_;refine(cndF (show((((p4+5+c4.length:Nat)):Int)!=((p4+5+c4.length:Nat):Int))=false from AL rfl)).trans ?_;refine(gdT rfl).trans ?_;dsimp only;rw[hpos];rfl
 ·refine(bdS (cndF (df (show¬(5:Int)<=4 by decide)))).trans ?_;refine(cndF rfl).trans ?_;refine dnE ?_;refine(bdS (cndF rfl)).trans ?_;exact(cndF (AL rfl)).trans rfl
section
theorem AeD{x:DB_}(hx:okDB x)(hlen:(imgB x).length<=1073741824)(hc:o26 x=some 0):o24 (imgB x++CJ (crcI (imgB x)))=some ((((x.1.1.1,x.1.1.2,x.1.2.1),(x.1.2.2,x.2.1.1),x.2.1.2,0),x.2.2.1),x.2.2.2.1,x.2.2.2.2):=by obtain⟨s,_,hs⟩:=RL hx hlen;unfold o24;refine(bdS hs).trans ?_;refine(cndF (show((0:Int)!=0)=false from rfl)).trans ?_;refine(bdS (t:=0) hc).trans ?_;exact cndF (show((0:Int)!=0)=false from rfl)
theorem AeE{x:DB_}(hx:okDB x)(hlen:(imgB x).length<=1073741824):o19 (imgB x++CJ (crcI (imgB x)))=some ((x.1.1.1,x.1.1.2,x.1.2.1),(x.1.2.2,x.2.1.1),x.2.1.2,0):=by obtain⟨s,_,hs⟩:=RL hx hlen;unfold o19;exact(bdS hs).trans rfl
theorem AeF{x:DB_}(hx:okDB x)(hlen:(imgB x).length<=1073741824):∃e1 e2 e3 e4 f1 f2 f3 f4:Int,o20 (imgB x++CJ (crcI (imgB x)))=some (0,[(1,e1,f1,1),(2,e2,f2,((x.2.2.1.length:Nat):Int)),(3,e3,f3,((x.2.2.2.1.length:Nat):Int)),(4,e4,f4,((x.2.2.2.2.length:Nat):Int))]):=by
 obtain⟨s,⟨e1,e2,e3,e4,f1,f2,f3,f4,rfl⟩,hs⟩:=RL hx hlen;refine⟨e1,e2,e3,e4,f1,f2,f3,f4,?_⟩
 unfold o20;exact(bdS hs).trans rfl
end
theorem YO{l:List Bw}(hl:l.length<=1099511627776):o91 l l=some true:=by
 unfold o91;rw[cndF (AL rfl)];refine AN (n:=l.length) (λi=>((l,l),((l.length:Nat):Int),(i:Int))) rfl (λi hi=>?_) ?_
 ·dsimp only;rw[cndT dt,gdT dt,bdI,gdT dt,bdI,aB,Cl hi];rw[cndF (by simp[CZ]),Ac];rfl
 ·dsimp only;rw[cndF df];rfl
theorem YP{a:AQ}(hl:a.2.length<=1099511627776):o40 a a=some true:=by
 unfold o40;rw[cndF,bdI];dsimp only;rw[cndF (AL rfl)];refine AN (n:=a.2.length) (λi=>((((a.2.length:Nat):Int),(i:Int)),a,a)) rfl (λi hi=>?_) ?_
 ·dsimp only;rw[cndT dt,gdT dt,bdI,gdT dt,bdI,aB,Cl hi];rw[cndF (by simp[CZ]),Ac];rfl
 ·dsimp only;rw[cndF df];rfl
theorem YQ{a:AA}(hl:a.2.2.2.length<=1099511627776)(hg:∀x∈a.2.2.2,x.2.2.length<=1099511627776):o41 ((a.1,a.2.1),a.2.2) ((a.1,a.2.1),a.2.2)=some true:=by
 unfold o41;rw[cndF,cndF,cndF (AL rfl),bdI];dsimp only;rw[cndF (AL rfl)];refine AN (n:=a.2.2.2.length) (λi=>((((a.2.2.2.length:Nat):Int),(i:Int)),((a.1,a.2.1),a.2.2),((a.1,a.2.1),a.2.2))) rfl (λi hi=>?_) ?_
 ·dsimp only;have hx:=hg _ (aA hi);rw[cndT dt];rw[aB,Cl hi];simp only[gdT (dt (show(0:Int)<=(i:Int)/\(i:Int)<((a.2.2.2.length:Nat):Int) by omega))];rw[cndF (AL rfl),cndF,bdS (YO hx)];rw[bdI];dsimp only;rw[cndF (by rfl),Ac];rfl
 ·dsimp only;rw[cndF df];rfl
theorem Qk {x:DB_} (h1:x.2.2.1.length<=1099511627776) (h2:x.2.2.2.1.length<=1099511627776) (h3:x.2.2.2.2.length<=1099511627776)
  (hA:∀a∈x.2.2.2.1,a.2.length<=1099511627776) (hP:∀a∈x.2.2.2.2,a.2.2.2.length<=1099511627776/\∀y∈a.2.2.2,y.2.2.length<=1099511627776):Ji x x=some true:=by
 unfold Ji;rw[cndF (by simp[CZ]),cndF (AL rfl),cndF (AL rfl),bdI];dsimp only;rw[cndF (AL rfl)];refine AN (n:=x.2.2.1.length) (λi=>((((x.2.2.1.length:Nat):Int),(i:Int)),x,x)) rfl (λi hi=>?_) ?_
 ·dsimp only;rw[cndT dt,gdT dt,bdI,gdT dt,bdI,aB,Cl hi];rw[cndF (by simp[CZ]),Ac];rfl
 dsimp only;rw[cndF df];refine dnE ?_;refine AN (n:=x.2.2.2.1.length) (λi=>((((x.2.2.2.1.length:Nat):Int),(i:Int)),x,x)) rfl (λi hi=>?_) ?_
 ·dsimp only;rw[cndT dt,gdT dt,bdI,gdT dt,bdI,aB,Cl hi];refine(bdS (YP (hA _ (aA hi)))).trans ?_;rw[cndF (by rfl),Ac];rfl
 dsimp only;rw[cndF df];refine dnE ?_;refine AN (n:=x.2.2.2.2.length) (λi=>((((x.2.2.2.2.length:Nat):Int),(i:Int)),x,x)) rfl (λi hi=>?_) ?_
 ·dsimp only;rw[cndT dt,gdT dt,bdI,gdT dt,bdI,aB,Cl hi];have hx:=hP _ (aA hi);refine(bdS (YQ hx.1 hx.2)).trans ?_;rw[cndF (by rfl),Ac];rfl
 dsimp only;rw[cndF df];rfl
open Go.RowKit
open Go.RowKit
theorem YR(c:UInt8):∀(s:Bt)(k:Int),0<=k->ixB c s k= -1\/(k<=ixB c s k/\ixB c s k<k+s.length)
 | [],k,_=> .inl rfl
 |b::l,k,hk=>by
  unfold ixB;have hl:((b::l).length:Int)=(l.length:Int)+1:=by simp
  cases e:(b==c)with
  |true=>exact .inr ⟨aY _,by rw[cond_true];omega⟩
  |false=>
   rw[cond_false];rcases YR c l (k+1) (by omega)with h|⟨h1,h2⟩
   ·exact .inl h
   ·exact .inr ⟨by omega,by omega⟩
theorem AeG(s:Bt)(c:UInt8):Tot (λr:Int=>r= -1\/(0<=r/\r<s.length)) (o253 s [c]):=by
 unfold o253;refine tB (P:=λv=>v.1.1=s/\v.1.2=[c]/\v.2.1=1/\v.2.2=([c]==s)\/v.2.2=true/\0<s.length/\v.1.1=s) ?_ λv hv=>?_
 ·exact tC (λh=>by cases h) λh=>tS (.inl ⟨rfl,rfl,rfl,rfl⟩)
 ·refine tC (λh=>tS ?_) λh=>?_
  ·rcases hv with⟨_,_,_,h4⟩|⟨_,h4,_⟩
   ·rw[h]at h4;have:[c]=s:=by simpa using h4.symm
    subst this;exact .inr ⟨by decide,by simp⟩
   ·exact .inr ⟨by decide,by omega⟩
  ·rcases hv with⟨h1,h2,h3,h4⟩|⟨h4,_⟩
   ·rw[h3];refine tC (λ_=>?_) λh=>by cases h
    rw[h2];refine tG (dt (by simp)) ?_;refine tI (tS ?_);rw[h1];have:=YR (u8 (((aR [c] (0:Int).toNat 0).toNat:Nat):Int)) s 0 (aY 0);simpa using this
   ·rw[h]at h4;cases h4
theorem AeH(s:Bt)(c:UInt8)(hs:s.length<=140737488355328):Tot (λv=>v.1.length<=s.length/\v.2.1.length<=s.length/\(v.2.2=true->s.length=v.1.length+1+v.2.1.length)/\(v.2.2=false->v.1=s)) (o206 s [c]):=by
 unfold o206;refine tB (AeG s c) λr hr=>?_;refine tC (λh=>?_) λh=>tS ⟨aQ _,bZ _,λh=>(by cases h),λ_=>rfl⟩;have h:=dT h;have hr:0<=r/\r<s.length:=by omega
 have hw:aF .i64 (r+((([c]:Bt).length:Nat):Int))=r+1:=by rw[show((([c]:Bt).length:Nat):Int)=1 from rfl];exact Ac
 rw[hw];refine tG dt (tG dt (tS ?_));simp only[aL,aN];refine⟨by omega,by omega,λ_=>by omega,λh=>by cases h⟩
theorem Ls(s:Bt)(c:UInt8)(hs:s.length<=140737488355328:=by omega):Tot (λv=>v.1.length<=s.length/\v.2.1.length<=s.length/\(v.2.2=true->s.length=v.1.length+1+v.2.1.length)/\(v.2.2=false->v.1=s)) (o153 s [c]):=by unfold o153;exact tB (AeH s c hs) λv hv=>tS hv
theorem Ej(s:Bt)(m:Int)(hs:s.length<=140737488355328:=by omega):Tot (λr=>r=true->0<s.length/\(s.length:Int)<=m) (o130 s m):=by
 unfold o130;refine tB (P:=λv=>v.1=s/\(v.2=false->0<s.length/\(s.length:Int)<=m)) ?_ λv hv=>?_
 ·refine tC (λ_=>tS ⟨rfl,λh=>by cases h⟩) λh1=>?_;have h1:=eF h1;refine tC (λ_=>tS ⟨rfl,λh=>by cases h⟩) λh2=>?_;have h2:=dF h2;refine tG dt (tC (λ_=>tS ⟨rfl,λh=>by cases h⟩) λ_=>tG dt (tS ⟨rfl,λ_=>by omega⟩))
 ·refine tC (λ_=>tS λh=>by cases h) λh=>?_;obtain⟨h1,h2⟩:=hv;have h2:=h2 h;rw[h1];refine tL (λt:Bt×Int×Int=>t.1=s/\t.2.1=s.length/\0<=t.2.2/\t.2.2<=s.length) (λt=>((s.length:Int)-t.2.2).toNat) ?_ ⟨rfl,rfl,aY _,by simp⟩ (by simp;omega);rintro⟨t1,t2,t3⟩ ⟨e1,e2,h3,h4⟩;dsimp only at e1 e2 h3 h4⊢;subst e1;subst e2;refine tC (λh=>?_) λh=>tDn (tS λ_=>h2);have h:=dT h;refine tB (P:=λv=>v.1.1=t1/\v.1.2=(t1.length:Int)/\v.2.1=t3) ?_ λv hv=>?_
  ·refine tG dt ?_;refine tC (λ_=>?_) λ_=>?_
   ·exact tG dt (tC (λ_=>tS ⟨rfl,rfl,rfl⟩) λ_=>tG dt (tS ⟨rfl,rfl,rfl⟩))
   ·exact tG dt (tC (λ_=>tG dt (tC (λ_=>tS ⟨rfl,rfl,rfl⟩) λ_=>tG dt (tS ⟨rfl,rfl,rfl⟩))) λ_=>tS ⟨rfl,rfl,rfl⟩)
  ·obtain⟨e1,e2,e3⟩:=hv;refine tC (λ_=>tDn (tS λh=>by cases h)) λ_=>tGo ?_;rw[e1,e2,e3,Ac];dsimp only;exact⟨⟨rfl,rfl,by omega,by omega⟩,by omega⟩
theorem RM(a:Int):Tot (λr=>r=true->1<=a/\a<=17) (o182 a):=by unfold o182;refine tB (P:=λr=>r=true->1<=a/\a<=17) ?_ λr hr=>tS hr;exact tC (λh=>tS λh2=>by have h:=dT h;have h2:=dT h2;omega) λ_=>tS λh=>by cases h
theorem NA(s:Bt):Tot (λr=>r=true->s.length=2) (o192 s):=by
 unfold o192;refine tC (λ_=>tS λh=>by cases h) λh=>?_;have hl:=nF h;refine tL (λt:Bt×Int×Int=>t.1=s/\t.2.1=s.length/\0<=t.2.2/\t.2.2<=s.length) (λt=>((s.length:Int)-t.2.2).toNat) ?_ ⟨rfl,rfl,aY _,by simp⟩ (by simp;omega);rintro⟨t1,t2,t3⟩ ⟨e1,e2,h3,h4⟩;dsimp only at e1 e2 h3 h4⊢;subst e1;subst e2;refine tC (λh=>?_) λh=>tDn (tS λ_=>by omega);have h:=dT h;refine tB (P:=λv=>v.1.1=t1/\v.1.2=(t1.length:Int)/\v.2.1=t3) ?_ λv hv=>?_
 ·refine tG dt ?_;refine tC (λ_=>?_) λ_=>?_
  ·exact tG dt (tC (λ_=>tS ⟨rfl,rfl,rfl⟩) λ_=>tG dt (tS ⟨rfl,rfl,rfl⟩))
  ·exact tG dt (tC (λ_=>tG dt (tC (λ_=>tS ⟨rfl,rfl,rfl⟩) λ_=>tG dt (tS ⟨rfl,rfl,rfl⟩))) λ_=>tS ⟨rfl,rfl,rfl⟩)
 ·obtain⟨e1,e2,e3⟩:=hv;refine tC (λ_=>tDn (tS λh=>by cases h)) λ_=>tGo ?_;rw[e1,e2,e3,Ac];dsimp only;exact⟨⟨rfl,rfl,by omega,by omega⟩,by omega⟩
theorem RN(s:Bt)(hs:s.length<=140737488355328):Tot (λv=>v.2.2=0->s.length<=13) (o193 s):=by
 unfold o193;refine tB (Ls s 47 hs) λv hv=>?_;refine tC (λ_=>tS λh=>by cases h) λh=>?_;have h:=hv.2.2.1 (notF h);refine tB (P:=λw=>w.2.2=false->s.length<=13) ?_ λw hw=>tC (λ_=>tS λh=>by cases h) λh=>tS λ_=>hw h;refine tB (Ej v.1 6) λr hr=>?_;refine tC (λ_=>tS λh=>by cases h) λh1=>?_;have hr:=hr (notF h1);refine tB (Ej v.2.1 6) λr2 hr2=>?_;refine tC (λ_=>?_) λh2=>tS λ_=>by have:=hr2 (notF h2);omega
 exact tB (NA v.2.1) λr3 hr3=>tS λh3=>by have:=hr3 (notF h3);omega
theorem YS(s:Bt)(b:Bool)(hs:s.length<=140737488355328):Tot (λr=>r=0->s.length<=13) (o183 s b):=by
 unfold o183;refine tC (λ_=>?_) λ_=>?_
 ·exact tB (RN s hs) λv hv=>tC (λ_=>tS λh=>by cases h) λh=>tS λ_=>hv (nF h)
 ·exact tC (λ_=>tS λh=>by cases h) λh=>tS λ_=>by rw[sT (notF h)];decide
theorem AeI(a:Int)(b:Bool)(c d:Int):Tot (λ_=>True) (o184 a b c d):=by unfold o184;refine tB (P:=λ_=>True) ?_ λv _=>tC (λ_=>tS trivial) λ_=>tB (P:=λ_=>True) (tC (λ_=>tS trivial) λ_=>tS trivial) λ_ _=>tC (λ_=>tS trivial) λ_=>tS trivial;exact tC (λ_=>tC (λ_=>tS trivial) λ_=>tS trivial) λ_=>tS trivial
theorem tT(h:Tot Q x):Tot (λ_=>True) x:=tW h λ_ _=>trivial
theorem YT(a:Ai)(h1:a.1.1.2.1.length<=140737488355328)(h2:a.1.1.2.2.length<=140737488355328):Tot (λr=>r=0->a.1.1.2.1.length<=13/\a.1.1.2.2.length<=13) (o126 a):=by
 unfold o126;refine tB (RM _) λv hv=>?_;refine tC (λ_=>tS λh=>by cases h) λh=>?_;have hv:=hv (notF h);refine tG dt ?_;refine tB (YS _ _ h1) λv2 hv2=>?_;refine tC (λh=>tS λh2=>absurd h2 (nT h)) λh=>?_;have hv2:=hv2 (nF h);refine tB (YS _ _ h2) λv3 hv3=>?_;refine tC (λh=>tS λh2=>absurd h2 (nT h)) λh=>?_;have hv3:=hv3 (nF h);refine tW (R:=λ_=>True) ?_ λ_ _ _=>⟨hv2,hv3⟩
 refine tJ (P:=λ_=>True) ?_ λv5 _=>?_
 ·repeat'(first|exact tS trivial|exact tGo trivial|exact tDn (tS trivial)|refine tC (λ_=>?_) (λ_=>?_)|refine tBT ?_ (λ_=>?_))
 ·repeat'(first|exact tS trivial|exact AeI _ _ _ _|refine tC (λ_=>?_) (λ_=>?_)|refine tBT ?_ (λ_=>?_))
theorem Lt(a b:Int):Tot (λ_=>True) (o332 a b):=⟨_,rfl,trivial⟩
theorem YU(a b:Int)(h:b≠0):Tot (λ_=>True) (o333 a b):=by unfold o333;exact tG (dt h) (tS trivial)
theorem AeJ(a:Int):Tot (λ_=>True) (o328 a):=by
 unfold o328;refine tBT (Lt _ _) λv1=>?_;refine tL (λt:(Int×Int)×Int×Int=>0<=t.2.2/\t.2.2<=5) (λt=>(5-t.2.2).toNat) ?_ ⟨by dsimp only;omega,by dsimp only;omega⟩ (by dsimp only;omega);rintro⟨⟨t1,t2⟩,t3,t4⟩ ⟨h1,h2⟩;dsimp only at h1 h2⊢;refine tC (λh=>?_) λh=>tDn (tBT (Lt _ _) λ_=>tS trivial);have h:=dT h;have h5:t4=0\/t4=1\/t4=2\/t4=3\/t4=4:=by omega
 refine tB (P:=λv:(Int×Int×Int)×Int×Int×Int=>v.2.1=t4/\v.2.2.1≠0/\v.2.2.2=t4) ?_ λv hv=>?_
 ·rcases h5 with rfl|rfl|rfl|rfl|rfl<;>exact⟨_,rfl,rfl,by dsimp only;omega,rfl⟩
 ·refine tB (P:=λw:(Int×Int)×Int×Int×Int=>w.2.1≠0/\w.2.2.2=t4) ?_ λw hw=>?_
  ·exact tC (λ_=>tBT (Lt _ _) λ_=>tS ⟨hv.2.1,hv.2.2⟩) λ_=>tS ⟨hv.2.1,hv.2.2⟩
  ·refine tBT (YU _ _ hw.1) λ_=>tGo ?_;rw[hw.2,Ac (x:=t4+1)];exact⟨⟨by dsimp only;omega,by dsimp only;omega⟩,by dsimp only;omega⟩
theorem AeK(a:Int):Tot (λ_=>True) (o329 a):=by
 unfold o329;refine tBT (Lt _ _) λv1=>?_;refine tL (λt:Int×Int×Int=>0<=t.2.2/\t.2.2<=5) (λt=>(5-t.2.2).toNat) ?_ ⟨by dsimp only;omega,by dsimp only;omega⟩ (by dsimp only;omega);rintro⟨t1,t3,t4⟩ ⟨h1,h2⟩;dsimp only at h1 h2⊢;refine tC (λh=>?_) λh=>tDn (tS trivial);have h:=dT h;have h5:t4=0\/t4=1\/t4=2\/t4=3\/t4=4:=by omega
 refine tB (P:=λv:(Int×Int)×Int×Int×Int=>v.2.1=t4/\v.2.2.1≠0/\v.2.2.2=t4) ?_ λv hv=>?_
 ·rcases h5 with rfl|rfl|rfl|rfl|rfl<;>exact⟨_,rfl,rfl,by dsimp only;omega,rfl⟩
 ·refine tB (P:=λw:(Int×Int)×Int×Int=>w.1.2≠0/\w.2.2=t4) ?_ λw hw=>?_
  ·exact tC (λ_=>tBT (Lt _ _) λ_=>tS ⟨hv.2.1,hv.2.2⟩) λ_=>tS ⟨hv.2.1,hv.2.2⟩
  ·refine tBT (YU _ _ hw.1) λ_=>tGo ?_;rw[hw.2,Ac (x:=t4+1)];exact⟨⟨by dsimp only;omega,by dsimp only;omega⟩,by dsimp only;omega⟩
theorem YV(a:Int):Tot (λ_=>True) (o186 a):=by unfold o186;exact tC (λ_=>tS trivial) λ_=>tS trivial
theorem AeL(a:Int):Tot (λ_=>True) (o320 a):=by unfold o320;exact tC (λ_=>tBT (AeJ _) λ_=>tS trivial) λ_=>tBT (AeK _) λ_=>tS trivial
theorem RO(a:Int):Tot (λ_=>True) (o304 a):=by unfold o304;repeat'(first|exact tS trivial|exact YV _|exact AeL _|refine tC (λ_=>?_) (λ_=>?_)|refine tBT ?_ (λ_=>?_))
theorem AeM(a b:Int):Tot (λ_=>True) (o321 a b):=by unfold o321;repeat'(first|exact tS trivial|exact YV _|refine tBT ?_ (λ_=>?_))
theorem YW(a:Int):Tot (λ_=>True) (o305 a):=by unfold o305;repeat'(first|exact tS trivial|exact AeM _ _|exact RO _|refine tBT ?_ (λ_=>?_))
def Gu(x:Int):Prop:=-8589934592<=x/\x<=8589934592
theorem RP:Gu 0:=⟨by decide,by decide⟩
theorem AkL{x:Int}(h: -9223372036854775808<=x/\x<=9223372036854775807):Gu (shrK .i64 x 30):=by show Gu (x.fdiv (2^(min (30:Int).toNat IntKind.i64.bits)));rw[show(2^(min (30:Int).toNat IntKind.i64.bits):Int)=1073741824 from rfl,bV _ (by decide)];constructor<;>omega
theorem AkM(x:Int): -9223372036854775808<=aF .i64 x/\aF .i64 x<=9223372036854775807:=by rw[IntKind.wrap_i64];constructor<;>omega
theorem RQ(a:Int):Tot Gu (o306 a):=by unfold o306;exact tS (AkL (AkM _))
theorem YX(a:Int×Int):Tot (λ_=>True) (o279 a):=by unfold o279;repeat'(first|exact tS trivial|exact YW _|exact RO _|exact tT (RQ _)|refine tBT ?_ (λ_=>?_))
theorem AeN(a:Int×Int):Tot (λ_=>True) (o278 a):=by unfold o278;repeat'(first|exact tS trivial|exact YW _|exact RO _|exact tT (RQ _)|exact YX _|refine tBT ?_ (λ_=>?_))
theorem RR(a b:Int×Int×Int):Tot Gu (o280 a b):=by unfold o280;exact tB (RQ _) λv h=>tS h
theorem AeO(a b:Int×Int):Tot (λv=>Gu v.1/\Gu v.2.1/\Gu v.2.2) (o244 a b):=by unfold o244;refine tBT (AeN _) λv3=>tBT (YX _) λv4=>tB (RR _ _) λv8 h8=>tB (RR _ _) λv9 h9=>tB (RR _ _) λv10 h10=>tS ⟨h8,h9,h10⟩
theorem RS(a:Int×Int):Tot (λ_=>True) (o134 a):=by unfold o134;repeat'(first|exact tS trivial|refine tC (λ_=>?_) (λ_=>?_)|refine tBT ?_ (λ_=>?_))
theorem AeP(a:Int×Int):Tot (λ_=>True) (o187 a):=by unfold o187;repeat'(first|exact tS trivial|exact RS _|refine tC (λ_=>?_) (λ_=>?_)|refine tBT ?_ (λ_=>?_))
theorem AeQ(a b:Int×Int):Tot (λv=>Gu v.1.1/\Gu v.1.2/\Gu v.2.1) (o188 a b):=by unfold o188;refine tBT ?_ λv3=>tC (λ_=>tS ⟨RP,RP,RP⟩) λ_=>tB (AeO _ _) λv4 h=>tS h;repeat'(first|exact tS trivial|exact RS _|refine tC (λ_=>?_) (λ_=>?_)|refine tBT ?_ (λ_=>?_))
theorem FD{x:Int}(h:0<=x/\x<=18446744073709551615:=by omega):aF .u64 x=x:=by rw[cD];omega
theorem YY{a:Int}(h:Gu a):Tot (λr=>0<=r/\r<=8589934592/\(a>0->r=a)) (o281 a):=by
 unfold o281;obtain⟨h1,h2⟩:=h;refine tC (λh=>tS ?_) λh=>tS ?_
 ·have h:=dT h;rw[cD,cD];omega
 ·have h:=dF h;rw[FD];omega
theorem TO{x:Int}(h:0<=x:=by omega):shrK .u64 x 32=x/4294967296:=by show x.fdiv (2^(min (32:Int).toNat IntKind.u64.bits))=_;rw[show(2^(min (32:Int).toNat IntKind.u64.bits):Int)=4294967296 from rfl,bV _ (by decide)]
theorem Acm(x:Int)(h:0<=m/\m<18446744073709551616):0<=landK .u64 x m/\landK .u64 x m<=m:=by
 have e:landK .u64 x m=aF .u64 ((aU 64 x&&&aU 64 m).toNat:Int):=rfl;have h1:(aU 64 x&&&aU 64 m).toNat<=(aU 64 m).toNat:=by rw[BitVec.toNat_and];exact Nat.and_le_right
 have h2:((aU 64 m).toNat:Int)=m:=by rw[cR];omega
 rw[e,FD];omega
theorem Vp{x:Int}(hx:0<=x/\x<=18446744073709551615)(m:Int):0<=landK .u64 x m/\landK .u64 x m<=x:=by
 have e:landK .u64 x m=aF .u64 ((aU 64 x&&&aU 64 m).toNat:Int):=rfl;have h1:(aU 64 x&&&aU 64 m).toNat<=(aU 64 x).toNat:=by rw[BitVec.toNat_and];exact Nat.and_le_left
 have h2:((aU 64 x).toNat:Int)=x:=by rw[cR];omega
 rw[e,FD];omega
theorem AeR{b:Int}(h:0<=b/\b<=8589934592):Tot (λv=>v.1=0) (o282 20626481 b):=by
 unfold o282;refine tS ?_;dsimp only;rw[show shrK .u64 20626481 32=0 from rfl,show landK .u64 20626481 4294967295=20626481 by kernel_rfl,TO h.1];have hb:=Acm b (m:=4294967295) ⟨by decide,by decide⟩;generalize landK .u64 b 4294967295=b0 at hb⊢;have hb1:0<=b/4294967296/\b/4294967296<=2:=by omega
 generalize b/4294967296=b1 at hb1⊢;rw[Int.zero_mul,Int.zero_mul,FD (x:=20626481*b0),FD (x:=0),TO (x:=20626481*b0)];have h3:0<=20626481*b0/4294967296/\20626481*b0/4294967296<=20626481:=by omega
 generalize 20626481*b0/4294967296=t at h3⊢;rw[Int.zero_add,Int.zero_add,FD (x:=t),TO (x:=t) h3.1,show t/4294967296=0 by omega];have h4:=Vp (x:=t) (by omega) 4294967295;generalize landK .u64 t 4294967295=s at h4⊢;rw[FD (x:=20626481*b1),FD (x:=s+20626481*b1),TO,show(s+20626481*b1)/4294967296=0 by omega];rfl
theorem AeS(lo:Int){c:Int}(h:0<c):Tot (λ_=>True) (o283 0 lo c):=by unfold o283;refine tC (λh2=>by have:=eT h2;omega) λ_=>tC (λh2=>by have:=dT h2;omega) λ_=>tC (λ_=>tG dt (tG dt (tS trivial))) λh2=>by cases h2
theorem AeT(a:Int)(b:Bool):Tot (λ_=>True) (o284 a b):=by unfold o284;repeat'(first|exact tS trivial|refine tC (λ_=>?_) (λ_=>?_)|refine tBT ?_ (λ_=>?_))
theorem AeU:o281 20626481=some 20626481:=by kernel_rfl
theorem AeV{b c:Int}(hb:Gu b)(hc:Gu c)(h0:c>0):Tot (λ_=>True) (o245 20626481 b c 2):=by
 unfold o245;refine tC (λh=>by have:=eT h;omega) λ_=>?_;refine tB (YY hc) λv1 h1=>?_;have e1:=h1.2.2 h0;subst e1;refine tB ⟨_,AeU,rfl⟩ λv2 h2=>?_;subst h2;refine tB (YY hb) λv3 h3=>tB (AeR ⟨h3.1,h3.2.1⟩) λv4 h4=>?_;refine tC (λ_=>tS trivial) λ_=>?_;rw[h4];refine tBT (AeS _ h0) λv5=>?_;refine tBT ?_ λv9=>?_
 ·repeat'(first|exact tS trivial|refine tC (λ_=>?_) (λ_=>?_)|refine tBT ?_ (λ_=>?_))
 ·refine tJ (P:=λ_=>True) ?_ λv10 _=>tBT (AeT _ _) λ_=>tS trivial;repeat'(first|exact tGo trivial|exact tDn (tS trivial)|refine tC (λ_=>?_) (λ_=>?_))
theorem YZ{b c:Int}(hb:Gu b)(hc:Gu c)(h0:c>0:=by omega):Tot (λ_=>True) (o189 20626481 b c):=by unfold o189;exact tBT (AeV hb hc h0) λ_=>tS trivial
theorem AeW(a:Int×Int):Tot (λ_=>True) (o190 a):=by unfold o190;repeat'(first|exact tS trivial|refine tC (λ_=>?_) (λ_=>?_)|refine tBT ?_ (λ_=>?_))
theorem RT(a b:Int×Int):Tot (λ_=>True) (o131 a b):=by
 unfold o131;refine tBT ?_ λv3=>tC (λ_=>tS trivial) λ_=>?_
 ·repeat'(first|exact tS trivial|exact AeP _|exact RS _|refine tC (λ_=>?_) (λ_=>?_)|refine tBT ?_ (λ_=>?_))
 ·refine tB (AeQ _ _) λv4 h4=>tC (λ_=>tS trivial) λh=>?_;have h:=dF h;refine tBT (YZ h4.1 h4.2.2) λv5=>tBT (YZ h4.2.1 h4.2.2) λv6=>tBT (AeW _) λv7=>tC (λ_=>tS trivial) λ_=>tS trivial
def jan(y:Int):Int:=365*(y-2000)+(y-2000+3)/4
theorem NB(h:2000<=y/\y<=3000:=by omega):o146 y=some (jan y):=by unfold o146 jan;rw[Ac (x:=y-2000),Ac (x:=y-2000+3),aZ (by omega),Ac (x:=365*(y-2000)),Ac (x:=(y-2000+3)/4),Ac]
def RU(y:Int):Int:=if jan y-26<=0 then 26 else 26+(jan y-26+28-1)/28*28
theorem AeX(h:2000<=y/\y<=3000):RU y%28=26/\26<=RU y/\RU y<=1000000:=by unfold RU jan;split<;>omega
theorem ZC(h:2000<=y/\y<=3000:=by omega):o77 y=some (RU y):=by
 unfold o77;rw[bdS (NB h)];have hj:0<=jan y/\jan y<=1000000:=by unfold jan;omega
 unfold RU;generalize jan y=j at hj⊢;rw[Ac (x:=j-26)];by_cases h0:j-26<=0
 ·rw[cndT (dt h0),if_pos h0]
 ·rw[cndF (df h0),if_neg h0,Ac (x:=j-26+28),Ac (x:=j-26+28-1),aZ (by omega),Ac (x:=(j-26+28-1)/28),Ac (x:=(j-26+28-1)/28*28),Ac]
def md(b:Bool)(m:Int):Int:=if m=2 then(if b=true then 29 else 28)else if m=4\/m=6\/m=9\/m=11 then 30 else 31
def rm(b:Bool)(m:Int):Int:=if m=1 then(if b=true then 366 else 365)else if m=2 then(if b=true then 335 else 334)else if m=3 then 306 else if m=4 then 275 else if m=5 then 245 else if m=6 then 214 else if m=7 then 184 else if m=8 then 153 else if m=9 then 122 else if m=10 then 92 else if m=11 then 61 else if m=12 then 31 else 0
theorem m12(h:1<=m/\m<=12):m=1\/m=2\/m=3\/m=4\/m=5\/m=6\/m=7\/m=8\/m=9\/m=10\/m=11\/m=12:=by omega
theorem Acn(b:Bool)(h:1<=m/\m<=12):rm b m=md b m+rm b (m+1):=by rcases m12 h with rfl|rfl|rfl|rfl|rfl|rfl|rfl|rfl|rfl|rfl|rfl|rfl<;>cases b<;>decide
theorem AkN(b:Bool)(m:Int):28<=md b m/\md b m<=31:=by
 unfold md;split
 ·split<;>omega
 ·split<;>omega
def leap(y:Int):Bool:=Int.tmod y 4==0
theorem Aco(h:2000<=y/\y<=2099):o200 y=some (leap y):=by unfold o200;rw[cndT dt,cndT dt];rfl
theorem TQ(hy:2000<=y/\y<=2099)(hm:1<=m/\m<=12):o147 y m=some (md (leap y) m):=by
 unfold o147;rw[cndF df,cndF df,cndF df,df (show¬m>12 by omega),bdI];rcases m12 hm with rfl|rfl|rfl|rfl|rfl|rfl|rfl|rfl|rfl|rfl|rfl|rfl;case inr.inl=>
  refine(cndF rfl).trans ?_;dsimp only;rw[cndT (show((2:Int)==2)=true from rfl),bdS (Aco hy)];cases leap y<;>rfl
 all_goals rfl
theorem ZD(h:2000<=y/\y<=2099):jan (y+1)=jan y+rm (leap y) 1:=by
 unfold jan leap rm;rw[if_pos rfl,bW (by omega)];by_cases h4:y%4=0
 ·rw[if_pos (by simpa using h4)];omega
 ·rw[if_neg (by simpa using h4)];omega
theorem AkO(d:Int):Tot (λv=>(v.2.2=0->2000<=v.1.1/\v.1.1<=2099)/\(0<=d/\d<=36524->v.2.2=0)) (o76 d):=by
 unfold o76;refine tB (P:=λv:Int×Bool=>v.1=d/\(v.2=false->0<=d/\d<=36524)/\(v.2=true->¬(0<=d/\d<=36524))) ?_ λv hv=>?_
 ·exact tC (λh=>tS ⟨rfl,λh=>(by cases h),λ_=>by have h:=dT h;omega⟩) λh=>tS ⟨rfl,λh2=>(by have h:=dF h;have h2:=dF h2;omega),λh2=>by have h2:=dT h2;omega⟩
 obtain⟨v1,v2⟩:=v;obtain⟨rfl,h0,hn⟩:=hv;refine tC (λh=>tS ⟨λh=>(by cases h),λh2=>absurd h2 (hn h)⟩) λh=>?_;have hd:=h0 h;dsimp only at hd⊢;rw[aZ (by omega),Ac (x:=v1/366),Ac];refine tL (λt:Int×Int=>t.1=v1/\2000<=t.2/\t.2<=2099/\jan t.2<=v1) (λt=>(2100-t.2).toNat) ?_ ⟨rfl,by dsimp only;omega,by dsimp only;omega,by unfold jan;dsimp only;omega⟩ (by dsimp only;omega);rintro⟨t1,y⟩ ⟨e1,h1,h2,h3⟩;dsimp only at e1 h1 h2 h3⊢;subst e1;rw[Ac (x:=y+1)];refine tB ⟨_,NB,rfl⟩ λv3 e3=>?_;subst e3;refine tC (λh=>tGo ?_) λh=>tDn ?_
 ·have h:=dT h;have:y+1<=2099:=by unfold jan at h;omega
  exact⟨⟨rfl,by dsimp only;omega,this,h⟩,by dsimp only;omega⟩
 ·have h:=dF h;rw[ZD ⟨h1,h2⟩]at h;refine tB ⟨_,NB,rfl⟩ λv4 e4=>?_;subst e4;generalize jan y=j at h h3⊢;have hr:rm (leap y) 1<=366:=by unfold rm;rw[if_pos rfl];split<;>omega
  rw[Ac (x:=t1-j)];refine tL (λt:Int×Int×Int=>t.1=y/\1<=t.2.1/\t.2.1<=12/\0<=t.2.2/\t.2.2<=366/\t.2.2<rm (leap y) t.2.1) (λt=>(13-t.2.1).toNat) ?_ ⟨rfl,by dsimp only;omega,by dsimp only;omega,by dsimp only;omega,by dsimp only;omega,by dsimp only;omega⟩ (by dsimp only;omega);rintro⟨u1,m,r⟩ ⟨e1,k1,k2,k3,k4,k5⟩;dsimp only at e1 k1 k2 k3 k4 k5⊢;subst e1;refine tB ⟨_,TQ ⟨h1,h2⟩ ⟨k1,k2⟩,rfl⟩ λv7 e7=>?_;subst e7;have hm:=AkN (leap u1) m;refine tC (λh=>?_) λh=>tDn (tS ⟨λ_=>⟨h1,h2⟩,λ_=>rfl⟩);have h:=dT h;refine tB ⟨_,TQ ⟨h1,h2⟩ ⟨k1,k2⟩,rfl⟩ λv8 e8=>?_;subst e8;rw[Acn _ ⟨k1,k2⟩]at k5;rw[Ac (x:=m+1),Ac];have:m≠12:=λe=>by subst e;rw[show rm (leap u1) (12+1)=0 from rfl]at k5;omega
  refine tGo ⟨⟨rfl,by dsimp only;omega,by dsimp only;omega,by dsimp only;omega,by dsimp only;omega,by dsimp only;omega⟩,by dsimp only;omega⟩
theorem AkP{d:Int}(h:0<=d/\d<=36524):Tot (λ_=>True) (o36 d):=by unfold o36;refine tB (AkO d) λv hv=>?_;have hy:=hv.1 (hv.2 h);exact tB ⟨_,ZC,rfl⟩ λ_ _=>tS trivial
theorem Lu(n:Int):Tot (λv=>v.2.2=0->26<=v.1/\v.1<=36524/\v.1%28=26/\v.2.1=v.1+28/\o36 v.1=some n) (o115 n):=by
 unfold o115;refine tB (P:=λv:Int×Bool=>v.1=n/\(v.2=false->0<=n/\n<=9999)) ?_ λv hv=>?_
 ·exact tC (λh=>tS ⟨rfl,λh=>by cases h⟩) λh=>tS ⟨rfl,λh2=>by have h:=dF h;have h2:=dF h2;omega⟩
 obtain⟨v1,v2⟩:=v;obtain⟨rfl,h0⟩:=hv;refine tC (λh=>tS λh=>by cases h) λh=>?_;have hd:=h0 h;dsimp only at hd⊢;rw[aZ (by omega),bW (by omega),Ac (x:=v1/100),Ac (x:=2000+v1/100)];have hf:=AeX (y:=2000+v1/100) (by omega);refine tB ⟨_,ZC,rfl⟩ λv2 e2=>?_;subst e2;generalize RU (2000+v1/100)=f at hf⊢;rw[Ac (x:=v1%100-1),Ac (x:=(v1%100-1)*28),Ac (x:=f+(v1%100-1)*28)];have hF:(f+(v1%100-1)*28)%28=26/\f+(v1%100-1)*28<=2000000/\-100<=f+(v1%100-1)*28:=by omega
 generalize f+(v1%100-1)*28=F at hF⊢;refine tB (P:=λv:Int×Bool=>v.2=false->v.1=F/\26<=F/\F<=36524/\o36 F=some v1) ?_ λv hv=>?_
 ·refine tC (λh=>tS λh=>by cases h) λ_=>tC (λh=>tS λh=>by cases h) λh1=>tC (λh=>tS λh=>by cases h) λh2=>?_;have h1:=dF h1;have h2:=dF h2;obtain⟨r,e,_⟩:=AkP (d:=F) (by omega);rw[e];exact tS λh=>⟨rfl,by omega,by omega,by rw[nF h]⟩
 ·refine tC (λ_=>tS λh=>by cases h) λh=>tS λ_=>?_;obtain⟨e,h1,h2,h3⟩:=hv h;rw[e,Ac];exact⟨h1,h2,hF.1,rfl,h3⟩
def P47(s:Bt):Prop:=s.length<=140737488355328
def cycOk(c f t:Int):Prop:=26<=f/\f<=36524/\f%28=26/\t=f+28/\o36 f=some c
theorem AkQ(a:(Bt×Int×Int)×Int×Int×Int)(hs:P47 a.1.1):Tot (λr=>r=0->a.1.1.length<=8/\cycOk a.1.2.1 a.1.2.2 a.2.1) (o63 a):=by
 unfold o63;refine tB (Ej _ 8 hs) λv1 h1=>?_;refine tC (λ_=>tS λh=>by cases h) λh=>?_;have h1:=h1 (notF h);refine tB (Lu _) λv2 h2=>?_;refine tC (λh=>tS λe=>absurd e (nT h)) λh=>?_;obtain⟨k1,k2,k3,k4,k5⟩:=h2 (nF h);refine tB (P:=λv=>v.2=a/\(v.1=false->a.1.2.2=v2.1/\a.2.1=v2.2.1)) ?_ λv3 h3=>?_
 ·exact tC (λ_=>tS ⟨rfl,λh=>by cases h⟩) λh=>tS ⟨rfl,λh2=>⟨nF h,nF h2⟩⟩
 ·obtain⟨b,v3⟩:=v3;obtain⟨rfl,h3⟩:=h3;refine tC (λ_=>tS λh=>by cases h) λh=>?_;obtain⟨e1,e2⟩:=h3 h;refine tBT (RT _ _) λv4=>tS λ_=>⟨by omega,?_⟩
  dsimp only at e1 e2⊢;rw[e1,e2];exact⟨k1,k2,k3,k4,k5⟩
theorem Gj{l:List α}{d:α}(h:i<l.length):l.getD i d∈l:=by rw[Ad h];exact aA h
theorem ZE(s:Bt)(hs:P47 s):Tot (λ_=>True) (o191 s):=by
 unfold o191;unfold P47 at hs;refine tB (P:=λv=>v.1=s/\(v.2=false->4<=s.length/\s.length<=5)) ?_ λv hv=>?_
 ·refine tC (λ_=>tS ⟨rfl,λh=>by cases h⟩) λh1=>tC (λ_=>tS ⟨rfl,λh=>by cases h⟩) λh2=>?_;have h1:=dF h1;have h2:=dF h2;exact tG dt (tS ⟨rfl,λ_=>by omega⟩)
 ·obtain⟨v1,v2⟩:=v;obtain⟨rfl,hv⟩:=hv;refine tC (λ_=>tS trivial) λh=>?_;obtain⟨l1,l2⟩:=hv h;dsimp only at l1 l2⊢;refine tB (P:=λv=>v.1=v1) ?_ λv2 e2=>?_
  ·refine tC (λh=>?_) λh=>tS rfl;have h:=eT h;exact tG dt (tC (λ_=>tG dt (tC (λ_=>tG dt (tS rfl)) λ_=>tS rfl)) λ_=>tS rfl)
  ·obtain⟨w1,w2⟩:=v2;obtain rfl:w1=v1:=e2;refine tC (λ_=>tS trivial) λh=>?_;dsimp only;refine tB (P:=λv=>v.1=w1) ?_ λv3 e3=>?_
   ·exact tG dt (tC (λ_=>tS rfl) λ_=>tG dt (tC (λ_=>tS rfl) λ_=>tG dt (tC (λ_=>tS rfl) λ_=>tG dt (tS rfl))))
   ·obtain⟨u1,u2⟩:=v3;obtain rfl:u1=w1:=e3;refine tC (λ_=>tS trivial) λh=>?_;dsimp only;refine tG dt (tG dt (tBT (tC (λ_=>tS trivial) λ_=>tS trivial) λ_=>tS trivial))
theorem ZF(s:Bt)(k:Int)(hs:P47 s):Tot (λr=>r=0->s.length<=6) (o132 s k):=by unfold o132;refine tB (P:=λv=>v=false->s.length<=6) ?_ λv hv=>tC (λ_=>tS λh=>by cases h) λh=>tS λ_=>hv h;refine tB (Ej _ 6 hs) λv1 h1=>tC (λ_=>tS λh=>by cases h) λh=>?_;have h1:=h1 (notF h);exact tC (λ_=>tBT (ZE s hs) λ_=>tS λ_=>by omega) λ_=>tS λ_=>by omega
theorem ZG(s:Bt)(k:Int)(hs:P47 s):Tot (λr=>r=0->s.length<=6) (o133 s k):=by
 unfold o133;refine tB (P:=λv=>v=false->s.length<=6) ?_ λv hv=>tC (λ_=>tS λh=>by cases h) λh=>tS λ_=>hv h;refine tC (λhk=>?_) λhk=>?_
 ·refine tB (Ej _ 6 hs) λv1 h1=>tC (λ_=>tS λh=>by cases h) λh=>?_;have h1:=h1 (notF h);exact tC (λ_=>tB (NA s) λ_ _=>tS λ_=>by omega) λ_=>tS λ_=>by omega
 ·refine tC (λ_=>tB (NA s) λv h=>tS λe=>?_) λh=>absurd (nF h) (eF hk);have:=h (by simpa using e);omega
theorem AeY(l:List Pt_)(s:Bt)(hl:l.length<=1000000):Tot (λ_=>True) (o246 l s):=by unfold o246;refine tL (λt=>t.1.1=l/\t.1.2=(l.length:Int)/\0<=t.2.1/\t.2.1<=((l.length:Nat):Int)) (λt=>cE (((l.length:Nat):Int)-t.2.1)) ?_ ⟨rfl,rfl,aY _,by simp⟩ (by dsimp only;omega);rintro⟨⟨t1,t2⟩,t3,t4⟩ ⟨e1,e2,h3,h4⟩;dsimp only at e1 e2 h3 h4⊢;subst e1;subst e2;refine tC (λhc=>?_) λhc=>tDn (tS trivial);have hc:=dT hc;refine tG dt (tI (tBT ⟨_,rfl,trivial⟩ λv4=>tC (λ_=>tDn (tS trivial)) λ_=>tGo ?_));rw[Ac];exact⟨⟨rfl,rfl,by dsimp only;omega,by dsimp only;omega⟩,by dsimp only;omega⟩
theorem AeZ(a:AQ)(s:Bt)(hl:a.2.length<=1000000):Tot (λ_=>True) (o194 a s):=by unfold o194;exact tBT (AeY _ _ hl) λ_=>tS trivial
theorem Afa(a:AQ)(i:Int)(hl:a.2.length<=1000000)(hi:0<=i/\i<a.2.length)(h:∀p∈a.2,P47 p.1):Tot (λr=>r=0->(a.2.getD i.toNat BC).1.length<=13) (o135 a i):=by unfold o135;have hm:=h _ (Gj (d:=BC) (show i.toNat<a.2.length by omega));refine tG (dt hi) (tI ?_);generalize a.2.getD i.toNat BC=p at hm⊢;refine tB (RN _ hm) λv2 h2=>tC (λ_=>tS λh=>by cases h) λh=>?_;have h2:=h2 (nF h);refine tW (R:=λ_=>True) ?_ λ_ _ _=>h2;refine tBT (AeZ a _ hl) λv3=>?_;repeat'(first|exact tS trivial|exact⟨_,rfl,trivial⟩|refine tC (λ_=>?_) (λ_=>?_)|refine tBT ?_ (λ_=>?_))
def inA(a:AQ):Prop:=P47 a.1/\a.2.length<=1000000/\∀p∈a.2,P47 p.1
def gA(a:AQ):Prop:=a.1.length<=8/\∀p∈a.2,p.1.length<=13
theorem RV{l:List α}{d:α}(h:∀j:Nat,j<l.length->Q (l.getD j d)):∀x∈l,Q x:=λx hx=>by obtain⟨j,hj,e⟩:=aX hx;have:=h j hj;rw[Ad hj,e]at this;exact this
theorem NC{l:List α}{d:α}{i:Int}(h0:0<=i)(h:∀j:Nat,(j:Int)<i->Q (l.getD j d))(hi:Q (l.getD i.toNat d)):∀j:Nat,(j:Int)<i+1->Q (l.getD j d):=λj hj=>by
 by_cases e:(j:Int)<i
 ·exact h j e
 ·have:j=i.toNat:=by omega
  rw[this];exact hi
theorem AkR(a:AQ)(h:inA a):Tot (λr=>r=0->gA a) (o70 a):=by
 obtain⟨h1,h2,h3⟩:=h;unfold o70;refine tB (Ej _ 8 h1) λv1 k1=>tC (λ_=>tS λh=>by cases h) λh=>?_;have k1:=k1 (notF h);refine tC (λ_=>tS λh=>by cases h) λ_=>tC (λ_=>tS λh=>by cases h) λ_=>?_;refine tL (λt=>t.2.2=a/\t.1=(a.2.length:Int)/\0<=t.2.1/\t.2.1<=((a.2.length:Nat):Int)/\∀j:Nat,(j:Int)<t.2.1->(a.2.getD j BC).1.length<=13) (λt=>cE (((a.2.length:Nat):Int)-t.2.1)) ?_ ⟨rfl,rfl,aY _,by simp,λj hj=>absurd hj (by dsimp only;omega)⟩ (by dsimp only;omega);rintro⟨t1,t2,t3⟩ ⟨e1,e2,g3,g4,g5⟩;dsimp only at e1 e2 g3 g4 g5⊢;subst e1;subst e2;refine tC (λhc=>?_) λhc=>tDn (tS λ_=>?_)
 ·have hc:=dT hc;refine tB (Afa t3 t2 h2 ⟨g3,hc⟩ h3) λv4 k4=>tC (λh=>tDn (tS λe=>absurd e (nT h))) λh=>tGo ?_;rw[Ac];exact⟨⟨rfl,rfl,by dsimp only;omega,by dsimp only;omega,NC (Q:=λp:Pt_=>p.1.length<=13) g3 g5 (k4 (nF h))⟩,by dsimp only;omega⟩
 ·have hc:=dF hc;exact⟨by omega,RV (Q:=λp:Pt_=>p.1.length<=13) λj hj=>g5 j (by omega)⟩
def inL(l:Bw):Prop:=P47 l.2.1/\P47 l.2.2.1
def inX(x:Bh):Prop:=P47 x.2.1/\x.2.2.length<=2000/\∀l∈x.2.2,inL l
def gL(l:Bw):Prop:=l.2.1.length<=13/\l.2.2.1.length<=13
def gX(x:Bh):Prop:=x.2.1.length<=8/\∀l∈x.2.2,gL l
def gP(p:AA):Prop:=(p.1.length<=6/\p.2.1.length<=8)/\∀x∈p.2.2.2,gX x
def inQ(p:Aw):Prop:=(P47 p.1.1/\P47 p.1.2)/\p.2.2.length<=2000/\∀x∈p.2.2,inX x
theorem ZH(k:Int):Tot (λv=>∀l,v= .inr l->l.length=3) (o136 k):=by
 unfold o136;have k:∀a b c:UInt8,∀l,(Sum.inr [a,b,c]:Unit ⊕ Bt)= .inr l->l.length=3:=λa b c l h=>by injection h with h;rw[<-h];rfl
 exact tC (λ_=>tS (k _ _ _)) λ_=>tC (λ_=>tS (k _ _ _)) λ_=>tC (λ_=>tS (k _ _ _)) λ_=>tS λl h=>by cases h
theorem ZI(l:Bt)(k:Int)(hl:l.length<=1000):Tot (λ_=>True) (o196 l k):=by unfold o196;refine tL (λt=>t.1.1=l/\t.2.1=(l.length:Int)/\0<=t.2.2/\t.2.2<=((l.length:Nat):Int)) (λt=>cE (((l.length:Nat):Int)-t.2.2)) ?_ ⟨rfl,rfl,aY _,by simp⟩ (by dsimp only;omega);rintro⟨⟨t1,t2⟩,t3,t4⟩ ⟨e1,e2,h3,h4⟩;dsimp only at e1 e2 h3 h4⊢;subst e1;subst e2;refine tC (λhc=>?_) λhc=>tDn (tS trivial);have hc:=dT hc;refine tG dt (tC (λ_=>tDn (tS trivial)) λ_=>tGo ?_);rw[Ac];exact⟨⟨rfl,rfl,by dsimp only;omega,by dsimp only;omega⟩,by dsimp only;omega⟩
theorem Afb(a:Aw)(b c:Int):Tot (λ_=>True) (o197 a b c):=by unfold o197;repeat'(first|exact tS trivial|refine tC (λ_=>?_) (λ_=>?_)|refine tBT ?_ (λ_=>?_))
theorem Afc(a b:Int):Tot (λ_=>True) (o248 a b):=by unfold o248;repeat'(first|exact tS trivial|exact tT (RM _)|refine tC (λ_=>?_) (λ_=>?_)|refine tBT ?_ (λ_=>?_))
theorem Afd(a:Int):Tot (λ_=>True) (o249 a):=by unfold o249;repeat'(first|exact tS trivial|refine tC (λ_=>?_) (λ_=>?_)|refine tBT ?_ (λ_=>?_))
theorem ZJ(a b:Ai):Tot (λ_=>True) (o198 a b):=by unfold o198;repeat'(first|exact tS trivial|exact Afc _ _|exact Afd _|refine tC (λ_=>?_) (λ_=>?_)|refine tBT ?_ (λ_=>?_))
theorem Afe(a:Aw)(i:Int)(h:inQ a)(hi:0<=i/\i<a.2.2.length):Tot (λr=>r=0->gX (a.2.2.getD i.toNat AD)) (o137 a i):=by
 obtain⟨_,hn,hx⟩:=h;unfold o137;refine tB (P:=λv=>v.1=i/\v.2.1=a/\v.2.2.length<=1000) ?_ λv4 h4=>?_
 ·refine tB (ZH _) λv1 h1=>tM (x:=none) (λ_ _=>tS ⟨rfl,rfl,by simp⟩) λl e=>tS ⟨rfl,rfl,?_⟩;have:=h1 l e;dsimp only;omega
 obtain⟨v1,v2,ks⟩:=v4;obtain⟨rfl,rfl,hk⟩:=h4;dsimp only at hi hn hx hk⊢;have hm:=hx _ (Gj (d:=AD) (show v1.toNat<v2.2.2.length by omega));refine tG (dt hi) (tI ?_);generalize v2.2.2.getD v1.toNat AD=x at hm⊢;obtain⟨m1,m2,m3⟩:=hm;refine tBT (ZI ks _ hk) λv6=>tC (λ_=>tS λh=>by cases h) λ_=>?_;refine tJ (P:=λv=>v=(v2,x)) ?_ λv11 h11=>?_
 ·refine tC (λhc=>?_) λ_=>tGo rfl;have hc:=dT hc;rw[Ac];refine tG dt (tI (tBT (ZI ks _ hk) λv8=>?_));refine tB (P:=λv=>v.2.1=v2/\v.2.2.1=x) ?_ λv9 h9=>tC (λ_=>tDn (tS λh=>by cases h)) λ_=>?_
  ·exact tC (λ_=>tS ⟨rfl,rfl⟩) λ_=>tC (λ_=>tS ⟨rfl,rfl⟩) λ_=>tS ⟨rfl,rfl⟩
  ·refine tB (P:=λv=>v.2=(v2,x)) ?_ λv10 h10=>tC (λ_=>tDn (tS λh=>by cases h)) λ_=>tGo h10;rw[h9.1,h9.2];exact tC (λ_=>tS rfl) λ_=>tS rfl
 subst h11;refine tB (P:=λv=>v.2=(v2,x)) ?_ λv12 h12=>?_
 ·exact tC (λ_=>tS rfl) λ_=>tS rfl
 obtain⟨b,v12⟩:=v12;obtain rfl:v12=(v2,x):=h12;dsimp only;refine tB (P:=λv=>v.2=(v2,x)/\(v.1=false->x.2.1.length<=8)) ?_ λv14 h14=>?_
 ·have key:Tot (λv:Bool×Aw×Bh=>v.2=(v2,x)/\(v.1=false->x.2.1.length<=8)) (some ((!(x.2.1==([]:Bt))),(v2,x))):=tS ⟨rfl,λh=>by have h:(x.2.1==([]:Bt))=true:=notF h;rw[sT h];decide⟩
  refine tC (λhb=>?_) λhb=>?_
  ·refine tB (Ej _ 8 m1) λv13 h13=>tC (λ_=>tS ⟨rfl,λh=>by cases h⟩) λh=>?_;have h13:=h13 (notF h);exact tC (λ_=>key) λ_=>tS ⟨rfl,λ_=>by omega⟩
  ·exact tC (λ_=>key) λh=>by rw[hb]at h;cases h
 obtain⟨b2,v14⟩:=v14;obtain⟨e14,h8⟩:=h14;obtain rfl:v14=(v2,x):=e14;refine tC (λ_=>tS λh=>by cases h) λhb=>?_;have h8:=h8 hb;refine tC (λ_=>tS λh=>by cases h) λ_=>tC (λ_=>tS λh=>by cases h) λ_=>?_;dsimp only;refine tL (λt=>t.2.2=(v2,x)/\t.1.1=x.2.2/\t.1.2=(x.2.2.length:Int)/\0<=t.2.1/\t.2.1<=((x.2.2.length:Nat):Int)/\∀j:Nat,(j:Int)<t.2.1->gL (x.2.2.getD j BS)) (λt=>cE (((x.2.2.length:Nat):Int)-t.2.1)) ?_ ⟨rfl,rfl,rfl,aY _,by simp,λj hj=>absurd hj (by dsimp only;omega)⟩ (by dsimp only;omega);rintro⟨⟨t1,t2⟩,t3,t4⟩ ⟨e1,e2,e3,g3,g4,g5⟩;dsimp only at e1 e2 e3 g3 g4 g5⊢;subst e1;subst e2;subst e3;dsimp only;refine tC (λhc=>?_) λhc=>tDn (tS λ_=>?_)
 ·have hc:=dT hc;have hl:=m3 _ (Gj (d:=BS) (show t3.toNat<x.2.2.length by omega));refine tG dt (tI ?_);refine tB (YT _ hl.1 hl.2) λv18 h18=>tC (λh=>tDn (tS λe=>absurd e (nT h))) λh=>?_;have h18:=h18 (nF h);refine tB (P:=λv=>v.1=(x.2.2,(x.2.2.length:Int),t3)/\v.2.2=(v2,x)) ?_ λv29 h29=>?_
  ·have key:Tot (λv:(List Bw×Int×Int)×Bool×Aw×Bh=>v.1=(x.2.2,(x.2.2.length:Int),t3)/\v.2.2=(v2,x)) (some ((x.2.2,(x.2.2.length:Int),t3),false,(v2,x))):=tS ⟨rfl,rfl⟩;have hp:∀{γ:Type}{Q:γ->Prop}{y z:Option γ},(t3>0->Tot Q (gd (decide ((0:Int)<=(aF .i64 (t3-1))/\(aF .i64 (t3-1))<((x.2.2.length:Nat):Int))) y))->Tot Q z->Tot Q (cnd (decide (t3>0)) (gd (decide ((0:Int)<=(aF .i64 (t3-1))/\(aF .i64 (t3-1))<((x.2.2.length:Nat):Int))) y) z):=λh1 h2=>tC (λh=>h1 (dT h)) λ_=>h2;refine tC (λ_=>?_) λ_=>?_
   ·refine tBT (Afb _ _ _) λv24=>tC (λ_=>tS ⟨rfl,rfl⟩) λ_=>hp (λh=>tG (dt (by rw[Ac];omega)) (tI (tBT (ZJ _ _) λ_=>tS ⟨rfl,rfl⟩))) key
   ·exact hp (λh=>tG (dt (by rw[Ac];omega)) (tI (tBT (ZJ _ _) λ_=>tS ⟨rfl,rfl⟩))) key
  ·obtain⟨w1,w2,w3⟩:=v29;obtain⟨rfl,rfl⟩:w1=(x.2.2,(x.2.2.length:Int),t3)/\w3=(v2,x):=h29;refine tC (λ_=>tDn (tS λh=>by cases h)) λ_=>tGo ?_;dsimp only;rw[Ac];exact⟨⟨rfl,rfl,rfl,by omega,by omega,NC (Q:=gL) g3 g5 h18⟩,by omega⟩
 ·have hc:=dF hc;exact⟨h8,RV (Q:=gL) λj hj=>g5 j (by omega)⟩
theorem Aff(l:List Bw)(hl:l.length<=2000):Tot (λ_=>True) (o145 l):=by unfold o145;rw[Rd (λh=>by rw[List.isEmpty_iff.1 h];rfl)];exact tG (dt (by simp only[aH];omega)) (tS trivial)
theorem Afg(a:Aw)(k:Int)(s:Bt)(h:inQ a):Tot (λ_=>True) (o138 a k s):=by
 obtain⟨_,hn,hx⟩:=h;unfold o138;refine tL (λt=>t.1.2.2=a.2.2/\t.2.1=(a.2.2.length:Int)/\0<=t.2.2.1/\t.2.2.1<=((a.2.2.length:Nat):Int)) (λt=>cE (((a.2.2.length:Nat):Int)-t.2.2.1)) ?_ ⟨rfl,rfl,aY _,by simp⟩ (by dsimp only;omega);rintro⟨⟨t1,t2,t3⟩,t4,t5,t6⟩ ⟨e1,e2,h3,h4⟩;dsimp only at e1 e2 h3 h4⊢;subst e1;subst e2;refine tC (λhc=>?_) λhc=>tDn (tS trivial);have hc:=dT hc;have hm:=hx _ (Gj (d:=AD) (show t5.toNat<a.2.2.length by omega));refine tG dt (tI ?_);generalize a.2.2.getD t5.toNat AD=x at hm⊢;refine tB (P:=λv=>v.1.1.1=t1/\v.1.1.2=t2/\v.1.2.1=a.2.2/\v.1.2.2=(a.2.2.length:Int)/\v.2.1.1=t5/\v.2.2.2=x) ?_ λv4 k4=>?_
 ·exact tC (λ_=>tS ⟨rfl,rfl,rfl,rfl,rfl,rfl⟩) λ_=>tS ⟨rfl,rfl,rfl,rfl,rfl,rfl⟩
 ·obtain⟨k1,k2,k3,k4,k5,k6⟩:=k4;refine tC (λ_=>?_) λ_=>tGo ?_
  ·rw[k6];exact tBT (Aff _ hm.2.1) λ_=>tDn (tS trivial)
  ·rw[k5,Ac];exact⟨⟨k3,k4,by dsimp only;omega,by dsimp only;omega⟩,by dsimp only;omega⟩
theorem ZK(a:Aw)(h:inQ a):Tot (λr=>r=0->(a.1.1.length<=6/\a.1.2.length<=8)/\∀x∈a.2.2,gX x) (o71 a):=by
 unfold o71;refine tB (P:=λv=>v.2=a/\(v.1=false->a.1.1.length<=6/\a.1.2.length<=8)) ?_ λv3 h3=>?_
 ·refine tB (Ej _ 6 h.1.1) λv1 h1=>tC (λ_=>tS ⟨rfl,λh=>by cases h⟩) λh0=>?_;have h1:=h1 (notF h0);refine tB (Ej _ 8 h.1.2) λv2 h2=>tS ⟨rfl,λh=>?_⟩;have h2:=h2 (notF h);omega
 obtain⟨b,v3⟩:=v3;obtain⟨e3,h3⟩:=h3;obtain rfl:v3=a:=e3;refine tC (λ_=>tS λh=>by cases h) λhb=>?_;have h3:=h3 hb;refine tB (P:=λv=>v.2=v3) ?_ λv7 h7=>?_
 ·refine tB (ZH _) λv4 h4=>tM (x:=none) (λ_ _=>tS rfl) λl e=>tG (dt ?_) (tS rfl);have:=h4 l e;omega
 obtain⟨b7,v7⟩:=v7;obtain rfl:v7=v3:=h7;refine tC (λ_=>tS λh=>by cases h) λ_=>tC (λ_=>tS λh=>by cases h) λ_=>?_;dsimp only;have hn:=h.2.1;refine tL (λt=>t.2.2=v7/\t.1=(v7.2.2.length:Int)/\0<=t.2.1/\t.2.1<=((v7.2.2.length:Nat):Int)/\∀j:Nat,(j:Int)<t.2.1->gX (v7.2.2.getD j AD)) (λt=>cE (((v7.2.2.length:Nat):Int)-t.2.1)) ?_ ⟨rfl,rfl,aY _,by simp,λj hj=>absurd hj (by dsimp only;omega)⟩ (by dsimp only;omega);rintro⟨t1,t2,t3⟩ ⟨e1,e2,g3,g4,g5⟩;dsimp only at e1 e2 g3 g4 g5⊢;subst e1;subst e2;refine tC (λhc=>?_) λhc=>tDn ?_
 ·have hc:=dT hc;refine tB (Afe t3 t2 h ⟨g3,hc⟩) λv10 k10=>tC (λh=>tDn (tS λe=>absurd e (nT h))) λh0=>tGo ?_;rw[Ac];exact⟨⟨rfl,rfl,by dsimp only;omega,by dsimp only;omega,NC (Q:=gX) g3 g5 (k10 (nF h0))⟩,by dsimp only;omega⟩
 ·have hc:=dF hc;refine tW (R:=λ_=>True) ?_ λ_ _ _=>⟨h3,RV (Q:=gX) λj hj=>g5 j (by omega)⟩
  refine tC (λ_=>tS trivial) λ_=>tBT (Afg t3 _ _ h) λv11=>?_;repeat'(first|exact tS trivial|refine tC (λ_=>?_) (λ_=>?_)|refine tBT ?_ (λ_=>?_))
def gF(f:Be):Prop:=f.1.length<=6/\f.2.1.length<=6
theorem ND(s:Bt)(c:UInt8):(c∉s->o253 s [c]=some (-1))/\(∀w r,s=w++c::r->c∉w->o253 s [c]=some (w.length:Int)):=by
 have h0:∀k:Int,ixB c s 0=k->(s.length=1->s=[c]->k=0)->o253 s [c]=some k:=by
  intro k hk h1;unfold o253;refine(bdS (cndF rfl)).trans ?_;dsimp only;by_cases e:[c]=s
  ·rw[cndT (by simpa using e),h1 (by rw[<-e];rfl) e.symm]
  ·rw[cndF (by simpa using e)];refine(cndT rfl).trans ?_;refine(gdT rfl).trans ?_;have e2:u8 (((aR [c] (0:Int).toNat 0).toNat:Nat):Int)=c:=by show u8 ((c.toNat:Nat):Int)=c;unfold u8;simp
   show bd (o286 s _) some=some k;unfold o286;rw[e2,hk];rfl
 refine⟨λh=>h0 _ (OZ c s 0 h) λ_ e=>absurd (by rw[e];exact aT ..) h,λw r e hw=>?_⟩
 refine h0 _ (by rw[e,WG c w r 0 hw];omega) λ_ e2=>?_;rw[e]at e2;cases w with
 |nil=>rfl
 |cons x w=>injection e2 with e3 e4;exact absurd (by rw[<-e3];exact aT ..) hw
theorem DA{s:Bt}{c:UInt8}(h:c∉s):o153 s [c]=some (s,[],false):=by
 unfold o153;have:o206 s [c]=some (s,[],false):=by unfold o206;rw[bdS ((ND s c).1 h)];exact cndF rfl
 rw[bdS this]
theorem Jy{r:Bt}{c:UInt8}(h:c∉w)(hl:(w++c::r).length<=140737488355328):o153 (w++c::r) [c]=some (w,r,true):=by
 have hl2:(w++c::r).length=w.length+r.length+1:=by simp;omega
 unfold o153;have:o206 (w++c::r) [c]=some (w,r,true):=by
  unfold o206;rw[bdS ((ND _ c).2 w r rfl h)];rw[cndT dt,gdT dt,show((([c]:Bt).length:Nat):Int)=1 from rfl,Ac,gdT dt];rw[aB,show((w.length:Int)+1).toNat=w.length+1 by omega];have e1:bS w.length (w++c::r)=w:=bK ..;have e2:bQ (w.length+1) (w++c::r)=r:=by rw[show w++c::r=(w++[c])++r by simp,show w.length+1=(w++[c]).length by simp];exact bU ..
  rw[e1,e2]
 rw[bdS this]
theorem Acp(c:UInt8)(s:Bt):0<(spl c s).length:=by rw[(Hx c s.length s (aQ _)).2];omega
theorem NE(s:Bt)(c:UInt8)(hl:s.length<=1099511627776:=by omega):o92 s [c]=some (spl c s):=by
 have hcnt:aO s c<=s.length:=List.count_le_length;have hsz:=(Hx c s.length s (aQ _)).2;have hmin:minI (((aO s c+1:Nat)):Int) ((s.length+1:Nat):Int)=((aO s c+1:Nat):Int):=by unfold minI;split<;>omega
 have key:o152 s [c] 0 (-1)=some (spl c s):=by
  unfold o152;rw[cndF (by decide),cndF,cndT];have h204:o204 s [c]=some ((aO s c:Nat):Int):=rfl;refine(bdbd h204).trans ?_;rw[bdI];dsimp only;rw[Ac (x:=((aO s c:Nat):Int)+1),Ac (x:=((s.length:Nat):Int)+1)];rw[show((aO s c:Nat):Int)+1=((aO s c+1:Nat):Int) by omega,show((s.length:Nat):Int)+1=((s.length+1:Nat):Int) by omega,hmin,gdT dt,Ac];have hL:Tot (λv:Bt×Int×List Bt=>∃(i:Nat)(P:List Bt),v.2.1=(i:Int)/\i=P.length/\v.2.2.length=aO s c+1/\i+1=aO s c+1/\(∃E,v.2.2=P++E)/\spl c s=P++[v.1]) (loopO (σ:=Hy) fuelN (λ(v4:Hy)=>(cnd (decide (v4.2.2.1<v4.2.1)) (bd (α:=Int) (o205 v4.1.1 v4.1.2.1) (λv5=>(cnd (decide (v5<(0:Int))) (dnO (some (v4.1.1,v4.2.2))) (gd (decide ((0:Int)<=(aF .i64 (v5+v4.1.2.2))/\(aF .i64 (v5+v4.1.2.2))<=((v4.1.1.length:Nat):Int))) (gd (decide ((0:Int)<=v4.2.2.1/\v4.2.2.1<((v4.2.2.2.length:Nat):Int))) (gd (decide ((0:Int)<=(aF .i64 (v5+((v4.1.2.1.length:Nat):Int)))/\(aF .i64 (v5+((v4.1.2.1.length:Nat):Int)))<=((v4.1.1.length:Nat):Int))) (some (Ctl.go (((bQ (aF .i64 (v5+((v4.1.2.1.length:Nat):Int))).toNat v4.1.1),v4.1.2),v4.2.1,(aF .i64 (v4.2.2.1+(1:Int))),(cL v4.2.2.2 v4.2.2.1.toNat (bS (aF .i64 (v5+v4.1.2.2)).toNat v4.1.1))))))))))) (dnO (some (v4.1.1,v4.2.2))))) ((s,[c],0),(((aO s c+1:Nat):Int)-1),0,List.replicate (((aO s c+1:Nat):Int)).toNat ([]:Bt))):=by
   refine tL (λv=>∃(i:Nat)(P E:List Bt)(q:Bt),v=((q,[c],0),(((aO s c+1:Nat):Int)-1),(i:Int),P++E)/\i=P.length/\(P++E).length=aO s c+1/\spl c s=P++spl c q/\i+aO q c=aO s c/\q.length<=s.length) (λv=>aO s c-v.2.2.1.toNat) ?_ ⟨0,[],List.replicate (aO s c+1) [],s,by simp,rfl,by simp,rfl,by omega,aQ _⟩ (by simp only;omega);rintro _ ⟨i,P,E,q,rfl,hi,hlen,hsp,hc2,hq⟩;dsimp only;refine tC (λhlt=>?_) λhlt=>tDn (tS ⟨i,P,rfl,hi,hlen,?_,⟨E,rfl⟩,?_⟩)
   ·have hlt:=dT hlt;rcases KN c q with hn|⟨w,r,rfl,hw⟩
    ·rw[Pa hn]at hc2;omega
    ·have h205:o205 (w++c::r) [c]=some (w.length:Int):=by unfold o205;rw[bdS ((ND _ c).2 w r rfl hw)]
     have hl2:(w++c::r).length=w.length+r.length+1:=by simp;omega
     rw[bdS h205,cndF df,show(((([c]:Bt)).length:Nat):Int)=1 from rfl,Ac,Ac,gdT dt,gdT dt,gdT dt,Ac];rw[RH hw]at hc2;have e1:bS ((w.length:Int)+0).toNat (w++c::r)=w:=by rw[show((w.length:Int)+0).toNat=w.length by omega];exact bK ..
     have e2:bQ ((w.length:Int)+1).toNat (w++c::r)=r:=by rw[show w++c::r=(w++[c])++r by simp,show((w.length:Int)+1).toNat=(w++[c]).length by simp];exact bU ..
     rw[e1,e2,aB];cases E with
     |nil=>rw[aS]at hlen;omega
     |cons y E=>
      have e3:(P++y::E).set i w=(P++[w])++E:=by rw[hi,bO _ _ (aQ _),bL,List.set_cons_zero];simp
      rw[e3];refine tGo ⟨⟨i+1,P++[w],E,r,by rw[show(i:Int)+1=((i+1:Nat):Int) by omega],by rw[aD,<-hi];rfl,?_,by rw[hsp,Hw hw];simp,by omega,by omega⟩,by simp only;omega⟩;rw[<-hlen];simp
   ·have hlt:=dF hlt;omega
   ·have hlt:=dF hlt;rcases KN c q with hn|⟨w,r,rfl,hw⟩
    ·rw[hsp,Jt hn]
    ·rw[RH hw]at hc2;omega
  obtain⟨v,hv,i,P,h1,h2,h3,h4,⟨E,h5⟩,h6⟩:=hL;refine(bdS hv).trans ?_;rw[h1,Ac,gdT dt,gdT (dt (by rw[bC];omega)),aB,show((i:Int)+1).toNat=i+1 by omega];rw[h5,h6];have hE:E≠[]:=λe=>by rw[h5,e,aS]at h3;omega
  cases E with
  |nil=>exact absurd rfl hE
  |cons y E=>
   rw[h2,bO _ _ (aQ _),bL,List.set_cons_zero,show P++v.1::E=(P++[v.1])++E by simp,show P.length+1=(P++[v.1]).length by simp,bK]
 unfold o92;rw[bdS key]
abbrev Fd:=Bt×Int
variable{fs:List Fd}
def jb(l:List Bt):Bt:=jnS [32] l
theorem HO(x:Bt)(l:List Bt):jb (x::l)=x++jnT [32] l:=rfl
theorem Jz(x:Bt)(l:List Bt):jnT [32] (x::l)=32::jb (x::l):=rfl
theorem RW:∀(l:List Bt),(∀w∈l,Wd w)->∀b∈jb l,b.toNat=32\/(33<=b.toNat/\b.toNat<=126/\b.toNat≠35)
 | [],_,b,hb=>by cases hb
 | [x],h,b,hb=>by
  have:jb [x]=x:=by show x++[]=x;simp
  rw[this]at hb;exact .inr ((h x (aT ..)).2 b hb)
 |x::y::l,h,b,hb=>by
  rw[HO,Jz]at hb;rcases aP.1 hb with h1|h1
  ·exact .inr ((h x (aT ..)).2 b h1)
  ·rcases cQ.1 h1 with h2|h2
   ·left;rw[h2];rfl
   ·exact RW (y::l) (λw hw=>h w (bD _ hw)) b h2
theorem Ql(A:Bt)(b:UInt8)(B:Bt)(hk:A.length=k):(A++b::B).getD k 0=b:=by subst hk;rw[aV,bA (aQ _),bL];rfl
theorem Vq(A w B:Bt){j:Nat}(hj:j<w.length):(A++(w++B)).getD (A.length+j) 0=w[j]:=by rw[aV,bA (by omega),show A.length+j-A.length=j by omega,bX hj,cB hj];rfl
theorem i32(h:b.toNat≠32):(((b.toNat:Nat):Int)==(32:Int))=false:=AU
theorem Apx(h:b.toNat≠32):(((b.toNat:Nat):Int)!=(32:Int))=true:=EU
theorem Mz(hw:∀w∈ws,Wd w)(hl:(jb ws).length<=200):o93 (jb ws)=some ((0,0),flds 1 ws):=by
 have hmem:=RW ws hw;have h35:(35:UInt8)∉jb ws:=λh=>by
  rcases hmem 35 h with e|e
  ·exact absurd e (by decide)
  ·exact e.2.2 rfl
 have key:Tot (λr=>r=((0,0),flds 1 ws)) (o93 (jb ws)):=by
  unfold o93;rw[cndF df];refine tL (λt=>∃i:Nat,t=(jb ws,(((jb ws).length:Nat):Int),(i:Int))/\i<=(jb ws).length) (λt=>(jb ws).length-t.2.2.toNat) ?_ ⟨0,rfl,by omega⟩ (by simp only;omega);rintro _ ⟨i,rfl,hi⟩;dsimp only;refine tC (λh=>?_) λh=>?_
  ·have h:=dT h;have hi2:i<(jb ws).length:=by omega
   have hb:=hmem _ (aA hi2);rw[<-Ad (d:=0) hi2]at hb;refine tB (P:=λv=>v=((jb ws,(i:Int)),(((jb ws).length:Nat):Int),(i:Int),false)) ?_ ?_
   ·refine tG dt ?_;rw[aB];refine tC (λhc=>by have:=dT hc;omega) λhc=>tG dt (tS ?_);rw[df]
   ·rintro _ rfl;refine tC (λhc=>by cases hc) λ_=>?_;dsimp only;rw[Ac];exact tGo ⟨⟨i+1,by rw[show(i:Int)+1=((i+1:Nat):Int) by omega],by omega⟩,by simp only;omega⟩
  ·refine tDn (tB (P:=λv=>v=(jb ws,[],false)) ⟨_,DA h35,rfl⟩ ?_);rintro _ rfl;dsimp only;refine tL (λt=>∃(i:Nat)(pre:Bt)(us:List Bt)(out:List Fd),t=(jb ws,(i:Int),out)/\i=pre.length/\(∀w∈us,Wd w)/\out.length<=i/\((jb ws=pre++jb us/\out++flds ((i:Int)+1) us=flds 1 ws)\/(jb ws=pre++jnT [32] us/\out++flds ((i:Int)+2) us=flds 1 ws))) (λt=>(jb ws).length-t.2.1.toNat) ?_ ⟨0,[],ws,[],rfl,rfl,hw,by simp,.inl ⟨rfl,by simp⟩⟩ (by simp only;omega);rintro _ ⟨i,pre,us,out,rfl,hi,hus,hol,hcase⟩;dsimp only;cases us with
   |nil=>
    have e1:jb ws=pre/\out=flds 1 ws:=by
     rcases hcase with⟨e,e2⟩|⟨e,e2⟩
     ·exact⟨by rw[e];show pre++[]=pre;simp,by rw[<-e2];show out=out++[];simp⟩
     ·exact⟨by rw[e];show pre++[]=pre;simp,by rw[<-e2];show out=out++[];simp⟩
    refine tC (λh=>by have:=dT h;rw[e1.1]at this;omega) λ_=>tDn (tS ?_);rw[e1.2]
   |cons x us=>
    have hx:=hus x (aT ..);have hxl:0<x.length:=aC.2 hx.1;rcases hcase with⟨e,e2⟩|⟨e,e2⟩
    ·rw[HO]at e;have hlen:(jb ws).length=i+(x.length+(jnT [32] us).length):=by rw[e,aD,aD,hi]
     refine tC (λh=>?_) λh=>by have:=dF h;omega
     refine tG dt ?_;have hg:∀j(hj:j<x.length),(jb ws).getD (i+j) 0=x[j]:=λj hj=>by rw[e,hi];exact Vq pre x _ hj
     have hx0:=hx.2 _ (aA hxl);rw[aB,show(jb ws).getD i 0=x[0]from hg 0 hxl,i32 (by omega)];refine tC (λh=>by cases h) λ_=>?_;refine tL (λt=>∃j:Nat,t=((jb ws,((i+j:Nat):Int)),(i:Int),out)/\j<=x.length) (λt=>(jb ws).length-t.1.2.toNat) ?_ ⟨0,rfl,by omega⟩ (by simp only;omega);rintro _ ⟨j,rfl,hj⟩;dsimp only;refine tB (P:=λv=>v=((jb ws,((i+j:Nat):Int)),(i:Int),decide (j<x.length),out)) ?_ ?_
     ·refine tC (λh=>?_) λh=>?_
      ·have h:=dT h;refine tG dt (tS ?_);rw[aB];by_cases hjx:j<x.length
       ·have hb:=hx.2 _ (aA hjx);rw[hg j hjx,Apx (by omega),dt hjx]
       ·rw[df hjx];cases us with
        |nil=>have:(jnT [32] ([]:List Bt)).length=0:=rfl;omega
        |cons y us=>
         have:(jb ws).getD (i+j) 0=32:=by rw[e,Jz,<-aM];exact Ql _ _ _ (by rw[aD];omega)
         rw[this];rfl
      ·have h:=dF h;refine tS ?_;rw[df]
     ·rintro _ rfl;dsimp only;refine tC (λh=>?_) λh=>?_
      ·have h:=dT h;rw[Ac];exact tGo ⟨⟨j+1,by rw[show((i+j:Nat):Int)+1=((i+(j+1):Nat):Int) by omega],by omega⟩,by simp only;omega⟩
      ·have h:=dF h;have hjx:j=x.length:=by omega
       subst hjx;refine tDn (tG dt (tG (dt (by simp;omega)) (tS ?_)));refine⟨⟨i+x.length,pre++x,us,out++[(x,(i:Int)+1)],?_,by rw[aD,hi],λw hw2=>hus w (bD _ hw2),by simp;omega,.inr ⟨by rw[e,aM],?_⟩⟩,by simp only;omega⟩
       ·rw[Ac];have:bS (((i+x.length:Nat):Int).toNat-(i:Int).toNat) (bQ (i:Int).toNat (jb ws))=x:=by rw[aB,aB,show i+x.length-i=x.length by omega,e,hi,bU,bK]
        rw[this]
       ·rw[<-e2];show out++[(x,(i:Int)+1)]++flds _ us=out++((x,(i:Int)+1)::flds _ us)
        rw[aM,show((i+x.length:Nat):Int)+2=(i:Int)+1+(x.length:Int)+1 by omega];rfl
    ·rw[Jz]at e;have hlen:(jb ws).length=i+((jb (x::us)).length+1):=by rw[e,aD,hi];rfl
     refine tC (λh=>?_) λh=>by have:=dF h;omega
     refine tG dt ?_;have hg:(jb ws).getD i 0=32:=by rw[e];exact Ql _ _ _ hi.symm
     rw[aB,hg];refine tC (λ_=>?_) λh=>by cases h
     rw[Ac];refine tGo ⟨⟨i+1,pre++[32],x::us,out,by rw[show(i:Int)+1=((i+1:Nat):Int) by omega],by rw[aD,hi];rfl,hus,by omega,.inl ⟨by rw[e];simp,?_⟩⟩,by simp only;omega⟩;rw[<-e2];rw[show((i+1:Nat):Int)+1=(i:Int)+2 by omega]
 obtain⟨r,h1,rfl⟩:=key;exact h1
theorem AkS(s:Bt)(hs:s.length<=1099511627776):Tot (λr=>(r.1.2=0->s.length<=200)/\r.2.length<=s.length/\∀f∈r.2,f.1≠[]/\f.1.length<=200/\(0<=f.2/\f.2<=300)) (o93 s):=by
 unfold o93;refine tC (λh=>tS ⟨(λh=>by cases h),by simp,λf hf=>by cases hf⟩) λh=>?_;have h200:=dF h;have h200:s.length<=200:=by omega
 refine tL (λt=>∃i:Nat,t=(s,((s.length:Nat):Int),(i:Int))/\i<=s.length) (λt=>s.length-t.2.2.toNat) ?_ ⟨0,rfl,by omega⟩ (by simp only;omega);rintro _ ⟨i,rfl,hi⟩;dsimp only;refine tC (λh=>?_) λh=>?_
 ·have h:=dT h;refine tB (P:=λv=>v.1=(s,(i:Int))/\v.2.1=((s.length:Nat):Int)/\v.2.2.1=(i:Int)) ?_ ?_
  ·refine tG dt ?_;exact tC (λ_=>tS ⟨rfl,rfl,rfl⟩) λ_=>tG dt (tS ⟨rfl,rfl,rfl⟩)
  ·rintro v ⟨e1,e2,e3⟩;rw[e1,e2,e3];refine tC (λ_=>tDn (tS ⟨(λh=>by cases h),by simp,λf hf=>by cases hf⟩)) λ_=>?_;rw[Ac];exact tGo ⟨⟨i+1,by rw[show(i:Int)+1=((i+1:Nat):Int) by omega],by omega⟩,by simp only;omega⟩
 ·refine tDn (tB (Ls s 35) λv hv=>?_);have hv1:=hv.1;generalize v.1=u at hv1;refine tL (λt=>∃(i:Nat)(out:List Fd),t=(u,(i:Int),out)/\i<=u.length/\out.length<=i/\∀f∈out,f.1≠[]/\f.1.length<=200/\(0<=f.2/\f.2<=300)) (λt=>u.length-t.2.1.toNat) ?_ ⟨0,[],rfl,by omega,by simp,λf hf=>by cases hf⟩ (by simp only;omega);rintro _ ⟨i,out,rfl,hi,hol,hout⟩;dsimp only;refine tC (λh=>?_) λh=>tDn (tS ⟨λ_=>h200,by show out.length<=_;omega,hout⟩);have h:=dT h;refine tG dt ?_;refine tC (λ_=>?_) λhne=>?_
  ·rw[Ac];exact tGo ⟨⟨i+1,out,by rw[show(i:Int)+1=((i+1:Nat):Int) by omega],by omega,by omega,hout⟩,by simp only;omega⟩
  ·refine tL (λt=>∃j:Nat,t=((u,(j:Int)),(i:Int),out)/\i<=j/\j<=u.length) (λt=>u.length-t.1.2.toNat) ?_ ⟨i,rfl,by omega⟩ (by simp only;omega);rintro _ ⟨j,rfl,hj,hj2⟩;dsimp only;refine tB (P:=λv=>v.1=(u,(j:Int))/\v.2.1=(i:Int)/\v.2.2.2=out/\(v.2.2.1=true->j<u.length)/\(v.2.2.1=false->i<j)) ?_ ?_
   ·refine tC (λh=>?_) λh=>tS ⟨rfl,rfl,rfl,(λh=>by cases h),λ_=>by have:=dF h;omega⟩;have h:=dT h;refine tG dt (tS ⟨rfl,rfl,rfl,λ_=>by omega,λhf=>?_⟩);by_cases e:i=j
    ·subst e;have hf:((((aR u (i:Int).toNat 0).toNat:Nat):Int)!=(32:Int))=false:=hf;have:=nF hf;have hn:=eF hne;exact absurd this hn
    ·omega
   ·rintro v2 ⟨e1,e2,e3,e4,e5⟩;rw[e1,e2,e3];refine tC (λhb=>?_) λhb=>?_
    ·have:=e4 hb;rw[Ac];exact tGo ⟨⟨j+1,by rw[show(j:Int)+1=((j+1:Nat):Int) by omega],by omega⟩,by simp only;omega⟩
    ·have hij:=e5 hb;dsimp only;refine tDn (tG dt (tG (dt (by simp;omega)) (tS ?_)));refine⟨⟨j,out++[((bS ((j:Int).toNat-(i:Int).toNat) (bQ (i:Int).toNat u)),aF .i64 ((i:Int)+1))],rfl,hj2,by simp;omega,λf hf=>?_⟩,by simp only;omega⟩
     rcases aP.1 hf with h1|h1
     ·exact hout f h1
     ·rw[aK]at h1;subst h1;have hln:(bS ((j:Int).toNat-(i:Int).toNat) (bQ (i:Int).toNat u)).length=j-i:=by simp;omega
      refine⟨λe=>by have e:=congrArg bE e;rw[hln]at e;simp at e;omega,by show(bS _ _).length<=200;rw[hln];omega,?_⟩
      show 0<=aF .i64 _/\aF .i64 _<=300;rw[Ac];omega
abbrev Ln:=Int×List Fd
variable{l:Ln}{ls vs:List Ln}
abbrev Dg:=Int×Int×Int
variable{bad d:List Dg}
def recs:Int->List (List Bt)->List Ln
 |_,[]=>[]
 |k,l::ls=>(k,flds 1 l)::recs (k+1) ls
def txtL:List (List Bt)->Bt
 | []=>[]
 |l::ls=>jb l++10::txtL ls
def okLine(l:List Bt):Prop:=l≠[]/\(∀w∈l,Wd w)/\(jb l).length<=200
theorem BW:∀(k:Int)(ls:List (List Bt)),(recs k ls).length=ls.length
 |_,[]=>rfl
 |k,l::ls=>by show(recs (k+1) ls).length+1=_;rw[BW];rfl
theorem Qm:∀(k:Int)(ls ms:List (List Bt)),recs k (ls++ms)=recs k ls++recs (k+(ls.length:Int)) ms
 |k,[],ms=>by show recs k ms=recs (k+0) ms;rw[Int.add_zero]
 |k,l::ls,ms=>by show(k,flds 1 l)::recs (k+1) (ls++ms)=(k,flds 1 l)::(recs (k+1) ls++recs _ ms);rw[Qm (k+1) ls ms,show k+1+(ls.length:Int)=k+((l::ls).length:Int) by simp;omega]
theorem Acq{l:List Bt}(h:∀w∈l,Wd w):(10:UInt8)∉jb l:=λhm=>by
 rcases RW l h 10 hm with e|e
 ·exact absurd e (by decide)
 ·exact absurd e.1 (by decide)
theorem TR:∀(ls:List (List Bt)),(∀l∈ls,okLine l)->spl 10 (txtL ls)=ls.map jb++[[]]
 | [],_=>rfl
 |l::ls,h=>by show spl 10 (jb l++10::txtL ls)=_;rw[Hw (Acq (h l (aT ..)).2.1),TR ls λm hm=>h m (bD _ hm)];rfl
theorem Acr:o93 []=some ((0,0),[]):=Mz (ws:=[]) (λw h=>by cases h) (by decide)
theorem Acs{ls:List (List Bt)}(h:∀l∈ls,okLine l)(hn:(txtL ls).length<=262144):o42 (txtL ls)=some (recs 1 ls,[]):=by
 have hs:=NE (txtL ls) 10;rw[TR ls h]at hs;have hlen:ls.length<=(txtL ls).length:=by
  clear h hn hs;induction ls with
  |nil=>exact bZ _
  |cons l ls ih=>show ls.length+1<=(jb l++10::txtL ls).length;simp;omega
 have key:Tot (λr=>r=(recs 1 ls,[])) (o42 (txtL ls)):=by
  unfold o42;rw[cndF df];refine tB (P:=λv=>v=ls.map jb++[[]]) ⟨_,hs,rfl⟩ ?_;rintro _ rfl;have hL:(ls.map jb++[[]]).length=ls.length+1:=by simp
  refine tL (λt=>∃i:Nat,t=(((((ls.map jb++[[]]).length:Nat):Int),(i:Int)),recs 1 (ls.take i),[],ls.map jb++[[]])/\i<=ls.length+1) (λt=>ls.length+1-t.1.2.toNat) ?_ ⟨0,rfl,by omega⟩ (by simp only;omega);rintro _ ⟨i,rfl,hi⟩;dsimp only;refine tC (λhlt=>?_) λhlt=>tDn (tS ?_)
  ·have hlt:=dT hlt;refine tG dt ?_;rw[aB];by_cases hi2:i<ls.length
   ·have e1:(ls.map jb++[[]]).getD i []=jb ls[i]:=by rw[aV,bX (by simp;omega),List.getElem?_map,cB hi2];rfl
    have ho:=h _ (aA hi2);rw[e1];refine tB (P:=λv=>v=((0,0),flds 1 ls[i])) ⟨_,Mz ho.2.1 ho.2.2,rfl⟩ ?_;rintro _ rfl;dsimp only;refine tC (λhc=>by cases hc) λ_=>?_;have hp:0<(flds 1 ls[i]).length:=by rw[BB];exact aC.2 ho.1
    refine tC (λ_=>?_) λhc=>by have:=dF hc;omega
    rw[Ac];refine tG (dt (by rw[BW,aL];simp;omega)) (tGo ⟨⟨i+1,?_,by omega⟩,by simp only;omega⟩);rw[aJ hi2,Qm,show(1:Int)+((ls.take i).length:Int)=(i:Int)+1 by rw[aL];omega];rw[show((i+1:Nat):Int)=(i:Int)+1 by omega];rfl
   ·have hi3:i=ls.length:=by omega
    have e1:(ls.map jb++[[]]).getD i []=[]:=by rw[aV,bA (by simp;omega),List.length_map,hi3,bL];rfl
    rw[e1];refine tB (P:=λv=>v=((0,0),([]:List Fd))) ⟨_,Acr,rfl⟩ ?_;rintro _ rfl;dsimp only;refine tC (λhc=>by cases hc) λ_=>?_;refine tC (λhc=>by cases hc) λ_=>?_;rw[Ac];refine tGo ⟨⟨i+1,?_,by omega⟩,by simp only;omega⟩;rw[bM (by omega),bM (by omega),show((i+1:Nat):Int)=(i:Int)+1 by omega]
  ·have hlt:=dF hlt;rw[bM (by omega)]
 obtain⟨r,h1,rfl⟩:=key;exact h1
def okF'(f:Fd):Prop:=f.1≠[]/\f.1.length<=200/\(0<=f.2/\f.2<=300)
def okR'(l:Ln):Prop:=l.2≠[]/\l.2.length<=200/\(0<=l.1/\l.1<=5000)/\∀f∈l.2,okF' f
theorem AkT(s:Bt)(hs:s.length<=3000):Tot (λr=>2*r.1.length<=s.length+1/\∀l∈r.1,okR' l) (o42 s):=by
 have hsp:=Hx 10 s.length s (aQ _);unfold o42;rw[cndF df];refine tB (P:=λv=>v=spl 10 s) ⟨_,NE s 10,rfl⟩ ?_;rintro _ rfl;have hpl:∀i(h:i<(spl 10 s).length),((spl 10 s)[i]).length+(((spl 10 s).take i).map bE).sum+i<=s.length:=by
  intro i h;have e:((spl 10 s).map bE).sum=(((spl 10 s).take i).map bE).sum+(((spl 10 s).drop i).map bE).sum:=by rw[<-bI,<-bJ,cG]
  rw[bB h,List.map_cons,List.sum_cons]at e;omega
 generalize spl 10 s=ps at hsp hpl⊢;refine tL (λt=>∃(i:Nat)(out:List Ln)(bad:List Dg),t=((((ps.length:Nat):Int),(i:Int)),out,bad,ps)/\i<=ps.length/\bad.length<=i/\2*out.length<=((ps.take i).map bE).sum+i/\∀l∈out,okR' l) (λt=>ps.length-t.1.2.toNat) ?_ ⟨0,[],[],rfl,by omega,by simp,by simp,λl hl=>by cases hl⟩ (by simp only;omega);rintro _ ⟨i,out,bad,rfl,hi,hb,ho,hok⟩;dsimp only;refine tC (λhlt=>?_) λhlt=>tDn (tS ⟨?_,hok⟩)
 ·have hlt:=dT hlt;have hi2:i<ps.length:=by omega
  have hpi:=hpl i hi2;have e3:((ps.take (i+1)).map bE).sum=((ps.take i).map bE).sum+ps[i].length:=by rw[aJ hi2,bJ,bI];simp
  refine tG dt ?_;rw[aB,Ad hi2,Ac,show(i:Int)+1=((i+1:Nat):Int) by omega];refine tB (AkS ps[i] (by omega)) λv hv=>?_;refine tC (λhc=>tC (λhc2=>?_) λ_=>?_) λhc=>tC (λhc2=>?_) λ_=>?_
  ·have hc2:=dT hc2;refine tG (dt (by simp;omega)) (tGo ⟨⟨i+1,out,_,rfl,by omega,by simp;omega,by omega,hok⟩,by simp only;omega⟩)
  ·exact tGo ⟨⟨i+1,out,bad,rfl,by omega,by omega,by omega,hok⟩,by simp only;omega⟩
  ·have hc2:=dT hc2;refine tG (dt (by simp;omega)) (tGo ⟨⟨i+1,_,bad,rfl,by omega,by omega,?_,λl hl=>?_⟩,by simp only;omega⟩)
   ·rw[e3,aD];have:=hv.2.1;show 2*(out.length+1)<=_;omega
   ·rcases aP.1 hl with h1|h1
    ·exact hok l h1
    ·rw[aK]at h1;subst h1;have h200:=hv.1 (nF hc);refine⟨λe=>?_,by show v.2.length<=200;have:=hv.2.1;omega,by show 0<=((i+1:Nat):Int)/\((i+1:Nat):Int)<=5000;omega,hv.2.2⟩
     have e:v.2=[]:=e;rw[e]at hc2;simp at hc2
  ·exact tGo ⟨⟨i+1,out,bad,rfl,by omega,by omega,by omega,hok⟩,by simp only;omega⟩
 ·have hlt:=dF hlt;have e:i=ps.length:=by omega
  subst e;rw[aW]at ho;show 2*out.length<=_;omega
abbrev Sc_:=(Int×Int×Int)×Int×Int×Int
variable{s:Sc_}
def sc(n k la:Int):Sc_:=((n,k,la),0,0,0)
def ScG(fs:List Fd)(s t:Sc_):Prop:=(0<=t.1.2.1/\t.1.2.1<=fs.length)/\t.1.1=s.1.1/\(t.2.2.2=0->s.2.2.2=0)
def SI(fs:List Fd)(t:Sc_):Prop:=0<=t.1.2.1/\t.1.2.1<=fs.length
theorem ScG.si{t:Sc_}(h:ScG fs s t):SI fs t:=h.1
theorem ScG.refl(h:SI fs s):ScG fs s s:=⟨h,rfl,id⟩
theorem ScG.trans{fs:List Fd}{s t u:Sc_}(h:ScG fs s t)(g:ScG fs t u):ScG fs s u:=⟨g.1,g.2.1.trans h.2.1,λe=>h.2.2 (g.2.2 e)⟩
theorem FE(h:SI fs s)(c e:Int):Tot (λr=>r.2=fs/\ScG fs s r.1/\(r.1.2.2.2=0->e=0)) (o211 c e s fs):=by
 unfold o211;refine tB (P:=λv=>v.1=(c,e)/\v.2.2=(s,fs)/\(v.2.1=true->s.2.2.2=0/\e≠0)/\(v.2.1=false->s.2.2.2=0->e=0)) ?_ ?_
 ·refine tB (P:=λv=>v=(s.2.2.2 !=0)) ⟨_,rfl,rfl⟩ ?_;rintro _ rfl;refine tC (λhb=>?_) λhb=>?_
  ·exact tS ⟨rfl,rfl,λh2=>⟨nF (notT hb),nT h2⟩,λh2 _=>nF h2⟩
  ·exact tS ⟨rfl,rfl,(λh2=>by cases h2),λ_ h2=>absurd h2 (nT (notF hb))⟩
 ·rintro v ⟨e1,e2,e3,e4⟩;refine tC (λhb=>?_) λhb=>?_
  ·have:=e3 hb;rw[e1,e2];exact tS ⟨rfl,⟨h,rfl,λh2=>absurd h2 this.2⟩,λh2=>absurd h2 this.2⟩
  ·rw[e2];exact tS ⟨rfl,ScG.refl h,λh2=>e4 hb h2⟩
theorem Afh(fs:List Fd)(s:Sc_)(c:Int)(h:s.2.2.2=0):o211 c 0 s fs=some (s,fs):=by unfold o211 o217;rw[bdI];dsimp only;rw[h];rfl
theorem GO(h:SI fs s)(hf:∀f∈fs,okF' f)(hl:fs.length<=200):Tot (λr=>r.2.2=fs/\ScG fs s r.2.1/\r.1.1.length<=200/\(r.2.1.2.2.2=0->r.1.2=true)) (o207 s fs):=by
 unfold o207;refine tB (P:=λv=>v=(s.2.2.2 !=0)) ⟨_,rfl,rfl⟩ ?_;rintro _ rfl;refine tC (λhb=>tS ⟨rfl,ScG.refl h,by simp,λh2=>absurd h2 (nT hb)⟩) λhb=>?_;refine tC (λhe=>?_) λhe=>?_
 ·refine tB (P:=λv=>v.2=(s,fs)) ?_ λv hv=>?_
  ·refine tC (λhp=>?_) λ_=>tS rfl;have hp:=dT hp;rw[Ac];exact tG dt (tS rfl)
  ·rw[hv];refine tB (FE h v.1 4) λr hr=>tS ⟨hr.1,hr.2.1,by simp,λh2=>absurd (hr.2.2 h2) (by decide)⟩
 ·have he:=eF he;refine tG (dt (by have:=h.1;have:=h.2;omega)) ?_;have hi:s.1.2.1.toNat<fs.length:=by have:=h.1;have:=h.2;omega
  have:=hf _ (aA hi);have h1:=h.1;have h2:=h.2;rw[bdI,Ad hi,Ac];exact tS ⟨rfl,⟨⟨by have:=h.1;show 0<=s.1.2.1+1;omega,by show s.1.2.1+1<=_;omega⟩,rfl,id⟩,this.2.1,λ_=>rfl⟩
theorem JA{n:Int}(hk:k<fs.length)(hl:fs.length<=200):o207 (sc n k la) fs=some ((fs[k].1,true),sc n ((k+1:Nat):Int) fs[k].2,fs):=by unfold o207 o217 sc;rw[bdI];refine(cndF rfl).trans ?_;dsimp only;rw[cndF AU,gdT dt,bdI,aB,Ad hk,Ac];rfl
theorem FF(h:SI fs s)(hf:∀f∈fs,okF' f)(hl:fs.length<=200):Tot (λr=>r.2.2=fs/\ScG fs s r.2.1/\r.1.length<=200) (o155 s fs):=by unfold o155;exact tB (GO h hf hl) λv hv=>tS ⟨hv.1,hv.2.1,hv.2.2.1⟩
theorem Acu{n:Int}(hk:k<fs.length)(hl:fs.length<=200):o155 (sc n k la) fs=some (fs[k].1,sc n ((k+1:Nat):Int) fs[k].2,fs):=by unfold o155;rw[bdS (JA hk hl)]
theorem Lv(h:SI fs s)(e:Int):Tot (λr=>r.2=fs/\ScG fs s r.1/\(r.1.2.2.2=0->e=0)) (o158 e s fs):=by unfold o158;exact tB (FE h _ e) λr hr=>tS hr
theorem Afi(fs:List Fd)(s:Sc_)(h:s.2.2.2=0):o158 0 s fs=some (s,fs):=by unfold o158;rw[bdS (Afh fs s _ h)]
theorem Lw(ws:List Bt)(hw:ws.length<=100)(h:SI fs s)(hf:∀f∈fs,okF' f)(hl:fs.length<=200):Tot (λr=>r.2.2=fs/\ScG fs s r.2.1/\(-1<=r.1/\r.1<(ws.length:Int))/\(r.2.1.2.2.2=0->0<=r.1)) (o161 ws s fs):=by
 unfold o161;refine tB (GO h hf hl) λv hv=>?_;obtain⟨⟨t,b⟩,s1,f1⟩:=v;obtain⟨e1,e2,e3,e4⟩:=hv;dsimp only at e1 e2 e3 e4⊢;subst e1;refine tC (λhb=>tS ⟨rfl,e2,(by show(-1:Int)<=-1/\(-1:Int)<_;omega),λh2=>by rw[e4 h2]at hb;cases hb⟩) λhb=>?_;refine tL (λx=>∃i:Nat,x=((t,ws,((ws.length:Nat):Int)),(i:Int),s1,f1)/\i<=ws.length) (λx=>ws.length-x.2.1.toNat) ?_ ⟨0,rfl,by omega⟩ (by simp only;omega);rintro _ ⟨i,rfl,hi⟩;dsimp only;refine tC (λhlt=>?_) λ_=>?_
 ·have hlt:=dT hlt;refine tG dt (tC (λ_=>tDn (tS ⟨rfl,e2,by show-1<=(i:Int)/\(i:Int)<_;omega,λ_=>by show 0<=(i:Int);omega⟩)) λ_=>?_);rw[Ac];exact tGo ⟨⟨i+1,by rw[show(i:Int)+1=((i+1:Nat):Int) by omega],by omega⟩,by simp only;omega⟩
 ·refine tDn (tB (FE e2.si _ 4) λr hr=>tS ⟨hr.1,e2.trans hr.2.1,(by show(-1:Int)<=-1/\(-1:Int)<_;omega),λh2=>absurd (hr.2.2 h2) (by decide)⟩)
theorem Acv{n:Int}(hk:k<fs.length)(hl:fs.length<=200)(hw:ws.length<=100)(hi:i<ws.length)(he:ws[i]=fs[k].1)(hne:∀j(h:j<i),ws[j]≠fs[k].1):o161 ws (sc n k la) fs=some ((i:Int),sc n ((k+1:Nat):Int) fs[k].2,fs):=by
 have key:Tot (λr=>r=((i:Int),sc n ((k+1:Nat):Int) fs[k].2,fs)) (o161 ws (sc n k la) fs):=by
  unfold o161;refine tB (P:=λv=>v=((fs[k].1,true),sc n ((k+1:Nat):Int) fs[k].2,fs)) ⟨_,JA hk hl,rfl⟩ ?_;rintro _ rfl;refine tC (λhb=>by cases hb) λ_=>?_;refine tL (λx=>∃j:Nat,x=((fs[k].1,ws,((ws.length:Nat):Int)),(j:Int),sc n ((k+1:Nat):Int) fs[k].2,fs)/\j<=i) (λx=>ws.length-x.2.1.toNat) ?_ ⟨0,rfl,by omega⟩ (by simp only;omega);rintro _ ⟨j,rfl,hj⟩;dsimp only;refine tC (λhlt=>?_) λhlt=>by have:=dF hlt;omega
  refine tG dt ?_;rw[aB,Ad (show j<ws.length by omega)];refine tC (λhb=>?_) λhb=>?_
  ·have hb:=sT hb;have:j=i:=by
    by_cases e:j=i
    ·exact e
    ·exact absurd hb (hne j (by omega))
   subst this;exact tDn (tS rfl)
  ·have hb:=sF hb;have:j≠i:=λe=>hb (by subst e;exact he);rw[Ac];exact tGo ⟨⟨j+1,by rw[show(j:Int)+1=((j+1:Nat):Int) by omega],by omega⟩,by simp only;omega⟩
 obtain⟨r,h1,rfl⟩:=key;exact h1
theorem Afj{s:Bt}(m:Int)(h:s.length<=200):Tot (λr=>r.1.length<=200) (o209 s m):=by unfold o209;exact tB (Ej s m) λr _=>tC (λ_=>tS) λ_=>tS h
theorem Acw{s:Bt}(h:o130 s m=some true):o209 s m=some (s,0):=by unfold o209;rw[bdS h];rfl
theorem IJ(m:Int)(h:SI fs s)(hf:∀f∈fs,okF' f)(hl:fs.length<=200):Tot (λr=>r.2.2=fs/\ScG fs s r.2.1/\r.1.length<=200) (o156 m s fs):=by
 unfold o156;have:Tot (λr=>r.2.1=fs/\ScG fs s r.1.2/\r.1.1.length<=200) (o208 s fs m):=by unfold o208;refine tB (GO h hf hl) λv hv=>?_;obtain⟨⟨t,b⟩,s1,f1⟩:=v;obtain⟨e1,e2,e3,e4⟩:=hv;dsimp only at e1 e2 e3 e4⊢;subst e1;refine tC (λhb=>tS ⟨rfl,e2,by simp⟩) λhb=>?_;refine tB (Afj m e3) λv2 hv2=>?_;refine tC (λ_=>?_) λ_=>tS ⟨rfl,e2,hv2⟩;exact tB (FE e2.si _ _) λr hr=>tS ⟨hr.1,e2.trans hr.2.1,by simp⟩
 exact tB this λr hr=>tS ⟨hr.1,hr.2.1,hr.2.2⟩
theorem Acx{n:Int}(hk:k<fs.length)(hl:fs.length<=200)(h:o130 fs[k].1 m=some true):o156 m (sc n k la) fs=some (fs[k].1,sc n ((k+1:Nat):Int) fs[k].2,fs):=by unfold o156 o208;refine bdS (t:=((fs[k].1,sc n ((k+1:Nat):Int) fs[k].2),fs,m)) ?_;refine(bdS (JA hk hl)).trans ?_;refine(cndF rfl).trans ?_;refine(bdS (Acw h)).trans ?_;exact cndF rfl
theorem IK(h:SI fs s):Tot (λr=>r.2.2=false->s.2.2.2=0) (o164 ((s.1.1,fs,s.1.2.1),(s.1.2.2,s.2.1),s.2.2)):=by unfold o164;refine tB (P:=λv=>v=(s.2.2.2 !=0)) ⟨_,rfl,rfl⟩ ?_;rintro _ rfl;refine tC (λhb=>tS λh2=>by cases h2) λhb=>?_;refine tC (λhp=>?_) λ_=>tS λ_=>nF hb;exact tG (dt ⟨h.1,dT hp⟩) (tS λh2=>by cases h2)
theorem Acy{n:Int}(hk:k=fs.length):o164 ((n,fs,(k:Int)),(la,(0:Int)),(0:Int),(0:Int))=some ((0,0),0,false):=by unfold o164 o217;rw[bdI];refine(cndF rfl).trans ?_;exact cndF (df (by show¬(k:Int)<(fs.length:Int);omega))
theorem ZL(s:Bt)(h:s.length<=100000):Tot (λ_=>True) (o210 s):=by
 unfold o210;refine tL (λt=>∃(n:Int)(i:Nat),t=((s,n),((s.length:Nat):Int),(i:Int))/\i<=s.length) (λt=>s.length-t.2.2.toNat) ?_ ⟨0,0,rfl,by omega⟩ (by simp only;omega);rintro _ ⟨n,i,rfl,hi⟩;dsimp only;refine tC (λhlt=>?_) λ_=>tDn (tS trivial);have hlt:=dT hlt;refine tB (P:=λv=>v.1=(s,n,(i:Int))/\v.2.1=((s.length:Nat):Int)/\v.2.2.1=(i:Int)) ?_ λv hv=>?_
 ·exact tG dt (tC (λ_=>tS ⟨rfl,rfl,rfl⟩) λ_=>tG dt (tS ⟨rfl,rfl,rfl⟩))
 ·obtain⟨e1,e2,e3⟩:=hv;refine tC (λ_=>tDn (tS trivial)) λ_=>?_;rw[e1,e2,e3,Ac (x:=(i:Int)+1)];exact tG (dt (by dsimp only;omega)) (tGo ⟨⟨_,i+1,by rw[show(i:Int)+1=((i+1:Nat):Int) by omega],by omega⟩,by simp only;omega⟩)
theorem Lx(s:Bt)(h:s.length<=100000):Tot (λ_=>True) (o316 s):=ZL s h
theorem ZM{s:Bt}(h:∀b∈s,isD b)(hl:s.length<=18):o210 s=some (((val s:Nat):Int),true):=by
 unfold o210;have hv:∀i,i<=s.length->val (s.take i)<10^18:=λi hi=>by have h1:=Nf (s.take i) λb hb=>h b (bF hb);have h2:10^(s.take i).length<=10^18:=cM (by decide) (by rw[aL];omega);omega
 have h18:(10:Nat)^18=1000000000000000000:=by decide
 refine AN (n:=s.length) (λi=>((s,((val (s.take i):Nat):Int)),((s.length:Nat):Int),(i:Int))) (by simp[Br,Bz]) (λi hi=>?_) ?_
 ·have hd:=h _ (aA hi);have h1:=hv i (by omega);have h2:=hv (i+1) (by omega);have e:val (s.take (i+1))=10*val (s.take i)+(s[i].toNat-48):=by rw[aJ hi,Br,Hv,BA,Bz,<-Br]
  have hd1:=hd.1;have hd2:=hd.2;dsimp only;rw[cndT dt,gdT dt,aB,Ad hi,cndF df,gdT dt,df (show¬((s[i].toNat:Nat):Int)>57 by omega),bdI];dsimp only;rw[cndF rfl,gdT dt];simp only[aB];rw[Ad hi];have w1:aF .u8 (((s[i].toNat:Nat):Int)-48)=((s[i].toNat-48:Nat):Int):=by rw[bR];omega
  rw[w1,Ac (x:=((s[i].toNat-48:Nat):Int)),Ac (x:=10*((val (s.take i):Nat):Int)),Ac,Ac,e];congr 3
 ·dsimp only;rw[cndF df,aW];rfl
theorem HP{s:Bt}(h:∀b∈s,isD b)(hl:s.length<=18):o316 s=some (((val s:Nat):Int),true):=ZM h hl
theorem Afk(s:Bt)(h:s.length<=100000):Tot (λ_=>True) (o157 s):=by unfold o157;refine tB (ZL s h) λv _=>?_;refine tB (P:=λ_=>True) (tC (λ_=>tS trivial) λ_=>tS trivial) λv2 _=>tC (λ_=>tS trivial) λ_=>?_;exact tB (tT (Lu v2.1)) λv3 _=>tC (λ_=>tS trivial) λ_=>tS trivial
theorem ZN(s:Bt)(h:s.length<=100000)(k:Nat)(hk:k<=100):Tot (λ_=>True) (o296 s (k:Int)):=by unfold o296;rw[Ac (x:=(k:Int)+6)];refine tC (λ_=>tS trivial) λhl=>?_;have hl:=nF hl;rw[Ac (x:=(k:Int)+2),Ac (x:=(k:Int)+4)];refine tB (Lx s h) λv1 _=>tC (λ_=>tS trivial) λ_=>tG dt ?_;refine tB (Lx _ (by rw[aL];omega)) λv2 _=>tG dt ?_;refine tB (Lx _ (by rw[aL,aN];omega)) λv3 _=>tG dt ?_;refine tB (Lx _ (by rw[aL,aN];omega)) λv4 _=>tG dt ?_;refine tB (Lx _ (by rw[aN];omega)) λv5 _=>?_;refine tB (P:=λ_=>True) (tC (λ_=>tS trivial) λ_=>tS trivial) λv6 _=>tC (λ_=>tS trivial) λ_=>tS trivial
theorem ZO(s:Bt)(h:s.length<=100000)(a b:Int)(k:Nat)(hk:k<=100:=by decide):Tot (λ_=>True) (o290 s a b (k:Int)):=by
 unfold o290;refine tB (P:=λv=>v.1.1=s/\v.2.1=(k:Int)/\(v.2.2=false->0<s.length)) ?_ λv hv=>?_
 ·rw[Ac (x:=(k:Int)+7)];refine tC (λ_=>tS ⟨rfl,rfl,λh=>by cases h⟩) λhl=>?_;have hl:=nF hl;refine tG dt (tC (λ_=>tG dt (tS ⟨rfl,rfl,λ_=>by omega⟩)) λ_=>tS ⟨rfl,rfl,λ_=>by omega⟩)
 ·obtain⟨e1,e2,e3⟩:=hv;refine tC (λ_=>tS trivial) λhb=>?_;have hl:=e3 hb;rw[e1,e2];refine tG dt (tB (ZN _ (by rw[aN];omega) k hk) λv2 _=>?_);refine tB (P:=λv=>v.1.1=s) ?_ λv3 hv3=>?_
  ·exact tC (λ_=>tS e1) λ_=>tG dt (tC (λ_=>tS e1) λ_=>tS e1)
  ·rw[hv3];exact tC (λ_=>tS trivial) λ_=>tG dt (tC (λ_=>tS trivial) λ_=>tS trivial)
theorem RX(a:Int):Tot (λr=>r=true↔(-32400000<=a/\a<=32400000)) (o178 a):=by
 unfold o178;refine tB (P:=λr=>r=true↔(-32400000<=a/\a<=32400000)) (tC (λh=>tS ?_) λh=>tS ?_) λr hr=>tS hr
 ·have:=dT h;rw[decide_eq_true_iff];omega
 ·have:=dF h;exact⟨(λh=>by cases h),λh=>by omega⟩
theorem RY(a:Int):Tot (λr=>r=true↔(-64800000<a/\a<=64800000)) (o180 a):=by
 unfold o180;refine tB (P:=λr=>r=true↔(-64800000<a/\a<=64800000)) (tC (λh=>tS ?_) λh=>tS ?_) λr hr=>tS hr
 ·have:=dT h;rw[decide_eq_true_iff];omega
 ·have:=dF h;exact⟨(λh=>by cases h),λh=>by omega⟩
theorem Afl(s:Bt)(h:s.length<=100000):Tot (λr=>r.2=0->-32400000<=r.1/\r.1<=32400000) (o254 s):=by unfold o254;refine tB (ZO s h 78 83 2) λv _=>tC (λ_=>tS λh=>by cases h) λ_=>?_;exact tB (RX v.1) λr hr=>tC (λ_=>tS λh=>by cases h) λhb=>tS λ_=>hr.1 (notF hb)
theorem Afm(s:Bt)(h:s.length<=100000):Tot (λr=>r.2=0->-64800000<r.1/\r.1<=64800000) (o255 s):=by unfold o255;refine tB (ZO s h 69 87 3) λv _=>tC (λ_=>tS λh=>by cases h) λ_=>?_;exact tB (RY v.1) λr hr=>tC (λ_=>tS λh=>by cases h) λhb=>tS λ_=>hr.1 (notF hb)
def posR(a b:Int):Prop:=(-32400000<=a/\a<=32400000)/\(-64800000<b/\b<=64800000)
theorem Afn(s:Bt)(h:s.length<=100000):Tot (λr=>r.2.2=0->posR r.1 r.2.1) (o213 s):=by unfold o213;refine tC (λ_=>tS λh=>by cases h) λhl=>?_;have hl:=nF hl;refine tG dt (tB (Afl _ (by rw[aL];omega)) λv hv=>?_);refine tC (λhb=>tS λh2=>absurd h2 (nT hb)) λhb=>tG dt (tB (Afm _ (by rw[aN];omega)) λv2 hv2=>?_);exact tC (λhb=>tS λh2=>absurd h2 (nT hb)) λhb2=>tS λ_=>⟨hv (nF hb),hv2 (nF hb2)⟩
theorem NF(s:Bt)(h:s.length<=100000:=by omega):Tot (λr=>r=true->s≠[]/\∀b∈s,isD b) (o258 s):=by
 unfold o258;refine tB (P:=λv=>v.1=s/\(v.2=false->s≠[])) ?_ λv hv=>?_
 ·refine tC (λ_=>tS ⟨rfl,λh=>by cases h⟩) λh0=>?_;have h0:=eF h0;have hne:s≠[]:=λe=>by rw[e]at h0;exact h0 rfl
  exact tC (λh1=>tG dt (tS ⟨rfl,λ_=>hne⟩)) λ_=>tS ⟨rfl,λ_=>hne⟩
 ·obtain⟨e1,e2⟩:=hv;refine tC (λ_=>tS λh=>by cases h) λhb=>?_;rw[e1];refine tL (λt=>∃i:Nat,t=(s,((s.length:Nat):Int),(i:Int))/\i<=s.length/\∀j(hj:j<s.length),j<i->isD s[j]) (λt=>s.length-t.2.2.toNat) ?_ ⟨0,rfl,by omega,λj _ h=>by omega⟩ (by simp only;omega);rintro _ ⟨i,rfl,hi,hd⟩;dsimp only;refine tC (λhlt=>?_) λhlt=>tDn (tS λ_=>⟨e2 hb,λb hm=>?_⟩)
  ·have hlt:=dT hlt;have hi2:i<s.length:=by omega
   refine tB (P:=λv=>v.1=(s,((s.length:Nat):Int))/\v.2.1=(i:Int)/\(v.2.2=false->isD s[i])) ?_ λv hv=>?_
   ·refine tG dt ?_;rw[aB,Ad hi2];refine tC (λ_=>tS ⟨rfl,rfl,λh=>by cases h⟩) λh1=>tG dt (tS ⟨rfl,rfl,λh2=>?_⟩);have h1:=dF h1;have h2:=dF h2;exact⟨by omega,by omega⟩
   ·obtain⟨a1,a2,a3⟩:=hv;refine tC (λ_=>tDn (tS λh=>by cases h)) λhb2=>?_;rw[a1,a2,Ac];refine tGo ⟨⟨i+1,by rw[show(i:Int)+1=((i+1:Nat):Int) by omega],by omega,λj hj hji=>?_⟩,by simp only;omega⟩;by_cases e:j=i
    ·subst e;exact a3 hb2
    ·exact hd j hj (by omega)
  ·have hlt:=dF hlt;obtain⟨j,hj,rfl⟩:=aX hm;exact hd j hj (by omega)
theorem ZP(s p:Bt)(h:s.length<=100000)(hp:p.length<=100000):Tot (λr=>r=true->p.length<=s.length) (o295 s p):=by unfold o295;refine tB (P:=λr=>r=true->p.length<=s.length) ?_ λr hr=>tS hr;exact tC (λh=>tG (dt (by have:=dT h;omega)) (tS λ_=>by have:=dT h;omega)) λ_=>tS λh=>by cases h
theorem Afo(s p:Bt)(h:s.length<=100000)(hp:p.length<=100000):Tot (λr=>r.1.length<=s.length) (o291 s p):=by
 unfold o291;have:Tot (λr=>r.1.length<=s.length) (o310 s p):=by unfold o310;refine tB (ZP s p h hp) λr hr=>tC (λ_=>tS (aQ _)) λhb=>?_;have:=hr (notF hb);exact tG dt (tS (by rw[aN];omega))
 exact tB this λr hr=>tS hr
theorem IL(s:Bt)(h:s.length<=100000:=by omega):Tot (λ_=>True) (o256 s):=by
 unfold o256;refine tB (Afo s _ h (by decide)) λv1 hv1=>?_;refine tB (Ls v1.1 46) λv2 hv2=>?_;refine tB (NF v2.1 (by have:=hv2.1;omega)) λv3 hv3=>tC (λ_=>tS trivial) λhb=>?_;have hd:=hv3 (notF hb);have hl2:=hv2.2.1;refine tJ (P:=λv=>v.2.1=v2.1) ?_ λv5 hv5=>?_
 ·refine tC (λ_=>?_) λ_=>tGo rfl;refine tB (P:=λv=>v.1.2=v2.1/\v.2.1=v2.2.1/\(v.2.2=false->v2.2.1.length=2)) ?_ λv hv=>?_
  ·refine tC (λ_=>tS ⟨rfl,rfl,λh=>by cases h⟩) λhl=>?_;have hl:=nF hl;refine tG dt (tC (λ_=>tS ⟨rfl,rfl,λh=>by cases h⟩) λ_=>tG dt (tC (λ_=>tS ⟨rfl,rfl,λh=>by cases h⟩) λ_=>tG dt (tC (λ_=>tS ⟨rfl,rfl,λh=>by cases h⟩) λ_=>tG dt (tC (λ_=>tS ⟨rfl,rfl,λh=>by cases h⟩) λ_=>tS ⟨rfl,rfl,λ_=>by omega⟩))))
  ·obtain⟨e1,e2,e3⟩:=hv;refine tC (λ_=>tDn (tS trivial)) λhb=>?_;have:=e3 hb;rw[e2];exact tG dt (tG dt (tGo e1))
 ·refine tB (P:=λ_=>True) ?_ λv7 _=>tC (λ_=>tS trivial) λ_=>tS trivial;rw[hv5];refine tC (λhl=>?_) λ_=>tS trivial;have hl:=dT hl;exact tB ⟨_,Js hd.2 hd.1,trivial⟩ λ_ (_:True)=>tS trivial
theorem IM(a:Int):Tot (λr=>r=true↔(-200000<=a/\a<=6000000)) (o257 a):=by
 unfold o257;refine tB (P:=λr=>r=true↔(-200000<=a/\a<=6000000)) (tC (λh=>tS ?_) λh=>tS ?_) λr hr=>tS hr
 ·have:=dT h;rw[decide_eq_true_iff];omega
 ·have:=dF h;exact⟨(λh=>by cases h),λh=>by omega⟩
theorem Afp(s:Bt)(h:s.length<=100000):Tot (λr=>r.2=0->-200000<=r.1/\r.1<=6000000) (o215 s):=by unfold o215;refine tB (IL s h) λv _=>tC (λ_=>tS λh=>by cases h) λ_=>?_;exact tB (IM v.1) λr hr=>tC (λ_=>tS λh=>by cases h) λhb=>tS λ_=>hr.1 (notF hb)
theorem ZQ(s:Bt)(h:s.length<=100000):Tot (λr=>r.2=0->0<=r.1/\r.1<=8000000) (o216 s):=by
 unfold o216;refine tB (Ls s 43) λv1 hv1=>?_;have l1:=hv1.1;have l2:=hv1.2.1;refine tB (P:=λv=>v.1=(v1.1,v1.2.1)/\v.2.1=v1.2.2/\(v.2.2=false->(v1.1≠[]/\∀b∈v1.1,isD b)/\(v1.2.2=true->(v1.2.1≠[]/\∀b∈v1.2.1,isD b)/\v1.2.1.length<=4))) ?_ λv hv=>?_
 ·refine tB (NF v1.1) λr hr=>tC (λ_=>tS ⟨rfl,rfl,λh=>by cases h⟩) λhb=>?_;have hr:=hr (notF hb);refine tC (λht=>?_) λht=>tS ⟨rfl,rfl,λ_=>⟨hr,λh=>by rw[ht]at h;cases h⟩⟩;refine tB (NF v1.2.1) λr2 hr2=>tC (λ_=>tS ⟨rfl,rfl,λh=>by cases h⟩) λhb2=>?_;have hr2:=hr2 (notF hb2);exact tC (λ_=>tS ⟨rfl,rfl,λh=>by cases h⟩) λ_=>tS ⟨rfl,rfl,λh=>⟨hr,λ_=>⟨hr2,by have:=dF h;omega⟩⟩⟩
 ·obtain⟨e1,e2,e3⟩:=hv;refine tC (λ_=>tS λh=>by cases h) λhb=>?_;obtain⟨d1,d2⟩:=e3 hb;rw[e1,e2];refine tJ (P:=λv=>v.1=v1.1/\0<=v.2/\v.2<6000) ?_ λv6 hv6=>?_
  ·refine tC (λht=>?_) λ_=>tGo ⟨rfl,(show(0:Int)<=0 by decide),(show(0:Int)<6000 by decide)⟩;obtain⟨d3,d4⟩:=d2 ht;refine tB (P:=λx=>0<=x) ⟨_,Js d3.2 d3.1 (cS d4 (by decide)),by omega⟩ λx hx=>?_;exact tC (λ_=>tDn (tS λh=>by cases h)) λhh=>tGo ⟨rfl,hx,by have:=dF hh;show x<6000;omega⟩
  ·obtain⟨a1,a2,a3⟩:=hv6;rw[a1];refine tC (λ_=>tS λh=>by cases h) λhl=>?_;have hl:=dF hl;have hv:=Nf v1.1 d1.2;have hp:10^v1.1.length<=10^9:=cM (by decide) (by omega);have h9:(10:Nat)^9=1000000000:=by decide
   refine tB (P:=λx=>0<=x/\x<1000000000) ⟨_,Js d1.2 d1.1,by omega⟩ λx hx=>?_;rw[Ac (x:=x*6000),Ac];exact tC (λ_=>tS λh=>by cases h) λhh=>tS λ_=>by have:=dF hh;show 0<=x*6000+v6.2/\x*6000+v6.2<=8000000;omega
theorem NG:∀f n,(digF f n).length<=f
 |0,n=>aQ _
 |f+1,n=>by
  unfold digF;have:=NG f (n/10);cases Nat.blt n 10 with
  |true=>simp
  |false=>rw[cond_false,aD];simp;exact this
theorem FG(n:Int):(itoaF n).length<=21:=by
 unfold itoaF;cases decide (n<0)with
 |true=>rw[cond_true,aE];have:=NG 20 n.natAbs;omega
 |false=>rw[cond_false];have:=NG 20 n.toNat;omega
theorem Gk(n:Int):o181 n 10=some (itoaF n):=rfl
theorem ZR(a:Int):Tot (λr=>r.1.length<=66) (o121 a):=by unfold o121;refine tB (P:=λ_=>True) (tC (λ_=>tS trivial) λ_=>tS trivial) λv1 _=>tC (λ_=>tS) λ_=>?_;refine tB (P:=λv=>v.2.length<=1) (tC (λ_=>tS) λ_=>tS) λv2 h2=>?_;refine tB (P:=λv=>v.length<=21) ⟨_,Gk _,FG _⟩ λv3 h3=>tG dt ?_;refine tC (λ_=>?_) λ_=>tS (by rw[aD];omega);refine tB (P:=λv=>v.length<=21) ⟨_,Gk _,FG _⟩ λv4 h4=>tG (dt (by simp;omega)) ?_;refine tB (P:=λv=>v.length<=21) ⟨_,Gk _,FG _⟩ λv5 h5=>tG (dt (by simp;omega)) (tG (dt (by simp;omega)) (tS (by simp;omega)))
theorem Afq(a:Int×Int):Tot (λ_=>True) (o124 a):=by
 unfold o124;refine tB (P:=λ_=>True) ?_ λv1 _=>tC (λ_=>tS trivial) λ_=>?_
 ·exact tC (λ_=>tS trivial) λ_=>tC (λ_=>tS trivial) λ_=>tS trivial
 ·refine tB (ZR _) λv2 h2=>tB (ZR _) λv3 h3=>?_;refine tB (P:=λv=>v.1=(v2.1,v3.1)) (tC (λ_=>tS rfl) λ_=>tS rfl) λv4 h4=>?_;rw[h4];refine tC (λ_=>tS trivial) λ_=>tC (λ_=>tS trivial) λ_=>tC (λ_=>tG (dt (by simp;omega)) (tS trivial)) λ_=>tC (λ_=>tG (dt (by simp;omega)) (tS trivial)) λ_=>tG (dt (by simp;omega)) (tG (dt (by simp;omega)) (tS trivial))
theorem ZS(s p:Bt)(h:s.length<=100000)(hp:p.length<=100000:=by decide):Tot (λr=>r.1.length<=s.length) (o317 s p):=by
 unfold o317;have:Tot (λr=>r.1.length<=s.length) (o327 s p):=by
  unfold o327;have h1:Tot (λr=>r=true->p.length<=s.length) (o331 s p):=by
   unfold o331;refine tB (P:=λr=>r=true->p.length<=s.length) ?_ λr hr=>tS hr;refine tC (λh=>?_) λ_=>tS λh=>by cases h
   have h:=dT h;rw[Ac];exact tG dt (tS λ_=>by omega)
  refine tB h1 λr hr=>tC (λ_=>tS (aQ _)) λhb=>?_;have:=hr (notF hb);rw[Ac];exact tG dt (tS (by rw[aL];omega))
 exact tB this λr hr=>tS hr
theorem Afr(s:Bt)(h:s.length<=100000):Tot (λ_=>True) (o297 s):=by
 unfold o297;refine tC (λ_=>tS trivial) λ_=>tB (Ls s 58) λv1 hv1=>?_;have l1:=hv1.1;have l2:=hv1.2.1;refine tC (λ_=>?_) λ_=>?_
 ·refine tB (IL _) λv2 _=>tB (IL _) λv3 _=>?_;exact tB (P:=λ_=>True) (tC (λ_=>tS trivial) λ_=>tS trivial) λ_ _=>tS trivial
 ·refine tB (ZS s _ h) λv5 h5=>tC (λ_=>?_) λ_=>?_
  ·exact tB (IL _) λ_ _=>tS trivial
  ·refine tB (ZS s _ h) λv7 h7=>tC (λ_=>?_) λ_=>?_
   ·exact tB (IL _) λ_ _=>tS trivial
   ·exact tB (IL _) λ_ _=>tS trivial
def winR(a b:Int):Prop:=-200000<=a/\a<=b/\b<=6000000
theorem ZT(s:Bt)(h:s.length<=100000:=by omega):Tot (λr=>r.2.2=0->winR r.1 r.2.1) (o267 s):=by
 unfold o267;refine tB (Afr s h) λv1 _=>tC (λ_=>tS λh=>by cases h) λ_=>?_;refine tB (P:=λv=>v.2.2=(v1.1,v1.2.1)/\(v.2.1=false->(-200000<=v1.1/\v1.1<=6000000)/\(-200000<=v1.2.1/\v1.2.1<=6000000))) ?_ λv hv=>?_
 ·refine tB (IM _) λr hr=>tC (λ_=>tS ⟨rfl,λh=>by cases h⟩) λhb=>?_;exact tB (IM _) λr2 hr2=>tS ⟨rfl,λh2=>⟨hr.1 (notF hb),hr2.1 (notF h2)⟩⟩
 ·obtain⟨e1,e2⟩:=hv;refine tC (λ_=>tS λh=>by cases h) λhb=>?_;have h2:=e2 hb;rw[e1];refine tC (λ_=>tS λh=>by cases h) λhb2=>tB (Afq _) λv5 _=>tC (λ_=>tS λh=>by cases h) λ_=>tS λ_=>?_;have hb2:=dF hb2;exact⟨h2.1.1,by show v1.1<=v1.2.1;omega,h2.2.2⟩
section
theorem ZU(h:SI fs s)(hf:∀f∈fs,okF' f)(hl:fs.length<=200):Tot (λr=>r.2.2=fs/\ScG fs s r.2.1/\(r.2.1.2.2.2=0->posR r.1.1 r.1.2)) (o159 s fs):=by
 unfold o159;have:Tot (λr=>r.2.2=fs/\ScG fs s r.2.1/\(r.2.1.2.2.2=0->posR r.1.1 r.1.2)) (o212 s fs):=by unfold o212;refine tB (GO h hf hl) λv hv=>?_;obtain⟨⟨t,b⟩,s1,f1⟩:=v;obtain⟨e1,e2,e3,e4⟩:=hv;dsimp only at e1 e2 e3 e4⊢;subst e1;refine tC (λhb=>tS ⟨rfl,e2,λh2=>by rw[e4 h2]at hb;cases hb⟩) λhb=>?_;refine tB (Afn t (by omega)) λv2 hv2=>?_;refine tC (λhc=>?_) λhc=>tS ⟨rfl,e2,λ_=>hv2 (nF hc)⟩;exact tB (FE e2.si _ _) λr hr=>tS ⟨hr.1,e2.trans hr.2.1,λh2=>absurd (hr.2.2 h2) (nT hc)⟩
 exact tB this λr hr=>tS hr
theorem Afs(h:SI fs s)(hf:∀f∈fs,okF' f)(hl:fs.length<=200):Tot (λr=>r.2.2=fs/\ScG fs s r.2.1/\(r.2.1.2.2.2=0->winR r.1.1 r.1.2)) (o260 s fs):=by
 unfold o260;have:Tot (λr=>r.2.2=fs/\ScG fs s r.2.1/\(r.2.1.2.2.2=0->winR r.1.1 r.1.2)) (o294 s fs):=by unfold o294;refine tB (GO h hf hl) λv hv=>?_;obtain⟨⟨t,b⟩,s1,f1⟩:=v;obtain⟨e1,e2,e3,e4⟩:=hv;dsimp only at e1 e2 e3 e4⊢;subst e1;refine tC (λhb=>tS ⟨rfl,e2,λh2=>by rw[e4 h2]at hb;cases hb⟩) λhb=>?_;refine tB (ZT t) λv2 hv2=>?_;refine tC (λhc=>?_) λhc=>tS ⟨rfl,e2,λ_=>hv2 (nF hc)⟩;exact tB (FE e2.si _ _) λr hr=>tS ⟨hr.1,e2.trans hr.2.1,λh2=>absurd (hr.2.2 h2) (nT hc)⟩
 exact tB this λr hr=>tS hr
theorem Aft(h:SI fs s)(hf:∀f∈fs,okF' f)(hl:fs.length<=200):Tot (λr=>r.2.2=fs/\ScG fs s r.2.1/\(r.2.1.2.2.2=0->-200000<=r.1/\r.1<=6000000)) (o162 s fs):=by
 unfold o162;have:Tot (λr=>r.2.2=fs/\ScG fs s r.2.1/\(r.2.1.2.2.2=0->-200000<=r.1/\r.1<=6000000)) (o214 s fs):=by unfold o214;refine tB (GO h hf hl) λv hv=>?_;obtain⟨⟨t,b⟩,s1,f1⟩:=v;obtain⟨e1,e2,e3,e4⟩:=hv;dsimp only at e1 e2 e3 e4⊢;subst e1;refine tC (λhb=>tS ⟨rfl,e2,λh2=>by rw[e4 h2]at hb;cases hb⟩) λhb=>?_;refine tB (Afp t (by omega)) λv2 hv2=>?_;refine tC (λhc=>?_) λhc=>tS ⟨rfl,e2,λ_=>hv2 (nF hc)⟩;exact tB (FE e2.si _ _) λr hr=>tS ⟨hr.1,e2.trans hr.2.1,λh2=>absurd (hr.2.2 h2) (nT hc)⟩
 exact tB this λr hr=>tS hr
theorem Afu(h:SI fs s)(hf:∀f∈fs,okF' f)(hl:fs.length<=200):Tot (λr=>r.2.2=fs/\ScG fs s r.2.1/\(r.2.1.2.2.2=0->0<=r.1/\r.1<=8000000)) (o163 s fs):=by
 unfold o163;have:Tot (λr=>r.2.2=fs/\ScG fs s r.2.1/\(r.2.1.2.2.2=0->0<=r.1/\r.1<=8000000)) (KT s fs):=by unfold KT;refine tB (GO h hf hl) λv hv=>?_;obtain⟨⟨t,b⟩,s1,f1⟩:=v;obtain⟨e1,e2,e3,e4⟩:=hv;dsimp only at e1 e2 e3 e4⊢;subst e1;refine tC (λhb=>tS ⟨rfl,e2,λh2=>by rw[e4 h2]at hb;cases hb⟩) λhb=>?_;refine tB (ZQ t (by omega)) λv2 hv2=>?_;refine tC (λhc=>?_) λhc=>tS ⟨rfl,e2,λ_=>hv2 (nF hc)⟩;exact tB (FE e2.si _ _) λr hr=>tS ⟨hr.1,e2.trans hr.2.1,λh2=>absurd (hr.2.2 h2) (nT hc)⟩
 exact tB this λr hr=>tS hr
end
theorem CF(h:Tot Q x)(e:x=some r):Q r:=by obtain⟨r',e',q⟩:=h;rw[e]at e';injection e' with e';subst e';exact q
theorem BN(h:Tot (λv=>v=r) x):x=some r:=by obtain⟨r',e',rfl⟩:=h;exact e'
def aln(b:UInt8):Prop:=(48<=b.toNat/\b.toNat<=57)\/(65<=b.toNat/\b.toNat<=90)
def Nm(s:Bt):Prop:=s≠[]/\∀b∈s,aln b
theorem Nm.wd{s:Bt}(h:Nm s):Wd s:=⟨h.1,λb hb=>by rcases h.2 b hb with h|h<;>omega⟩
theorem Qn {s:Bt} (hi:i < s.length) (f:Bool->α) :
  Tot (λv:α=>v=f true\/(v=f false/\aln s[i])) (gd (decide ((0:Int)<=(i:Int)/\(i:Int)<((s.length:Nat):Int))) (cnd (decide ((((aR s (i:Int).toNat 0).toNat:Nat):Int)<(65:Int))) (gd (decide ((0:Int)<=(i:Int)/\(i:Int)<((s.length:Nat):Int))) (cnd (decide ((((aR s (i:Int).toNat 0).toNat:Nat):Int)<(48:Int))) (some (f true)) (gd (decide ((0:Int)<=(i:Int)/\(i:Int)<((s.length:Nat):Int))) (some (f (decide ((((aR s (i:Int).toNat 0).toNat:Nat):Int)>(57:Int)))))))) (gd (decide ((0:Int)<=(i:Int)/\(i:Int)<((s.length:Nat):Int))) (cnd (decide ((((aR s (i:Int).toNat 0).toNat:Nat):Int)>(90:Int))) (gd (decide ((0:Int)<=(i:Int)/\(i:Int)<((s.length:Nat):Int))) (cnd (decide ((((aR s (i:Int).toNat 0).toNat:Nat):Int)<(48:Int))) (some (f true)) (gd (decide ((0:Int)<=(i:Int)/\(i:Int)<((s.length:Nat):Int))) (some (f (decide ((((aR s (i:Int).toNat 0).toNat:Nat):Int)>(57:Int)))))))) (some (f false)))))):=by
 rw[aB,Ad hi];have g:∀{x:Option α},Tot (λv:α=>v=f true\/(v=f false/\aln s[i])) x->Tot (λv:α=>v=f true\/(v=f false/\aln s[i])) (gd (decide ((0:Int)<=(i:Int)/\(i:Int)<((s.length:Nat):Int))) x):=λh=>tG dt h;refine g (tC (λh1=>g (tC (λ_=>tS (.inl rfl)) λh2=>g (tS ?_))) λh1=>g (tC (λh2=>g (tC (λ_=>tS (.inl rfl)) λh3=>g (tS ?_))) λh2=>tS (.inr ⟨rfl,?_⟩)))
 ·have h1:=dT h1;have h2:=dF h2;by_cases h3:((s[i].toNat:Nat):Int)>57
  ·rw[dt h3];exact .inl rfl
  ·rw[df h3];exact .inr ⟨rfl,.inl ⟨by omega,by omega⟩⟩
 ·have h2:=dT h2;rw[dt (show((s[i].toNat:Nat):Int)>57 by omega)];exact .inl rfl
 ·have h1:=dF h1;have h2:=dF h2;exact .inr ⟨by omega,by omega⟩
theorem Ek(s:Bt)(m:Int)(hs:s.length<=140737488355328:=by omega):Tot (λr=>r=true->Nm s/\(s.length:Int)<=m) (o130 s m):=by
 unfold o130;refine tB (P:=λv=>v.1=s/\(v.2=false->s≠[]/\(s.length:Int)<=m)) ?_ λv hv=>?_
 ·refine tC (λ_=>tS ⟨rfl,λh=>by cases h⟩) λh0=>?_;have h0:=eF h0;refine tC (λ_=>tS ⟨rfl,λh=>by cases h⟩) λh1=>?_;have h1:=dF h1;have hne:s≠[]:=λe=>by rw[e]at h0;exact h0 rfl
  exact tG dt (tC (λ_=>tS ⟨rfl,λh=>by cases h⟩) λ_=>tG dt (tS ⟨rfl,λ_=>⟨hne,by omega⟩⟩))
 ·obtain⟨e1,e2⟩:=hv;refine tC (λ_=>tS λh=>by cases h) λhb=>?_;have e2:=e2 hb;rw[e1];refine tL (λt=>∃i:Nat,t=(s,((s.length:Nat):Int),(i:Int))/\i<=s.length/\∀j(hj:j<s.length),j<i->aln s[j]) (λt=>s.length-t.2.2.toNat) ?_ ⟨0,rfl,by omega,λj _ h=>by omega⟩ (by simp only;omega);rintro _ ⟨i,rfl,hi,hd⟩;dsimp only;refine tC (λhlt=>?_) λhlt=>tDn (tS λ_=>⟨⟨e2.1,λb hm=>?_⟩,e2.2⟩)
  ·have hlt:=dT hlt;have hi2:i<s.length:=by omega
   refine tB (Qn hi2 (λb=>((s,((s.length:Nat):Int)),(i:Int),b))) λv hv=>?_;rcases hv with rfl|⟨rfl,ha⟩
   ·exact tC (λ_=>tDn (tS λh=>by cases h)) λh=>by cases h
   ·refine tC (λh=>by cases h) λ_=>?_;dsimp only;rw[Ac];refine tGo ⟨⟨i+1,by rw[show(i:Int)+1=((i+1:Nat):Int) by omega],by omega,λj hj hji=>?_⟩,by simp only;omega⟩;by_cases e:j=i
    ·subst e;exact ha
    ·exact hd j hj (by omega)
  ·have hlt:=dF hlt;obtain⟨j,hj,rfl⟩:=aX hm;exact hd j hj (by omega)
theorem ZV(s:Bt):Tot (λr=>r=true->Nm s/\s.length=2) (o192 s):=by
 unfold o192;refine tC (λ_=>tS λh=>by cases h) λhl=>?_;have hl:=nF hl;refine tL (λt=>∃i:Nat,t=(s,((s.length:Nat):Int),(i:Int))/\i<=s.length/\∀j(hj:j<s.length),j<i->aln s[j]) (λt=>s.length-t.2.2.toNat) ?_ ⟨0,rfl,by omega,λj _ h=>by omega⟩ (by simp only;omega);rintro _ ⟨i,rfl,hi,hd⟩;dsimp only;refine tC (λhlt=>?_) λhlt=>tDn (tS λ_=>⟨⟨(λe=>(by rw[e]at hl;cases hl)),λb hm=>?_⟩,by omega⟩)
 ·have hlt:=dT hlt;have hi2:i<s.length:=by omega
  refine tB (Qn hi2 (λb=>((s,((s.length:Nat):Int)),(i:Int),b))) λv hv=>?_;rcases hv with rfl|⟨rfl,ha⟩
  ·exact tC (λ_=>tDn (tS λh=>by cases h)) λh=>by cases h
  ·refine tC (λh=>by cases h) λ_=>?_;dsimp only;rw[Ac];refine tGo ⟨⟨i+1,by rw[show(i:Int)+1=((i+1:Nat):Int) by omega],by omega,λj hj hji=>?_⟩,by simp only;omega⟩;by_cases e:j=i
   ·subst e;exact ha
   ·exact hd j hj (by omega)
 ·have hlt:=dF hlt;obtain⟨j,hj,rfl⟩:=aX hm;exact hd j hj (by omega)
def Rf(s:Bt):Prop:=∃a b,s=a++47::b/\Nm a/\Nm b/\a.length<=6/\b.length<=6
theorem Rf.wd{s:Bt}(h:Rf s):Wd s:=by
 obtain⟨a,b,rfl,ha,hb,_,_⟩:=h;refine⟨by simp,λx hx=>?_⟩
 rcases aP.1 hx with h|h
 ·exact ha.wd.2 x h
 ·rcases cQ.1 h with h|h
  ·subst h;decide
  ·exact hb.wd.2 x h
theorem Rf.len{s:Bt}(h:Rf s):s.length<=13:=by obtain⟨a,b,rfl,ha,hb,_,_⟩:=h;simp;omega
theorem RZ(s:Bt)(hs:s.length<=1099511627776:=by omega):Tot (λv=>v.2.2=0->Rf s) (o193 s):=by
 unfold o193;rcases KN 47 s with hn|⟨a,b,rfl,ha⟩
 ·rw[bdS (DA hn)];exact tC (λ_=>tS λh=>by cases h) λh=>by cases h
 ·have hl:(a++47::b).length=a.length+b.length+1:=by simp;omega
  rw[bdS (Jy ha (by omega))];refine tC (λh=>by cases h) λ_=>?_;refine tB (P:=λv=>v.2.2=false->Rf (a++47::b)) ?_ λv hv=>tC (λ_=>tS λh=>by cases h) λhb=>tS λ_=>hv hb;dsimp only;refine tB (Ek a 6) λv1 h1=>tC (λ_=>tS λh=>by cases h) λhb1=>?_;have h1:=h1 (notF hb1);refine tB (Ek b 6) λv2 h2=>tC (λ_=>?_) λhb2=>tS λ_=>?_
  ·refine tB (ZV b) λv3 h3=>tS λhb3=>?_;have h3:=h3 (notF hb3);exact⟨a,b,rfl,h1.1,h3.1,by omega,by omega⟩
  ·have h2:=h2 (notF hb2);exact⟨a,b,rfl,h1.1,h2.1,by omega,by omega⟩
theorem Afv(s:Bt)(k:Int)(hs:P47 s):Tot (λr=>r=0->Nm s/\s.length<=6) (o132 s k):=by unfold o132;refine tB (P:=λv=>v=false->Nm s/\s.length<=6) ?_ λv hv=>tC (λ_=>tS λh=>by cases h) λh=>tS λ_=>hv h;refine tB (Ek _ 6 hs) λv1 h1=>tC (λ_=>tS λh=>by cases h) λh=>?_;have h1:=h1 (notF h);exact tC (λ_=>tBT (ZE s hs) λ_=>tS λ_=>⟨h1.1,by omega⟩) λ_=>tS λ_=>⟨h1.1,by omega⟩
theorem Afw(s:Bt)(k:Int)(hs:P47 s):Tot (λr=>r=0->Nm s/\s.length<=6) (o133 s k):=by
 unfold o133;refine tB (P:=λv=>v=false->Nm s/\s.length<=6) ?_ λv hv=>tC (λ_=>tS λh=>by cases h) λh=>tS λ_=>hv h;refine tC (λhk=>?_) λhk=>?_
 ·refine tB (Ek _ 6 hs) λv1 h1=>tC (λ_=>tS λh=>by cases h) λh=>?_;have h1:=h1 (notF h);exact tC (λ_=>tBT (tT (NA s)) λ_=>tS λ_=>⟨h1.1,by omega⟩) λ_=>tS λ_=>⟨h1.1,by omega⟩
 ·refine tC (λ_=>tB (ZV s) λv h=>tS λe=>?_) λh=>absurd (nF h) (eF hk);have:=h (by simpa using e);exact⟨this.1,by omega⟩
theorem ZW(a:Int×Int):Tot (λr=>r=true↔posR a.1 a.2) (o134 a):=by
 unfold o134;refine tB (P:=λr=>r=true↔posR a.1 a.2) ?_ λr hr=>tS hr;unfold posR;refine tC (λh1=>tC (λh2=>tC (λh3=>tS ?_) λh=>tS ?_) λh=>tS ?_) λh=>tS ?_
 ·have:=dT h1;have:=dT h2;have:=dT h3;rw[decide_eq_true_iff];omega
 all_goals
  have:=dF h;exact⟨(λh=>by cases h),λh=>by omega⟩
theorem JB(k:Int):o120 k=some (decide (k=5\/k=6)):=by
 refine BN ?_;unfold o120;refine tB (P:=λr=>r=decide (k=5\/k=6)) (tC (λh=>tS ?_) λh=>tS ?_) λr hr=>tS hr
 ·rw[dt (.inl (eT h))]
 ·have:=eF h;by_cases h6:k=6
  ·rw[dt (.inr h6),Ba h6]
  ·rw[df,AU h6]
theorem JC(k:Int):o122 k=some (decide (k=2\/k=3\/k=4)):=by
 refine BN ?_;unfold o122;refine tB (P:=λr=>r=decide (k=2\/k=3\/k=4)) (tC (λh=>tS ?_) λh=>tC (λh2=>tS ?_) λh2=>tS ?_) λr hr=>tS hr
 ·rw[dt (.inl (eT h))]
 ·rw[dt (.inr (.inl (eT h2)))]
 ·have:=eF h;have:=eF h2;by_cases h6:k=4
  ·rw[dt (.inr (.inr h6)),Ba h6]
  ·rw[df,AU h6]
abbrev Fx_:=(Bt×Bt×Int)×(Int×Int)×Int×Int
def FixOk(a:Fx_):Prop:=(1<=a.1.2.2/\a.1.2.2<=6)/\o132 a.1.1 a.1.2.2=some 0/\o133 a.1.2.1 a.1.2.2=some 0/\posR a.2.1.1 a.2.1.2/\
 ((a.1.2.2=5\/a.1.2.2=6)->-200000<=a.2.2.1/\a.2.2.1<=6000000)/\(¬(a.1.2.2=5\/a.1.2.2=6)->a.2.2.1=0)/\
 ((a.1.2.2=2\/a.1.2.2=3\/a.1.2.2=4)->1<=a.2.2.2/\a.2.2.2<=8000000)/\(¬(a.1.2.2=2\/a.1.2.2=3\/a.1.2.2=4)->a.2.2.2=0)
theorem TS(a:Fx_)(h1:P47 a.1.1)(h2:P47 a.1.2.1):Tot (λr=>r=0↔FixOk a) (o65 a):=by
 unfold o65;refine tB (P:=λv=>v.2=a/\(v.1=false↔(1<=a.1.2.2/\a.1.2.2<=6))) ?_ λv hv=>?_
 ·refine tC (λh=>tS ⟨rfl,?_⟩) λh=>tS ⟨rfl,?_⟩
  ·have:=dT h;exact⟨(λh=>by cases h),λh=>by omega⟩
  ·have:=dF h;rw[decide_eq_false_iff_not];omega
 obtain⟨e1,e2⟩:=hv;rw[e1];refine tC (λhb=>tS ⟨(λh=>by cases h),λh=>by rw[e2.2 h.1]at hb;cases hb⟩) λhb=>?_;have hk:=e2.1 hb;refine tB (P:=λv=>o132 a.1.1 a.1.2.2=some v) (by obtain⟨r,e,_⟩:=ZF a.1.1 a.1.2.2 h1;exact⟨r,e,e⟩) λv2 k2=>tC (λh=>tS ⟨λe=>absurd e (nT h),λhf=>?_⟩) λh=>?_
 ·rw[hf.2.1]at k2;injection k2 with k2;exact k2.symm
 have z2:=nF h;subst z2;refine tB (P:=λv=>o133 a.1.2.1 a.1.2.2=some v) (by obtain⟨r,e,_⟩:=ZG a.1.2.1 a.1.2.2 h2;exact⟨r,e,e⟩) λv3 k3=>tC (λh=>tS ⟨λe=>absurd e (nT h),λhf=>?_⟩) λh=>?_
 ·rw[hf.2.2.1]at k3;injection k3 with k3;exact k3.symm
 have z3:=nF h;subst z3;refine tB (ZW a.2.1) λv4 k4=>tC (λh=>tS ⟨(λh=>by cases h),λhf=>by rw[k4.2 hf.2.2.2.1]at h;cases h⟩) λh=>?_;have hp:=k4.1 (notF h);rw[JB];refine tJ (P:=λv=>v=a/\((a.1.2.2=5\/a.1.2.2=6)->-200000<=a.2.2.1/\a.2.2.1<=6000000)/\(¬(a.1.2.2=5\/a.1.2.2=6)->a.2.2.1=0)) ?_ ?_
 ·rw[bdI];refine tC (λh5=>?_) λh5=>?_
  ·have h5:=dT h5;refine tB (P:=λv=>v.2=a/\(v.1=false↔(-200000<=a.2.2.1/\a.2.2.1<=6000000))) ?_ λv hv=>?_
   ·refine tC (λh=>tS ⟨rfl,?_⟩) λh=>tS ⟨rfl,?_⟩
    ·have:=dT h;exact⟨(λh=>by cases h),λh=>by omega⟩
    ·have:=dF h;rw[decide_eq_false_iff_not];omega
   ·refine tC (λhb=>tDn (tS ⟨(λh=>by cases h),λhf=>by rw[hv.2.2 (hf.2.2.2.2.1 h5)]at hb;cases hb⟩)) λhb=>tGo ⟨hv.1,λ_=>hv.2.1 hb,λhn=>absurd h5 hn⟩
  ·have h5:=dF h5;exact tC (λhb=>tDn (tS ⟨(λh=>by cases h),λhf=>absurd (hf.2.2.2.2.2.1 h5) (nT hb)⟩)) λhb=>tGo ⟨rfl,λh=>absurd h h5,λ_=>nF hb⟩
 ·rintro v7 ⟨rfl,e5,e6⟩;rw[JC,bdI];refine tC (λh5=>?_) λh5=>?_
  ·have h5:=dT h5;refine tB (P:=λv=>(v=false↔(1<=v7.2.2.2/\v7.2.2.2<=8000000))) ?_ λv hv=>?_
   ·refine tC (λh=>tS ?_) λh=>tS ?_
    ·have:=dT h;exact⟨(λh=>by cases h),λh=>by omega⟩
    ·have:=dF h;rw[decide_eq_false_iff_not];omega
   ·refine tC (λhb=>tS ⟨(λh=>by cases h),λhf=>by rw[hv.2 (hf.2.2.2.2.2.2.1 h5)]at hb;cases hb⟩) λhb=>tS ⟨λ_=>⟨hk,k2,k3,hp,e5,e6,λ_=>hv.1 hb,λhn=>absurd h5 hn⟩,λ_=>rfl⟩
  ·have h5:=dF h5;exact tC (λhb=>tS ⟨(λh=>by cases h),λhf=>absurd (hf.2.2.2.2.2.2.2 h5) (nT hb)⟩) λhb=>tS ⟨λ_=>⟨hk,k2,k3,hp,e5,e6,λh=>absurd h h5,λ_=>nF hb⟩,λ_=>rfl⟩
theorem DZ(h:l.2.length<=1000:=by omega):o154 l=some l:=by unfold o154;rw[gdT dt]
theorem SI0(fs:List Fd)(n la:Int):SI fs ((n,0,la),0,0,0):=⟨aY _,by show(0:Int)<=_;omega⟩
theorem AdI{k:Int}(h: -1<=k/\k<6):aF .u8 (aF .i64 (k+1))=k+1:=by rw[Ac,bR];omega
def fxOf(r:HD):Fx_:=((r.1.1.1,r.1.1.2,r.1.2.1),r.1.2.2,r.2.1.1,r.2.1.2.1)
theorem AkU(h:okR' l):Tot (λr=>(r.2.2.2.2=false->FixOk (fxOf r))/\r.1.1.1.length<=200/\r.1.1.2.length<=200) (o95 l):=by
 obtain⟨hne,hl,hn,hf⟩:=h;unfold o95;rw[bdS (DZ (l:=l))];refine tB (P:=λv=>v.length=6) ⟨_,rfl,rfl⟩ λv2 h2=>?_;refine tB (Lw v2 (by omega) (SI0 l.2 l.1 1) hf hl) λv3 h3=>?_;obtain⟨k,s3,f3⟩:=v3;obtain⟨rfl,g3,hk,p3⟩:=h3;dsimp only at g3 hk p3⊢;rw[h2]at hk;have hk2: -1<=k/\k<6:=by omega
 rw[AdI hk2];refine tB (FF g3.si hf hl) λv4 h4=>?_;obtain⟨id,s4,f4⟩:=v4;obtain⟨e4,g4,l4⟩:=h4;dsimp only at e4 g4 l4⊢;subst e4;refine tB (P:=λv=>o132 id (k+1)=some v) (by obtain⟨r,e,_⟩:=ZF id (k+1) (by unfold P47;omega);exact⟨r,e,e⟩) λv5 h5=>?_;refine tB (Lv g4.si v5) λv6 h6=>?_;obtain⟨s6,f6⟩:=v6;obtain⟨e6,g6,z6⟩:=h6;dsimp only at e6 g6 z6⊢;subst e6;refine tB (FF g6.si hf hl) λv7 h7=>?_;obtain⟨rg,s7,f7⟩:=v7;obtain⟨e7,g7,l7⟩:=h7;dsimp only at e7 g7 l7⊢;subst e7;refine tB (P:=λv=>o133 rg (k+1)=some v) (by obtain⟨r,e,_⟩:=ZG rg (k+1) (by unfold P47;omega);exact⟨r,e,e⟩) λv8 h8=>?_;refine tB (Lv g7.si v8) λv9 h9=>?_;obtain⟨s9,f9⟩:=v9;obtain⟨e9,g9,z9⟩:=h9;dsimp only at e9 g9 z9⊢;subst e9;refine tB (ZU g9.si hf hl) λv10 h10=>?_;obtain⟨ps,s10,f10⟩:=v10;obtain⟨e10,g10,z10⟩:=h10;dsimp only at e10 g10 z10⊢;subst e10;refine tB (P:=λv=>v.2.2=l.2/\ScG l.2 s10 v.1.2/\v.2.1.1=(id,rg,k+1)/\(v.2.1.2.1,v.2.1.2.2.1)=ps/\(v.1.2.2.2.2=0->((k+1=5\/k+1=6)->-200000<=v.2.1.2.2.2/\v.2.1.2.2.2<=6000000)/\(¬(k+1=5\/k+1=6)->v.2.1.2.2.2=0))) ?_ ?_
 ·rw[JB,bdI];refine tC (λhb=>?_) λhb=>tS ⟨rfl,ScG.refl g10.si,rfl,rfl,λ_=>⟨λh=>absurd h (dF hb),λ_=>rfl⟩⟩;exact tB (Aft g10.si hf hl) λv12 h12=>tS ⟨h12.1,h12.2.1,rfl,rfl,λhz=>⟨λ_=>h12.2.2 hz,λhn=>absurd (dT hb) hn⟩⟩
 rintro⟨⟨w,s13⟩,⟨q1,qa,qb,qe⟩,f13⟩ ⟨e13,g13,z13,y13,x13⟩;dsimp only at e13 g13 z13 y13 x13⊢;subst e13;subst z13;refine tB (P:=λv=>v.2.2=l.2/\ScG l.2 s13 v.1.2/\v.2.1.1=(id,rg,k+1)/\v.2.1.2.1=(qa,qb)/\v.2.1.2.2.1=qe/\(v.1.2.2.2.2=0->((k+1=2\/k+1=3\/k+1=4)->1<=v.2.1.2.2.2/\v.2.1.2.2.2<=8000000)/\(¬(k+1=2\/k+1=3\/k+1=4)->v.2.1.2.2.2=0))) ?_ ?_
 ·rw[JC,bdI];refine tC (λhb=>?_) λhb=>tS ⟨rfl,ScG.refl g13.si,rfl,rfl,rfl,λ_=>⟨λh=>absurd h (dF hb),λ_=>rfl⟩⟩;refine tB (Afu g13.si hf hl) λv15 h15=>?_;obtain⟨d,s15,f15⟩:=v15;obtain⟨e15,g15,z15⟩:=h15;dsimp only at e15 g15 z15⊢;subst e15;refine tC (λhz=>?_) λhz=>?_
  ·exact tB (Lv g15.si 2) λv16 h16=>tS ⟨h16.1,g15.trans h16.2.1,rfl,rfl,rfl,λh=>absurd (h16.2.2 h) (by decide)⟩
  ·have hz:=eF hz;exact tS ⟨rfl,g15,rfl,rfl,rfl,λh=>⟨λ_=>by have:=z15 h;show 1<=d/\d<=8000000;omega,λhn=>absurd (dT hb) hn⟩⟩
 rintro⟨⟨w2,s17⟩,⟨p1,⟨pa,pb⟩,pe,pr⟩,f17⟩ ⟨e17,g17,z17,y17,u17,x17⟩;dsimp only at e17 g17 z17 y17 u17 x17⊢;subst e17;subst z17;refine tB (IK g17.si) λv18 h18=>?_;refine tC (λhb=>tS ⟨(λh=>by cases h),by simp,by simp⟩) λhb=>tS ⟨λ_=>?_,l4,l7⟩;have c17:=h18 hb;have c13:=g17.2.2 c17;have c10:=g13.2.2 c13;have c9:=g10.2.2 c10;have c7:=g9.2.2 c9;have c6:=g7.2.2 c7;have c4:=g6.2.2 c6;have c3:=g4.2.2 c4;have k0:=p3 c3;have r5:=z6 c6;have r8:=z9 c9;subst r5;subst r8;have rp:=z10 c10;have e1:=x13 c13;have e2:=x17 c17;injection y17 with y1 y2
 rw[<-y13]at rp;subst y1;subst y2;subst u17;exact⟨⟨by show 1<=k+1;omega,by show k+1<=6;omega⟩,h5,h8,rp,e1.1,e1.2,e2.1,e2.2⟩
theorem Afx(h:okR' l)(b:Bool):Tot (λr=>r.1.1.1.length<=200/\(0<=r.1.2.2/\r.1.2.2<=255)) (o218 l b):=by
 obtain⟨hne,hl,hn,hf⟩:=h;unfold o218;rw[bdS (DZ (l:=l))];refine tB (P:=λ_=>True) ⟨_,rfl,trivial⟩ λv2 _=>?_;refine tB (Lw _ (by decide) (SI0 l.2 l.1 1) hf hl) λv3 h3=>?_;obtain⟨k,s3,f3⟩:=v3;obtain⟨rfl,g3,hk,p3⟩:=h3;dsimp only at g3⊢;refine tB (FF g3.si hf hl) λv4 h4=>?_;obtain⟨rf,s4,f4⟩:=v4;obtain⟨e4,g4,l4⟩:=h4;dsimp only at e4 g4 l4⊢;subst e4;refine tB (P:=λv=>v.2.2.2=l.2/\SI l.2 v.2.1/\v.2.2.1=rf) ?_ ?_
 ·refine tB (tT (RZ rf)) λv5 _=>tC (λ_=>?_) λ_=>tS ⟨rfl,g4.si,rfl⟩;exact tB (Lv g4.si 5) λv6 h6=>tS ⟨h6.1,h6.2.1.si,rfl⟩
 rintro⟨⟨bb,w⟩,s7,t7,f7⟩ ⟨e7,g7,z7⟩;dsimp only at e7 g7 z7⊢;subst e7;subst z7;refine tB (P:=λv=>v.2.2=l.2/\SI l.2 v.1.2/\v.2.1.1.1=t7/\(0<=v.2.1.2.2/\v.2.1.2.2<=255)) ?_ ?_
 ·refine tC (λ_=>?_) λ_=>tS ⟨rfl,g7,rfl,(show(0:Int)<=0/\(0:Int)<=255 by decide)⟩;refine tB (Afs g7 hf hl) λv8 h8=>?_;obtain⟨ps,s8,f8⟩:=v8;obtain⟨e8,g8,z8⟩:=h8;dsimp only at e8 g8 z8⊢;subst e8;refine tB (P:=λv=>v.length=3) ⟨_,rfl,rfl⟩ λv9 h9=>?_;refine tB (Lw v9 (by omega) g8.si hf hl) λv10 h10=>?_;have:=bR v10.1;refine tS ⟨h10.1,h10.2.1.si,rfl,?_⟩;show 0<=aF .u8 v10.1/\aF .u8 v10.1<=255;omega
 rintro⟨⟨w2,s11⟩,q11,f11⟩ ⟨e11,g11,z11,d11⟩;dsimp only at e11 g11 z11 d11⊢;subst e11;refine tB (IK g11) λv12 _=>tS ⟨?_,d11⟩;show q11.1.1.length<=200;rw[z11];exact l4
def AirOk(a:AQ)(n:Nat):Prop:=o70 a=some 0/\a.2.length=n/\∀p∈a.2,0<=p.2.2/\p.2.2<=255
def airT(a:AQ):Prop:=a.1.length<=200/\a.2.length<=2000/\∀p∈a.2,p.1.length<=200
theorem Afy(hl:ls.length<=2000)(h0:ls≠[])(h:∀l∈ls,okR' l):Tot (λr=>airT (r.1.1.1,r.2)/\(r.1.2.2.2=false->AirOk (r.1.1.1,r.2) (ls.length-1))) (o165 ls):=by
 have hpos:0<ls.length:=aC.2 h0;have hbad:∀x:Bt,x=[]->airT (x,[]):=λx hx=>by subst hx;exact⟨by simp,by simp,λp hp=>by cases hp⟩
 unfold o165;refine tC (λhz=>by have:=eT hz;omega) λ_=>tG dt ?_;have h00:okR' ls[0]:=h _ (aA hpos);rw[bdI,show(0:Int).toNat=0 from rfl,Ad hpos];have h0s:=h00;obtain⟨hne,hl0,hn,hf⟩:=h00;rw[bdS (DZ (l:=ls[0]))];refine tB (Lw _ (by decide) (SI0 ls[0].2 ls[0].1 1) hf hl0) λv3 h3=>?_;obtain⟨k,s3,f3⟩:=v3;obtain⟨rfl,g3,hk,p3⟩:=h3;dsimp only at g3⊢;refine tB (IJ 8 g3.si hf hl0) λv4 h4=>?_;obtain⟨nm,s4,f4⟩:=v4;obtain⟨e4,g4,l4⟩:=h4;dsimp only at e4 g4 l4⊢;subst e4;refine tB (IK g4.si) λv5 h5=>?_;refine tC (λ_=>tS ⟨hbad _ rfl,λh=>by cases h⟩) λ_=>?_;refine tL (λt=>∃(i:Nat)(ps:List Pt_),t=((ls,(i:Int)),[],nm,ps)/\(1<=i/\i<=ls.length)/\ps.length+1=i/\∀p∈ps,p.1.length<=200/\(0<=p.2.2/\p.2.2<=255)) (λt=>ls.length-t.1.2.toNat) ?_ ⟨1,[],rfl,by omega,rfl,λp hp=>by cases hp⟩ (by simp only;omega);rintro _ ⟨i,ps,rfl,hi,hps,hp⟩;dsimp only;refine tC (λhlt=>?_) λhlt=>?_
 ·have hlt:=dT hlt;have hi2:i<ls.length:=by omega
  refine tG dt ?_;rw[bdI,aB,Ad hi2];refine tB (Afx (h _ (aA hi2)) _) λv9 h9=>?_;refine tC (λ_=>tDn (tS ⟨hbad _ rfl,λh=>by cases h⟩)) λ_=>?_;refine tG (dt (by simp;omega)) ?_;rw[Ac];refine tGo ⟨⟨i+1,_,by rw[show(i:Int)+1=((i+1:Nat):Int) by omega],by omega,by simp;omega,λp hm=>?_⟩,by simp only;omega⟩;rcases aP.1 hm with h1|h1
  ·exact hp p h1
  ·rw[aK]at h1;subst h1;exact h9
 ·have hlt:=dF hlt;have hT:airT (nm,ps):=⟨l4,by show ps.length<=2000;omega,λp hm=>(hp p hm).1⟩
  refine tDn (tB (P:=λv=>o70 (nm,ps)=some v) (by obtain⟨r,e,_⟩:=AkR (nm,ps) ⟨by show nm.length<=_;omega,by show ps.length<=_;omega,λp hm=>by have:=(hp p hm).1;unfold P47;omega⟩;exact⟨r,e,e⟩) λv10 h10=>?_);have hp0:0<ls[0].2.length:=aC.2 hne;refine tC (λhb=>?_) λhb=>tS ⟨hT,λ_=>⟨?_,by show ps.length=_;omega,λp hm=>(hp p hm).2⟩⟩
  ·rw[Ad hpos];exact tG dt (tG dt (tG dt (tS ⟨hbad _ rfl,λh=>by cases h⟩)))
  ·rw[nF hb]at h10;exact h10
abbrev Cm_:=AG
variable{c:Cm_}
abbrev El_:=As
variable{all:List El_}{e:El_}
def elA(l:Ln)(a:AQ)(vs:List Ln):El_:=(97,(l.1,l.2),([],[],0,(0,0),0,0),(a.1,a.2),vs,([],[],0,[]),[],[])
theorem Acz (hl:okR' l) (hv:vs.length<=1900) (h:∀ l∈vs,okR' l) (c:Cm_) (bad:List Dg) (all:List El_) (hb:bad.length<=100000) (ha:all.length<=100000) :
  Tot (λr=>∃(a:AQ)(bad2:List Dg),r=(c,bad2,all++[elA l a vs])/\airT a/\(bad2=bad/\AirOk a vs.length\/∃d,bad2=bad++[d])) (Jg l vs c bad all):=by
 unfold Jg;refine tG (dt (by simp;omega)) (tB (Afy (ls:=[(l.1,l.2)]++vs) (by simp;omega) (by simp) λx hx=>?_) λv1 h1=>?_)
 ·rcases aP.1 hx with hx|hx
  ·rw[aK]at hx;subst hx;exact hl
  ·exact h x hx
 obtain⟨t1,ok1⟩:=h1;refine tB (P:=λv=>v.1=(vs,c,all)/\v.2.1=(l,v1.1.1.1)/\v.2.2.2=v1.2/\v.2.2.1.length<=100001/\(v.2.2.1=bad/\v1.1.2.2.2=false\/∃d,v.2.2.1=bad++[d])) ?_ ?_
 ·refine tC (λhx=>tG (dt (by simp;omega)) (tS ⟨rfl,rfl,rfl,by simp;omega,.inr ⟨_,rfl⟩⟩)) λhx=>tS ⟨rfl,rfl,rfl,by show bad.length<=_;omega,.inl ⟨rfl,hx⟩⟩
 rintro⟨w1,w2,bad2,w3⟩ ⟨e1,e2,e3,e4,e5⟩;dsimp only at e1 e2 e3 e4 e5⊢;subst e1;subst e2;subst e3;refine tG (dt ⟨by simp,by simp;omega⟩) (tS ⟨(v1.1.1.1,v1.2),bad2,rfl,t1,?_⟩);rcases e5 with⟨rfl,hf⟩|hd
 ·refine .inl ⟨rfl,?_⟩;have:=ok1 hf;simpa using this
 ·exact .inr hd
def via:Bt:=[86,73,65]
def w0(l:Ln):Bt:=(l.2.getD 0 ([],0)).1
def run:List Ln->Nat
 | []=>0
 |l::ls=>cond (w0 l==via) (run ls+1) 0
theorem Sa:∀ls:List Ln,run ls<=ls.length
 | []=>aQ _
 |l::ls=>by
  have:=Sa ls;unfold run;cases (w0 l==via)with
  |true=>rw[cond_true,aE];omega
  |false=>rw[cond_false];omega
theorem ZX:∀(ls:List Ln)(i:Nat)(h:i<ls.length),i<run ls->(w0 ls[i]==via)=true
 |l::ls,i,h,hr=>by
  unfold run at hr;cases e:(w0 l==via)with
  |true=>
   rw[e,cond_true]at hr;cases i with
   |zero=>exact e
   |succ i=>exact ZX ls i (by simpa using h) (by omega)
  |false=>rw[e,cond_false]at hr;omega
theorem TT:∀(ls:List Ln)(h:run ls<ls.length),(w0 ls[run ls]==via)=false
 |l::ls,h=>by
  cases e:(w0 l==via)with
  |true=>
   have er:run (l::ls)=run ls+1:=by
    conv=>lhs;rw[run]
    rw[e,cond_true]
   have h2:run ls<ls.length:=by rw[er]at h;simpa using h
   have:=TT ls h2;simpa[er]using this
  |false=>
   have er:run (l::ls)=0:=by
    conv=>lhs;rw[run]
    rw[e,cond_false]
   simpa[er]using e
theorem Qo (bad:List Dg) (all:List El_) (hi:i < c.1.1.1.length) (hl:c.1.1.1.length<=100000) (h:∀ l∈c.1.1.1,l.2≠[]) :
  My (i:Int) c bad all=some (((c.1.1.1.drop (i+1)).take (run (c.1.1.1.drop (i+1))),c),bad,all):=by
 have hrl:=Sa (c.1.1.1.drop (i+1));rw[aN]at hrl;have key:Tot (λr=>r=(((c.1.1.1.drop (i+1)).take (run (c.1.1.1.drop (i+1))),c),bad,all)) (My (i:Int) c bad all):=by
  unfold My;rw[Ac];refine tL (λt=>∃j:Nat,t=(((i:Int),((i+1+j:Nat):Int)),c,bad,all)/\j<=run (c.1.1.1.drop (i+1))) (λt=>c.1.1.1.length-t.1.2.toNat) ?_ ⟨0,rfl,by omega⟩ (by simp only;omega);rintro _ ⟨j,rfl,hj⟩;dsimp only;refine tB (P:=λv=>v=(((i:Int),((i+1+j:Nat):Int),decide (j<run (c.1.1.1.drop (i+1)))),c,bad,all)) ?_ ?_
  ·refine tC (λhlt=>?_) λhlt=>?_
   ·have hlt:=dT hlt;have h2:i+1+j<c.1.1.1.length:=by omega
    have hm:=h _ (aA h2);have hpos:0<(c.1.1.1[i+1+j].2).length:=aC.2 hm;rw[aB,Ad h2];refine tG dt (tG dt (tS ?_));have hd:j<(c.1.1.1.drop (i+1)).length:=by rw[aN];omega
    have e1:(c.1.1.1.drop (i+1))[j]=c.1.1.1[i+1+j]:=by rw[List.getElem_drop]
    have e2:((c.1.1.1[i+1+j].2.getD (0:Int).toNat ([],0)).1==([86,73,65]:Bt))=decide (j<run (c.1.1.1.drop (i+1))):=by
     by_cases hlt2:j<run (c.1.1.1.drop (i+1))
     ·have:=ZX _ j hd hlt2;rw[e1]at this;rw[dt hlt2];exact this
     ·have hje:j=run (c.1.1.1.drop (i+1)):=by omega
      have hlt3:run (c.1.1.1.drop (i+1))<(c.1.1.1.drop (i+1)).length:=by rw[<-hje];exact hd
      have:=TT _ hlt3;rw[df hlt2];rw[show(c.1.1.1.drop (i+1))[run (c.1.1.1.drop (i+1))]=(c.1.1.1.drop (i+1))[j] by congr 1;exact hje.symm,e1]at this;exact this
    rw[e2]
   ·have hlt:=dF hlt;refine tS ?_;rw[df]
  ·rintro _ rfl;dsimp only;refine tC (λhb=>?_) λhb=>?_
   ·have hb:=dT hb;rw[Ac];exact tGo ⟨⟨j+1,by rw[show((i+1+j:Nat):Int)+1=((i+1+(j+1):Nat):Int) by omega],by omega⟩,by simp only;omega⟩
   ·have hb:=dF hb;have hje:j=run (c.1.1.1.drop (i+1)):=by omega
    rw[Ac];refine tDn (tG dt (tS ?_));rw[show((i:Int)+1).toNat=i+1 by omega,aB,show i+1+j-(i+1)=j by omega,hje]
 exact BN key
abbrev Rd_:=(List Bt×Int)×Int×Int
variable{st:Rd_}
abbrev Lg_:=Ai
variable{a:Lg_}{C:Bt->Lg_->Option (Bool×Lg_)}{F:Rd_->Lg_->Option (Rd_×Lg_)}
def okLg(a:Lg_):Prop:=a.1.1.2.1.length<=50000/\a.1.1.2.2.length<=50000/\0<=a.1.1.1/\a.1.1.1<=17
def okRd(st:Rd_):Prop:=∀w∈st.1.1,w.length<=50000
theorem NH(h:okRd st):Tot (λv=>v.1.length<=50000/\(v.2=true->st.1.1≠[])) (o235 st):=by
 unfold o235;refine tC (λ_=>tS ⟨by simp,λh=>by cases h⟩) λhn=>?_;have hn:=eF hn;have hpos:0<st.1.1.length:=by omega
 refine tG dt (tS ⟨?_,λ_ e=>by rw[e]at hpos;cases hpos⟩);rw[show(0:Int).toNat=0 from rfl,Ad hpos];exact h _ (aA hpos)
theorem Qp(h:okRd st)(hne:st.1.1≠[]):Tot (λr=>okRd r) (BD st):=by have hpos:0<st.1.1.length:=aC.2 hne;unfold BD;exact tG dt (tG dt (tS λw hw=>h w (bG hw)))
theorem Afz{a:Int×Int×Int}{l:List Bt}(h:∀w∈l,w.length<=50000)(hne:l≠[]):Tot (λr=>okRd r) (o261 a l):=by have hpos:0<l.length:=aC.2 hne;unfold o261;exact tG dt (tG dt (tS λw hw=>h w (bG (bF hw))))
theorem AfA(w:Bt)(h:okLg a):Tot (λr=>okLg r.2) (o222 w a):=by
 unfold o222;rw[bdI];refine tL (λt=>∃(i:Nat)(a:Lg_),t.2=((i:Int),a)/\i<=18/\okLg a) (λt=>18-t.2.1.toNat) ?_ ⟨0,a,rfl,by omega,h⟩ (by simp only;omega);rintro⟨⟨t1,t2⟩,t3⟩ ⟨i,a,e,hi,ha⟩;dsimp only at e⊢;subst e;dsimp only;refine tC (λhlt=>?_) λ_=>tDn (tS ha);have hlt:=dT hlt;refine tB (P:=λv=>v.1.2.1=(i:Int)/\v.2.2=((i:Int),a)) ?_ λv hv=>?_
 ·have h18:i=0\/i=1\/i=2\/i=3\/i=4\/i=5\/i=6\/i=7\/i=8\/i=9\/i=10\/i=11\/i=12\/i=13\/i=14\/i=15\/i=16\/i=17:=by omega
  rcases h18 with rfl|rfl|rfl|rfl|rfl|rfl|rfl|rfl|rfl|rfl|rfl|rfl|rfl|rfl|rfl|rfl|rfl|rfl<;>exact tS ⟨rfl,rfl⟩
 ·refine tB (P:=λv=>v.1.2.1=(i:Int)/\v.2.1=(i:Int)/\v.2.2.2=a) ?_ λv5 h5=>?_
  ·exact tC (λ_=>tS ⟨hv.1,by rw[hv.2],by rw[hv.2]⟩) λ_=>tS ⟨hv.1,by rw[hv.2],by rw[hv.2]⟩
  ·obtain⟨e1,e2,e3⟩:=h5;rw[e1,e2,e3,Ac];refine tC (λ_=>tGo ⟨⟨i+1,_,by rw[show(i:Int)+1=((i+1:Nat):Int) by omega],by omega,?_⟩,by simp only;omega⟩) λ_=>tGo ⟨⟨i+1,a,by rw[show(i:Int)+1=((i+1:Nat):Int) by omega],by omega,ha⟩,by simp only;omega⟩;have hw:aF .u8 (i:Int)=(i:Int):=by rw[bR];omega
   refine⟨ha.1,ha.2.1,?_,?_⟩
   ·show 0<=aF .u8 (i:Int);rw[hw];omega
   ·show aF .u8 (i:Int)<=17;rw[hw];omega
theorem ZY(s:Bt)(h:s.length<=50000):Tot (λ_=>True) (o224 s):=by unfold o224;exact tB (tT (RZ s)) λ_ _=>tS trivial
theorem AfB(h:okLg a)(hw:w.length<=50000):Tot (λr=>okLg r.2) (o223 w a):=by unfold o223;exact tB (ZY w hw) λ_ _=>tS ⟨hw,h.2.1,h.2.2⟩
theorem AfC(h:okLg a)(hw:w.length<=50000):Tot (λr=>okLg r.2) (o225 w a):=by
 unfold o225;have:Tot (λr=>r.length<=50000) (o226 w [64]):=by unfold o226 o262;refine tB (P:=λr=>r.length<=50000) ?_ λr hr=>tS hr;refine tB (ZP w [64] (by omega) (by simp)) λr hr=>tC (λhb=>?_) λ_=>tS hw;have:=hr hb;exact tG dt (tS (by rw[aN];omega))
 refine tB this λv1 h1=>tB (P:=λr=>okLg r.2) ?_ λr hr=>tS hr;refine tC (λ_=>?_) λ_=>tS ⟨h.1,h1,h.2.2⟩;exact tB (ZY v1 h1) λ_ _=>tS ⟨h.1,h1,h.2.2⟩
theorem AfD(h:okLg a)(hw:w.length<=50000):Tot (λr=>okLg r.2) (o227 w a):=by unfold o227;refine tB (P:=λv=>okLg v.2) (tC (λ_=>tS h) λ_=>tS h) λv hv=>tB (P:=λv=>okLg v.2) (tC (λ_=>tS hv) λ_=>tS hv) λv hv=>tS hv
theorem ZZ(w:Bt)(hw:w.length<=50000):Tot (λ_=>True) (o229 w):=by
 unfold o229;refine tC (λ_=>tS trivial) λ_=>?_;have:Tot (λ_=>True) (o263 w):=by unfold o263;exact tB (ZN w (by omega) 3 (by decide)) λv _=>tC (λ_=>tS trivial) λ_=>tC (λ_=>tS trivial) λ_=>tS trivial
 exact tB this λ_ _=>tS trivial
theorem AfE(h:okLg a)(hw:w.length<=50000):Tot (λr=>okLg r.2) (o228 w a):=by unfold o228;exact tB (ZZ w hw) λ_ _=>tS h
theorem AfF(d:Int):Tot (λr=>r.1.length<=50) (o123 d):=by unfold o123;refine tB (P:=λ_=>True) (tC (λ_=>tS trivial) λ_=>tS trivial) λv1 _=>tC (λ_=>tS) λ_=>?_;refine tB (P:=λv=>v.length<=21) ⟨_,Gk _,FG _⟩ λv2 h2=>tC (λ_=>?_) λ_=>tS (by show v2.length<=50;omega);exact tB (P:=λv=>v.length<=21) ⟨_,Gk _,FG _⟩ λv3 h3=>tG (dt (by simp;omega)) (tG (dt (by simp;omega)) (tS (by simp;omega)))
theorem Sb(c:Int)(w:Bt)(hw:w.length<=50000):Tot (λ_=>True) (o231 c w):=by
 unfold o231;refine tB (P:=λv=>v.1=w/\(v.2=false->w≠[])) ?_ λv hv=>?_
 ·refine tC (λ_=>tS ⟨rfl,λh=>by cases h⟩) λh=>?_;have h:=sF h;exact tG (dt (by have:=aC.2 h;omega)) (tS ⟨rfl,λ_=>h⟩)
 ·refine tC (λ_=>tS trivial) λhb=>?_;have hpos:=aC.2 (hv.2 hb);rw[hv.1];refine tG dt (tB (ZQ _ (by rw[aN];omega)) λv2 _=>?_);refine tB (P:=λv=>v.1=w) (tC (λ_=>tS rfl) λ_=>tS rfl) λv3 h3=>tC (λ_=>tS trivial) λ_=>tB (AfF _) λv4 _=>?_;rw[h3];exact tG dt (tS trivial)
theorem AfG(h:okLg a)(hw:w.length<=50000):Tot (λr=>okLg r.2) (o230 w a):=by unfold o230;exact tB (Sb _ w hw) λ_ _=>tS h
theorem AfH(h:okLg a)(hw:w.length<=50000):Tot (λr=>okLg r.2) (o232 w a):=by unfold o232;exact tB (Sb _ w hw) λ_ _=>tS h
theorem AfI(h:okLg a)(hw:w.length<=50000):Tot (λr=>okLg r.2) (o233 w a):=by
 unfold o233;refine tB (P:=λv=>v.1=w/\v.2.2=a/\(v.2.1=false->w≠[])) ?_ λv hv=>?_
 ·refine tC (λ_=>tS ⟨rfl,rfl,λh=>by cases h⟩) λh=>?_;have h:=sF h;exact tG (dt (by have:=aC.2 h;omega)) (tS ⟨rfl,rfl,λ_=>h⟩)
 ·obtain⟨e1,e2,e3⟩:=hv;rw[e1,e2];refine tC (λ_=>tS h) λhb=>?_;have hpos:=aC.2 (e3 hb);exact tG dt (tB (ZZ _ (by rw[aN];omega)) λ_ _=>tS h)
theorem AfJ(h:okLg a)(hw:w.length<=50000):Tot (λr=>okLg r.2) (o265 w a):=tS h
theorem AfK(h:okLg a)(hw:w.length<=50000):Tot (λr=>okLg r.2) (o266 w a):=by unfold o266;refine tB (ZT w) λv _=>tB (P:=λv=>v.2.1=a) (tC (λ_=>tS rfl) λ_=>tC (λ_=>tS rfl) λ_=>tS rfl) λv2 h2=>?_;rw[h2];exact tC (λ_=>tS h) λ_=>tS h
theorem AfL(w:Bt)(hw:w.length<=50000):Tot (λ_=>True) (o269 w):=by
 unfold o269;refine tB (P:=λv=>v.1=w/\(v.2=false->2<=w.length)) ?_ λv hv=>?_
 ·refine tC (λ_=>tS ⟨rfl,λh=>by cases h⟩) λh1=>tC (λ_=>tS ⟨rfl,λh=>by cases h⟩) λ_=>?_;have h1:=dF h1;exact tG dt (tC (λ_=>tS ⟨rfl,λh=>by cases h⟩) λ_=>tG dt (tS ⟨rfl,λ_=>by omega⟩))
 ·refine tC (λ_=>tS trivial) λhb=>?_;have h2:=hv.2 hb;rw[hv.1];have hd:(bQ (1:Int).toNat w).length=w.length-1:=by rw[aN];rfl
  refine tG dt (tG dt ?_);generalize bQ (1:Int).toNat w=u at hd⊢;refine tL (λt=>∃(n:Int)(i:Nat),t=((n,((u.length:Nat):Int)),(i:Int),u)/\i<=u.length) (λt=>u.length-t.2.1.toNat) ?_ ⟨0,0,rfl,by omega⟩ (by simp only;omega);rintro _ ⟨n,i,rfl,hi⟩;dsimp only;refine tC (λhlt=>?_) λ_=>tDn (tS trivial);have hlt:=dT hlt;refine tG dt (tB (P:=λv=>v.1.2.2=((u.length:Nat):Int)/\v.2.1=(i:Int)/\v.2.2.2=u) (tC (λ_=>tS ⟨rfl,rfl,rfl⟩) λ_=>tS ⟨rfl,rfl,rfl⟩) λv4 h4=>?_);obtain⟨e1,e2,e3⟩:=h4;rw[e1,e2,e3,Ac (x:=(i:Int)+1)];exact tC (λ_=>tDn (tS trivial)) λ_=>tGo ⟨⟨_,i+1,by rw[show(i:Int)+1=((i+1:Nat):Int) by omega],by omega⟩,by simp only;omega⟩
theorem AfM(h:okLg a)(hw:w.length<=50000):Tot (λr=>okLg r.2) (o268 w a):=by unfold o268;exact tB (AfL w hw) λ_ _=>tC (λ_=>tS h) λ_=>tS h
theorem AfN(h:okLg a)(hw:w.length<=50000):Tot (λr=>okLg r.2) (o270 w a):=by unfold o270;exact tB (Sb _ w hw) λ_ _=>tC (λ_=>tS h) λ_=>tS h
def okS(r:Rd_×Lg_):Prop:=okRd r.1/\okLg r.2
theorem GQ (hC:∀ {w:Bt} {a:Lg_},okLg a->w.length<=50000->Tot (λr=>okLg r.2) (C w a))
  (hF:∀a0 a1,F a0 a1=(cnd (a0.2.2 !=(0:Int)) (some (a0,a1)) (bd (α:=(Bt×Bool)) (o235 a0) (λv1=>(cnd (!v1.2) (some ((a0.1,a0.2.1,(aF .i64 (a0.2.1+(2:Int)))),a1)) (bd (α:=(Bool×Ai)) (C v1.1 a1) (λv2=>(cnd (!v2.1) (some ((a0.1,a0.2.1,a0.1.2),v2.2)) (bd (α:=((List Bt×Int)×Int×Int)) (BD a0) (λv3=>(some (v3,v2.2))))))))))))
 (h1:okRd st) (h2:okLg a):Tot okS (F st a):=by
 rw[hF];refine tC (λ_=>tS ⟨h1,h2⟩) λ_=>tB (NH h1) λv1 hv=>tC (λ_=>tS ⟨h1,h2⟩) λhb=>tB (hC h2 hv.1) λv2 hv2=>tC (λ_=>tS ⟨h1,hv2⟩) λ_=>?_;exact tB (Qp h1 (hv.2 (notF hb))) λv3 h3=>tS ⟨h3,hv2⟩
theorem TU (hC:∀ {w:Bt} {a:Lg_},okLg a->w.length<=50000->Tot (λr=>okLg r.2) (C w a))
  (hF:∀a0 a1,F a0 a1=(bd (α:=(Bt×Bool)) (o235 a0) (λv1=>(bd (α:=(Bool×((List Bt×Int)×Int×Int)×Ai)) (cnd (a0.2.2==(0:Int)) (cnd v1.2 (bd (α:=(Bool×Ai)) (C v1.1 a1) (λv2=>(some (v2.1,a0,v2.2)))) (some (false,a0,a1))) (some (false,a0,a1))) (λv3=>(cnd v3.1 (bd (α:=((List Bt×Int)×Int×Int)) (BD v3.2.1) (λv4=>(some (v4,v3.2.2)))) (some v3.2)))))))
 (h1:okRd st) (h2:okLg a):Tot okS (F st a):=by
 rw[hF];refine tB (NH h1) λv1 hv=>tB (P:=λv=>v.2.1=st/\okLg v.2.2/\(v.1=true->st.1.1≠[])) ?_ λv3 h3=>?_
 ·refine tC (λ_=>tC (λhb=>?_) λ_=>tS ⟨rfl,h2,λh=>by cases h⟩) λ_=>tS ⟨rfl,h2,λh=>by cases h⟩;exact tB (hC h2 hv.1) λv2 hv2=>tS ⟨rfl,hv2,λ_=>hv.2 hb⟩
 ·obtain⟨e1,e2,e3⟩:=h3;refine tC (λhb=>?_) λ_=>tS ⟨by show okRd v3.2.1;rw[e1];exact h1,e2⟩;rw[e1];exact tB (Qp h1 (e3 hb)) λv4 h4=>tS ⟨h4,e2⟩
def LegT(r:HH):Prop:=r.1.1.2.1.length<=50000/\r.1.1.2.2.length<=50000
theorem AfO(s:Bt)(hs:s.length<=50000):Tot LegT (o168 s):=by
 have hz:LegT (((((0:Int),([]:Bt),([]:Bt)),((0:Int),false),(0:Int),(0:Int)),(((0:Int),(0:Int)),(0:Int),(0:Int)),((0:Int),(0:Int)),0,(4:Int))):=⟨by simp,by simp⟩
 unfold o168;refine tB (P:=λv=>∀w∈v,w.length<=50000) ⟨_,NE s 32,λw hw=>?_⟩ λv1 h1=>?_
 ·have:=(Hx 32 s.length s (aQ _)).1;have hm:∀(l:List Bt),w∈l->w.length+l.length<=(l.map bE).sum+l.length:=by
   intro l;induction l with
   |nil=>intro h;cases h
   |cons x l ih=>
    intro h;rcases cQ.1 h with h|h
    ·subst h;simp
    ·have:=ih h;simp;omega
  have:=hm _ hw;have:=Acp 32 s;omega
 refine tB (P:=okS) ?_ λv2 h2=>?_
 ·unfold o221;have h0:okLg (((((0:Int),([]:Bt),([]:Bt)),(0:Int),false,(0:Int)),((0:Int),(0:Int),(0:Int)),((-200000:Int),(6000000:Int)),(0:Int),(0:Int))):=⟨by simp,by simp,by decide⟩
  have hr:okRd ((v1,(1:Int)),((s.length:Nat):Int),(0:Int)):=h1;refine tC (λ_=>tS ⟨h1,h0⟩) λ_=>tB (NH hr) λv hv=>tC (λ_=>tS ⟨h1,h0⟩) λhb=>tB (AfA v.1 h0) λv2 hv2=>tC (λ_=>tS ⟨h1,hv2⟩) λ_=>?_;exact tB (Afz h1 (hv.2 (notF hb))) λv3 h3=>tS ⟨h3,hv2⟩
 refine tG (dt ⟨h2.2.2.2.1,by have:=h2.2.2.2.2;omega⟩) ?_;refine tB (P:=λv=>okS v.2) (tC (λ_=>tB (GQ (F:=Ng) AfB (λ_ _=>rfl) h2.1 h2.2) λv hv=>tS hv) λ_=>tS h2) λv4 h4=>?_;refine tB (P:=λv=>okS v.2) (tC (λ_=>tB (GQ (F:=Nh) AfC (λ_ _=>rfl) h4.1 h4.2) λv hv=>tS hv) λ_=>tS h4) λv6 h6=>?_;refine tB (P:=λv=>okS v.2) (tC (λ_=>tB (GQ (F:=Ni) AfD (λ_ _=>rfl) h6.1 h6.2) λv hv=>tS hv) λ_=>tS h6) λv8 h8=>?_;refine tB (P:=λv=>okS v.2) (tC (λ_=>tB (GQ (F:=Nj) AfE (λ_ _=>rfl) h8.1 h8.2) λv hv=>tS hv) λ_=>tS h8) λv10 h10=>?_;refine tB (P:=λv=>okS v.2) (tC (λ_=>tB (GQ (F:=Nk) AfG (λ_ _=>rfl) h10.1 h10.2) λv hv=>tS hv) λ_=>tS h10) λv12 h12=>?_;refine tB (P:=λv=>okS v.2) (tC (λ_=>tB (GQ (F:=Nl) AfH (λ_ _=>rfl) h12.1 h12.2) λv hv=>tS hv) λ_=>tS h12) λv14 h14=>?_;refine tB (P:=λv=>okS v.2) (tC (λ_=>tB (GQ (F:=Nn) AfI (λ_ _=>rfl) h14.1 h14.2) λv hv=>tS hv) λ_=>tS h14) λv16 h16=>?_;refine tB (P:=okS) ?_ λv17 h17=>?_
 ·unfold o234;refine tB (TU (F:=o264) AfJ (λ_ _=>rfl) h16.1 h16.2) λa1 g1=>tB (TU (F:=Np) AfK (λ_ _=>rfl) g1.1 g1.2) λa2 g2=>tB (TU (F:=Nq) AfM (λ_ _=>rfl) g2.1 g2.2) λa3 g3=>tB (TU (F:=Nr) AfN (λ_ _=>rfl) g3.1 g3.2) λa4 g4=>tS g4
 refine tB (P:=λv=>okLg v.2.2) ?_ λv20 h20=>?_
 ·refine tB (NH h17.1) λv18 _=>tB (P:=λv=>v.2.2=v17.2) (tC (λ_=>tS rfl) λ_=>tS rfl) λv19 h19=>?_;exact tC (λ_=>tS (by show okLg v19.2.2;rw[h19];exact h17.2)) λ_=>tS (by show okLg v19.2.2;rw[h19];exact h17.2)
 refine tC (λ_=>tS hz) λ_=>tB (tT (YT _ (by have:=h20.1;omega) (by have:=h20.2.1;omega))) λv21 _=>tC (λ_=>tS hz) λ_=>tS ⟨h20.1,h20.2.1⟩
def dW(v:(Int×Int)×Int×Bool):List Dg:=cond v.2.2 [(v.1.1,v.1.2,v.2.1)] []
theorem Aaa(v:(Int×Int)×Int×Bool):(dW v).length<=1:=by unfold dW;cases v.2.2<;>simp
theorem IP(c:Cm_)(all:List El_)(s:Fu)(h:bad.length<=1000000):GM c bad all s=bd (o164 s) λv=>some (c,all,bad++dW v):=by
 unfold GM;cases o164 s with
 |none=>rfl
 |some v=>
  rw[bdI,bdI];unfold dW;cases v.2.2 with
  |true=>
   rw[cond_true];exact(cndT rfl).trans (gdT (dt (by simp;omega)))
  |false=>
   rw[cond_false,aS];exact cndF rfl
theorem AH(h:l.2≠[])(e:Int)(c:Cm_)(all:List El_)(hb:bad.length<=1000000:=by omega):IF l e c bad all=some (c,all,bad++cond (e !=0) [(l.1,(l.2.getD 0 ([],0)).2,e)] []):=by
 have hp:0<l.2.length:=aC.2 h;unfold IF;cases hx:(e !=0)with
 |true=>rw[cndT rfl,gdT dt,gdT (dt (by simp;omega))];rfl
 |false=>rw[cndF rfl,cond_false,aS]
def hdW(l:Ln):Option ((Bt×Int×Int×Int×Int×Int)×List Dg):=
 bd (o154 l) λv1=>bd (o155 ((v1.1,0,1),0,0,0) v1.2) λv2=>bd (o156 8 v2.2.1 v2.2.2) λv3=>bd (o155 v3.2.1 v3.2.2) λv4=>bd (o157 v4.1) λv5=>bd (o158 v5.2 v4.2.1 v4.2.2) λv6=>bd (o115 v5.1) λv7=>bd (o159 v6.1 v6.2) λv8=>bd (o164 ((v8.2.1.1.1,v8.2.2,v8.2.1.1.2.1),(v8.2.1.1.2.2,v8.2.1.2.1),v8.2.1.2.2)) λv9=>some ((v3.1,v5.1,v7.1,v7.2.1,v8.1.1,v8.1.2),dW v9)
def setH(c:Cm_)(h:Bt×Int×Int×Int×Int×Int):Cm_:=(((c.1.1.1,h.1),h.2.1,h.2.2.1,h.2.2.2.1),(h.2.2.2.2.1,h.2.2.2.2.2),c.2.2)
theorem Aab(l:Ln)(c:Cm_)(all:List El_)(hb:bad.length<=1000000):SX l c bad all=bd (hdW l) λr=>some (setH c r.1,all,bad++r.2):=by
 unfold SX hdW;simp only[IP _ _ _ hb];cases o154 l with
 |none=>rfl
 |some v1=>
 rw[bdI,bdI];cases o155 ((v1.1,0,1),0,0,0) v1.2 with
 |none=>rfl
 |some v2=>
 rw[bdI,bdI];cases o156 8 v2.2.1 v2.2.2 with
 |none=>rfl
 |some v3=>
 rw[bdI,bdI];cases o155 v3.2.1 v3.2.2 with
 |none=>rfl
 |some v4=>
 rw[bdI,bdI];cases o157 v4.1 with
 |none=>rfl
 |some v5=>
 rw[bdI,bdI];cases o158 v5.2 v4.2.1 v4.2.2 with
 |none=>rfl
 |some v6=>
 rw[bdI,bdI];cases o115 v5.1 with
 |none=>rfl
 |some v7=>
 rw[bdI,bdI];cases o159 v6.1 v6.2 with
 |none=>rfl
 |some v8=>
 rw[bdI,bdI];cases o164 ((v8.2.1.1.1,v8.2.2,v8.2.1.1.2.1),(v8.2.1.1.2.2,v8.2.1.2.1),v8.2.1.2.2)with
 |none=>rfl
 |some v9=>rfl
def prW(l:Ln):Option ((Bt×Bt)×List Dg):=
 bd (o154 l) λv1=>bd (o155 ((v1.1,0,1),0,0,0) v1.2) λv2=>bd (o156 6 v2.2.1 v2.2.2) λv3=>bd (o156 8 v3.2.1 v3.2.2) λv4=>bd (o164 ((v4.2.1.1.1,v4.2.2,v4.2.1.1.2.1),(v4.2.1.1.2.2,v4.2.1.2.1),v4.2.1.2.2)) λv5=>some ((v3.1,v4.1),dW v5)
def elP(l:Ln)(k:Int)(n:Bt×Bt):El_:=(112,(l.1,l.2),([],[],0,(0,0),0,0),([],[]),[],(n.1,n.2,k,[]),[],[])
theorem Qq(l:Ln)(k:Int)(c:Cm_)(hb:bad.length<=1000000)(ha:all.length<=1000000):HJ l k c bad all=bd (prW l) λr=>some (c,bad++r.2,all++[elP l k r.1]):=by
 unfold HJ prW;simp only[IP _ _ _ hb];cases o154 l with
 |none=>rfl
 |some v1=>
 rw[bdI,bdI];cases o155 ((v1.1,0,1),0,0,0) v1.2 with
 |none=>rfl
 |some v2=>
 rw[bdI,bdI];cases o156 6 v2.2.1 v2.2.2 with
 |none=>rfl
 |some v3=>
 rw[bdI,bdI];cases o156 8 v3.2.1 v3.2.2 with
 |none=>rfl
 |some v4=>
 rw[bdI,bdI];cases o164 ((v4.2.1.1.1,v4.2.2,v4.2.1.1.2.1),(v4.2.1.1.2.2,v4.2.1.2.1),v4.2.1.2.2)with
 |none=>rfl
 |some v5=>
 rw[bdI,bdI,bdI,bdI];exact gdT (dt ⟨by simp,by simp;omega⟩)
def paW(l:Ln):Option ((Int×Bt)×List Dg):=
 bd (o154 l) λv1=>bd (o155 ((v1.1,0,1),0,0,0) v1.2) λv2=>bd (bd (o161 [[82,85,78,87,65,89],[67,79,77,77,79,78],[69,78,82,79,85,84,69],[77,73,83,83,69,68]] v2.2.1 v2.2.2) λv3=>cnd (v3.1==(0:Int)) (bd (o156 8 v3.2.1 v3.2.2) λv4=>some (((1:Int),v4.1),v4.2)) (cnd (v3.1==(1:Int)) (some (((2:Int),([]:Bt)),v3.2)) (cnd (v3.1==(2:Int)) (bd (o156 8 v3.2.1 v3.2.2) λv5=>some (((3:Int),v5.1),v5.2)) (cnd (v3.1==(3:Int)) (some (((4:Int),([]:Bt)),v3.2)) (some (((0:Int),([]:Bt)),v3.2)))))) λv6=>bd (o164 ((v6.2.1.1.1,v6.2.2,v6.2.1.1.2.1),(v6.2.1.1.2.2,v6.2.1.2.1),v6.2.1.2.2)) λv7=>some (v6.1,dW v7)
abbrev eP(e:El_):=e.2.2.2.2.2.1
abbrev eQ(e:El_):List Ln:=e.2.2.2.2.2.2.1
abbrev eG(e:El_):List (List Ln):=e.2.2.2.2.2.2.2
def addP(e:El_)(l:Ln)(x:Int×Bt):El_:=(e.1,e.2.1,e.2.2.1,e.2.2.2.1,e.2.2.2.2.1,((eP e).1,(eP e).2.1,(eP e).2.2.1,(eP e).2.2.2++[(x.1,x.2,[])]),eQ e++[l],eG e++[[]])
def updP(all:List El_)(l:Ln)(x:Int×Bt):List El_:=if 0<all.length/\(all.getD (all.length-1) Ab).1=112 then all.set (all.length-1) (addP (all.getD (all.length-1) Ab) l x)else all
def shortE(e:El_):Prop:=(eP e).2.2.2.length<=1000000/\(eQ e).length<=1000000/\(eG e).length<=1000000
theorem Qs(l:Ln)(c:Cm_)(hb:bad.length<=1000000)(ha:all.length<=1000000)(hs:∀e∈all,shortE e):Pq l c bad all=bd (paW l) λr=>some (c,updP all l r.1,bad++r.2):=by
 unfold Pq paW;cases o154 l with
 |none=>rfl
 |some v1=>
 rw[bdI,bdI];cases o155 ((v1.1,0,1),0,0,0) v1.2 with
 |none=>rfl
 |some v2=>
 rw[bdI,bdI];cases o161 [[82,85,78,87,65,89],[67,79,77,77,79,78],[69,78,82,79,85,84,69],[77,73,83,83,69,68]] v2.2.1 v2.2.2 with
 |none=>rfl
 |some v3=>
 rw[bdI,bdI]
 have key:∀ (x:Int×Bt) (s:Sc_) (f:List Fd),bd (α:=XC) (some ((c,bad,all),(l,s),x,f)) (λv6=>bd (GM v6.1.1 v6.1.2.1 v6.1.2.2 ((v6.2.1.2.1.1,v6.2.2.2,v6.2.1.2.1.2.1),(v6.2.1.2.1.2.2,v6.2.1.2.2.1),v6.2.1.2.2.2)) (λv7=>(bd (α:=XD) (cnd (decide (((v7.2.1.length:Nat):Int) > (0:Int))) (gd (decide ((0:Int)<=(aF .i64 (((v7.2.1.length:Nat):Int) - (1:Int)))/\(aF .i64 (((v7.2.1.length:Nat):Int) - (1:Int))) < ((v7.2.1.length:Nat):Int))) (some ((((aR v7.2.1 ((aF .i64 (((v7.2.1.length:Nat):Int) - (1:Int))).toNat) Ab).1==(112:Int)),v7.1,v7.2.1),v6.2.1.1,v6.2.2.1,v7.2.2))) (some ((false,v7.1,v7.2.1),v6.2.1.1,v6.2.2.1,v7.2.2))) (λv8=>(cnd v8.1.1 (bd (α:=(Int×List As)) (o166 (((v8.1.2.1.1.1.1,v8.2.2.2),v8.1.2.1.1.1.2,v8.1.2.1.1.2.1,v8.1.2.1.1.2.2.1),(v8.1.2.1.1.2.2.2,v8.1.2.1.2.1),v8.1.2.1.2.2) v8.1.2.2) (λv9=>(gd (decide (0 < ([(v8.2.2.1.1,(v8.2.2.1.2,([]:List Af)))]:List (Int×Bt×List Af)).length/\(((((((((((aR v9.2 v9.1.toNat Ab).2).2).2).2).2).1).2).2).2).length+([(v8.2.2.1.1,(v8.2.2.1.2,([]:List Af)))]:List (Int×Bt×List Af)).length)*48<=140737488355328)) (gd (cO v9.1.toNat v9.1.toNat) (gd (cO v9.1.toNat v9.1.toNat) (gd (decide ((((((((((aR v9.2 v9.1.toNat Ab).2).2).2).2).2).2).1).length+([(v8.2.1.1,v8.2.1.2)]:List (Int×List (Bt×Int))).length)*32<=140737488355328)) (gd (cO v9.1.toNat v9.1.toNat) (gd (cO v9.1.toNat v9.1.toNat) (gd (decide (0 < ([([]:List (Int×List (Bt×Int)))]:List (List (Int×List (Bt×Int)))).length/\(((((((((aR v9.2 v9.1.toNat Ab).2).2).2).2).2).2).2).length+([([]:List (Int×List (Bt×Int)))]:List (List (Int×List (Bt×Int)))).length)*24<=140737488355328)) (gd (cO v9.1.toNat v9.1.toNat) (some (v8.1.2.1,(cL v9.2 v9.1.toNat ((aR v9.2 v9.1.toNat Ab).1,(((aR v9.2 v9.1.toNat Ab).2).1,((((aR v9.2 v9.1.toNat Ab).2).2).1,(((((aR v9.2 v9.1.toNat Ab).2).2).2).1,((((((aR v9.2 v9.1.toNat Ab).2).2).2).2).1,(((((((((aR v9.2 v9.1.toNat Ab).2).2).2).2).2).1).1,(((((((((aR v9.2 v9.1.toNat Ab).2).2).2).2).2).1).2).1,((((((((((aR v9.2 v9.1.toNat Ab).2).2).2).2).2).1).2).2).1,((((((((((aR v9.2 v9.1.toNat Ab).2).2).2).2).2).1).2).2).2++([(v8.2.2.1.1,(v8.2.2.1.2,([]:List Af)))]:List (Int×Bt×List Af)))))),(((((((((aR v9.2 v9.1.toNat Ab).2).2).2).2).2).2).1++([(v8.2.1.1,v8.2.1.2)]:List (Int×List (Bt×Int)))),((((((((aR v9.2 v9.1.toNat Ab).2).2).2).2).2).2).2++([([]:List (Int×List (Bt×Int)))]:List (List (Int×List (Bt×Int))))))))))))),v8.2.2.2)))))))))))) (some (v8.1.2.1,v8.1.2.2,v8.2.2.2)))))))
   =bd (bd (o164 ((s.1.1,f,s.1.2.1),(s.1.2.2,s.2.1),s.2.2)) λv7=>some (x,dW v7)) λr=>some (c,updP all l r.1,bad++r.2):=by
  intro x s f;rw[bdI];dsimp only;rw[IP _ _ _ hb];cases o164 ((s.1.1,f,s.1.2.1),(s.1.2.2,s.2.1),s.2.2)with
  |none=>rfl
  |some v=>
  simp only[bdI];unfold updP;by_cases h0:0<all.length
  ·rw[cndT dt,Ac,gdT dt,bdI,show(((all.length:Nat):Int)-1).toNat=all.length-1 by omega];dsimp only;by_cases h1:(all.getD (all.length-1) Ab).1=112
   ·rw[cndT (Ba h1),if_pos ⟨h0,h1⟩];have h166:∀y,o166 y all=some (((all.length-1:Nat):Int),all):=λy=>by unfold o166;rw[Ac,gdT dt,show(((all.length:Nat):Int)-1).toNat=all.length-1 by omega]
    rw[bdS (h166 _)];have hm:=hs _ (aA (show all.length-1<all.length by omega));rw[<-Ad (d:=Ab) (show all.length-1<all.length by omega)]at hm;obtain⟨m1,m2,m3⟩:=hm;dsimp only[eP,eQ,eG]at m1 m2 m3⊢;rw[aB];generalize all.getD (all.length-1) Ab=e at m1 m2 m3⊢;have nb:cO (all.length-1) (all.length-1)=true:=Nat.beq_refl _;rw[gdT (dt ⟨by simp,by simp;omega⟩),gdT nb,gdT nb,gdT (dt (by simp;omega)),gdT nb,gdT nb,gdT (dt ⟨by simp,by simp;omega⟩),gdT nb];rfl
   ·rw[cndF (AU h1),if_neg (λh=>h1 h.2)]
  ·rw[cndF df,bdI,if_neg (λh=>h0 h.1)];exact cndF rfl
 by_cases k0:v3.1=0
 ·rw[cndT (Ba k0),cndT (Ba k0)];cases o156 8 v3.2.1 v3.2.2 with
  |none=>rfl
  |some v4=>rw[bdI,bdI];exact key _ _ _
 ·rw[cndF (AU k0),cndF (AU k0)];by_cases k1:v3.1=1
  ·rw[cndT (Ba k1),cndT (Ba k1)];exact key _ _ _
  ·rw[cndF (AU k1),cndF (AU k1)];by_cases k2:v3.1=2
   ·rw[cndT (Ba k2),cndT (Ba k2)];cases o156 8 v3.2.1 v3.2.2 with
    |none=>rfl
    |some v4=>rw[bdI,bdI];exact key _ _ _
   ·rw[cndF (AU k2),cndF (AU k2)];by_cases k3:v3.1=3
    ·rw[cndT (Ba k3),cndT (Ba k3)];exact key _ _ _
    ·rw[cndF (AU k3),cndF (AU k3)];exact key _ _ _
def lgOf(r:HH):Bw:=(r.1.1.1,r.1.1.2.1,r.1.1.2.2,r.1.2.1.1,r.1.2.1.2,r.1.2.2.1,r.1.2.2.2,r.2.1.1.1,r.2.1.1.2,r.2.1.2,r.2.2.1)
def legW(l:Ln):Option (Bw×List Dg):=
 bd (o154 l) λv1=>bd (o155 ((v1.1,0,1),0,0,0) v1.2) λv2=>bd (o167 v2.2.1 v2.2.2) λv3=>bd (o168 v3.1) λv4=>some (lgOf v4,cond (cond (v3.1==[]) (4:Int) v4.2.2.2.2 !=0) [(l.1,(l.2.getD 0 ([],0)).2,cond (v3.1==[]) (4:Int) v4.2.2.2.2)] [])
def addG(e:El_)(l:Ln)(g:Bw):El_:=if 0<(eP e).2.2.2.length then(e.1,e.2.1,e.2.2.1,e.2.2.2.1,e.2.2.2.2.1,((eP e).1,(eP e).2.1,(eP e).2.2.1,(eP e).2.2.2.set ((eP e).2.2.2.length-1) (((eP e).2.2.2.getD ((eP e).2.2.2.length-1) AD).1,((eP e).2.2.2.getD ((eP e).2.2.2.length-1) AD).2.1,((eP e).2.2.2.getD ((eP e).2.2.2.length-1) AD).2.2++[g])),eQ e,(eG e).set ((eP e).2.2.2.length-1) ((eG e).getD ((eP e).2.2.2.length-1) Dj++[l]))else e
def updG(all:List El_)(l:Ln)(g:Bw):List El_:=if 0<all.length/\(all.getD (all.length-1) Ab).1=112 then all.set (all.length-1) (addG (all.getD (all.length-1) Ab) l g)else all
def shapeE(e:El_):Prop:=(eP e).2.2.2.length<=1000000/\(eG e).length=(eP e).2.2.2.length/\(∀p∈(eP e).2.2.2,p.2.2.length<=1000000)/\∀g∈eG e,g.length<=1000000
theorem MA(hl:l.2≠[])(c:Cm_)(hb:bad.length<=1000000)(ha:all.length<=1000000)(hs:∀e∈all,shapeE e):KY l c bad all=bd (legW l) λr=>some (c,updG all l r.1,bad++r.2):=by
 unfold KY legW;cases o154 l with
 |none=>rfl
 |some v1=>
 rw[bdI,bdI];cases o155 ((v1.1,0,1),0,0,0) v1.2 with
 |none=>rfl
 |some v2=>
 rw[bdI,bdI];cases o167 v2.2.1 v2.2.2 with
 |none=>rfl
 |some v3=>
 rw[bdI,bdI];cases o168 v3.1 with
 |none=>rfl
 |some v4=>
 rw[bdI,bdI,bdI];have e1:∀(b:Bool){α:Type}(x y:α),cnd b (some x) (some y)=some (cond b x y):=λb α x y=>by cases b<;>rfl
 rw[e1,bdI];have e2:(bif v3.1==[]then(((4:Int),c,bad),all,l,(v4.1.1,v4.1.2.1.1,v4.1.2.1.2,v4.1.2.2.1),(v4.1.2.2.2,v4.2.1.1),v4.2.1.2,v4.2.2.1)else((v4.2.2.2.2,c,bad),all,l,(v4.1.1,v4.1.2.1.1,v4.1.2.1.2,v4.1.2.2.1),(v4.1.2.2.2,v4.2.1.1),v4.2.1.2,v4.2.2.1):XE)=((cond (v3.1==[]) (4:Int) v4.2.2.2.2,c,bad),all,l,(v4.1.1,v4.1.2.1.1,v4.1.2.1.2,v4.1.2.2.1),(v4.1.2.2.2,v4.2.1.1),v4.2.1.2,v4.2.2.1):=by cases (v3.1==[])<;>rfl
 rw[e2];generalize cond (v3.1==[]) (4:Int) v4.2.2.2.2=er;dsimp only;rw[bdS (AH hl er c all hb)];generalize bad++cond (er !=0) [(l.1,(l.2.getD 0 ([],0)).2,er)] []=bad2;unfold updG;dsimp only;by_cases h0:0<all.length
 ·rw[cndT dt,Ac,gdT dt,bdI,show(((all.length:Nat):Int)-1).toNat=all.length-1 by omega];dsimp only;by_cases h1:(all.getD (all.length-1) Ab).1=112
  ·rw[cndT (Ba h1),if_pos ⟨h0,h1⟩];have h166:∀y,o166 y all=some (((all.length-1:Nat):Int),all):=λy=>by unfold o166;rw[Ac,gdT dt,show(((all.length:Nat):Int)-1).toNat=all.length-1 by omega]
   rw[bdS (h166 _)];have hlt:all.length-1<all.length:=by omega
   have hm:=hs _ (aA hlt);rw[<-Ad (d:=Ab) hlt]at hm;have hset:all.set (all.length-1) (all.getD (all.length-1) Ab)=all:=by rw[Ad hlt,List.set_getElem_self]
   obtain⟨m1,m2,m3,m4⟩:=hm;unfold addG;dsimp only[eP,eQ,eG]at m1 m2 m3 m4⊢;rw[aB];generalize all.getD (all.length-1) Ab=e at m1 m2 m3 m4 hset⊢;have nb:∀n:Nat,cO n n=true:=Nat.beq_refl;by_cases hk:0<e.2.2.2.2.2.1.2.2.2.length
   ·rw[cndT dt,if_pos hk,gdT (nb _),gdT (nb _),Ac];rw[show(((e.2.2.2.2.2.1.2.2.2.length:Nat):Int)-1).toNat=e.2.2.2.2.2.1.2.2.2.length-1 by omega];have hp1:e.2.2.2.2.2.1.2.2.2.length-1<e.2.2.2.2.2.1.2.2.2.length:=by omega
    have hp2:e.2.2.2.2.2.1.2.2.2.length-1<e.2.2.2.2.2.2.2.length:=by omega
    have q3:=m3 _ (aA hp1);have q4:=m4 _ (aA hp2);rw[<-Ad (d:=AD) hp1]at q3;rw[<-Ad (d:=Dj) hp2]at q4;rw[gdT dt,gdT (dt (by simp only[aE,aH];omega)),gdT dt,gdT (nb _),gdT (nb _),gdT (nb _),gdT dt,gdT (dt (by simp only[aE,aH];omega)),gdT dt,gdT (nb _)];rfl
   ·rw[cndF df,if_neg hk,hset]
  ·rw[cndF (AU h1),if_neg (λh=>h1 h.2)]
 ·rw[cndF df,bdI,if_neg (λh=>h0 h.1)];exact cndF rfl
theorem Av(x y:α):cnd true x y=x:=rfl
theorem Aj(x y:α):cnd false x y=y:=rfl
theorem BX(x:Option α):gd true x=x:=rfl
theorem AY(t:α)(k:α->Option β):jd (some (.go t)) k=k t:=rfl
theorem BZ(r:β)(k:α->Option β):jd (some (.done r)) k=some r:=rfl
theorem bdbd'{γ:Type}(x:Option α)(f:α->Option β)(g:β->Option γ):bd (bd x f) g=bd x λt=>bd (f t) g:=by cases x<;>rfl
theorem lne{a b:Bt}(h:a≠b):(a==b)=false:=by simpa using h
theorem jdbd'{γ:Type}(x:Option α)(f:α->Option (Ctl β γ))(g:β->Option γ):jd (bd x f) g=bd x λt=>jd (f t) g:=by cases x<;>rfl
abbrev wdDB:Bt:=[68,65,84,65,66,65,83,69]
abbrev wdWP:Bt:=[87,65,89,80,79,73,78,84]
abbrev wdVOR:Bt:=[86,79,82]
abbrev wdDME:Bt:=[68,77,69]
abbrev wdNDB:Bt:=[78,68,66]
abbrev wdAPT:Bt:=[65,73,82,80,79,82,84]
abbrev wdRWY:Bt:=[82,85,78,87,65,89]
abbrev wdAWY:Bt:=[65,73,82,87,65,89]
abbrev wdVIA:Bt:=[86,73,65]
abbrev wdDEP:Bt:=[68,69,80,65,82,84,85,82,69]
abbrev wdARR:Bt:=[65,82,82,73,86,65,76]
abbrev wdAPP:Bt:=[65,80,80,82,79,65,67,72]
abbrev wdPART:Bt:=[80,65,82,84]
abbrev wdLEG:Bt:=[76,69,71]
theorem qDB:(wdDB==wdDB)=true/\(wdDB==wdWP)=false/\(wdDB==wdVOR)=false/\(wdDB==wdDME)=false/\(wdDB==wdNDB)=false/\(wdDB==wdAPT)=false/\(wdDB==wdRWY)=false/\(wdDB==wdAWY)=false/\(wdDB==wdVIA)=false/\(wdDB==wdDEP)=false/\(wdDB==wdARR)=false/\(wdDB==wdAPP)=false/\(wdDB==wdPART)=false/\(wdDB==wdLEG)=false:=⟨rfl,rfl,rfl,rfl,rfl,rfl,rfl,rfl,rfl,rfl,rfl,rfl,rfl,rfl⟩
theorem qWP:(wdWP==wdDB)=false/\(wdWP==wdWP)=true/\(wdWP==wdVOR)=false/\(wdWP==wdDME)=false/\(wdWP==wdNDB)=false/\(wdWP==wdAPT)=false/\(wdWP==wdRWY)=false/\(wdWP==wdAWY)=false/\(wdWP==wdVIA)=false/\(wdWP==wdDEP)=false/\(wdWP==wdARR)=false/\(wdWP==wdAPP)=false/\(wdWP==wdPART)=false/\(wdWP==wdLEG)=false:=⟨rfl,rfl,rfl,rfl,rfl,rfl,rfl,rfl,rfl,rfl,rfl,rfl,rfl,rfl⟩
theorem qVOR:(wdVOR==wdDB)=false/\(wdVOR==wdWP)=false/\(wdVOR==wdVOR)=true/\(wdVOR==wdDME)=false/\(wdVOR==wdNDB)=false/\(wdVOR==wdAPT)=false/\(wdVOR==wdRWY)=false/\(wdVOR==wdAWY)=false/\(wdVOR==wdVIA)=false/\(wdVOR==wdDEP)=false/\(wdVOR==wdARR)=false/\(wdVOR==wdAPP)=false/\(wdVOR==wdPART)=false/\(wdVOR==wdLEG)=false:=⟨rfl,rfl,rfl,rfl,rfl,rfl,rfl,rfl,rfl,rfl,rfl,rfl,rfl,rfl⟩
theorem qDME:(wdDME==wdDB)=false/\(wdDME==wdWP)=false/\(wdDME==wdVOR)=false/\(wdDME==wdDME)=true/\(wdDME==wdNDB)=false/\(wdDME==wdAPT)=false/\(wdDME==wdRWY)=false/\(wdDME==wdAWY)=false/\(wdDME==wdVIA)=false/\(wdDME==wdDEP)=false/\(wdDME==wdARR)=false/\(wdDME==wdAPP)=false/\(wdDME==wdPART)=false/\(wdDME==wdLEG)=false:=⟨rfl,rfl,rfl,rfl,rfl,rfl,rfl,rfl,rfl,rfl,rfl,rfl,rfl,rfl⟩
theorem qNDB:(wdNDB==wdDB)=false/\(wdNDB==wdWP)=false/\(wdNDB==wdVOR)=false/\(wdNDB==wdDME)=false/\(wdNDB==wdNDB)=true/\(wdNDB==wdAPT)=false/\(wdNDB==wdRWY)=false/\(wdNDB==wdAWY)=false/\(wdNDB==wdVIA)=false/\(wdNDB==wdDEP)=false/\(wdNDB==wdARR)=false/\(wdNDB==wdAPP)=false/\(wdNDB==wdPART)=false/\(wdNDB==wdLEG)=false:=⟨rfl,rfl,rfl,rfl,rfl,rfl,rfl,rfl,rfl,rfl,rfl,rfl,rfl,rfl⟩
theorem qAPT:(wdAPT==wdDB)=false/\(wdAPT==wdWP)=false/\(wdAPT==wdVOR)=false/\(wdAPT==wdDME)=false/\(wdAPT==wdNDB)=false/\(wdAPT==wdAPT)=true/\(wdAPT==wdRWY)=false/\(wdAPT==wdAWY)=false/\(wdAPT==wdVIA)=false/\(wdAPT==wdDEP)=false/\(wdAPT==wdARR)=false/\(wdAPT==wdAPP)=false/\(wdAPT==wdPART)=false/\(wdAPT==wdLEG)=false:=⟨rfl,rfl,rfl,rfl,rfl,rfl,rfl,rfl,rfl,rfl,rfl,rfl,rfl,rfl⟩
theorem qRWY:(wdRWY==wdDB)=false/\(wdRWY==wdWP)=false/\(wdRWY==wdVOR)=false/\(wdRWY==wdDME)=false/\(wdRWY==wdNDB)=false/\(wdRWY==wdAPT)=false/\(wdRWY==wdRWY)=true/\(wdRWY==wdAWY)=false/\(wdRWY==wdVIA)=false/\(wdRWY==wdDEP)=false/\(wdRWY==wdARR)=false/\(wdRWY==wdAPP)=false/\(wdRWY==wdPART)=false/\(wdRWY==wdLEG)=false:=⟨rfl,rfl,rfl,rfl,rfl,rfl,rfl,rfl,rfl,rfl,rfl,rfl,rfl,rfl⟩
theorem qAWY:(wdAWY==wdDB)=false/\(wdAWY==wdWP)=false/\(wdAWY==wdVOR)=false/\(wdAWY==wdDME)=false/\(wdAWY==wdNDB)=false/\(wdAWY==wdAPT)=false/\(wdAWY==wdRWY)=false/\(wdAWY==wdAWY)=true/\(wdAWY==wdVIA)=false/\(wdAWY==wdDEP)=false/\(wdAWY==wdARR)=false/\(wdAWY==wdAPP)=false/\(wdAWY==wdPART)=false/\(wdAWY==wdLEG)=false:=⟨rfl,rfl,rfl,rfl,rfl,rfl,rfl,rfl,rfl,rfl,rfl,rfl,rfl,rfl⟩
theorem qVIA:(wdVIA==wdDB)=false/\(wdVIA==wdWP)=false/\(wdVIA==wdVOR)=false/\(wdVIA==wdDME)=false/\(wdVIA==wdNDB)=false/\(wdVIA==wdAPT)=false/\(wdVIA==wdRWY)=false/\(wdVIA==wdAWY)=false/\(wdVIA==wdVIA)=true/\(wdVIA==wdDEP)=false/\(wdVIA==wdARR)=false/\(wdVIA==wdAPP)=false/\(wdVIA==wdPART)=false/\(wdVIA==wdLEG)=false:=⟨rfl,rfl,rfl,rfl,rfl,rfl,rfl,rfl,rfl,rfl,rfl,rfl,rfl,rfl⟩
theorem qDEP:(wdDEP==wdDB)=false/\(wdDEP==wdWP)=false/\(wdDEP==wdVOR)=false/\(wdDEP==wdDME)=false/\(wdDEP==wdNDB)=false/\(wdDEP==wdAPT)=false/\(wdDEP==wdRWY)=false/\(wdDEP==wdAWY)=false/\(wdDEP==wdVIA)=false/\(wdDEP==wdDEP)=true/\(wdDEP==wdARR)=false/\(wdDEP==wdAPP)=false/\(wdDEP==wdPART)=false/\(wdDEP==wdLEG)=false:=⟨rfl,rfl,rfl,rfl,rfl,rfl,rfl,rfl,rfl,rfl,rfl,rfl,rfl,rfl⟩
theorem qARR:(wdARR==wdDB)=false/\(wdARR==wdWP)=false/\(wdARR==wdVOR)=false/\(wdARR==wdDME)=false/\(wdARR==wdNDB)=false/\(wdARR==wdAPT)=false/\(wdARR==wdRWY)=false/\(wdARR==wdAWY)=false/\(wdARR==wdVIA)=false/\(wdARR==wdDEP)=false/\(wdARR==wdARR)=true/\(wdARR==wdAPP)=false/\(wdARR==wdPART)=false/\(wdARR==wdLEG)=false:=⟨rfl,rfl,rfl,rfl,rfl,rfl,rfl,rfl,rfl,rfl,rfl,rfl,rfl,rfl⟩
theorem qAPP:(wdAPP==wdDB)=false/\(wdAPP==wdWP)=false/\(wdAPP==wdVOR)=false/\(wdAPP==wdDME)=false/\(wdAPP==wdNDB)=false/\(wdAPP==wdAPT)=false/\(wdAPP==wdRWY)=false/\(wdAPP==wdAWY)=false/\(wdAPP==wdVIA)=false/\(wdAPP==wdDEP)=false/\(wdAPP==wdARR)=false/\(wdAPP==wdAPP)=true/\(wdAPP==wdPART)=false/\(wdAPP==wdLEG)=false:=⟨rfl,rfl,rfl,rfl,rfl,rfl,rfl,rfl,rfl,rfl,rfl,rfl,rfl,rfl⟩
theorem qPART:(wdPART==wdDB)=false/\(wdPART==wdWP)=false/\(wdPART==wdVOR)=false/\(wdPART==wdDME)=false/\(wdPART==wdNDB)=false/\(wdPART==wdAPT)=false/\(wdPART==wdRWY)=false/\(wdPART==wdAWY)=false/\(wdPART==wdVIA)=false/\(wdPART==wdDEP)=false/\(wdPART==wdARR)=false/\(wdPART==wdAPP)=false/\(wdPART==wdPART)=true/\(wdPART==wdLEG)=false:=⟨rfl,rfl,rfl,rfl,rfl,rfl,rfl,rfl,rfl,rfl,rfl,rfl,rfl,rfl⟩
theorem qLEG:(wdLEG==wdDB)=false/\(wdLEG==wdWP)=false/\(wdLEG==wdVOR)=false/\(wdLEG==wdDME)=false/\(wdLEG==wdNDB)=false/\(wdLEG==wdAPT)=false/\(wdLEG==wdRWY)=false/\(wdLEG==wdAWY)=false/\(wdLEG==wdVIA)=false/\(wdLEG==wdDEP)=false/\(wdLEG==wdARR)=false/\(wdLEG==wdAPP)=false/\(wdLEG==wdPART)=false/\(wdLEG==wdLEG)=true:=⟨rfl,rfl,rfl,rfl,rfl,rfl,rfl,rfl,rfl,rfl,rfl,rfl,rfl,rfl⟩
theorem wri(h:i<ls.length)(k:ls.length<=100000):aF .i64 ((i:Int)+1)=(i:Int)+1:=Ac
theorem bT:((true==true)=true)/\((true==false)=false)/\((false==true)=false)/\((false==false)=true):=⟨rfl,rfl,rfl,rfl⟩
def kd0:List (Bt×Int):=mpPut (mpPut (mpPut ([]:List (Bt×Int)) ([68,69,80,65,82,84,85,82,69]:Bt) (1:Int)) ([65,82,82,73,86,65,76]:Bt) (2:Int)) ([65,80,80,82,79,65,67,72]:Bt) (3:Int)
def flg(c:Cm_)(a p q:Bool):Cm_:=(c.1,c.2.1,a,p,q)
def s2(ls:List Ln)(i:Nat)(c:Cm_)(bad:List Dg)(all:List El_):Fw:=((ls,((ls.length:Nat):Int),(i:Int)),(c,kd0),bad,all)
def dg(l:Ln)(e:Int):Dg:=(l.1,(l.2.getD 0 ([],0)).2,e)
def dgF(r:HD):List Dg:=cond r.2.2.2.2 [(r.2.1.2.2,r.2.2.1,r.2.2.2.1)] []
def elF(l:Ln)(f:Fx_):El_:=(102,(l.1,l.2),(f.1.1,f.1.2.1,f.1.2.2,(f.2.1.1,f.2.1.2),f.2.2.1,f.2.2.2),([],[]),[],([],[],0,[]),[],[])
abbrev B2_:=Fw->Option (Ctl Fw (AG×(List (Int×Int×Int))×List As))
def AR(ls:List Ln)(bad:List Dg)(all:List El_):Prop:=ls.length<=100000/\(∀l∈ls,l.2≠[])/\bad.length<=100000/\all.length<=100000
structure Rnd2(B:B2_):Prop where
 fDB0:∀(ls:List Ln)(i:Nat)(hi:i<ls.length)(c:Cm_)(bad:List Dg)(all:List El_),AR ls bad all->w0 ls[i]=wdDB->i=0->B (s2 ls i c bad all)=bd (hdW ls[i]) λr=>some (.go (s2 ls (i+1) (setH (flg c false false false) r.1) (bad++r.2) (all)))
 fDB1:∀(ls:List Ln)(i:Nat)(hi:i<ls.length)(c:Cm_)(bad:List Dg)(all:List El_),AR ls bad all->w0 ls[i]=wdDB->i≠0->B (s2 ls i c bad all)=some (.go (s2 ls (i+1) (flg c false false false) (bad++[dg ls[i] 9]) (all)))
 fWP0:∀(ls:List Ln)(i:Nat)(hi:i<ls.length)(c:Cm_)(bad:List Dg)(all:List El_),AR ls bad all->w0 ls[i]=wdWP->i=0->B (s2 ls i c bad all)=some (.go (s2 ls (i+1) (flg c false false false) (bad++[dg ls[i] 9]) (all)))
 fWP1:∀(ls:List Ln)(i:Nat)(hi:i<ls.length)(c:Cm_)(bad:List Dg)(all:List El_),AR ls bad all->w0 ls[i]=wdWP->i≠0->B (s2 ls i c bad all)=bd (o95 ls[i]) λr=>some (.go (s2 ls (i+1) (flg c false false false) (bad++dgF r) (all++[elF ls[i] (fxOf r)])))
 fVOR0:∀(ls:List Ln)(i:Nat)(hi:i<ls.length)(c:Cm_)(bad:List Dg)(all:List El_),AR ls bad all->w0 ls[i]=wdVOR->i=0->B (s2 ls i c bad all)=some (.go (s2 ls (i+1) (flg c false false false) (bad++[dg ls[i] 9]) (all)))
 fVOR1:∀(ls:List Ln)(i:Nat)(hi:i<ls.length)(c:Cm_)(bad:List Dg)(all:List El_),AR ls bad all->w0 ls[i]=wdVOR->i≠0->B (s2 ls i c bad all)=bd (o95 ls[i]) λr=>some (.go (s2 ls (i+1) (flg c false false false) (bad++dgF r) (all++[elF ls[i] (fxOf r)])))
 fDME0:∀(ls:List Ln)(i:Nat)(hi:i<ls.length)(c:Cm_)(bad:List Dg)(all:List El_),AR ls bad all->w0 ls[i]=wdDME->i=0->B (s2 ls i c bad all)=some (.go (s2 ls (i+1) (flg c false false false) (bad++[dg ls[i] 9]) (all)))
 fDME1:∀(ls:List Ln)(i:Nat)(hi:i<ls.length)(c:Cm_)(bad:List Dg)(all:List El_),AR ls bad all->w0 ls[i]=wdDME->i≠0->B (s2 ls i c bad all)=bd (o95 ls[i]) λr=>some (.go (s2 ls (i+1) (flg c false false false) (bad++dgF r) (all++[elF ls[i] (fxOf r)])))
 fNDB0:∀(ls:List Ln)(i:Nat)(hi:i<ls.length)(c:Cm_)(bad:List Dg)(all:List El_),AR ls bad all->w0 ls[i]=wdNDB->i=0->B (s2 ls i c bad all)=some (.go (s2 ls (i+1) (flg c false false false) (bad++[dg ls[i] 9]) (all)))
 fNDB1:∀(ls:List Ln)(i:Nat)(hi:i<ls.length)(c:Cm_)(bad:List Dg)(all:List El_),AR ls bad all->w0 ls[i]=wdNDB->i≠0->B (s2 ls i c bad all)=bd (o95 ls[i]) λr=>some (.go (s2 ls (i+1) (flg c false false false) (bad++dgF r) (all++[elF ls[i] (fxOf r)])))
 fAPT0:∀(ls:List Ln)(i:Nat)(hi:i<ls.length)(c:Cm_)(bad:List Dg)(all:List El_),AR ls bad all->w0 ls[i]=wdAPT->i=0->B (s2 ls i c bad all)=some (.go (s2 ls (i+1) (flg c false false false) (bad++[dg ls[i] 9]) (all)))
 fAPT1:∀(ls:List Ln)(i:Nat)(hi:i<ls.length)(c:Cm_)(bad:List Dg)(all:List El_),AR ls bad all->w0 ls[i]=wdAPT->i≠0->B (s2 ls i c bad all)=bd (o95 ls[i]) λr=>some (.go (s2 ls (i+1) (flg c false false false) (bad++dgF r) (all++[elF ls[i] (fxOf r)])))
 fRWY0:∀(ls:List Ln)(i:Nat)(hi:i<ls.length)(c:Cm_)(bad:List Dg)(all:List El_),AR ls bad all->w0 ls[i]=wdRWY->i=0->B (s2 ls i c bad all)=some (.go (s2 ls (i+1) (flg c false false false) (bad++[dg ls[i] 9]) (all)))
 fRWY1:∀(ls:List Ln)(i:Nat)(hi:i<ls.length)(c:Cm_)(bad:List Dg)(all:List El_),AR ls bad all->w0 ls[i]=wdRWY->i≠0->B (s2 ls i c bad all)=bd (o95 ls[i]) λr=>some (.go (s2 ls (i+1) (flg c false false false) (bad++dgF r) (all++[elF ls[i] (fxOf r)])))
 fAWY0:∀(ls:List Ln)(i:Nat)(hi:i<ls.length)(c:Cm_)(bad:List Dg)(all:List El_),AR ls bad all->w0 ls[i]=wdAWY->i=0->B (s2 ls i c bad all)=some (.go (s2 ls (i+1) (flg c true false false) (bad++[dg ls[i] 9]) (all)))
 fAWY1:∀(ls:List Ln)(i:Nat)(hi:i<ls.length)(c:Cm_)(bad:List Dg)(all:List El_),AR ls bad all->w0 ls[i]=wdAWY->i≠0->B (s2 ls i c bad all)=bd (My (i:Int) (flg c true false false) bad all) λv=>bd (Jg ls[i] v.1.1 v.1.2 v.2.1 v.2.2) λr=>some (.go (s2 ls (i+1) r.1 r.2.1 r.2.2))
 fVIA0:∀(ls:List Ln)(i:Nat)(hi:i<ls.length)(c:Cm_)(bad:List Dg)(all:List El_),AR ls bad all->w0 ls[i]=wdVIA->(i=0\/c.2.2.1=false)->B (s2 ls i c bad all)=some (.go (s2 ls (i+1) (flg c c.2.2.1 false false) (bad++[dg ls[i] 9]) (all)))
 fVIA1:∀(ls:List Ln)(i:Nat)(hi:i<ls.length)(c:Cm_)(bad:List Dg)(all:List El_),AR ls bad all->w0 ls[i]=wdVIA->i≠0->c.2.2.1=true->B (s2 ls i c bad all)=some (.go (s2 ls (i+1) (flg c true false false) (bad) (all)))
 fDEP0:∀(ls:List Ln)(i:Nat)(hi:i<ls.length)(c:Cm_)(bad:List Dg)(all:List El_),AR ls bad all->w0 ls[i]=wdDEP->i=0->B (s2 ls i c bad all)=some (.go (s2 ls (i+1) (flg c false true false) (bad++[dg ls[i] 9]) (all)))
 fDEP1:∀(ls:List Ln)(i:Nat)(hi:i<ls.length)(c:Cm_)(bad:List Dg)(all:List El_),AR ls bad all->w0 ls[i]=wdDEP->i≠0->B (s2 ls i c bad all)=bd (HJ ls[i] 1 (flg c false true false) bad all) λr=>some (.go (s2 ls (i+1) r.1 r.2.1 r.2.2))
 fARR0:∀(ls:List Ln)(i:Nat)(hi:i<ls.length)(c:Cm_)(bad:List Dg)(all:List El_),AR ls bad all->w0 ls[i]=wdARR->i=0->B (s2 ls i c bad all)=some (.go (s2 ls (i+1) (flg c false true false) (bad++[dg ls[i] 9]) (all)))
 fARR1:∀(ls:List Ln)(i:Nat)(hi:i<ls.length)(c:Cm_)(bad:List Dg)(all:List El_),AR ls bad all->w0 ls[i]=wdARR->i≠0->B (s2 ls i c bad all)=bd (HJ ls[i] 2 (flg c false true false) bad all) λr=>some (.go (s2 ls (i+1) r.1 r.2.1 r.2.2))
 fAPP0:∀(ls:List Ln)(i:Nat)(hi:i<ls.length)(c:Cm_)(bad:List Dg)(all:List El_),AR ls bad all->w0 ls[i]=wdAPP->i=0->B (s2 ls i c bad all)=some (.go (s2 ls (i+1) (flg c false true false) (bad++[dg ls[i] 9]) (all)))
 fAPP1:∀(ls:List Ln)(i:Nat)(hi:i<ls.length)(c:Cm_)(bad:List Dg)(all:List El_),AR ls bad all->w0 ls[i]=wdAPP->i≠0->B (s2 ls i c bad all)=bd (HJ ls[i] 3 (flg c false true false) bad all) λr=>some (.go (s2 ls (i+1) r.1 r.2.1 r.2.2))
 fPART0:∀(ls:List Ln)(i:Nat)(hi:i<ls.length)(c:Cm_)(bad:List Dg)(all:List El_),AR ls bad all->w0 ls[i]=wdPART->(i=0\/c.2.2.2.1=false)->B (s2 ls i c bad all)=some (.go (s2 ls (i+1) (flg c false c.2.2.2.1 true) (bad++[dg ls[i] 9]) (all)))
 fPART1:∀(ls:List Ln)(i:Nat)(hi:i<ls.length)(c:Cm_)(bad:List Dg)(all:List El_),AR ls bad all->w0 ls[i]=wdPART->i≠0->c.2.2.2.1=true->B (s2 ls i c bad all)=bd (Pq ls[i] (flg c false true true) bad all) λr=>some (.go (s2 ls (i+1) r.1 r.2.2 r.2.1))
 fLEG0:∀(ls:List Ln)(i:Nat)(hi:i<ls.length)(c:Cm_)(bad:List Dg)(all:List El_),AR ls bad all->w0 ls[i]=wdLEG->(i=0\/c.2.2.2.2=false)->B (s2 ls i c bad all)=some (.go (s2 ls (i+1) (flg c false c.2.2.2.1 c.2.2.2.2) (bad++[dg ls[i] 9]) (all)))
 fLEG1:∀(ls:List Ln)(i:Nat)(hi:i<ls.length)(c:Cm_)(bad:List Dg)(all:List El_),AR ls bad all->w0 ls[i]=wdLEG->i≠0->c.2.2.2.2=true->B (s2 ls i c bad all)=bd (KY ls[i] (flg c false c.2.2.2.1 true) bad all) λr=>some (.go (s2 ls (i+1) r.1 r.2.2 r.2.1))
 fX:∀(ls:List Ln)(i:Nat)(hi:i<ls.length)(c:Cm_)(bad:List Dg)(all:List El_),AR ls bad all->w0 ls[i]≠wdDB->w0 ls[i]≠wdWP->w0 ls[i]≠wdVOR->w0 ls[i]≠wdDME->w0 ls[i]≠wdNDB->w0 ls[i]≠wdAPT->w0 ls[i]≠wdRWY->w0 ls[i]≠wdAWY->w0 ls[i]≠wdVIA->w0 ls[i]≠wdDEP->w0 ls[i]≠wdARR->w0 ls[i]≠wdAPP->w0 ls[i]≠wdPART->w0 ls[i]≠wdLEG->B (s2 ls i c bad all)=some (.go (s2 ls (i+1) (flg c false false false) (bad++[dg ls[i] 4]) (all)))
 fE:∀(ls:List Ln)(i:Nat)(c:Cm_)(bad:List Dg)(all:List El_),ls.length<=i->B (s2 ls i c bad all)=some (.done (c,bad,all))
theorem kdDEP:mpGet (0:Int) kd0 [68,69,80,65,82,84,85,82,69]=1:=by kernel_rfl
theorem kdARR:mpGet (0:Int) kd0 [65,82,82,73,86,65,76]=2:=by kernel_rfl
theorem kdAPP:mpGet (0:Int) kd0 [65,80,80,82,79,65,67,72]=3:=by kernel_rfl
set_option maxHeartbeats 4000000 in
theorem AkV:∃B:B2_,(∀c:Cm_,o43 c=loopO fuelN B (s2 c.1.1.1 0 c [] []))/\Rnd2 B:=by
 refine⟨_,λc=>rfl,?_⟩
 constructor;case fDB0=>
  intro ls i hi c bad all hs hw hi0;obtain⟨h1,h2,h3,h4⟩:=hs;have hm:=aC.2 (h2 _ (aA hi));have hw:(ls[i].2.getD 0 ([],0)).1=wdDB:=hw;unfold s2;dsimp only;rw[cndT dt,gdT dt,bdI,aB,Ad hi,gdT dt];simp only[show(0:Int).toNat=0 from rfl];simp only[hw];have z0:((i:Int)==0)=true:=Ba;simp only[qDB,z0,Av,Aj,BX,bdI,AY,BZ,dnS,bT,aI,aG,wri hi h1];rw[Aab _ _ _ (by omega)];simp only[bdbd',jdbd',bdI,AY,Aj,wri hi h1];rfl
 case fDB1=>
  intro ls i hi c bad all hs hw hi0;obtain⟨h1,h2,h3,h4⟩:=hs;have hm:=aC.2 (h2 _ (aA hi));have hw:(ls[i].2.getD 0 ([],0)).1=wdDB:=hw;unfold s2;dsimp only;rw[cndT dt,gdT dt,bdI,aB,Ad hi,gdT dt];simp only[show(0:Int).toNat=0 from rfl];simp only[hw];have z0:((i:Int)==0)=false:=AU;simp only[qDB,z0,Av,Aj,BX,bdI,AY,BZ,dnS,bT,aI,aG,wri hi h1];rw[bdS (AH (h2 _ (aA hi)) 9 _ _)];rfl
 case fWP0=>
  intro ls i hi c bad all hs hw hi0;obtain⟨h1,h2,h3,h4⟩:=hs;have hm:=aC.2 (h2 _ (aA hi));have hw:(ls[i].2.getD 0 ([],0)).1=wdWP:=hw;unfold s2;dsimp only;rw[cndT dt,gdT dt,bdI,aB,Ad hi,gdT dt];simp only[show(0:Int).toNat=0 from rfl];simp only[hw];have z0:((i:Int)==0)=true:=Ba;simp only[qWP,z0,Av,Aj,BX,bdI,AY,BZ,dnS,bT,aI,aG,wri hi h1];rw[bdS (AH (h2 _ (aA hi)) 9 _ _)];rfl
 case fWP1=>
  intro ls i hi c bad all hs hw hi0;obtain⟨h1,h2,h3,h4⟩:=hs;have hm:=aC.2 (h2 _ (aA hi));have hw:(ls[i].2.getD 0 ([],0)).1=wdWP:=hw;unfold s2;dsimp only;rw[cndT dt,gdT dt,bdI,aB,Ad hi,gdT dt];simp only[show(0:Int).toNat=0 from rfl];simp only[hw];have z0:((i:Int)==0)=false:=AU;simp only[qWP,z0,Av,Aj,BX,bdI,AY,BZ,dnS,bT,aI,aG,wri hi h1];cases o95 ls[i]with
  |none=>rfl
  |some r=>
  rw[bdI,bdI];unfold dgF;cases r.2.2.2.2 with
  |true=>
   rw[Av,gdT (dt (by simp only[aE,aH];omega)),bdI];dsimp only;rw[gdT (dt (by simp only[aE,aH];omega)),AY];simp only[Aj,wri hi h1];rfl
  |false=>
   rw[Aj,bdI];dsimp only;rw[gdT (dt (by simp only[aE,aH];omega)),AY,cond_false,aS];simp only[Aj,wri hi h1];rfl
 case fVOR0=>
  intro ls i hi c bad all hs hw hi0;obtain⟨h1,h2,h3,h4⟩:=hs;have hm:=aC.2 (h2 _ (aA hi));have hw:(ls[i].2.getD 0 ([],0)).1=wdVOR:=hw;unfold s2;dsimp only;rw[cndT dt,gdT dt,bdI,aB,Ad hi,gdT dt];simp only[show(0:Int).toNat=0 from rfl];simp only[hw];have z0:((i:Int)==0)=true:=Ba;simp only[qVOR,z0,Av,Aj,BX,bdI,AY,BZ,dnS,bT,aI,aG,wri hi h1];rw[bdS (AH (h2 _ (aA hi)) 9 _ _)];rfl
 case fVOR1=>
  intro ls i hi c bad all hs hw hi0;obtain⟨h1,h2,h3,h4⟩:=hs;have hm:=aC.2 (h2 _ (aA hi));have hw:(ls[i].2.getD 0 ([],0)).1=wdVOR:=hw;unfold s2;dsimp only;rw[cndT dt,gdT dt,bdI,aB,Ad hi,gdT dt];simp only[show(0:Int).toNat=0 from rfl];simp only[hw];have z0:((i:Int)==0)=false:=AU;simp only[qVOR,z0,Av,Aj,BX,bdI,AY,BZ,dnS,bT,aI,aG,wri hi h1];cases o95 ls[i]with
  |none=>rfl
  |some r=>
  rw[bdI,bdI];unfold dgF;cases r.2.2.2.2 with
  |true=>
   rw[Av,gdT (dt (by simp only[aE,aH];omega)),bdI];dsimp only;rw[gdT (dt (by simp only[aE,aH];omega)),AY];simp only[Aj,wri hi h1];rfl
  |false=>
   rw[Aj,bdI];dsimp only;rw[gdT (dt (by simp only[aE,aH];omega)),AY,cond_false,aS];simp only[Aj,wri hi h1];rfl
 case fDME0=>
  intro ls i hi c bad all hs hw hi0;obtain⟨h1,h2,h3,h4⟩:=hs;have hm:=aC.2 (h2 _ (aA hi));have hw:(ls[i].2.getD 0 ([],0)).1=wdDME:=hw;unfold s2;dsimp only;rw[cndT dt,gdT dt,bdI,aB,Ad hi,gdT dt];simp only[show(0:Int).toNat=0 from rfl];simp only[hw];have z0:((i:Int)==0)=true:=Ba;simp only[qDME,z0,Av,Aj,BX,bdI,AY,BZ,dnS,bT,aI,aG,wri hi h1];rw[bdS (AH (h2 _ (aA hi)) 9 _ _)];rfl
 case fDME1=>
  intro ls i hi c bad all hs hw hi0;obtain⟨h1,h2,h3,h4⟩:=hs;have hm:=aC.2 (h2 _ (aA hi));have hw:(ls[i].2.getD 0 ([],0)).1=wdDME:=hw;unfold s2;dsimp only;rw[cndT dt,gdT dt,bdI,aB,Ad hi,gdT dt];simp only[show(0:Int).toNat=0 from rfl];simp only[hw];have z0:((i:Int)==0)=false:=AU;simp only[qDME,z0,Av,Aj,BX,bdI,AY,BZ,dnS,bT,aI,aG,wri hi h1];cases o95 ls[i]with
  |none=>rfl
  |some r=>
  rw[bdI,bdI];unfold dgF;cases r.2.2.2.2 with
  |true=>
   rw[Av,gdT (dt (by simp only[aE,aH];omega)),bdI];dsimp only;rw[gdT (dt (by simp only[aE,aH];omega)),AY];simp only[Aj,wri hi h1];rfl
  |false=>
   rw[Aj,bdI];dsimp only;rw[gdT (dt (by simp only[aE,aH];omega)),AY,cond_false,aS];simp only[Aj,wri hi h1];rfl
 case fNDB0=>
  intro ls i hi c bad all hs hw hi0;obtain⟨h1,h2,h3,h4⟩:=hs;have hm:=aC.2 (h2 _ (aA hi));have hw:(ls[i].2.getD 0 ([],0)).1=wdNDB:=hw;unfold s2;dsimp only;rw[cndT dt,gdT dt,bdI,aB,Ad hi,gdT dt];simp only[show(0:Int).toNat=0 from rfl];simp only[hw];have z0:((i:Int)==0)=true:=Ba;simp only[qNDB,z0,Av,Aj,BX,bdI,AY,BZ,dnS,bT,aI,aG,wri hi h1];rw[bdS (AH (h2 _ (aA hi)) 9 _ _)];rfl
 case fNDB1=>
  intro ls i hi c bad all hs hw hi0;obtain⟨h1,h2,h3,h4⟩:=hs;have hm:=aC.2 (h2 _ (aA hi));have hw:(ls[i].2.getD 0 ([],0)).1=wdNDB:=hw;unfold s2;dsimp only;rw[cndT dt,gdT dt,bdI,aB,Ad hi,gdT dt];simp only[show(0:Int).toNat=0 from rfl];simp only[hw];have z0:((i:Int)==0)=false:=AU;simp only[qNDB,z0,Av,Aj,BX,bdI,AY,BZ,dnS,bT,aI,aG,wri hi h1];cases o95 ls[i]with
  |none=>rfl
  |some r=>
  rw[bdI,bdI];unfold dgF;cases r.2.2.2.2 with
  |true=>
   rw[Av,gdT (dt (by simp only[aE,aH];omega)),bdI];dsimp only;rw[gdT (dt (by simp only[aE,aH];omega)),AY];simp only[Aj,wri hi h1];rfl
  |false=>
   rw[Aj,bdI];dsimp only;rw[gdT (dt (by simp only[aE,aH];omega)),AY,cond_false,aS];simp only[Aj,wri hi h1];rfl
 case fAPT0=>
  intro ls i hi c bad all hs hw hi0;obtain⟨h1,h2,h3,h4⟩:=hs;have hm:=aC.2 (h2 _ (aA hi));have hw:(ls[i].2.getD 0 ([],0)).1=wdAPT:=hw;unfold s2;dsimp only;rw[cndT dt,gdT dt,bdI,aB,Ad hi,gdT dt];simp only[show(0:Int).toNat=0 from rfl];simp only[hw];have z0:((i:Int)==0)=true:=Ba;simp only[qAPT,z0,Av,Aj,BX,bdI,AY,BZ,dnS,bT,aI,aG,wri hi h1];rw[bdS (AH (h2 _ (aA hi)) 9 _ _)];rfl
 case fAPT1=>
  intro ls i hi c bad all hs hw hi0;obtain⟨h1,h2,h3,h4⟩:=hs;have hm:=aC.2 (h2 _ (aA hi));have hw:(ls[i].2.getD 0 ([],0)).1=wdAPT:=hw;unfold s2;dsimp only;rw[cndT dt,gdT dt,bdI,aB,Ad hi,gdT dt];simp only[show(0:Int).toNat=0 from rfl];simp only[hw];have z0:((i:Int)==0)=false:=AU;simp only[qAPT,z0,Av,Aj,BX,bdI,AY,BZ,dnS,bT,aI,aG,wri hi h1];cases o95 ls[i]with
  |none=>rfl
  |some r=>
  rw[bdI,bdI];unfold dgF;cases r.2.2.2.2 with
  |true=>
   rw[Av,gdT (dt (by simp only[aE,aH];omega)),bdI];dsimp only;rw[gdT (dt (by simp only[aE,aH];omega)),AY];simp only[Aj,wri hi h1];rfl
  |false=>
   rw[Aj,bdI];dsimp only;rw[gdT (dt (by simp only[aE,aH];omega)),AY,cond_false,aS];simp only[Aj,wri hi h1];rfl
 case fRWY0=>
  intro ls i hi c bad all hs hw hi0;obtain⟨h1,h2,h3,h4⟩:=hs;have hm:=aC.2 (h2 _ (aA hi));have hw:(ls[i].2.getD 0 ([],0)).1=wdRWY:=hw;unfold s2;dsimp only;rw[cndT dt,gdT dt,bdI,aB,Ad hi,gdT dt];simp only[show(0:Int).toNat=0 from rfl];simp only[hw];have z0:((i:Int)==0)=true:=Ba;simp only[qRWY,z0,Av,Aj,BX,bdI,AY,BZ,dnS,bT,aI,aG,wri hi h1];rw[bdS (AH (h2 _ (aA hi)) 9 _ _)];rfl
 case fRWY1=>
  intro ls i hi c bad all hs hw hi0;obtain⟨h1,h2,h3,h4⟩:=hs;have hm:=aC.2 (h2 _ (aA hi));have hw:(ls[i].2.getD 0 ([],0)).1=wdRWY:=hw;unfold s2;dsimp only;rw[cndT dt,gdT dt,bdI,aB,Ad hi,gdT dt];simp only[show(0:Int).toNat=0 from rfl];simp only[hw];have z0:((i:Int)==0)=false:=AU;simp only[qRWY,z0,Av,Aj,BX,bdI,AY,BZ,dnS,bT,aI,aG,wri hi h1];cases o95 ls[i]with
  |none=>rfl
  |some r=>
  rw[bdI,bdI];unfold dgF;cases r.2.2.2.2 with
  |true=>
   rw[Av,gdT (dt (by simp only[aE,aH];omega)),bdI];dsimp only;rw[gdT (dt (by simp only[aE,aH];omega)),AY];simp only[Aj,wri hi h1];rfl
  |false=>
   rw[Aj,bdI];dsimp only;rw[gdT (dt (by simp only[aE,aH];omega)),AY,cond_false,aS];simp only[Aj,wri hi h1];rfl
 case fAWY0=>
  intro ls i hi c bad all hs hw hi0;obtain⟨h1,h2,h3,h4⟩:=hs;have hm:=aC.2 (h2 _ (aA hi));have hw:(ls[i].2.getD 0 ([],0)).1=wdAWY:=hw;unfold s2;dsimp only;rw[cndT dt,gdT dt,bdI,aB,Ad hi,gdT dt];simp only[show(0:Int).toNat=0 from rfl];simp only[hw];have z0:((i:Int)==0)=true:=Ba;simp only[qAWY,z0,Av,Aj,BX,bdI,AY,BZ,dnS,bT,aI,aG,wri hi h1];rw[bdS (AH (h2 _ (aA hi)) 9 _ _)];rfl
 case fAWY1=>
  intro ls i hi c bad all hs hw hi0;obtain⟨h1,h2,h3,h4⟩:=hs;have hm:=aC.2 (h2 _ (aA hi));have hw:(ls[i].2.getD 0 ([],0)).1=wdAWY:=hw;unfold s2;dsimp only;rw[cndT dt,gdT dt,bdI,aB,Ad hi,gdT dt];simp only[show(0:Int).toNat=0 from rfl];simp only[hw];have z0:((i:Int)==0)=false:=AU;simp only[qAWY,z0,Av,Aj,BX,bdI,AY,BZ,dnS,bT,aI,aG,wri hi h1];simp only[jdbd',AY,Aj,kdDEP,kdARR,kdAPP,wri hi h1];rfl
 case fVIA0=>
  intro ls i hi c bad all hs hw hz;obtain⟨h1,h2,h3,h4⟩:=hs;have hm:=aC.2 (h2 _ (aA hi));have hw:(ls[i].2.getD 0 ([],0)).1=wdVIA:=hw;unfold s2;dsimp only;rw[cndT dt,gdT dt,bdI,aB,Ad hi,gdT dt];simp only[show(0:Int).toNat=0 from rfl];simp only[hw];rcases hz with hz|hz
  ·have z0:((i:Int)==0)=true:=Ba;simp only[qVIA,z0,Av,Aj,BX,bdI,AY,BZ,dnS,bT,aI,aG,wri hi h1];rw[bdS (AH (h2 _ (aA hi)) 9 _ _)];rfl
  ·rw[hz];cases z0:((i:Int)==0)with
   |true=>simp only[qVIA,Av,Aj,BX,bdI,AY,BZ,dnS,bT,aI,aG,wri hi h1,hz];rw[bdS (AH (h2 _ (aA hi)) 9 _ _)];rfl
   |false=>simp only[qVIA,Av,Aj,BX,bdI,AY,BZ,dnS,bT,aI,aG,wri hi h1,hz];rw[bdS (AH (h2 _ (aA hi)) 9 _ _)];rfl
 case fVIA1=>
  intro ls i hi c bad all hs hw hi0 hz;obtain⟨h1,h2,h3,h4⟩:=hs;have hm:=aC.2 (h2 _ (aA hi));have hw:(ls[i].2.getD 0 ([],0)).1=wdVIA:=hw;unfold s2;dsimp only;rw[cndT dt,gdT dt,bdI,aB,Ad hi,gdT dt];simp only[show(0:Int).toNat=0 from rfl];simp only[hw];have z0:((i:Int)==0)=false:=AU;simp only[qVIA,z0,hz,Av,Aj,BX,bdI,AY,BZ,dnS,bT,aI,aG,wri hi h1];rfl
 case fDEP0=>
  intro ls i hi c bad all hs hw hi0;obtain⟨h1,h2,h3,h4⟩:=hs;have hm:=aC.2 (h2 _ (aA hi));have hw:(ls[i].2.getD 0 ([],0)).1=wdDEP:=hw;unfold s2;dsimp only;rw[cndT dt,gdT dt,bdI,aB,Ad hi,gdT dt];simp only[show(0:Int).toNat=0 from rfl];simp only[hw];have z0:((i:Int)==0)=true:=Ba;simp only[qDEP,z0,Av,Aj,BX,bdI,AY,BZ,dnS,bT,aI,aG,wri hi h1];rw[bdS (AH (h2 _ (aA hi)) 9 _ _)];rfl
 case fDEP1=>
  intro ls i hi c bad all hs hw hi0;obtain⟨h1,h2,h3,h4⟩:=hs;have hm:=aC.2 (h2 _ (aA hi));have hw:(ls[i].2.getD 0 ([],0)).1=wdDEP:=hw;unfold s2;dsimp only;rw[cndT dt,gdT dt,bdI,aB,Ad hi,gdT dt];simp only[show(0:Int).toNat=0 from rfl];simp only[hw];have z0:((i:Int)==0)=false:=AU;simp only[qDEP,z0,Av,Aj,BX,bdI,AY,BZ,dnS,bT,aI,aG,wri hi h1];simp only[jdbd',AY,Aj,kdDEP,kdARR,kdAPP,wri hi h1];rfl
 case fARR0=>
  intro ls i hi c bad all hs hw hi0;obtain⟨h1,h2,h3,h4⟩:=hs;have hm:=aC.2 (h2 _ (aA hi));have hw:(ls[i].2.getD 0 ([],0)).1=wdARR:=hw;unfold s2;dsimp only;rw[cndT dt,gdT dt,bdI,aB,Ad hi,gdT dt];simp only[show(0:Int).toNat=0 from rfl];simp only[hw];have z0:((i:Int)==0)=true:=Ba;simp only[qARR,z0,Av,Aj,BX,bdI,AY,BZ,dnS,bT,aI,aG,wri hi h1];rw[bdS (AH (h2 _ (aA hi)) 9 _ _)];rfl
 case fARR1=>
  intro ls i hi c bad all hs hw hi0;obtain⟨h1,h2,h3,h4⟩:=hs;have hm:=aC.2 (h2 _ (aA hi));have hw:(ls[i].2.getD 0 ([],0)).1=wdARR:=hw;unfold s2;dsimp only;rw[cndT dt,gdT dt,bdI,aB,Ad hi,gdT dt];simp only[show(0:Int).toNat=0 from rfl];simp only[hw];have z0:((i:Int)==0)=false:=AU;simp only[qARR,z0,Av,Aj,BX,bdI,AY,BZ,dnS,bT,aI,aG,wri hi h1];simp only[jdbd',AY,Aj,kdDEP,kdARR,kdAPP,wri hi h1];rfl
 case fAPP0=>
  intro ls i hi c bad all hs hw hi0;obtain⟨h1,h2,h3,h4⟩:=hs;have hm:=aC.2 (h2 _ (aA hi));have hw:(ls[i].2.getD 0 ([],0)).1=wdAPP:=hw;unfold s2;dsimp only;rw[cndT dt,gdT dt,bdI,aB,Ad hi,gdT dt];simp only[show(0:Int).toNat=0 from rfl];simp only[hw];have z0:((i:Int)==0)=true:=Ba;simp only[qAPP,z0,Av,Aj,BX,bdI,AY,BZ,dnS,bT,aI,aG,wri hi h1];rw[bdS (AH (h2 _ (aA hi)) 9 _ _)];rfl
 case fAPP1=>
  intro ls i hi c bad all hs hw hi0;obtain⟨h1,h2,h3,h4⟩:=hs;have hm:=aC.2 (h2 _ (aA hi));have hw:(ls[i].2.getD 0 ([],0)).1=wdAPP:=hw;unfold s2;dsimp only;rw[cndT dt,gdT dt,bdI,aB,Ad hi,gdT dt];simp only[show(0:Int).toNat=0 from rfl];simp only[hw];have z0:((i:Int)==0)=false:=AU;simp only[qAPP,z0,Av,Aj,BX,bdI,AY,BZ,dnS,bT,aI,aG,wri hi h1];simp only[jdbd',AY,Aj,kdDEP,kdARR,kdAPP,wri hi h1];rfl
 case fPART0=>
  intro ls i hi c bad all hs hw hz;obtain⟨h1,h2,h3,h4⟩:=hs;have hm:=aC.2 (h2 _ (aA hi));have hw:(ls[i].2.getD 0 ([],0)).1=wdPART:=hw;unfold s2;dsimp only;rw[cndT dt,gdT dt,bdI,aB,Ad hi,gdT dt];simp only[show(0:Int).toNat=0 from rfl];simp only[hw];rcases hz with hz|hz
  ·have z0:((i:Int)==0)=true:=Ba;simp only[qPART,z0,Av,Aj,BX,bdI,AY,BZ,dnS,bT,aI,aG,wri hi h1];rw[bdS (AH (h2 _ (aA hi)) 9 _ _)];rfl
  ·cases z0:((i:Int)==0)with
   |true=>simp only[qPART,Av,Aj,BX,bdI,AY,BZ,dnS,bT,aI,aG,wri hi h1,hz];rw[bdS (AH (h2 _ (aA hi)) 9 _ _)];rfl
   |false=>simp only[qPART,Av,Aj,BX,bdI,AY,BZ,dnS,bT,aI,aG,wri hi h1,hz];rw[bdS (AH (h2 _ (aA hi)) 9 _ _)];rfl
 case fPART1=>
  intro ls i hi c bad all hs hw hi0 hz;obtain⟨h1,h2,h3,h4⟩:=hs;have hm:=aC.2 (h2 _ (aA hi));have hw:(ls[i].2.getD 0 ([],0)).1=wdPART:=hw;unfold s2;dsimp only;rw[cndT dt,gdT dt,bdI,aB,Ad hi,gdT dt];simp only[show(0:Int).toNat=0 from rfl];simp only[hw];have z0:((i:Int)==0)=false:=AU;simp only[qPART,z0,hz,Av,Aj,BX,bdI,AY,BZ,dnS,bT,aI,aG,wri hi h1];simp only[jdbd',AY,Aj,kdDEP,kdARR,kdAPP,wri hi h1];rfl
 case fLEG0=>
  intro ls i hi c bad all hs hw hz;obtain⟨h1,h2,h3,h4⟩:=hs;have hm:=aC.2 (h2 _ (aA hi));have hw:(ls[i].2.getD 0 ([],0)).1=wdLEG:=hw;unfold s2;dsimp only;rw[cndT dt,gdT dt,bdI,aB,Ad hi,gdT dt];simp only[show(0:Int).toNat=0 from rfl];simp only[hw];rcases hz with hz|hz
  ·have z0:((i:Int)==0)=true:=Ba;simp only[qLEG,z0,Av,Aj,BX,bdI,AY,BZ,dnS,bT,aI,aG,wri hi h1];rw[bdS (AH (h2 _ (aA hi)) 9 _ _)];rfl
  ·cases z0:((i:Int)==0)with
   |true=>simp only[qLEG,Av,Aj,BX,bdI,AY,BZ,dnS,bT,aI,aG,wri hi h1,hz];rw[bdS (AH (h2 _ (aA hi)) 9 _ _)];rfl
   |false=>simp only[qLEG,Av,Aj,BX,bdI,AY,BZ,dnS,bT,aI,aG,wri hi h1,hz];rw[bdS (AH (h2 _ (aA hi)) 9 _ _)];rfl
 case fLEG1=>
  intro ls i hi c bad all hs hw hi0 hz;obtain⟨h1,h2,h3,h4⟩:=hs;have hm:=aC.2 (h2 _ (aA hi));have hw:(ls[i].2.getD 0 ([],0)).1=wdLEG:=hw;unfold s2;dsimp only;rw[cndT dt,gdT dt,bdI,aB,Ad hi,gdT dt];simp only[show(0:Int).toNat=0 from rfl];simp only[hw];have z0:((i:Int)==0)=false:=AU;simp only[qLEG,z0,hz,Av,Aj,BX,bdI,AY,BZ,dnS,bT,aI,aG,wri hi h1];simp only[jdbd',AY,Aj,kdDEP,kdARR,kdAPP,wri hi h1];rfl
 case fX=>
  intro ls i hi c bad all hs nDB nWP nVOR nDME nNDB nAPT nRWY nAWY nVIA nDEP nARR nAPP nPART nLEG;obtain⟨h1,h2,h3,h4⟩:=hs;have hm:=aC.2 (h2 _ (aA hi));have nDB:((ls[i].2.getD 0 ([],0)).1==wdDB)=false:=lne nDB;have nWP:((ls[i].2.getD 0 ([],0)).1==wdWP)=false:=lne nWP;have nVOR:((ls[i].2.getD 0 ([],0)).1==wdVOR)=false:=lne nVOR;have nDME:((ls[i].2.getD 0 ([],0)).1==wdDME)=false:=lne nDME;have nNDB:((ls[i].2.getD 0 ([],0)).1==wdNDB)=false:=lne nNDB;have nAPT:((ls[i].2.getD 0 ([],0)).1==wdAPT)=false:=lne nAPT;have nRWY:((ls[i].2.getD 0 ([],0)).1==wdRWY)=false:=lne nRWY;have nAWY:((ls[i].2.getD 0 ([],0)).1==wdAWY)=false:=lne nAWY;have nVIA:((ls[i].2.getD 0 ([],0)).1==wdVIA)=false:=lne nVIA;have nDEP:((ls[i].2.getD 0 ([],0)).1==wdDEP)=false:=lne nDEP;have nARR:((ls[i].2.getD 0 ([],0)).1==wdARR)=false:=lne nARR;have nAPP:((ls[i].2.getD 0 ([],0)).1==wdAPP)=false:=lne nAPP;have nPART:((ls[i].2.getD 0 ([],0)).1==wdPART)=false:=lne nPART;have nLEG:((ls[i].2.getD 0 ([],0)).1==wdLEG)=false:=lne nLEG;unfold s2;dsimp only;rw[cndT dt,gdT dt,bdI,aB,Ad hi,gdT dt];simp only[show(0:Int).toNat=0 from rfl];simp only[nDB,nWP,nVOR,nDME,nNDB,nAPT,nRWY,nAWY,nVIA,nDEP,nARR,nAPP,nPART,nLEG,Av,Aj,BX,bdI,AY,BZ,dnS,bT,aI,aG,wri hi h1];rw[jdbd',bdS (AH (h2 _ (aA hi)) 4 _ _)];rfl
 case fE=>
  intro ls i c bad all h;unfold s2;dsimp only;rw[cndF df];rfl
theorem AkW(h:okR' l):Tot (λr=>r.1.1.length<=200/\r.2.length<=1) (hdW l):=by obtain⟨hne,hl,hn,hf⟩:=h;unfold hdW;rw[bdS (DZ (l:=l))];refine tB (FF (SI0 l.2 l.1 1) hf hl) λv2 h2=>?_;obtain⟨t2,s2,f2⟩:=v2;obtain⟨rfl,g2,l2⟩:=h2;refine tB (IJ 8 g2.si hf hl) λv3 h3=>?_;obtain⟨t3,s3,f3⟩:=v3;obtain⟨e3,g3,l3⟩:=h3;dsimp only at e3 g3 l3⊢;subst e3;refine tB (FF g3.si hf hl) λv4 h4=>?_;obtain⟨t4,s4,f4⟩:=v4;obtain⟨e4,g4,l4⟩:=h4;dsimp only at e4 g4 l4⊢;subst e4;refine tB (Afk t4 (by omega)) λv5 _=>tB (Lv g4.si v5.2) λv6 h6=>?_;obtain⟨s6,f6⟩:=v6;obtain⟨e6,g6,l6⟩:=h6;dsimp only at e6 g6 l6⊢;subst e6;refine tB (tT (Lu v5.1)) λv7 _=>tB (ZU g6.si hf hl) λv8 h8=>?_;obtain⟨t8,s8,f8⟩:=v8;obtain⟨e8,g8,l8⟩:=h8;dsimp only at e8 g8 l8⊢;subst e8;exact tB (IK g8.si) λv9 _=>tS ⟨l3,Aaa v9⟩
theorem AkX(h:okR' l):Tot (λr=>(r.1.1.length<=200/\r.1.2.length<=200)/\r.2.length<=1) (prW l):=by obtain⟨hne,hl,hn,hf⟩:=h;unfold prW;rw[bdS (DZ (l:=l))];refine tB (FF (SI0 l.2 l.1 1) hf hl) λv2 h2=>?_;obtain⟨t2,s2,f2⟩:=v2;obtain⟨rfl,g2,l2⟩:=h2;refine tB (IJ 6 g2.si hf hl) λv3 h3=>?_;obtain⟨t3,s3,f3⟩:=v3;obtain⟨e3,g3,l3⟩:=h3;dsimp only at e3 g3 l3⊢;subst e3;refine tB (IJ 8 g3.si hf hl) λv4 h4=>?_;obtain⟨t4,s4,f4⟩:=v4;obtain⟨e4,g4,l4⟩:=h4;dsimp only at e4 g4 l4⊢;subst e4;exact tB (IK g4.si) λv9 _=>tS ⟨⟨l3,l4⟩,Aaa v9⟩
theorem AkY(h:okR' l):Tot (λr=>r.1.2.length<=200/\r.2.length<=1) (paW l):=by
 obtain⟨hne,hl,hn,hf⟩:=h;unfold paW;rw[bdS (DZ (l:=l))];refine tB (FF (SI0 l.2 l.1 1) hf hl) λv2 h2=>?_;obtain⟨t2,s2,f2⟩:=v2;obtain⟨rfl,g2,l2⟩:=h2;refine tB (P:=λv=>v.1.2.length<=200/\v.2.2=l.2/\SI l.2 v.2.1) ?_ λv6 h6=>?_
 ·refine tB (Lw _ (by decide) g2.si hf hl) λv3 h3=>?_;obtain⟨k,s3,f3⟩:=v3;obtain⟨e3,g3,hk,p3⟩:=h3;dsimp only at e3 g3⊢;subst e3;refine tC (λ_=>tB (IJ 8 g3.si hf hl) λv4 h4=>tS ⟨h4.2.2,h4.1,h4.2.1.si⟩) λ_=>tC (λ_=>tS ⟨by simp,rfl,g3.si⟩) λ_=>tC (λ_=>tB (IJ 8 g3.si hf hl) λv4 h4=>tS ⟨h4.2.2,h4.1,h4.2.1.si⟩) λ_=>tC (λ_=>tS ⟨by simp,rfl,g3.si⟩) λ_=>tS ⟨by simp,rfl,g3.si⟩
 ·obtain⟨x,s6,f6⟩:=v6;obtain⟨l6,e6,g6⟩:=h6;dsimp only at l6 e6 g6⊢;subst e6;exact tB (IK g6) λv9 _=>tS ⟨l6,Aaa v9⟩
theorem TV:∀(l:List Bt),(∀w∈l,w.length<=200)->(jnT [32] l).length<=201*l.length
 | [],_=>by simp[jnT]
 |x::l,h=>by have h1:=h x (aT ..);have h2:=TV l λw hw=>h w (bD _ hw);show([32]++(x++jnT [32] l)).length<=_;simp only[aD,aE,aH];omega
theorem AfP(hf:∀f∈fs,okF' f)(hl:fs.length<=200):Tot (λr=>r.length<=45000) (o220 fs):=by
 unfold o220;refine tL (λt=>∃(i:Nat)(out:List Bt),t=((fs,((fs.length:Nat):Int)),(i:Int),out)/\i<=fs.length/\out.length=i/\∀w∈out,w.length<=200) (λt=>fs.length-t.2.1.toNat) ?_ ⟨0,[],rfl,by omega,rfl,λw hw=>by cases hw⟩ (by simp only;omega);rintro _ ⟨i,out,rfl,hi,ho,hw⟩;dsimp only;refine tC (λhlt=>?_) λ_=>tDn ?_
 ·have hlt:=dT hlt;have hi2:i<fs.length:=by omega
  refine tG dt ?_;rw[bdI,aB,Ad hi2,Ac];refine tG (dt (by simp only[aE,aH];omega)) (tGo ⟨⟨i+1,_,by rw[show(i:Int)+1=((i+1:Nat):Int) by omega],by omega,by simp;exact ho,λw hm=>?_⟩,by simp only;omega⟩);rcases aP.1 hm with h1|h1
  ·exact hw w h1
  ·rw[aK]at h1;subst h1;exact(hf _ (aA hi2)).2.1
 ·have:(jnS [32] out).length<=45000:=by
   cases out with
   |nil=>simp[jnS]
   |cons x l=>
    have h1:=hw x (aT ..);have h2:=TV l λw hm=>hw w (bD _ hm);have h3:l.length+1<=200:=by have:(x::l).length=i:=ho;simp at this;omega
    show(x++jnT [32] l).length<=_;rw[aD];omega
  refine tB (P:=λv=>v.length<=45000) ⟨jnS [32] out,?_,this⟩ λv hv=>tS hv;unfold o53;rw[dt,cond_true]
theorem AfQ(h:SI fs s)(hf:∀f∈fs,okF' f)(hl:fs.length<=200):Tot (λr=>r.1.length<=45000) (o167 s fs):=by
 unfold o167;refine tB (P:=λv=>v=0\/v=(fs.length:Int)-s.1.2.1) ?_ λv hv=>?_
 ·unfold o219;refine tB (P:=λ_=>True) ⟨_,rfl,trivial⟩ λb _=>tC (λ_=>tS (.inl rfl)) λ_=>tS (.inr ?_);have h1:=h.1;have h2:=h.2;show aF .i64 ((fs.length:Int)-s.1.2.1)=_;exact Ac
 ·refine tC (λ_=>tS) λhn=>?_;have hn:=eF hn;have h1:=h.1;have h2:=h.2;refine tG dt (tG dt ?_);exact tB (AfP (λf hm=>hf f (bG (bF hm))) (by rw[aL,aN];omega)) λv2 h2=>tS h2
theorem AfR(h:okR' l):Tot (λr=>(r.1.2.1.length<=50000/\r.1.2.2.1.length<=50000)/\r.2.length<=1) (legW l):=by obtain⟨hne,hl,hn,hf⟩:=h;unfold legW;rw[bdS (DZ (l:=l))];refine tB (FF (SI0 l.2 l.1 1) hf hl) λv2 h2=>?_;obtain⟨t2,s2,f2⟩:=v2;obtain⟨rfl,g2,l2⟩:=h2;refine tB (AfQ g2.si hf hl) λv3 h3=>tB (AfO v3.1 (by omega)) λv4 h4=>tS ⟨h4,?_⟩;show bE (α:=Dg) (cond _ _ _)<=1;generalize(cond (v3.1==[]) (4:Int) v4.2.2.2.2 !=0)=b;cases b<;>simp
def gf(f:Be):Fx_:=((f.1,f.2.1,f.2.2.1),f.2.2.2)
def PzE(n:Nat)(p:Bh)(g:List Ln):Prop:=p.2.1.length<=200/\p.2.2.length=g.length/\g.length<=n/\(∀l∈g,okR' l)/\∀x∈p.2.2,x.2.1.length<=50000/\x.2.2.1.length<=50000
def Pz(n:Nat)(ps:List Bh)(gs:List (List Ln)):Prop:=gs.length=ps.length/\∀i(h:i<ps.length)(h2:i<gs.length),PzE n ps[i] gs[i]
def SE(n:Nat)(e:El_):Prop:=okR' e.2.1/\(e.1=102\/e.1=97\/e.1=112)/\(e.2.2.1.1.length<=200/\e.2.2.1.2.1.length<=200)/\airT e.2.2.2.1/\(∀l∈e.2.2.2.2.1,okR' l)/\((eP e).1.length<=200/\(eP e).2.1.length<=200)/\(∀l∈eQ e,okR' l)/\(eQ e).length=(eP e).2.2.2.length/\(eP e).2.2.2.length<=n/\Pz n (eP e).2.2.2 (eG e)
def GE(e:El_):Prop:=(e.1=102->FixOk (gf e.2.2.1))/\(e.1=97->AirOk e.2.2.2.1 e.2.2.2.2.1.length)
def TE(e:El_):Nat:=1+e.2.2.2.1.2.length+(eP e).2.2.2.length+((eP e).2.2.2.map λp=>p.2.2.length).sum
theorem PzE.mono{m:Nat}(h:n<=m){p:Bh}{g:List Ln}(k:PzE n p g):PzE m p g:=⟨k.1,k.2.1,cS k.2.2.1 h,k.2.2.2⟩
theorem SE.mono{n m:Nat}(h:n<=m){e:El_}(k:SE n e):SE m e:=by obtain⟨a,b,c,d,x,y,z,u,v,w1,w2⟩:=k;exact⟨a,b,c,d,x,y,z,u,cS v h,w1,λi h1 h2=>(w2 i h1 h2).mono h⟩
theorem SE.short(hn:n<=100000)(k:SE n e):shortE e/\shapeE e:=by
 obtain⟨a,b,c,d,x,y,z,u,v,w1,w2⟩:=k;refine⟨⟨by omega,by omega,by omega⟩,by omega,w1,λp hp=>?_,λg hg=>?_⟩
 ·obtain⟨i,hi,rfl⟩:=aX hp;have:=w2 i hi (by omega);have h1:=this.2.1;have h2:=this.2.2.1;omega
 ·obtain⟨i,hi,rfl⟩:=aX hg;have:=w2 i (by omega) hi;have h2:=this.2.2.1;omega
def stP(e:El_)(l:Ln)(x:Int×Bt):El_:=if e.1=112 then addP e l x else e
def stG(e:El_)(l:Ln)(g:Bw):El_:=if e.1=112 then addG e l g else e
theorem HQ(I:List α)(e d:α):(I++[e]).getD ((I++[e]).length-1) d=e:=by rw[show(I++[e]).length-1=I.length by simp,aV,bA (aQ _),bL];rfl
theorem Ly(I:List α)(e x:α):(I++[e]).set ((I++[e]).length-1) x=I++[x]:=by rw[show(I++[e]).length-1=I.length by simp,bO _ _ (aQ _),bL];rfl
theorem Aac(l:Ln)(x:Int×Bt):updP [] l x=[]:=rfl
theorem Aad(l:Ln)(g:Bw):updG [] l g=[]:=rfl
theorem Qt(I:List El_)(e:El_)(l:Ln)(x:Int×Bt):updP (I++[e]) l x=I++[stP e l x]:=by
 unfold updP stP;rw[HQ];by_cases h:e.1=112
 ·rw[if_pos h,if_pos ⟨by simp,h⟩,Ly]
 ·rw[if_neg h,if_neg (λk=>h k.2)]
theorem Qu(I:List El_)(e:El_)(l:Ln)(g:Bw):updG (I++[e]) l g=I++[stG e l g]:=by
 unfold updG stG;rw[HQ];by_cases h:e.1=112
 ·rw[if_pos h,if_pos ⟨by simp,h⟩,Ly]
 ·rw[if_neg h,if_neg (λk=>h k.2)]
theorem AcA{x:Int×Bt}(h:SE n e)(hl:okR' l)(hx:x.2.length<=200):SE (n+1) (addP e l x)/\TE (addP e l x)=TE e+1:=by
 obtain⟨a,b,c,d,y,z,u,v,w,p1,p2⟩:=h;refine⟨⟨a,b,c,d,y,z,?_,?_,?_,?_,?_⟩,?_⟩
 ·intro m hm;rcases aP.1 (show m∈eQ e++[l]from hm)with h1|h1
  ·exact u m h1
  ·rw[aK]at h1;subst h1;exact hl
 ·show(eQ e++[l]).length=((eP e).2.2.2++[(x.1,x.2,([]:List Bw))]).length;rw[aD,aD,v];rfl
 ·show((eP e).2.2.2++[(x.1,x.2,([]:List Bw))]).length<=_;rw[aD];simp;omega
 ·show(eG e++[[]]).length=((eP e).2.2.2++[(x.1,x.2,([]:List Bw))]).length;rw[aD,aD,p1];rfl
 ·intro i h1 h2;have h1:i<((eP e).2.2.2++[(x.1,x.2,([]:List Bw))]).length:=h1;have h2:i<(eG e++[[]]).length:=h2;show PzE (n+1) (((eP e).2.2.2++[(x.1,x.2,([]:List Bw))])[i]) ((eG e++[[]])[i]);rw[aD]at h1;by_cases hi:i<(eP e).2.2.2.length
  ·rw[cC hi,cC (show i<(eG e).length by omega)];exact(p2 i hi (by omega)).mono (by omega)
  ·have e1:((eP e).2.2.2++[(x.1,x.2,([]:List Bw))])[i]=(x.1,x.2,([]:List Bw)):=by rw[bY (by omega)];simp
   have e2:(eG e++[[]])[i]=[]:=by rw[bY (by omega)];simp
   rw[e1,e2];exact⟨hx,rfl,by simp,λm hm=>(by cases hm),λm hm=>(by cases hm)⟩
 ·show 1+e.2.2.2.1.2.length+((eP e).2.2.2++[(x.1,x.2,([]:List Bw))]).length+((((eP e).2.2.2++[(x.1,x.2,([]:List Bw))])).map λp=>p.2.2.length).sum=_;rw[aD,bJ,bI];unfold TE;simp;omega
theorem TW{α:Type}(f:α->Nat):∀(l:List α)(i:Nat)(x:α)(h:i<l.length),((l.set i x).map f).sum+f l[i]=(l.map f).sum+f x
 |y::l,0,x,h=>by simp;omega
 |y::l,i+1,x,h=>by have:=TW f l i x (by simpa using h);simp only[List.set_cons_succ,List.map_cons,List.sum_cons,List.getElem_cons_succ];omega
theorem AcB{g:Bw}(h:SE n e)(hl:okR' l)(hg:g.2.1.length<=50000/\g.2.2.1.length<=50000):SE (n+1) (addG e l g)/\TE (addG e l g)<=TE e+1/\(addG e l g).1=e.1:=by
 unfold addG;by_cases hk:0<(eP e).2.2.2.length
 ·rw[if_pos hk];obtain⟨a,b,c,d,y,z,u,v,w,p1,p2⟩:=h;have hp1:(eP e).2.2.2.length-1<(eP e).2.2.2.length:=by omega
  have hp2:(eP e).2.2.2.length-1<(eG e).length:=by omega
  rw[Ad hp1,Ad hp2];have hz:=p2 _ hp1 hp2;refine⟨⟨a,b,c,d,y,z,u,?_,?_,?_,?_⟩,?_,rfl⟩
  ·show(eQ e).length=(cL _ _ _).length;rw[bC];exact v
  ·show(cL _ _ _).length<=n+1;rw[bC];omega
  ·show(cL _ _ _).length=(cL _ _ _).length;rw[bC,bC];exact p1
  ·intro i h1 h2;have h1':i<(eP e).2.2.2.length:=by
    have:i<((eP e).2.2.2.set ((eP e).2.2.2.length-1) _).length:=h1
    rwa [bC]at this
   show PzE (n+1) (((eP e).2.2.2.set ((eP e).2.2.2.length-1) _)[i]'h1) (((eG e).set ((eP e).2.2.2.length-1) _)[i]'h2);rw[List.getElem_set,List.getElem_set];by_cases hi:(eP e).2.2.2.length-1=i
   ·rw[if_pos hi,if_pos hi];refine⟨hz.1,?_,?_,λm hm=>?_,λm hm=>?_⟩
    ·show(_++[g]).length=(_++[l]).length;rw[aD,aD,hz.2.1];rfl
    ·rw[aD];have:=hz.2.2.1;simp;exact this
    ·rcases aP.1 hm with h3|h3
     ·exact hz.2.2.2.1 m h3
     ·rw[aK]at h3;subst h3;exact hl
    ·rcases aP.1 hm with h3|h3
     ·exact hz.2.2.2.2 m h3
     ·rw[aK]at h3;subst h3;exact hg
   ·rw[if_neg hi,if_neg hi];exact(p2 i h1' (by omega)).mono (by omega)
  ·show 1+e.2.2.2.1.2.length+((eP e).2.2.2.set ((eP e).2.2.2.length-1) _).length+(((eP e).2.2.2.set ((eP e).2.2.2.length-1) _).map λp=>p.2.2.length).sum<=_;have:=TW (λp=>p.2.2.length) (eP e).2.2.2 ((eP e).2.2.2.length-1) ((eP e).2.2.2[(eP e).2.2.2.length-1].1,(eP e).2.2.2[(eP e).2.2.2.length-1].2.1,(eP e).2.2.2[(eP e).2.2.2.length-1].2.2++[g]) hp1;rw[bC];unfold TE;simp only[aD,aE,aH]at this;omega
 ·rw[if_neg hk];exact⟨h.mono (by omega),by omega,rfl⟩
def EC(ls:List Ln)(i:Nat)(c:Cm_)(bad:List Dg)(all:List El_):Prop:=
 (c.1.1.1=ls/\c.1.1.2.length<=200)/\bad.length<=2*i/\all.length<=i/\(∀e∈all,SE i e)/\(bad=[]->(∀e∈all,GE e)/\(all.map TE).sum<=i+run (ls.drop i))
theorem EC.same{c':Cm_}(h:EC ls i c bad all)(hc:c'.1.1.1=ls/\c'.1.1.2.length<=200)(hd:d.length<=2)(hr:run (ls.drop i)<=1+run (ls.drop (i+1))):EC ls (i+1) c' (bad++d) all:=by
 obtain⟨a,b,e,f,g⟩:=h;refine⟨hc,by rw[aD];omega,by omega,λx hx=>(f x hx).mono (by omega),λhn=>?_⟩
 obtain⟨h1,h2⟩:=bN.1 hn;have:=g h1;exact⟨this.1,by have:=this.2;omega⟩
theorem EC.add{c':Cm_}(h:EC ls i c bad all)(hc:c'.1.1.1=ls/\c'.1.1.2.length<=200)(hd:d.length<=2){x:El_}(hx:SE (i+1) x)(hg:d=[]->GE x/\TE x<=1+run (ls.drop (i+1)))(hr:run (ls.drop i)=0):EC ls (i+1) c' (bad++d) (all++[x]):=by
 obtain⟨a,b,e,f,g⟩:=h;refine⟨hc,by rw[aD];omega,by simp;omega,λy hy=>?_,λhn=>?_⟩
 ·rcases aP.1 hy with h1|h1
  ·exact(f y h1).mono (by omega)
  ·rw[aK]at h1;subst h1;exact hx
 ·obtain⟨h1,h2⟩:=bN.1 hn;obtain⟨k1,k2⟩:=g h1;obtain⟨k3,k4⟩:=hg h2;refine⟨λy hy=>?_,?_⟩
  ·rcases aP.1 hy with h1|h1
   ·exact k1 y h1
   ·rw[aK]at h1;subst h1;exact k3
  ·rw[bJ,bI];simp;omega
theorem EC.upd{c':Cm_}{I:List El_}{x:El_}(h:EC ls i c bad (I++[e]))(hc:c'.1.1.1=ls/\c'.1.1.2.length<=200)(hd:d.length<=2)(hx:SE (i+1) x)(hT:TE x<=TE e+1)(hg:GE e->GE x)(hr:run (ls.drop i)=0):EC ls (i+1) c' (bad++d) (I++[x]):=by
 obtain⟨a,b,l,f,g⟩:=h;rw[aD]at l;refine⟨hc,by rw[aD];omega,by rw[aD];simp at l⊢;omega,λy hy=>?_,λhn=>?_⟩
 ·rcases aP.1 hy with h1|h1
  ·exact(f y (cN _ h1)).mono (by omega)
  ·rw[aK]at h1;subst h1;exact hx
 ·obtain⟨h1,h2⟩:=bN.1 hn;obtain⟨k1,k2⟩:=g h1;refine⟨λy hy=>?_,?_⟩
  ·rcases aP.1 hy with h1|h1
   ·exact k1 y (cN _ h1)
   ·rw[aK]at h1;subst h1;exact hg (k1 e (bP _ (aK.2 rfl)))
  ·rw[bJ,bI]at k2⊢;simp at k2⊢;omega
theorem Ea(hi:i<ls.length)(h:w0 ls[i]≠wdVIA):run (ls.drop i)=0:=by rw[bB hi,run];rw[show(w0 ls[i]==via)=false from lne h];rfl
theorem AcC(hi:i<ls.length):run (ls.drop i)<=1+run (ls.drop (i+1)):=by
 rw[bB hi,run];cases (w0 ls[i]==via)with
 |true=>rw[cond_true];omega
 |false=>rw[cond_false];omega
theorem EC.sh(h:EC ls i c bad all)(hl:ls.length<=2000)(hi:i<=ls.length)(hr:∀l∈ls,okR' l):AR ls bad all:=by obtain⟨a,b,e,f,g⟩:=h;exact⟨by omega,λl hm=>(hr l hm).1,by omega,by omega⟩
theorem AfS(r:HD):(dgF r).length<=1:=by unfold dgF;cases r.2.2.2.2<;>simp
theorem AfT{f:Fx_}(hl:okR' l)(h1:f.1.1.length<=200)(h2:f.1.2.1.length<=200):SE n (elF l f):=
 ⟨hl,.inl rfl,⟨h1,h2⟩,⟨by show([]:Bt).length<=200;simp,by show([]:List Pt_).length<=2000;simp,λp hp=>by cases hp⟩,(λm hm=>by cases hm),⟨by show([]:Bt).length<=200;simp,by show([]:Bt).length<=200;simp⟩,(λm hm=>by cases hm),rfl,bZ _,rfl,λi h=>by cases h⟩
theorem Aae{a:AQ}(hl:okR' l)(ha:airT a)(hv:∀v∈vs,okR' v):SE n (elA l a vs):=
 ⟨hl,.inr (.inl rfl),⟨by show([]:Bt).length<=200;simp,by show([]:Bt).length<=200;simp⟩,ha,hv,⟨by show([]:Bt).length<=200;simp,by show([]:Bt).length<=200;simp⟩,(λm hm=>by cases hm),rfl,bZ _,rfl,λi h=>by cases h⟩
theorem AfU{k:Int}{x:Bt×Bt}(hl:okR' l)(h1:x.1.length<=200)(h2:x.2.length<=200):SE n (elP l k x):=
 ⟨hl,.inr (.inr rfl),⟨by show([]:Bt).length<=200;simp,by show([]:Bt).length<=200;simp⟩,⟨by show([]:Bt).length<=200;simp,by show([]:List Pt_).length<=2000;simp,λp hp=>by cases hp⟩,(λm hm=>by cases hm),⟨h1,h2⟩,(λm hm=>by cases hm),rfl,bZ _,rfl,λi h=>by cases h⟩
theorem AdJ{c0:Cm_}(hl:c0.1.1.1.length<=1800)(hr:∀l∈c0.1.1.1,okR' l)(hn:c0.1.1.2.length<=200:=by simp):Tot (λr=>EC c0.1.1.1 c0.1.1.1.length r.1 r.2.1 r.2.2) (o43 c0):=by
 obtain⟨B,hB,S⟩:=AkV;rw[hB];generalize hls:c0.1.1.1=ls at hl hr⊢;refine tL (λs=>∃(i:Nat)(c:Cm_)(bad:List Dg)(all:List El_),s=s2 ls i c bad all/\i<=ls.length/\EC ls i c bad all) (λs=>ls.length-s.1.2.2.toNat) ?_ ⟨0,c0,[],[],rfl,by omega,⟨hls,hn⟩,by simp,by simp,(λe he=>by cases he),λ_=>⟨(λe he=>by cases he),by simp⟩⟩ (by show ls.length-_<_;omega);rintro _ ⟨i,c,bad,all,rfl,hi0,J⟩;refine(Nat.lt_or_ge i ls.length).elim (λhi=>?_) λhi=>(by
  rw[S.fE ls i c bad all hi];have:i=ls.length:=by omega
  subst this;exact tS J)
 have sh:=J.sh (by omega) hi0 hr;have hli:=hr _ (aA hi);have J1:=J.1;have gos:∀{c':Cm_}{bad':List Dg}{all':List El_},EC ls (i+1) c' bad' all'->Tot (CP (λs'=>(∃(i:Nat)(c:Cm_)(bad:List Dg)(all:List El_),s'=s2 ls i c bad all/\i<=ls.length/\EC ls i c bad all)/\ls.length-s'.1.2.2.toNat<ls.length-(s2 ls i c bad all).1.2.2.toNat) (λr:AG×(List (Int×Int×Int))×List As=>EC ls ls.length r.1 r.2.1 r.2.2)) (some (.go (s2 ls (i+1) c' bad' all'))):=λh=>tGo ⟨⟨i+1,_,_,_,rfl,by omega,h⟩,by show ls.length-((i+1:Nat):Int).toNat<ls.length-((i:Nat):Int).toNat;omega⟩;have er:∀e:Int,([dg ls[i] e]).length<=2:=λe=>by simp
 have rv:=AcC hi;have hfl:∀a p q,(flg c a p q).1.1.1=ls/\(flg c a p q).1.1.2.length<=200:=λ_ _ _=>J1;have fixs:∀(h:B (s2 ls i c bad all)=bd (o95 ls[i]) λr=>some (.go (s2 ls (i+1) (flg c false false false) (bad++dgF r) (all++[elF ls[i] (fxOf r)])))),w0 ls[i]≠wdVIA->Tot (CP (λs'=>(∃(i:Nat)(c:Cm_)(bad:List Dg)(all:List El_),s'=s2 ls i c bad all/\i<=ls.length/\EC ls i c bad all)/\ls.length-s'.1.2.2.toNat<ls.length-(s2 ls i c bad all).1.2.2.toNat) (λr:AG×(List (Int×Int×Int))×List As=>EC ls ls.length r.1 r.2.1 r.2.2)) (B (s2 ls i c bad all)):=λh hv=>by
  rw[h];refine tB (AkU hli) λr hr2=>gos (J.add (hfl _ _ _) (by have:=AfS r;omega) (AfT hli hr2.2.1 hr2.2.2) (λhd=>⟨⟨λ_=>?_,λh=>absurd h (show(102:Int)≠97 by decide)⟩,by show 1+0+0+0<=_;omega⟩) (Ea hi hv));have hb:r.2.2.2.2=false:=by
   unfold dgF at hd;cases hx:r.2.2.2.2 with
   |true=>rw[hx,cond_true]at hd;cases hd
   |false=>rfl
  exact hr2.1 hb
 by_cases k1:w0 ls[i]=wdDB
 ·have hv:w0 ls[i]≠wdVIA:=by rw[k1];decide
  by_cases hz:i=0
  ·rw[S.fDB0 ls i hi c bad all sh k1 hz];exact tB (AkW hli) λr hr2=>gos (J.same (c':=setH (flg c false false false) r.1) (d:=r.2) ⟨J1.1,hr2.1⟩ (by have:=hr2.2;omega) rv)
  ·rw[S.fDB1 ls i hi c bad all sh k1 hz];exact gos (J.same (hfl _ _ _) (er 9) rv)
 by_cases k2:w0 ls[i]=wdWP
 ·by_cases hz:i=0
  ·rw[S.fWP0 ls i hi c bad all sh k2 hz];exact gos (J.same (hfl _ _ _) (er 9) rv)
  ·exact fixs (S.fWP1 ls i hi c bad all sh k2 hz) (by rw[k2];decide)
 by_cases k3:w0 ls[i]=wdVOR
 ·by_cases hz:i=0
  ·rw[S.fVOR0 ls i hi c bad all sh k3 hz];exact gos (J.same (hfl _ _ _) (er 9) rv)
  ·exact fixs (S.fVOR1 ls i hi c bad all sh k3 hz) (by rw[k3];decide)
 by_cases k4:w0 ls[i]=wdDME
 ·by_cases hz:i=0
  ·rw[S.fDME0 ls i hi c bad all sh k4 hz];exact gos (J.same (hfl _ _ _) (er 9) rv)
  ·exact fixs (S.fDME1 ls i hi c bad all sh k4 hz) (by rw[k4];decide)
 by_cases k5:w0 ls[i]=wdNDB
 ·by_cases hz:i=0
  ·rw[S.fNDB0 ls i hi c bad all sh k5 hz];exact gos (J.same (hfl _ _ _) (er 9) rv)
  ·exact fixs (S.fNDB1 ls i hi c bad all sh k5 hz) (by rw[k5];decide)
 by_cases k6:w0 ls[i]=wdAPT
 ·by_cases hz:i=0
  ·rw[S.fAPT0 ls i hi c bad all sh k6 hz];exact gos (J.same (hfl _ _ _) (er 9) rv)
  ·exact fixs (S.fAPT1 ls i hi c bad all sh k6 hz) (by rw[k6];decide)
 by_cases k7:w0 ls[i]=wdRWY
 ·by_cases hz:i=0
  ·rw[S.fRWY0 ls i hi c bad all sh k7 hz];exact gos (J.same (hfl _ _ _) (er 9) rv)
  ·exact fixs (S.fRWY1 ls i hi c bad all sh k7 hz) (by rw[k7];decide)
 by_cases k8:w0 ls[i]=wdAWY
 ·have hv:w0 ls[i]≠wdVIA:=by rw[k8];decide
  by_cases hz:i=0
  ·rw[S.fAWY0 ls i hi c bad all sh k8 hz];exact gos (J.same (hfl _ _ _) (er 9) rv)
  ·rw[S.fAWY1 ls i hi c bad all sh k8 hz];have e97:=Qo (c:=flg c true false false) (i:=i) bad all (by rw[(hfl _ _ _).1];exact hi) (by rw[(hfl _ _ _).1];omega) (by rw[(hfl _ _ _).1];exact sh.2.1);rw[(hfl _ _ _).1]at e97;rw[bdS e97];have hvs:∀v∈((ls.drop (i+1)).take (run (ls.drop (i+1)))),okR' v:=λv hm=>hr v (bG (bF hm));have hrl:=Sa (ls.drop (i+1));have hvl:((ls.drop (i+1)).take (run (ls.drop (i+1)))).length=run (ls.drop (i+1)):=by rw[aL];omega
   rw[aN]at hrl;refine tB (Acz hli (by omega) hvs _ bad all (by have:=sh.2.2.1;have:=sh.2.2.2;omega) (by have:=sh.2.2.1;have:=sh.2.2.2;omega)) ?_;rintro _ ⟨a,bad2,rfl,hA,hbb⟩;rcases hbb with⟨rfl,hok⟩|⟨d,rfl⟩
   ·refine gos ?_;have:=J.add (c':=flg c true false false) (d:=[]) (hfl _ _ _) (by simp) (Aae (n:=i+1) hli hA hvs) (λ_=>⟨⟨λh=>absurd h (show(97:Int)≠102 by decide),λ_=>hok⟩,?_⟩) (Ea hi hv)
    ·rw[aS]at this;exact this
    ·show 1+a.2.length+0+0<=_;rw[hok.2.1,hvl];omega
   ·exact gos (J.add (hfl _ _ _) (by simp) (Aae hli hA hvs) (λh=>by cases h) (Ea hi hv))
 by_cases k9:w0 ls[i]=wdVIA
 ·by_cases hz:i=0\/c.2.2.1=false
  ·rw[S.fVIA0 ls i hi c bad all sh k9 hz];exact gos (J.same (hfl _ _ _) (er 9) rv)
  ·rw[S.fVIA1 ls i hi c bad all sh k9 (λh=>hz (.inl h)) (by cases hx:c.2.2.1 with|true=>rfl|false=>exact absurd (.inr hx) hz)];have:=J.same (c':=flg c true false false) (d:=[]) (hfl _ _ _) (by simp) rv;rw[aS]at this;exact gos this
 have prs:∀(k:Int)(h:B (s2 ls i c bad all)=bd (HJ ls[i] k (flg c false true false) bad all) λr=>some (.go (s2 ls (i+1) r.1 r.2.1 r.2.2))),Tot (CP (λs'=>(∃(i:Nat)(c:Cm_)(bad:List Dg)(all:List El_),s'=s2 ls i c bad all/\i<=ls.length/\EC ls i c bad all)/\ls.length-s'.1.2.2.toNat<ls.length-(s2 ls i c bad all).1.2.2.toNat) (λr:AG×(List (Int×Int×Int))×List As=>EC ls ls.length r.1 r.2.1 r.2.2)) (B (s2 ls i c bad all)):=λk h=>by rw[h,Qq _ _ _ (by have:=sh.2.2.1;have:=sh.2.2.2;omega) (by have:=sh.2.2.1;have:=sh.2.2.2;omega),bdbd'];refine tB (AkX hli) λr hr2=>?_;rw[bdI];exact gos (J.add (hfl _ _ _) (by have:=hr2.2;omega) (AfU hli hr2.1.1 hr2.1.2) (λ_=>⟨⟨λh=>absurd h (show(112:Int)≠102 by decide),λh=>absurd h (show(112:Int)≠97 by decide)⟩,by show 1+0+0+0<=_;omega⟩) (Ea hi k9))
 by_cases k10:w0 ls[i]=wdDEP
 ·by_cases hz:i=0
  ·rw[S.fDEP0 ls i hi c bad all sh k10 hz];exact gos (J.same (hfl _ _ _) (er 9) rv)
  ·exact prs 1 (S.fDEP1 ls i hi c bad all sh k10 hz)
 by_cases k11:w0 ls[i]=wdARR
 ·by_cases hz:i=0
  ·rw[S.fARR0 ls i hi c bad all sh k11 hz];exact gos (J.same (hfl _ _ _) (er 9) rv)
  ·exact prs 2 (S.fARR1 ls i hi c bad all sh k11 hz)
 by_cases k12:w0 ls[i]=wdAPP
 ·by_cases hz:i=0
  ·rw[S.fAPP0 ls i hi c bad all sh k12 hz];exact gos (J.same (hfl _ _ _) (er 9) rv)
  ·exact prs 3 (S.fAPP1 ls i hi c bad all sh k12 hz)
 have shE:∀e∈all,shortE e/\shapeE e:=λe he=>(J.2.2.2.1 e he).short (by omega);by_cases k13:w0 ls[i]=wdPART
 ·by_cases hz:i=0\/c.2.2.2.1=false
  ·rw[S.fPART0 ls i hi c bad all sh k13 hz];exact gos (J.same (hfl _ _ _) (er 9) rv)
  ·rw[S.fPART1 ls i hi c bad all sh k13 (λh=>hz (.inl h)) (by cases hx:c.2.2.2.1 with|true=>rfl|false=>exact absurd (.inr hx) hz)];rw[Qs _ _ (by have:=sh.2.2.1;have:=sh.2.2.2;omega) (by have:=sh.2.2.1;have:=sh.2.2.2;omega) (λe he=>(shE e he).1),bdbd'];refine tB (AkY hli) λr hr2=>?_;rw[bdI];refine gos ?_;rcases cJ all with rfl|⟨I,e,rfl⟩
   ·rw[Aac];exact J.same (hfl _ _ _) (by have:=hr2.2;omega) rv
   ·rw[cK]at J⊢;rw[Qt];have he:=J.2.2.2.1 e (bP _ (aK.2 rfl));have hx:SE (i+1) (stP e ls[i] r.1)/\TE (stP e ls[i] r.1)<=TE e+1/\(GE e->GE (stP e ls[i] r.1)):=by
     unfold stP;by_cases h112:e.1=112
     ·rw[if_pos h112];have:=AcA he hli hr2.1;exact⟨this.1,by omega,λ_=>⟨λh=>absurd (h112.symm.trans h) (by decide),λh=>absurd (h112.symm.trans h) (by decide)⟩⟩
     ·rw[if_neg h112];exact⟨he.mono (by omega),by omega,id⟩
    exact J.upd (hfl _ _ _) (by have:=hr2.2;omega) hx.1 hx.2.1 hx.2.2 (Ea hi k9)
 by_cases k14:w0 ls[i]=wdLEG
 ·by_cases hz:i=0\/c.2.2.2.2=false
  ·rw[S.fLEG0 ls i hi c bad all sh k14 hz];exact gos (J.same (hfl _ _ _) (er 9) rv)
  ·rw[S.fLEG1 ls i hi c bad all sh k14 (λh=>hz (.inl h)) (by cases hx:c.2.2.2.2 with|true=>rfl|false=>exact absurd (.inr hx) hz)];rw[MA hli.1 _ (by have:=sh.2.2.1;have:=sh.2.2.2;omega) (by have:=sh.2.2.1;have:=sh.2.2.2;omega) (λe he=>(shE e he).2),bdbd'];refine tB (AfR hli) λr hr2=>?_;rw[bdI];refine gos ?_;rcases cJ all with rfl|⟨I,e,rfl⟩
   ·rw[Aad];exact J.same (hfl _ _ _) (by have:=hr2.2;omega) rv
   ·rw[cK]at J⊢;rw[Qu];have he:=J.2.2.2.1 e (bP _ (aK.2 rfl));have hx:SE (i+1) (stG e ls[i] r.1)/\TE (stG e ls[i] r.1)<=TE e+1/\(GE e->GE (stG e ls[i] r.1)):=by
     unfold stG;by_cases h112:e.1=112
     ·rw[if_pos h112];have:=AcB he hli hr2.1;exact⟨this.1,this.2.1,λ_=>⟨λh=>absurd (h112.symm.trans (this.2.2.symm.trans h)) (by decide),λh=>absurd (h112.symm.trans (this.2.2.symm.trans h)) (by decide)⟩⟩
     ·rw[if_neg h112];exact⟨he.mono (by omega),by omega,id⟩
    exact J.upd (hfl _ _ _) (by have:=hr2.2;omega) hx.1 hx.2.1 hx.2.2 (Ea hi k9)
 rw[S.fX ls i hi c bad all sh k1 k2 k3 k4 k5 k6 k7 k8 k9 k10 k11 k12 k13 k14];exact gos (J.same (hfl _ _ _) (er 4) rv)
end Go.Proofs.YtpglaekodahcoaaGreatDoor
