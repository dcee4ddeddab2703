/-
The third engine,part 6:stores,elements,lengths,append. Conditions:each lemma's own.
-/
import Derived.Test.YtpglaekodahcoaaGreatDoorM1
import Derived.WideLaws
import Derived.LoopN
namespace Go.Proofs.YtpglaekodahcoaaGreatDoor
set_option linter.unusedVariables false
set_option linter.unusedSimpArgs false
open Go.RowKit
open _root_.Nat renaming eq_of_beq_eq_true->aA,beq->aD,zero_add->aK,not_lt_zero->aM,le_refl->aR,le_trans->aS,lt_or_ge->aT,sub_zero->aW,lt_succ_self->aZ,blt->bA,testBit->bK,lt_succ_of_lt->bL,add_zero->bN,ble_eq_true_of_le->bP,le_of_ble_eq_true->bQ,ble->cC
open _root_.List renaming getElem?_append_left->aB,getElem?_set->aE,getElem?_eq_getElem->aF,mem_of_getElem?->aG,mem_cons_of_mem->aH,length_set->aI,mem_cons_self->aJ,append_assoc->aL,getElem?_of_mem->aN,length_take->aO,mem_cons->aP,getElem?_cons_succ->aQ,length_append->aU,getElem?_set_self'->aV,mem_append_right->aX,length_cons->aY,getElem?_set_ne->bB,mem_append_left->bC,nil_append->bD,nodup_cons->bE,nodup_nil->bF,getElem?_append_right->bG,getElem?_map->bI,range'->bJ,length_drop->bM,append_nil->bO,take_append_drop->bS,getElem?_eq_none->bU,set_append_right->bV,eraseIdx_set_eq->bX,set_append_left->cB,map_cons->cD
open _root_.Bool renaming and_eq_true->aC,or_eq_false_iff->bZ
open _root_.Array renaming getElem?_eq_some_iff->bH
open _root_.Prod renaming fst->bY
variable{sl:List (Nat×SV)}{own:Own}{g:Gh}{ρ:Env}{P:Program}{σ:List (Option Nat)}{st:HSt}{i:Nat}{fr:Sl}{n0 b n:Nat}{Q:Exit->Act->World->Prop}{x:Operand}{K:Act->World->Prop}{w:World}{ln:Bool}{is:List (Option Nat)}{v:Value}{o:Oper}{t:TypeId}{l:List (Nat×SV)}{k:Option Bk}{σ0:List (Option Nat)}{g0:Gh}{f:Nat}{ty:TypeId}{listed:Array Bool}{j:Nat}{α:Type}{ops:Array Oper}{st0:HSt}{L:List Nat}{e:Option Addr×Nat}{asl:List (Nat×SV)}{m:Nat}{op:BinOp}{y:Operand}{c:Cd}{us:List Value}{et:TypeId}{ids:List Nat}{D:Nat->Bool}{xs:List α}{u:TypeId}{st':HSt}{g':Gh}{p:Psi}
theorem Ri{l:Own}{x:Option Bk}(h:l[i]? =some x):(Own.ids l).Perm (Own.ids [x]++Own.ids (l.eraseIdx i)):=by have:=Own.ids_perm (Cm h);rw[Own.ids_cons]at this;cases x<;>simpa[Own.ids]using this
theorem SA{l:Own}(y:Option Bk)(h:i<l.length):(Own.ids (l.set i y)).Perm (Own.ids [y]++Own.ids (l.eraseIdx i)):=by
 have:=Ri (l:=l.set i y) (i:=i) (x:=y) (by simp[aE,h])
 rwa [bX]at this
theorem St.move(h:St w g own)(hb:own[b]? =some k)(hf:own[f]? =some none)(hne:b≠f):St w g ((own.set b none).set f k):=by
 have hlb:=Am hb;have hlf:=Am hf;have h1:(own.set b none)[f]? =some none:=by rw[aE,if_neg hne];exact hf
 have p1:=Ri hb;have p2:=SA (l:=own) none hlb;have p3:=Ri h1;have p4:=SA (l:=own.set b none) k (by rw[aI];exact hlf);simp only[show Own.ids [none]=[]from rfl,bD]at p2 p3;refine h.fewer ?_ λk' hk'=>?_
 ·exact(p4.trans ((p3.symm.trans p2).append_left _)|>.trans p1.symm).nodup_iff.2 h.nodup
 ·have hp:((own.set b none).set f k).Perm (k::(own.set b none).eraseIdx f):=by
   have:=Cm (l:=(own.set b none).set f k) (i:=f) (x:=k) (by simp[aE,hlf])
   rwa [bX]at this
  rcases aP.1 (hp.mem_iff.1 hk')with e|e
  ·rw[e];exact aG hb
  ·rcases List.mem_or_eq_of_mem_set (List.mem_of_mem_eraseIdx e)with e|e
   ·exact e
   ·cases e
section
variable{bl bl':List BV}{v:SV}
def tStore(P:Program)(sl:List (Nat×SV))(t:TypeId)(x y:Operand):Tr:=match evH sl x,evH sl y with
 |some (.v (.c (.ptr b off))),some s=>(match cellsS s with
  |some vs=> .need b fun
   | .cells t0 l=>(match fitsT P t vs.length off l.length with|true=> .done ⟨.any,[(b,.cells t0 (setRowC l off vs))],[]⟩|false=> .no)
   |_=> .no
  |none=> .no)
 |some (.v (.c (.eo b c i off))),some s=>(match cellsS s with
  |some vs=> .need b fun
   | .row d _ xs=>(match fitsT P t vs.length off d.n with
    |true=>encC d (setRowC (d.cv (xs.getD i d.dflt)) off vs) λu _=> .need b fun
     | .row d2 et ys=>(match d2.same c,d.same d2 with|some _,some h=> .done ⟨.any,[(b,.row d2 et (ys.set i (h.down▸u)))],[]⟩|_,_=> .no)
     |_=> .no
    |false=> .no)
   |_=> .no
  |none=> .no)
 |_,_=> .no
theorem Abs {bv:BV} (hb:bl[b]? = some bv) {bv1:BV} (h:Rl g ρ ⟨sl,bl⟩ own fr) (hg:g.le g') (hh:bv1.isHole=false) (hm:∀ m,bv1.len=some m->bv.len=some m) (hk:BlkR g' ρ (bl.set b bv1) k (ρ b) bv1) :
  Ext ρ bl ρ (bl.set b bv1)/\Rl g' ρ ⟨sl,bl.set b bv1⟩ (own.set b k) fr:=⟨Ext.set_at hb hh hm,h.setB hg hb hh hm hk⟩
theorem LZ(h:Told f (tStore P sl t x y) bl bl' v):EffH P n (.store t x y) ty sl bl bl' v:=by
 unfold tStore at h;split at h
 ·rename_i b off s ex ey;split at h
  ·rename_i vs hvs;obtain⟨bv,hb,h⟩:=h;dsimp only at h;split at h
   ·rename_i t0 l;split at h
    ·rename_i hfit;obtain⟨rfl,rfl⟩:=h;obtain⟨hz,hle⟩:=Hj hfit;intro o a w Q K g ρ own fr h1 h2 hr hf hs hk;obtain⟨vx,hx1,hx2⟩:=Aa hr ex;obtain⟨vy,hy1,hy2⟩:=Aa hr ey;obtain⟨us,hc1,hc2⟩:=Da hvs hy2;obtain⟨_,ad,ha,rfl⟩:=hx2;obtain⟨k,hko,b0,cs,rfl,h4,h5⟩:=hr.own_at hb;rw[ha]at h4;injection h4 with h4;subst h4;rw[AF,aK]at hx1;refine Jn (P:=P) hx1 hy1 hko rfl hc1 (by rw[<-hc2.len];exact hz) (Hi hc2) (by rw[<-hc2.len];exact bP (by rw[<-h5.len];exact hle)) rfl o a w Q K h1 h2 hf hs λv g' own' w' hg hs' ⟨e1,e2⟩=>?_
     subst e1;subst e2;have hx:Ext ρ bl ρ (bl.set b (.cells t0 (setRowC l off vs))):=Ext.set_at hb rfl λm hm=>by cases hm
     have hrl:=hr.setB (g':=g) (bv1:= .cells t0 (setRowC l off vs)) (k:=some ⟨b0,t0,setRow cs off us⟩) (.refl g) hb rfl (λm hm=>by cases hm) ⟨b0,_,rfl,ha,(Cs off hc2 h5).mono λ_ _=>RealC.ext (.refl g) hx⟩;exact hk v g ρ _ w' (.refl g) hx hs' hrl trivial
    ·exact h.elim
   ·exact h.elim
  ·exact h.elim
 ·rename_i b c i off s ex ey;split at h
  ·rename_i vs hvs;obtain⟨bv,hb,h⟩:=h;dsimp only at h;split at h
   ·rename_i d et xs;split at h
    ·rename_i hfit;obtain⟨hz,hle⟩:=Hj hfit;obtain⟨u,r,bl1,hh,hfz,henc⟩:=CM d h;clear h;obtain⟨bv,hb1,h⟩:=hh;dsimp only at h;split at h
     ·rename_i d2 et2 ys;split at h
      ·rename_i h1 h2 _ _;obtain⟨h1⟩:=h1;obtain⟨h2⟩:=h2;subst h1;subst h2;obtain⟨rfl,rfl⟩:=h;refine EffH.frz hfz ?_;have hb1:bl1[b]? =some (.row d et2 ys):=hb1;have hsame:BV.row d et xs=BV.row d et2 ys:=by have:=hfz.row_back hb1;rw[hb]at this;injection this
       injection hsame with _ e2 e3;subst e2;subst e3;intro o a w Q K g ρ own fr h1 h2 hr hf hs hk;obtain⟨vx,hx1,hx2⟩:=Aa hr ex;obtain⟨vy,hy1,hy2⟩:=Aa hr ey;obtain⟨us,hc1,hc2⟩:=Da hvs hy2;obtain⟨_,ad,ha,rfl,hlt⟩:=hx2;have hlt:=hlt _ _ hb1 rfl;obtain⟨k,hko,hbuf⟩:=hr.own_at hb1;have hbuf:Buf g.b d.ty et (.slice (ρ b).1 xs.length (ρ b).2) k xs:=hbuf;obtain⟨kb,cs,h4,rfl,h5,h6⟩:=Buf.open_ hbuf hlt d.dflt;rw[ha]at h4;injection h4 with h4;subst h4;rw[AF,aK]at hx1;have hall:=Cs off hc2 (d.cv_real h5 (ρ:=ρ) (bl:=bl1));obtain⟨c1,c2,e1,e2,e3⟩:=henc.real hr d hall;have hl1:(setRow cs off us).length=d.n:=by rw[Ed,d.ty.len h5,d.ty_n]
       have hl2:c1.length=d.n:=by rw[d.ty.len e2,d.ty_n]
       have hc20:c2=[]:=by
        have:(setRow cs off us).length=c1.length+c2.length:=by rw[e1,aU]
        exact List.eq_nil_of_length_eq_zero (by omega)
       rw[hc20,bO]at e1;rw[d.ty_n]at h6;refine VK (P:=P) (T:=d.ty) i d.n off b vy us xs u hx1 hy1 hko hc1 (by rw[<-hc2.len];exact hz) (Hi hc2) hbuf (d.ty_n).symm h6 (by rw[e1];exact e2) (by rw[<-hc2.len,d.ty_n];exact bP hle) hlt o a w Q K h1 h2 hf hs λv g' own' w' hg hs' ⟨k',e1,e2,e3⟩=>?_;subst e1;subst e2;obtain⟨hx,hrl⟩:=Abs (bv1:= .row d et (xs.set i u)) (k:=k') hb1 hr (.refl g) rfl (λm hm=>by have:(xs.set i u).length=m:=Option.some.inj hm;rw[aI]at this;exact congrArg some this) (by show Buf g.b d.ty et (.slice (ρ b).1 (xs.set i u).length (ρ b).2) k' (xs.set i u);rw[aI];exact e3);exact hk v g ρ _ w' (.refl g) hx hs' hrl trivial
      ·exact h.elim
     ·exact h.elim
    ·exact h.elim
   ·exact h.elim
  ·exact h.elim
 ·exact h.elim
end
def cdGo(f:TypeId->Option Cd):List TypeId->Option Cd
 | []=>none
 | [t]=>f t
 |t::l=>match f t,cdGo f l with|some c,some e=>some (.p c e)|_,_=>none
def cdOf(P:Program):Nat->TypeId->Option Cd
 |0,_=>none
 |d+1,t=>match P.underlying t with
  |some (.int k)=>some (.i k)
  |some .bool=>some .b
  |some .string=>some .s
  |some (.slice e)=>(match P.underlying e with
   |some (.int .u8)=>some (.a .y)
   |_=>match cdOf P d e with|some c=>some (.a c)|none=>none)
  |some (.struct fs)=>cdGo (cdOf P d) (fs.toList.map (·.type))
  |some (.array n e)=>cdGo (cdOf P d) (List.replicate n e)
  |_=>none
def rowOf(P:Program)(t:TypeId):Option (Cd×TypeId×Nat):=match P.underlying t with
 |some (.slice e)=>(match(match P.underlying e with|some (.int .u8)=>some Cd.y|_=>cdOf P 9 e)with
  |some c=>(match appT P t e with|some (m,bytes)=>cond (aD m c.n&&cC 1 bytes) (some (c,e,bytes)) none|none=>none)
  |none=>none)
 |_=>none
theorem Db{bytes:Nat}(h:rowOf P t=some (c,et,bytes)):P.underlying t=some (.slice et)/\appT P t et=some (c.ty.n,bytes)/\cellsOfT P et=some c.ty.n/\1<=bytes:=by
 unfold rowOf at h;split at h
 ·rename_i e hu;split at h
  ·rename_i c' _;split at h
   ·rename_i m by_ ha;cases hb:(aD m c'.n&&cC 1 by_)with
    |false=>rw[hb]at h;cases h
    |true=>
     rw[hb]at h;injection h with h;simp only[Prod.mk.injEq]at h;obtain⟨rfl,rfl,rfl⟩:=h;simp only[aC]at hb;have hm:=aA hb.1;subst hm;refine⟨hu,by rw[c'.ty_n];exact ha,?_,bQ hb.2⟩
     rw[c'.ty_n];unfold appT at ha;split at ha
     ·rename_i e2 i h1 h2;split at ha
      ·split at ha
       ·simp only[Option.some.injEq,Prod.mk.injEq]at ha;simp[cellsOfT,h2,ha.1]
       ·cases ha
      ·cases ha
     ·cases ha
   ·cases h
  ·cases h
 ·cases h
section
variable{bl bl':List BV}{v:SV}
theorem Cb(a:Addr):a.add 0=a:=by unfold Addr.add;rw[if_pos rfl]
def isZ(z:Int)(k:Nat):Unit ⊕ Unit:=cond (z==(k:Int)) (.inl ()) (.inr ())
def splitZ(z:Int)(K:Nat->Tr):Nat->Nat->Tr
 |0,_=> .no
 |r+1,i=> .alt (isZ z i) (λ_=>K i) (λ_=>splitZ z K r (i+1))
theorem Cp{z:Int}{K:Nat->Tr}:∀{r i:Nat},Told f (splitZ z K r i) bl bl' v->∃j,j<i+r/\z=(j:Int)/\Told f (K j) bl bl' v
 |0,i,h=>h.elim
 |r+1,i,h=>by
  rcases h with⟨a,h1,h2⟩|⟨a,h1,h2⟩
  ·refine⟨i,by omega,?_,h2⟩
   unfold isZ at h1;cases e:(z==(i:Int))with
   |true=>simpa using e
   |false=>rw[e]at h1;cases h1
  ·obtain⟨j,h3,h4,h5⟩:=Cp h2;exact⟨j,by omega,h4,h5⟩
def arrP{α:Type}:(c:Cd)->c.den->((c1 c2:Cd)->c1.den->c2.den->α)->α->α
 | .p c1 c2,x,k,_=>k c1 c2 x.1 x.2
 |_,_,_,d=>d
def arrL(e:Cd):Nat->(c:Cd)->c.den->Option (List e.den)
 |0,c,x=>match c.same e with|some h=>some [(h.down▸x:e.den)]|none=>none
 |n+1,c,x=>arrP c x (λc1 c2 y z=>match c1.same e with|some h=>(match arrL e n c2 z with|some l=>some ((h.down▸y:e.den)::l)|none=>none)|none=>none) none
theorem SB{p:Psi}{e:Cd}:∀(n:Nat){c:Cd}{x:c.den}{l:List e.den}{cs:List Value},arrL e n c x=some l->c.ty.rep p cs x->l.length=n+1/\∀i y,l[i]? =some y->e.ty.rep p ((cs.drop (i*e.n)).take e.n) y
 |0,c,x,l,cs,h,hr=>by
  unfold arrL at h;split at h
  ·rename_i hk _;obtain⟨hk⟩:=hk;subst hk;injection h with h;subst h;refine⟨rfl,λi y hy=>?_⟩
   match i with
   |0=>
    injection hy with hy;subst hy;rw[Nat.zero_mul,List.drop_zero,List.take_of_length_le (by rw[c.ty.len hr,c.ty_n];exact aR _)];exact hr
   |i+1=>cases hy
  ·cases h
 |n+1,c,x,l,cs,h,hr=>by
  cases c with
  |p c1 c2=>
   have h:(match c1.same e with|some h=>(match arrL e n c2 x.2 with|some l=>some ((h.down▸x.1:e.den)::l)|none=>none)|none=>none)=some l:=h;split at h
   ·rename_i hk _;obtain⟨hk⟩:=hk;subst hk;split at h
    ·rename_i m hm;injection h with h;subst h;obtain⟨l1,l2,rfl,h1,h2⟩:∃l1 l2,cs=l1++l2/\c1.ty.rep p l1 x.1/\c2.ty.rep p l2 x.2:=hr;obtain⟨hl,hi⟩:=SB n hm h2;have hc1:l1.length=c1.n:=by rw[c1.ty.len h1,c1.ty_n]
     refine⟨by rw[aY,hl],λi y hy=>?_⟩
     match i with
     |0=>
      injection hy with hy;subst hy;rw[Nat.zero_mul,List.drop_zero,<-hc1,List.take_left];exact h1
     |i+1=>
      have hy:m[i]? =some y:=hy;rw[show(i+1)*c1.n=l1.length+i*c1.n by rw[hc1,Nat.succ_mul,Nat.add_comm],<-List.drop_drop,List.drop_left];exact hi i y hy
    ·cases h
   ·cases h
  |_=>cases h
def tIndexA(P:Program)(sl:List (Nat×SV))(t:TypeId)(x i:Operand):Tr:=match P.underlying t with
 |some (.slice e)=>asI sl i λk z=>(match cellsOfT P e,evH sl x with
  |some m,some (.v (.c (.own b)))=> .need b fun
   | .row c _ xs=>cond (aD m c.n) (.grd (decide (0<=z/\z<(xs.length:Int))) (retT (vC (.eo b c z.toNat 0)))) .no
   | .fz c xs=>cond (aD m c.n) (.grd (decide (0<=z/\z<(xs.length:Int))) (retT (vC (.eo b c z.toNat 0)))) .no
   |_=> .no
  |some m,some (.v (.c (.ro c xs _)))=>cond (aD m c.n) (.grd (decide (0<=z/\z<(xs.length:Int))) (retT (vC (.el c (xs.getD z.toNat c.dflt) 0)))) .no
  |_,_=> .no)
 |some (.array len e)=>asI sl i λk z=>(match cellsOfT P e,evH sl x with
  |some m,some (.v (.c (.ptr b off)))=>splitZ z (λi=>retT (vC (.ptr b (off+i*m)))) len 0
  |some m,some (.v (.c (.el c x off)))=>(match cC len 4 with
   |true=>splitZ z (λi=>retT (vC (.el c x (off+i*m)))) len 0
   |false=>(match cdOf P 9 e with
    |some ec=>(match arrL ec (len-1) c x with
     |some xs=>cond (aD m ec.n&&aD off 0) (.grd (decide (0<=z/\z<(len:Int))) (retT (vC (.el ec (xs.getD z.toNat ec.dflt) 0)))) .no
     |none=> .no)
    |none=> .no))
  |some m,some (.v (.c (.eo b c i off)))=>splitZ z (λj=>retT (vC (.eo b c i (off+j*m)))) len 0
  |_,_=> .no)
 |_=> .no
theorem condT{b:Bool}{T:Tr}(h:Told f (cond b T .no) bl bl' v):b=true/\Told f T bl bl' v:=by
 cases b
 ·exact h.elim
 ·exact⟨rfl,h⟩
theorem Il{z:Int}{l:Nat}(h:decide (0<=z/\z<(l:Int))=true):z=((z.toNat:Nat):Int)/\z.toNat<l:=by have:=of_decide_eq_true h;omega
theorem FR{l:List α}(d:α)(h:i<l.length):l[i]? =some (l.getD i d):=by rw[List.getD_eq_getElem?_getD,aF h];rfl
theorem Rj{i:Operand}(h:Told f (tIndexA P sl t x i) bl bl' v):EffH P n (.indexAddr t x i) ty sl bl bl' v:=by
 unfold tIndexA at h;split at h
 ·rename_i e hu;obtain⟨k,z,ei,h⟩:=BI h;split at h
  ·rename_i m b hm ex;obtain⟨bv,hb,h⟩:=h;have key:∀(c:Cd)(xs:List c.den),(∃bv,bl[b]? =some bv/\bv.len=some xs.length/\((∃et,bv= .row c et xs)\/bv= .fz c xs))->Told f (cond (aD m c.n) (.grd (decide (0<=z/\z<(xs.length:Int))) (retT (vC (.eo b c z.toNat 0)))) .no) bl bl' v->EffH P n (.indexAddr t x i) ty sl bl bl' v:=by
    rintro c xs ⟨bv,hb,hlen,hcase⟩ h;obtain⟨hmc,hg,h⟩:=condT h;obtain⟨rfl,rfl⟩:=Al h;have hmc:=aA hmc;subst hmc;obtain⟨hz,hlt⟩:=Il hg;refine .of_yld λg ρ own fr hr=>?_;obtain⟨vx,hx1,hkn,l,rfl,hl⟩:=Aa hr ex;obtain⟨vi',hi1,rfl,_⟩:=Aa hr ei;have hl:=hl _ _ hb hlen;subst hl;have hA:∃a,(ρ b).1=some a:=by
     obtain⟨k0,hk,hB⟩:=hr.own_at hb;rcases hcase with⟨et,rfl⟩|rfl
     ·obtain⟨kb,cs,e,_⟩:=Buf.open_ (hB:Buf g.b c.ty et (.slice (ρ b).1 xs.length (ρ b).2) k0 xs) hlt c.dflt;exact⟨_,e⟩
     ·obtain⟨_,ha⟩:=hB;obtain⟨a,cs,e,_⟩:=Arr.at_ ha (FR c.dflt hlt);exact⟨a,e⟩
    obtain⟨a,ha⟩:=hA;rw[hz]at hi1;refine⟨_,⟨hkn,a,ha,by rw[bN],λbv' m' e1 e2=>?_⟩,?_⟩
    ·rw[hb]at e1;injection e1 with e1;subst e1;rw[hlen]at e2;injection e2 with e2;omega
    ·rw[ha]at hx1;exact GZ z.toNat hx1 hi1 hlt hu hm
   dsimp only at h;split at h
   ·exact key _ _ ⟨_,hb,rfl,.inl ⟨_,rfl⟩⟩ h
   ·exact key _ _ ⟨_,hb,rfl,.inr rfl⟩ h
   ·exact h.elim
  ·rename_i m c xs md hm ex;obtain⟨hmc,hg,h⟩:=condT h;obtain⟨rfl,rfl⟩:=Al h;have hmc:=aA hmc;subst hmc;obtain⟨hz,hlt⟩:=Il hg;refine .of_yld λg ρ own fr hr=>?_;obtain⟨vx,hx1,A,cap,rfl,ha⟩:=Aa hr ex;obtain⟨vi',hi1,rfl,_⟩:=Aa hr ei;rw[hz]at hi1;have key:∃ad cs,A=some ad/\c.ty.rep g.b cs (xs.getD z.toNat c.dflt)/\Cells g.r (ad.add (z.toNat*c.ty.n)) cs:=by
    cases md with
    |true=>
     obtain⟨ad,cs,h1,h2,h3⟩:=Arr.at_ ha (FR c.dflt hlt);exact⟨ad,cs,h1,h2,h3.mono g.br⟩
    |false=>exact ArrM.at_ ha (FR c.dflt hlt)
   obtain⟨ad,cs,rfl,h2,h3⟩:=key;rw[c.ty_n]at h3;exact⟨_,⟨_,cs,rfl,h3,h2⟩,by rw[Cb];exact GZ z.toNat hx1 hi1 hlt hu hm⟩
  ·exact h.elim
 ·rename_i len e hu;obtain⟨k,z,ei,h⟩:=BI h;split at h
  ·rename_i m b off hm ex;obtain⟨j,hlt,ez,hj⟩:=Cp h;subst ez;obtain⟨rfl,rfl⟩:=Al hj;refine .of_yld λg ρ own fr hr=>?_;obtain⟨vx,hx1,hkn,a,ha,rfl⟩:=Aa hr ex;obtain⟨vi',hi1,rfl,_⟩:=Aa hr ei;exact⟨_,⟨hkn,a,ha,by rw[<-FO]⟩,Ha j hx1 hi1 hu (by omega) hm⟩
  ·rename_i m c x0 off hm ex;split at h
   ·obtain⟨j,hlt,ez,hj⟩:=Cp h;subst ez;obtain⟨rfl,rfl⟩:=Al hj;refine .of_yld λg ρ own fr hr=>?_;obtain⟨vx,hx1,a,cs,rfl,h3,h4⟩:=Aa hr ex;obtain⟨vi',hi1,rfl,_⟩:=Aa hr ei;exact⟨_,⟨a,cs,by rw[<-FO],h3,h4⟩,Ha j hx1 hi1 hu (by omega) hm⟩
   ·rename_i hble;have hlen:0<len:=by
     rcases Nat.eq_zero_or_pos len with e|e
     ·subst e;cases hble
     ·exact e
    split at h
    ·rename_i ec _;split at h
     ·rename_i xs hxs;obtain⟨hmc,hg,h⟩:=condT h;obtain⟨rfl,rfl⟩:=Al h;simp only[aC]at hmc;obtain⟨hmc,hoff⟩:=hmc;have hmc:=aA hmc;have hoff:=aA hoff;subst hmc;subst hoff;obtain⟨hz,hlt⟩:=Il hg;refine .of_yld λg ρ own fr hr=>?_;obtain⟨vx,hx1,a,cs,rfl,h3,h4⟩:=Aa hr ex;obtain⟨vi',hi1,rfl,_⟩:=Aa hr ei;obtain⟨hl,hi⟩:=SB (len-1) hxs h4;rw[hz]at hi1;have hy:=hi z.toNat _ (FR ec.dflt (by rw[hl];omega));refine⟨_,⟨a.add (z.toNat*ec.n),_,rfl,h3.part _ _,hy⟩,?_⟩
      have hq:=Ha (n:=n) (ty:=ty) (p:=g.r) (own:=own) z.toNat hx1 hi1 hu (by omega) hm;rw[Cb]at hq;rw[Cb];exact hq
     ·exact h.elim
    ·exact h.elim
  ·rename_i m b c i0 off hm ex;obtain⟨j,hlt,ez,hj⟩:=Cp h;subst ez;obtain⟨rfl,rfl⟩:=Al hj;refine .of_yld λg ρ own fr hr=>?_;obtain⟨vx,hx1,hkn,a,ha,rfl,hl⟩:=Aa hr ex;obtain⟨vi',hi1,rfl,_⟩:=Aa hr ei;exact⟨_,⟨hkn,a,ha,by rw[FO,Nat.add_assoc],hl⟩,Ha j hx1 hi1 hu (by omega) hm⟩
  ·exact h.elim
 ·exact h.elim
def srcT(sl:List (Nat×SV))(c:Cd)(nb:Nat)(x:Operand)(K:List c.den->Tr):Tr:=match evH sl x with
 |some (.v (.c (.own b)))=>cond (aD b nb) .no (.need b fun
  | .row d _ xs=>(match d.same c with|some h=>K (h.down▸xs)|none=> .no)
  | .fz d xs=>(match d.same c with|some h=>K (h.down▸xs)|none=> .no)
  |_=> .no)
 |some (.v (.c (.ro d xs _)))=>(match d.same c with|some h=>K (h.down▸xs)|none=> .no)
 |some (.v (.c (.k (.slice none 0 0))))=>K ([]:List c.den)
 |some (.v (.c (.vw b cv l r)))=>cond (aD b nb) .no (.need b fun
  | .row d _ xs=>(match d.same c,d.same cv with|some h,some _=>K (h.down▸((xs.drop l).take (r-l)))|_,_=> .no)
  | .fz d xs=>(match d.same c,d.same cv with|some h,some _=>K (h.down▸((xs.drop l).take (r-l)))|_,_=> .no)
  |_=> .no)
 |_=> .no
theorem Src.cut{A:Option Addr}{cap l r:Nat}{news:List Value}(h:Src w A m news)(hm:m<=cap)(hr:r<=m):Src w (offA A cap l n) (r-l) ((news.drop (l*n)).take ((r-l)*n)):=λhlt=>by
 obtain⟨ad,e,hc⟩:=h (by omega);subst e;refine⟨ad.add (l*n),?_,λj u hu=>?_⟩
 ·unfold offA;rw[if_neg (by omega)];rfl
 ·rw[List.getElem?_take]at hu;split at hu
  ·rw[List.getElem?_drop]at hu;rw[FM];exact hc _ _ hu
  ·cases hu
theorem Dc{l r:Nat}(h:r<=xs.length):((xs.drop l).take (r-l)).length=r-l:=by rw[aO,bM];omega
theorem FT {nb:Nat} {K:List c.den->Tr} (h:Told f (srcT sl c nb x K) bl bl' v):∃ ys,Told f (K ys) bl bl' v /\
  ∀g ρ own fr,Rl g ρ ⟨sl,bl⟩ own fr->ys.length<=140737488355328/\∃A cap news,evS fr x=some (.slice A ys.length cap)/\Reps c.ty g.b news ys/\∀w,St w g own->Src w A ys.length news:=by
 unfold srcT at h;split at h
 ·rename_i b ex;cases hbn:aD b nb with
  |true=>rw[hbn]at h;exact h.elim
  |false=>
   rw[hbn]at h;obtain⟨bv,hb,h⟩:=h;dsimp only at h;split at h
   ·rename_i d et xs;split at h
    ·rename_i hk _;obtain⟨hk⟩:=hk;subst hk;refine⟨_,h,λg ρ own fr hr=>?_⟩
     obtain⟨vx,hx1,hkn,l,rfl,hl⟩:=Aa hr ex;have hl:=hl _ _ hb rfl;subst hl;obtain⟨k0,hk,hB⟩:=hr.own_at hb;have hB:Buf g.b d.ty et (.slice (ρ b).1 xs.length (ρ b).2) k0 xs:=hB;obtain⟨news,h1,h2⟩:=Buf.srcO hB;exact⟨hB.len,_,_,news,hx1,h1,λw hs=>h2 b w own hs hk⟩
    ·exact h.elim
   ·rename_i d xs;split at h
    ·rename_i hk _;obtain⟨hk⟩:=hk;subst hk;refine⟨_,h,λg ρ own fr hr=>?_⟩
     obtain⟨vx,hx1,hkn,l,rfl,hl⟩:=Aa hr ex;have hl:=hl _ _ hb rfl;subst hl;obtain⟨k0,hk,_,hB⟩:=hr.own_at hb;obtain⟨news,h1,h2⟩:=Arr.srcB (g:=g) hB;exact⟨hB.len,_,_,news,hx1,h1,λw hs=>h2 w own hs⟩
    ·exact h.elim
   ·exact h.elim
 ·rename_i d xs md ex;split at h
  ·rename_i hk _;obtain⟨hk⟩:=hk;subst hk;refine⟨_,h,λg ρ own fr hr=>?_⟩
   obtain⟨vx,hx1,A,cap,rfl,ha⟩:=Aa hr ex;cases md with
   |true=>
    have ha:Arr g.b d.ty A cap xs:=ha;obtain⟨news,h1,h2⟩:=Arr.srcB (g:=g) ha;exact⟨ha.len,_,_,news,hx1,h1,λw hs=>h2 w own hs⟩
   |false=>
    have ha:ArrM g.r g.b d.ty A cap xs:=ha;obtain⟨news,h1,h2⟩:=ArrM.srcM (g:=g) ha;exact⟨ha.len,_,_,news,hx1,h1,λw hs=>h2 w own hs⟩
  ·exact h.elim
 ·rename_i ex;refine⟨_,h,λg ρ own fr hr=>?_⟩
  obtain⟨vx,hx1,rfl,_⟩:=Aa hr ex;exact⟨by simp,none,0,[],hx1,rfl,λw hs hlt=>by simp at hlt⟩
 ·rename_i b cv l r ex;cases hbn:aD b nb with
  |true=>rw[hbn]at h;exact h.elim
  |false=>
   rw[hbn]at h;obtain⟨bv,hb,h⟩:=h;dsimp only at h;split at h
   ·rename_i d et xs;split at h
    ·rename_i hk hk2 _ _;obtain⟨hk⟩:=hk;obtain⟨hk2⟩:=hk2;subst hk;subst hk2;refine⟨_,h,λg ρ own fr hr=>?_⟩
     obtain⟨vx,hx1,hkn,rfl,hl⟩:=Aa hr ex;obtain⟨h1l,h2l⟩:=hl _ _ hb rfl;obtain⟨k0,hk,hB⟩:=hr.own_at hb;have hB:Buf g.b d.ty et (.slice (ρ b).1 xs.length (ρ b).2) k0 xs:=hB;obtain⟨news,h1,h2⟩:=Buf.srcO hB;have hcap:xs.length<=(ρ b).2:=by obtain⟨_,_,e4,e5⟩:=hB.val;injection e4 with _ _ e6;omega
     have hlen:=hB.len;refine⟨by rw[Dc h2l];omega,_,_,(news.drop (l*d.ty.n)).take ((r-l)*d.ty.n),by rw[Dc h2l];exact hx1,(h1.drop l).take (r-l),λw hs=>?_⟩
     rw[Dc h2l,<-d.ty_n];exact(h2 b w own hs hk).cut hcap h2l
    ·exact h.elim
   ·rename_i d xs;split at h
    ·rename_i hk hk2 _ _;obtain⟨hk⟩:=hk;obtain⟨hk2⟩:=hk2;subst hk;subst hk2;refine⟨_,h,λg ρ own fr hr=>?_⟩
     obtain⟨vx,hx1,hkn,rfl,hl⟩:=Aa hr ex;obtain⟨h1l,h2l⟩:=hl _ _ hb rfl;obtain⟨k0,hk,_,hB⟩:=hr.own_at hb;obtain⟨news,h1,h2⟩:=Arr.srcB (g:=g) hB;have hcap:xs.length<=(ρ b).2:=hB.1;have hlen:=hB.len;refine⟨by rw[Dc h2l];omega,_,_,(news.drop (l*d.ty.n)).take ((r-l)*d.ty.n),by rw[Dc h2l];exact hx1,(h1.drop l).take (r-l),λw hs=>?_⟩
     rw[Dc h2l,<-d.ty_n];exact(h2 w own hs).cut hcap h2l
    ·exact h.elim
   ·exact h.elim
 ·exact h.elim
theorem FU{A:Option Addr}{c:Nat}:offA A c 0 n=A:=by
 unfold offA;split
 ·rfl
 ·cases A with
  |none=>rfl
  |some a=>simp[Addr.add]
theorem Buf.cut{T:Ty α}{A:Option Addr}{c:Nat}(h:Buf p T et (.slice A xs.length c) k xs)(r:Nat)(hr:r<=xs.length):Buf p T et (.slice A (xs.take r).length c) k (xs.take r):=by
 obtain⟨h0,h⟩:=h;refine⟨by rw[aO];omega,?_⟩
 rcases h with⟨h1,h2,h3⟩|⟨b,cap,cs,sp,h1,h2,h3,h4,h5⟩
 ·subst h2;rw[List.take_nil];exact .inl ⟨h1,rfl,h3⟩
 ·injection h1 with e1 e2 e3;subst e1;subst e3;refine .inr ⟨b,c,cs.take (r*T.n),cs.drop (r*T.n)++sp,rfl,?_,h3.take r,?_,h5⟩
  ·rw[<-aL,bS];exact h2
  ·rw[<-aL,bS];exact h4
def tApp(P:Program)(sl:List (Nat×SV))(f:Nat)(t t':TypeId)(s x:Operand):Tr:=match rowOf P t,aD t t' with
 |some (c,et,bytes),true=>(match evH sl s with
  |some (.v (.c (.own b)))=> .need b fun
   | .row d et' xs=>(match d.same c,aD et' et with
    |some h,true=>srcT sl d b x λys=> .grd (decide ((xs.length+ys.length)*bytes<=140737488355328)) (.done ⟨vC (.own f),[(b,.no)],[.row d et (xs++ys)]⟩)
    |_,_=> .no)
   |_=> .no
  |some (.v (.c (.vw b _ l r)))=> .need b fun
   | .row d et' xs=>(match d.same c,aD et' et&&aD l 0 with
    |some h,true=>srcT sl d b x λys=> .grd (decide (((xs.take r).length+ys.length)*bytes<=140737488355328)) (.done ⟨vC (.own f),[(b,.no)],[.row d et (xs.take r++ys)]⟩)
    |_,_=> .no)
   |_=> .no
  |some (.v (.c (.k (.slice none 0 0))))=>srcT sl c f x λys=> .grd (decide (ys.length*bytes<=140737488355328)) (.done ⟨vC (.own f),[],[.row c et ys]⟩)
  |_=> .no)
 |_,_=> .no
theorem Ct{bytes l:Nat}(h1:1<=bytes)(h:m*bytes<=l):m<=l:=aS (Nat.le_mul_of_pos_right m h1) h
theorem AK{l:List α}{x:α}(h:i≠j:=by omega):(l.set i x)[j]? =l[j]?:=by rw[aE,if_neg h]
theorem MM {t':TypeId} {s:Operand} (hf:bl[f]? = some .hole) (h:Told f (tApp P sl f t t' s x) bl bl' v) :
  EffH P n (.call { callee:= .builtin .append,args:=#[s,x],argTypes:=#[t,t'] }) ty sl bl bl' v:=by
 unfold tApp at h;split at h
 ·rename_i c et bytes hrow htt;have htt:=aA htt;subst htt;obtain⟨hu,happ,_,hby⟩:=Db hrow;split at h
  ·rename_i b es;obtain⟨bv,hb,h⟩:=h;dsimp only at h;split at h
   ·rename_i d et' xs;split at h
    ·rename_i hk0 _ he;obtain⟨hk0⟩:=hk0;subst hk0;have he:=aA he;subst he;obtain⟨ys,h,hsrc⟩:=FT h;obtain⟨hg,rfl,rfl⟩:=h;have hg:=of_decide_eq_true hg;have hbf:b≠f:=λe=>by subst e;rw[hf]at hb;injection hb with hb;cases hb
     intro o a w Q K g ρ own fr h1 h2 hr hfr hs hk;obtain⟨vs',hs1,hkn,l,rfl,hl⟩:=Aa hr es;have hl:=hl _ _ hb rfl;subst hl;obtain⟨k0,hk0,hB⟩:=hr.own_at hb;have hB:Buf g.b d.ty et' (.slice (ρ b).1 xs.length (ρ b).2) k0 xs:=hB;obtain⟨hyl,A,cap,news,hx1,hx2,hx3⟩:=hsrc g ρ own fr hr;refine JV b g.b news happ hs1 hx1 hk0 hB rfl hx3 hx2 (Ct hby hg) hg o a w Q K h1 h2 hfr hs λv g' own' w' hle hs' ⟨A',c',k',e1,e2,e3,hB'⟩=>?_;subst e1;subst e2;subst e3;have hno:=hr.hole_none hf;have hlb:=Am hk0;have hst:=hs'.move (b:=b) (f:=f) (k:=k') (by simp[aE,hlb]) (by rw[AK hbf];exact hno) hbf;rw[List.set_set]at hst;have hx:Ext ρ bl ρ (bl.set b .no):=Ext.set_at hb rfl λm hm=>by cases hm
     have hr1:=hr.setB (g':=g) (bv1:= .no) (k:=none) (.refl g) hb rfl (λm hm=>by cases hm) rfl;have hf1:(bl.set b .no)[f]? =some .hole:=by rw[AK hbf];exact hf
     have hx1':Ext ρ (bl.set b .no) (setρ ρ f (A',c')) ((bl.set b .no).set f (.row d et' (xs++ys))):=Ext.set_hole hf1;have hr2:=hr1.lay (g':=g) (bv:= .row d et' (xs++ys)) (k:=k') (e:=(A',c')) (.refl g) hf1 hB';refine hk _ g (setρ ρ f (A',c')) _ w' (.refl g) (hx.trans hx1') hst hr2 ⟨Bo (Am hf1) rfl,_,by rw[Bn],λbv m e1 e2=>?_⟩;have:bv= .row d et' (xs++ys):=by
      have e3:((bl.set b .no).set f (.row d et' (xs++ys)))[f]? =some (.row d et' (xs++ys)):=by simp[aE,Am hf]
      have e1:((bl.set b .no).set f (.row d et' (xs++ys)))[f]? =some bv:=e1;rw[e3]at e1;injection e1 with e1;exact e1.symm
     subst this;exact Option.some.inj e2
    ·exact h.elim
   ·exact h.elim
  ·rename_i b cv l0 r es;obtain⟨bv,hb,h⟩:=h;dsimp only at h;split at h
   ·rename_i d et' xs;split at h
    ·rename_i hk0 _ he;obtain⟨hk0⟩:=hk0;subst hk0;simp only[aC]at he;obtain⟨he,he0⟩:=he;have he:=aA he;have he0:=aA he0;subst he;subst he0;obtain⟨ys,h,hsrc⟩:=FT h;obtain⟨hg,rfl,rfl⟩:=h;have hg:=of_decide_eq_true hg;have hbf:b≠f:=λe=>by subst e;rw[hf]at hb;injection hb with hb;cases hb
     intro o a w Q K g ρ own fr h1 h2 hr hfr hs hk;obtain⟨vs',hs1,hkn,rfl,hl⟩:=Aa hr es;have hl:=(hl _ _ hb rfl).2;have hlr:(xs.take r).length=r:=by rw[aO];omega
     rw[FU,aW,aW]at hs1;obtain⟨k0,hk0,hB⟩:=hr.own_at hb;have hB:Buf g.b d.ty et' (.slice (ρ b).1 xs.length (ρ b).2) k0 xs:=hB;have hB:=hB.cut r hl;rw[<-hlr]at hs1;obtain⟨hyl,A,cap,news,hx1,hx2,hx3⟩:=hsrc g ρ own fr hr;refine JV b g.b news happ hs1 hx1 hk0 hB rfl hx3 hx2 (Ct hby hg) hg o a w Q K h1 h2 hfr hs λv g' own' w' hle hs' ⟨A',c',k',e1,e2,e3,hB'⟩=>?_;subst e1;subst e2;subst e3;have hno:=hr.hole_none hf;have hlb:=Am hk0;have hst:=hs'.move (b:=b) (f:=f) (k:=k') (by simp[aE,hlb]) (by rw[AK hbf];exact hno) hbf;rw[List.set_set]at hst;have hx:Ext ρ bl ρ (bl.set b .no):=Ext.set_at hb rfl λm hm=>by cases hm
     have hr1:=hr.setB (g':=g) (bv1:= .no) (k:=none) (.refl g) hb rfl (λm hm=>by cases hm) rfl;have hf1:(bl.set b .no)[f]? =some .hole:=by rw[AK hbf];exact hf
     have hx1':Ext ρ (bl.set b .no) (setρ ρ f (A',c')) ((bl.set b .no).set f (.row d et' (xs.take r++ys))):=Ext.set_hole hf1;have hr2:=hr1.lay (g':=g) (bv:= .row d et' (xs.take r++ys)) (k:=k') (e:=(A',c')) (.refl g) hf1 hB';refine hk _ g (setρ ρ f (A',c')) _ w' (.refl g) (hx.trans hx1') hst hr2 ⟨Bo (Am hf1) rfl,_,by rw[Bn],λbv m e1 e2=>?_⟩;have:bv= .row d et' (xs.take r++ys):=by
      have e3:((bl.set b .no).set f (.row d et' (xs.take r++ys)))[f]? =some (.row d et' (xs.take r++ys)):=by simp[aE,Am hf]
      have e1:((bl.set b .no).set f (.row d et' (xs.take r++ys)))[f]? =some bv:=e1;rw[e3]at e1;injection e1 with e1;exact e1.symm
     subst this;exact Option.some.inj e2
    ·exact h.elim
   ·exact h.elim
  ·rename_i es;obtain⟨ys,h,hsrc⟩:=FT h;obtain⟨hg,rfl,rfl⟩:=h;have hg:=of_decide_eq_true hg;intro o a w Q K g ρ own fr h1 h2 hr hfr hs hk;obtain⟨vs',hs1,rfl,_⟩:=Aa hr es;have hno:=hr.hole_none hf;obtain⟨hyl,A,cap,news,hx1,hx2,hx3⟩:=hsrc g ρ own fr hr;refine JV (T:=c.ty) (xs:=[]) f g.b news happ hs1 hx1 hno Buf.nil rfl hx3 hx2 (by simpa using hyl) (by simpa using hg) o a w Q K h1 h2 hfr hs λv g' own' w' hle hs' ⟨A',c',k',e1,e2,e3,hB'⟩=>?_;subst e1;subst e2;subst e3;rw[bD]at hB';have hx1':Ext ρ bl (setρ ρ f (A',c')) (bl.set f (.row c et ys)):=Ext.set_hole hf;have hr2:=hr.lay (g':=g) (bv:= .row c et ys) (k:=k') (e:=(A',c')) (.refl g) hf hB';refine hk _ g (setρ ρ f (A',c')) _ w' (.refl g) hx1' hs' hr2 ⟨Bo (Am hf) rfl,_,by rw[Bn],λbv m e1 e2=>?_⟩;have e3:(bl.set f (.row c et ys))[f]? =some (.row c et ys):=by simp[aE,Am hf]
   have e1:(bl.set f (.row c et ys))[f]? =some bv:=e1;rw[e3]at e1;injection e1 with e1;subst e1;exact Option.some.inj e2
  ·exact h.elim
 ·exact h.elim
end
def eqT(op:BinOp)(b:Bool):Tr:=match op with
 | .eql=>retT (vC (.bool b))
 | .neq=>retT (vC (.bool (!b)))
 |_=> .no
def plainC:CV->Option Value
 | .int k x=>some (.int k x)
 | .bool b=>some (.bool b)
 | .str l=>some (.string (mkS l))
 |_=>none
def plainL:List CV->Option (List Value)
 | []=>some []
 |c::l=>match plainC c,plainL l with|some v,some m=>some (v::m)|_,_=>none
def tBinI(op:BinOp)(k j:IntKind)(a b:Int):Tr:=match op with
 | .shl=> .grd (decide (0<=b)) (retT (vC (.int k (shlK k a b))))
 | .shr=> .grd (decide (0<=b)) (retT (vC (.int k (shrK k a b))))
 | .quo=>(match sameK j k with|some _=> .grd (decide (b≠0)) (retT (vC (.int k (k.wrap (a.tdiv b)))))|none=> .no)
 | .rem=>(match sameK j k with|some _=> .grd (decide (b≠0)) (retT (vC (.int k (a.tmod b))))|none=> .no)
 |op=>(match sameK j k,intOp op k a b with|some _,some c=>retT (vC c)|_,_=> .no)
def nilT(op:BinOp)(e:Bool):Tr:=match op with
 | .eql=>retT (vC (.nb e false))
 | .neq=>retT (vC (.nb e true))
 |_=> .no
def isCst:Operand->Bool
 | .const _=>true
 |_=>false
def tBin(P:Program)(sl:List (Nat×SV))(op:BinOp)(t:TypeId)(x y:Operand):Tr:=match evH sl x,evH sl y with
 |some (.v (.c (.int k a))),some (.v (.c (.int j b)))=>tBinI op k j a b
 |some (.v (.c (.bool a))),some (.v (.c (.bool b)))=>(match P.underlying t with|some .bool=>eqT op (a==b)|_=> .no)
 |some (.v (.c (.str a))),some (.v (.c (.str b)))=>(match op with
  | .add=> .grd (decide (a.length+b.length<=1125899906842624)) (retT (vC (.str (a++b))))
  | .lss=>retT (vC (.bool (Op.bytesLess a b)))
  | .leq=>retT (vC (.bool (Op.bytesLess a b||a==b)))
  | .gtr=>retT (vC (.bool (!(Op.bytesLess a b||a==b))))
  | .geq=>retT (vC (.bool (!Op.bytesLess a b)))
  |op=>eqT op (a==b))
 |some (.v (.c (.ptr _ _))),some (.v (.c (.k (.pointer none))))=>(match P.underlying t with|some (.pointer _)=>eqT op false|_=> .no)
 |some (.v (.c (.el _ _ _))),some (.v (.c (.k (.pointer none))))=>(match P.underlying t with|some (.pointer _)=>eqT op false|_=> .no)
 |some (.v (.c (.k (.pointer none)))),some (.v (.c (.k (.pointer none))))=>(match P.underlying t with|some (.pointer _)=>eqT op true|_=> .no)
 |some (.v (.c (.ifc _ _))),some (.v (.c (.k .nilIface)))=>(match P.underlying t with|some (.interface _)=>eqT op false|_=> .no)
 |some (.v (.c (.k .nilIface))),some (.v (.c (.k .nilIface)))=>(match P.underlying t,isCst y with|some (.interface _),true=>eqT op true|_,_=> .no)
 |some (.v (.c (.k (.slice none 0 0)))),some (.v (.c (.k (.slice none 0 0))))=>(match P.underlying t with|some (.slice _)=>eqT op true|_=> .no)
 |some (.v (.c (.ro c xs m))),some (.v (.c (.k (.slice none 0 0))))=>(match P.underlying t with|some (.slice _)=>nilT op xs.isEmpty|_=> .no)
 |some (.v (.c (.own b))),some (.v (.c (.k (.slice none 0 0))))=>(match P.underlying t with
  |some (.slice _)=> .need b fun
   | .row _ _ xs=> .grd (decide (0<xs.length)) (eqT op false)
   |_=> .no
  |_=> .no)
 |some (.v (.agg l)),some (.v (.agg m))=>(match plainL l,plainL m,P.eqGuardType P.depth t with
  |some xs,some ys,false=>(match eqOf P 9 t (.agg xs.toArray) (.agg ys.toArray)with|some b=>eqT op b|none=> .no)
  |_,_,_=> .no)
 |_,_=> .no
section
variable{bl bl':List BV}{v:SV}
theorem Oq{c:CV}{u v:Value}(h:plainC c=some u)(hr:RealC g ρ bl c v):v=u:=by
 cases c<;>simp only[plainC,Option.some.injEq,reduceCtorEq]at h<;>subst h
 ·exact hr.1
 ·exact hr
 ·exact hr.1
theorem EZ:∀{l:List CV}{us vs:List Value},plainL l=some us->AB (RealC g ρ bl) l vs->vs=us
 | [],us,[],h,_=>by injection h
 |c::l,us,v::vs,h,hr=>by
  unfold plainL at h;split at h
  ·rename_i u m h1 h2;injection h with h;subst h;rw[Oq h1 hr.1,EZ h2 hr.2]
  ·cases h
 | [],_,_::_,_,h=>h.elim
 |_::_,_,[],_,h=>h.elim
theorem Ee {b:Bool} {vx vy:Operand->Prop} (h:Told f (eqT op b) bl bl' v)
  (hy:∀g ρ own fr,Rl g ρ ⟨sl,bl⟩ own fr->Yld P n g.r own fr (.binOp .eql t x y u) ty (.bool b)/\Yld P n g.r own fr (.binOp .neq t x y u) ty (.bool (!b))):EffH P n (.binOp op t x y u) ty sl bl bl' v:=by
 unfold eqT at h;split at h
 ·obtain⟨rfl,rfl⟩:=Al h;exact .of_yld λg ρ own fr hr=>⟨_,rfl,(hy g ρ own fr hr).1⟩
 ·obtain⟨rfl,rfl⟩:=Al h;exact .of_yld λg ρ own fr hr=>⟨_,rfl,(hy g ρ own fr hr).2⟩
 ·exact h.elim
theorem Dw {a b:Value} {r:Bool} (hx:evS fr x=some a) (hy:evS fr y=some b) (hg:∀ op w,(eqGuard op t x y a b).run P w = .ok () w) (h1:∀ w,(binOp .eql t a b).run P w = .ok (.bool r) w) (h2:∀ w,(binOp .neq t a b).run P w = .ok (.bool (!r)) w) :
  Yld P n p own fr (.binOp .eql t x y u) ty (.bool r)/\Yld P n p own fr (.binOp .neq t x y u) ty (.bool (!r)):=
 ⟨λo ac w e1 e2 hf hr=>by simp[execOp,e1,hf.ev hx,hf.ev hy,hg,h1],λo ac w e1 e2 hf hr=>by simp[execOp,e1,hf.ev hx,hf.ev hy,hg,h2]⟩
theorem UM{a b:Bt}(hg:a.length+b.length<=1125899906842624):¬(((mkS a).size+(mkS b).size:Nat):Int)>IntKind.i64.max:=by rw[Eo,Eo,show IntKind.i64.max=9223372036854775807 from rfl];omega
theorem UN(d:Nat){a b:Bool}(ht:P.underlying t=some .bool):(Op.equalIn (d+1) t (.bool a) (.bool b)).run P w= .ok (a==b) w:=by simp[Op.equalIn,run_underlying ht]
theorem VY{k j:IntKind}{a b:Int}(ex:evH sl x=some (vC (.int k a)))(ey:evH sl y=some (vC (.int j b)))(h:Told f (tBinI op k j a b) bl bl' v):EffH P n (.binOp op t x y u) ty sl bl bl' v:=by
 unfold tBinI at h;split at h
 ·obtain⟨hg,h⟩:=h;obtain⟨rfl,rfl⟩:=Al h;refine .of_yld λg ρ own fr hr=>?_;obtain⟨vx,hx1,rfl,hx2⟩:=Aa hr ex;obtain⟨vy,hy1,rfl,hy2⟩:=Aa hr ey;exact⟨_,⟨rfl,DK _ _⟩,AgE hx1 hy1 (of_decide_eq_true hg) rfl⟩
 ·obtain⟨hg,h⟩:=h;obtain⟨rfl,rfl⟩:=Al h;refine .of_yld λg ρ own fr hr=>?_;obtain⟨vx,hx1,rfl,hx2⟩:=Aa hr ex;obtain⟨vy,hy1,rfl,hy2⟩:=Aa hr ey;exact⟨_,⟨rfl,Abq _ hx2⟩,AgF hx1 hy1 (of_decide_eq_true hg) rfl⟩
 ·split at h
  ·rename_i hk _;obtain⟨hk⟩:=hk;subst hk;obtain⟨hg,h⟩:=h;obtain⟨rfl,rfl⟩:=Al h;refine .of_yld λg ρ own fr hr=>?_;obtain⟨vx,hx1,rfl,hx2⟩:=Aa hr ex;obtain⟨vy,hy1,rfl,hy2⟩:=Aa hr ey;exact⟨_,⟨rfl,DK _ _⟩,AgC hx1 hy1 (of_decide_eq_true hg) rfl⟩
  ·exact h.elim
 ·split at h
  ·rename_i hk _;obtain⟨hk⟩:=hk;subst hk;obtain⟨hg,h⟩:=h;obtain⟨rfl,rfl⟩:=Al h;refine .of_yld λg ρ own fr hr=>?_;obtain⟨vx,hx1,rfl,hx2⟩:=Aa hr ex;obtain⟨vy,hy1,rfl,hy2⟩:=Aa hr ey;exact⟨_,⟨rfl,VT hx2⟩,AgD hx1 hy1 (of_decide_eq_true hg) rfl⟩
  ·exact h.elim
 ·split at h
  ·rename_i hk c _ hc;obtain⟨hk⟩:=hk;subst hk;obtain⟨rfl,rfl⟩:=Al h;refine .of_yld λg ρ own fr hr=>?_;obtain⟨vx,hx1,rfl,hx2⟩:=Aa hr ex;obtain⟨vy,hy1,rfl,hy2⟩:=Aa hr ey;obtain⟨v,h1,h2⟩:=VR (P:=P) (g:=g) (ρ:=ρ) (bl:=bl') hc;refine⟨v,h1,λo ac w e1 e2 hf hr=>?_⟩
   simp[execOp,e1,hf.ev hx1,hf.ev hy1,eqGuard,h2]
  ·exact h.elim
theorem Abt(h:Told f (tBin P sl op t x y) bl bl' v):EffH P n (.binOp op t x y u) ty sl bl bl' v:=by
 unfold tBin at h;split at h
 ·rename_i k a j b ex ey;exact VY ex ey h
 ·rename_i a b ex ey;split at h
  ·rename_i hu;refine Ee (vx:=λ_=>True) (vy:=λ_=>True) h λg ρ own fr hr=>?_;obtain⟨vx,hx1,hx2⟩:=Aa hr ex;obtain⟨vy,hy1,hy2⟩:=Aa hr ey;have hx2:vx= .bool a:=hx2;have hy2:vy= .bool b:=hy2;subst hx2;subst hy2;have e:∀w,(Op.equal t (.bool a) (.bool b)).run P w= .ok (a==b) w:=λw=>UN 9999 hu;exact Dw hx1 hy1 (λop w=>by cases op<;>simp[eqGuard]) (λw=>by simp[binOp,e]) (λw=>by simp[binOp,e])
  ·exact h.elim
 ·rename_i a b ex ey;split at h
  ·obtain⟨hg,h⟩:=h;obtain⟨rfl,rfl⟩:=Al h;have hg:=of_decide_eq_true hg;refine .of_yld λg ρ own fr hr=>?_;obtain⟨vx,hx1,rfl,hx2⟩:=Aa hr ex;obtain⟨vy,hy1,rfl,hy2⟩:=Aa hr ey;refine⟨.string (mkS (a++b)),⟨rfl,by rw[aU];exact hg⟩,λo ac w e1 e2 hf hr=>?_⟩
   have e3:(Op.stringOp .add (mkS a) (mkS b)).run P w= .ok (.string (mkS (a++b))) w:=by
    have h1:=UM hg;have h2:mkS a++mkS b=mkS (a++b):=by apply ByteArray.ext;show(mkS a++mkS b).data=(a++b).toArray;rw[ByteArray.data_append];simp[mkS]
    simp only[Op.stringOp,if_neg h1,h2];rfl
   simp[execOp,e1,hf.ev hx1,hf.ev hy1,eqGuard,binOp,e3]
  ·obtain⟨rfl,rfl⟩:=Al h;refine .of_yld λg ρ own fr hr=>?_;obtain⟨vx,hx1,rfl,hx2⟩:=Aa hr ex;obtain⟨vy,hy1,rfl,hy2⟩:=Aa hr ey;refine⟨_,rfl,λo ac w e1 e2 hf hr=>?_⟩
   simp[execOp,e1,hf.ev hx1,hf.ev hy1,eqGuard,binOp,Op.stringOp,Bv]
  ·obtain⟨rfl,rfl⟩:=Al h;refine .of_yld λg ρ own fr hr=>?_;obtain⟨vx,hx1,rfl,hx2⟩:=Aa hr ex;obtain⟨vy,hy1,rfl,hy2⟩:=Aa hr ey;refine⟨_,rfl,λo ac w e1 e2 hf hr=>?_⟩
   simp[execOp,e1,hf.ev hx1,hf.ev hy1,eqGuard,binOp,Op.stringOp,Bv]
  ·obtain⟨rfl,rfl⟩:=Al h;refine .of_yld λg ρ own fr hr=>?_;obtain⟨vx,hx1,rfl,hx2⟩:=Aa hr ex;obtain⟨vy,hy1,rfl,hy2⟩:=Aa hr ey;refine⟨_,rfl,λo ac w e1 e2 hf hr=>?_⟩
   simp[execOp,e1,hf.ev hx1,hf.ev hy1,eqGuard,binOp,Op.stringOp,Bv]
  ·obtain⟨rfl,rfl⟩:=Al h;refine .of_yld λg ρ own fr hr=>?_;obtain⟨vx,hx1,rfl,hx2⟩:=Aa hr ex;obtain⟨vy,hy1,rfl,hy2⟩:=Aa hr ey;refine⟨_,rfl,λo ac w e1 e2 hf hr=>?_⟩
   simp[execOp,e1,hf.ev hx1,hf.ev hy1,eqGuard,binOp,Op.stringOp,Bv]
  ·refine Ee (vx:=λ_=>True) (vy:=λ_=>True) h λg ρ own fr hr=>?_;obtain⟨vx,hx1,rfl,hx2⟩:=Aa hr ex;obtain⟨vy,hy1,rfl,hy2⟩:=Aa hr ey;exact⟨AgG hx1 hy1,AgH hx1 hy1⟩
 ·rename_i b off ex ey;split at h
  ·rename_i e hu;refine Ee (vx:=λ_=>True) (vy:=λ_=>True) h λg ρ own fr hr=>?_;obtain⟨vx,hx1,_,a,_,rfl⟩:=Aa hr ex;obtain⟨vy,hy1,rfl,_⟩:=Aa hr ey;have e:∀w,(Op.equal t (.pointer (some (a.add off))) (.pointer none)).run P w= .ok false w:=λw=>JX 9999 hu;exact Dw hx1 hy1 (λop w=>by cases op<;>simp[eqGuard]) (λw=>by simp[binOp,e]) (λw=>by simp[binOp,e])
  ·exact h.elim
 ·rename_i c x0 off ex ey;split at h
  ·rename_i e hu;refine Ee (vx:=λ_=>True) (vy:=λ_=>True) h λg ρ own fr hr=>?_;obtain⟨vx,hx1,a,cs,rfl,_⟩:=Aa hr ex;obtain⟨vy,hy1,rfl,_⟩:=Aa hr ey;have e:∀w,(Op.equal t (.pointer (some (a.add off))) (.pointer none)).run P w= .ok false w:=λw=>JX 9999 hu;exact Dw hx1 hy1 (λop w=>by cases op<;>simp[eqGuard]) (λw=>by simp[binOp,e]) (λw=>by simp[binOp,e])
  ·exact h.elim
 ·rename_i ex ey;split at h
  ·rename_i e hu;refine Ee (vx:=λ_=>True) (vy:=λ_=>True) h λg ρ own fr hr=>?_;obtain⟨vx,hx1,rfl,_⟩:=Aa hr ex;obtain⟨vy,hy1,rfl,_⟩:=Aa hr ey;have e:∀w,(Op.equal t (.pointer none) (.pointer none)).run P w= .ok true w:=λw=>JX 9999 hu;exact Dw hx1 hy1 (λop w=>by cases op<;>simp[eqGuard]) (λw=>by simp[binOp,e]) (λw=>by simp[binOp,e])
  ·exact h.elim
 ·rename_i t0 c ex ey;split at h
  ·rename_i ms hu;have hm:P.underlying t=some (.interface (P.methodsAt t)):=by unfold Program.methodsAt;rw[hu]
   refine Ee (vx:=λ_=>True) (vy:=λ_=>True) h λg ρ own fr hr=>?_;obtain⟨vx,hx1,u0,_,rfl⟩:=Aa hr ex;obtain⟨vy,hy1,rfl,_⟩:=Aa hr ey;exact Dw hx1 hy1 (λop w=>by cases op<;>simp[eqGuard]) (λw=>run_eql_held_nil w t t0 u0 hm) (λw=>run_neq_held_nil w t t0 u0 hm)
  ·exact h.elim
 ·rename_i ex ey;split at h
  ·rename_i ms hu hc;have hm:P.underlying t=some (.interface (P.methodsAt t)):=by unfold Program.methodsAt;rw[hu]
   refine Ee (vx:=λ_=>True) (vy:=λ_=>True) h λg ρ own fr hr=>?_;obtain⟨vx,hx1,rfl,_⟩:=Aa hr ex;obtain⟨vy,hy1,rfl,_⟩:=Aa hr ey;cases y<;>first|(cases hc;done)|skip
   exact Dw hx1 hy1 (λop w=>by cases op<;>simp[eqGuard]) (λw=>run_eql_nil_nil w t hm) (λw=>run_neq_nil_nil w t hm)
  ·exact h.elim
 ·rename_i ex ey;split at h
  ·rename_i e hu;refine Ee (vx:=λ_=>True) (vy:=λ_=>True) h λg ρ own fr hr=>?_;obtain⟨vx,hx1,rfl,_⟩:=Aa hr ex;obtain⟨vy,hy1,rfl,_⟩:=Aa hr ey;have e:∀w,(Op.equal t (.slice none 0 0) (.slice none 0 0)).run P w= .ok true w:=λw=>Du 9999 hu;exact Dw hx1 hy1 (λop w=>by cases op<;>simp[eqGuard]) (λw=>by simp[binOp,e]) (λw=>by simp[binOp,e])
  ·exact h.elim
 ·rename_i c xs m ex ey;split at h
  ·rename_i e hu;have key:∀g ρ own fr,Rl g ρ ⟨sl,bl⟩ own fr->∃A:Option Addr,(A.isNone=true->xs.isEmpty=true)/\Yld P n g.r own fr (.binOp .eql t x y u) ty (.bool A.isNone)/\Yld P n g.r own fr (.binOp .neq t x y u) ty (.bool (!A.isNone)):=λg ρ own fr hr=>by
    obtain⟨vx,hx1,A,cap,rfl,ha⟩:=Aa hr ex;obtain⟨vy,hy1,rfl,_⟩:=Aa hr ey;have e:∀w,(Op.equal t (.slice A xs.length cap) (.slice none 0 0)).run P w= .ok A.isNone w:=λw=>Du 9999 hu;refine⟨A,λhA=>?_,Dw hx1 hy1 (λop w=>by cases op<;>simp[eqGuard]) (λw=>by simp[binOp,e]) (λw=>by simp[binOp,e])⟩
    cases xs with
    |nil=>rfl
    |cons x0 xs=>
     have hs:∃ad,A=some ad:=by
      cases m with
      |true=>
       obtain⟨_,_,_,_,hrow⟩:=Arr.toM ha g.br;obtain⟨ad,e,_⟩:=hrow (by simp);exact⟨ad,e⟩
      |false=>
       obtain⟨_,_,_,_,hrow⟩:=ha;obtain⟨ad,e,_⟩:=hrow (by simp);exact⟨ad,e⟩
     obtain⟨ad,e⟩:=hs;subst e;cases hA
   unfold nilT at h;split at h
   ·obtain⟨rfl,rfl⟩:=Al h;refine .of_yld λg ρ own fr hr=>?_;obtain⟨A,h1,h2,_⟩:=key g ρ own fr hr;exact⟨_,⟨_,rfl,h1⟩,h2⟩
   ·obtain⟨rfl,rfl⟩:=Al h;refine .of_yld λg ρ own fr hr=>?_;obtain⟨A,h1,_,h2⟩:=key g ρ own fr hr;exact⟨_,⟨_,rfl,h1⟩,h2⟩
   ·exact h.elim
  ·exact h.elim
 ·rename_i b ex ey;split at h
  ·rename_i e hu;obtain⟨bv,hb,h⟩:=h;dsimp only at h;split at h;case h_2=>exact h.elim
   rename_i d et xs;obtain⟨hg,h⟩:=h;have hg:=of_decide_eq_true hg;refine Ee (vx:=λ_=>True) (vy:=λ_=>True) h λg ρ own fr hr=>?_;obtain⟨vx,hx1,hkn,l,rfl,hl⟩:=Aa hr ex;obtain⟨vy,hy1,rfl,_⟩:=Aa hr ey;obtain⟨k0,hk0,hB⟩:=hr.own_at hb;have hB:Buf g.b d.ty et (.slice (ρ b).1 xs.length (ρ b).2) k0 xs:=hB;rcases hB.2 with⟨_,e0,_⟩|⟨gb,cap,cs,sp,e1,_⟩
   ·rw[e0]at hg;exact absurd hg (by simp)
   ·injection e1 with e1 _ _;have e:∀w,(Op.equal t (.slice (ρ b).1 l (ρ b).2) (.slice none 0 0)).run P w= .ok false w:=λw=>by rw[e1];exact Du 9999 hu
    exact Dw hx1 hy1 (λop w=>by cases op<;>simp[eqGuard]) (λw=>by simp[binOp,e]) (λw=>by simp[binOp,e])
  ·exact h.elim
 ·rename_i l m ex ey;split at h
  ·rename_i xs ys hl hm hgd;split at h
   ·rename_i b hb;refine Ee (vx:=λ_=>True) (vy:=λ_=>True) h λg ρ own fr hr=>?_;obtain⟨vx,hx1,cs,rfl,hx2⟩:=Aa hr ex;obtain⟨vy,hy1,ds,rfl,hy2⟩:=Aa hr ey;rw[EZ hl hx2]at hx1;rw[EZ hm hy2]at hy1;exact⟨AgI hx1 hy1 hgd hb,AgJ hx1 hy1 hgd hb⟩
   ·exact h.elim
  ·exact h.elim
 ·exact h.elim
def tUn(sl:List (Nat×SV))(op:UnOp)(x:Operand):Tr:=match op,evH sl x with
 | .not,some (.v (.c (.bool b)))=>retT (vC (.bool (!b)))
 | .neg,some (.v (.c (.int k a)))=>retT (vC (.int k (k.wrap (0-a))))
 | .xor,some (.v (.c (.int k a)))=>retT (vC (.int k (lxorK k (if k.signed then-1 else k.max) a)))
 |_,_=> .no
theorem Aee{op:UnOp}(h:Told f (tUn sl op x) bl bl' v):EffH P n (.unOp op t x) ty sl bl bl' v:=by
 unfold tUn at h;split at h
 ·rename_i b ex;obtain⟨rfl,rfl⟩:=Al h;refine .of_yld λg ρ own fr hr=>?_;obtain⟨vx,hx1,hx2⟩:=Aa hr ex;have hx2:vx= .bool b:=hx2;subst hx2;exact⟨_,rfl,λo ac w e1 e2 hf hr=>by simp[execOp,e1,hf.ev hx1,Op.unary]⟩
 ·rename_i k a ex;obtain⟨rfl,rfl⟩:=Al h;refine .of_yld λg ρ own fr hr=>?_;obtain⟨vx,hx1,rfl,_⟩:=Aa hr ex;exact⟨_,⟨rfl,DK _ _⟩,λo ac w e1 e2 hf hr=>by simp[execOp,e1,hf.ev hx1,Op.unary,Op.intArith]⟩
 ·rename_i k a ex;obtain⟨rfl,rfl⟩:=Al h;refine .of_yld λg ρ own fr hr=>?_;obtain⟨vx,hx1,rfl,_⟩:=Aa hr ex;exact⟨_,⟨rfl,DK _ _⟩,λo ac w e1 e2 hf hr=>by simp[execOp,e1,hf.ev hx1,Op.unary,Op.intBits,lxorK]⟩
 ·exact h.elim
def tConv(P:Program)(sl:List (Nat×SV))(s d:TypeId)(x:Operand):Tr:=match evH sl x,P.underlying s,P.underlying d with
 |some (.v (.c (.int _ a))),some _,some (.int k)=>retT (vC (.int k (k.wrap a)))
 |some (.v (.c (.int _ a))),some _,some .string=> .grd (decide (0<=a/\a<128)) (retT (vC (.str [u8 a])))
 |_,_,_=> .no
theorem VZ{s d:TypeId}(h:Told f (tConv P sl s d x) bl bl' v):EffH P n (.convert s d x) ty sl bl bl' v:=by
 unfold tConv at h;split at h
 ·rename_i j a _ k ex hs hd;obtain⟨rfl,rfl⟩:=Al h;refine .of_yld λg ρ own fr hr=>?_;obtain⟨vx,hx1,rfl,_⟩:=Aa hr ex;exact⟨_,⟨rfl,DK _ _⟩,AdU hx1 (by rw[hs];rfl) hd rfl⟩
 ·rename_i j a u ex hs hd;obtain⟨hc,h⟩:=h;have hc:=of_decide_eq_true hc;obtain⟨rfl,rfl⟩:=Al h;refine .of_yld λg ρ own fr hr=>?_;obtain⟨vx,hx1,rfl,_⟩:=Aa hr ex;have he:Utf8.encode a=mkS [u8 a]:=by
   have h1:Utf8.valid a=true:=by simp[Utf8.valid];omega
   have h2:a.toNat<128:=by omega
   simp[Utf8.encode,h1,h2,mkS,u8]
  refine⟨_,⟨rfl,by simp⟩,λo ac w e1 e2 hf hr'=>?_⟩
  simp only[execOp,e1,hf.ev hx1];simp[convert,run_underlying hs,run_underlying hd,Conv.intToString,he]
 ·exact h.elim
def tExtract(sl:List (Nat×SV))(x:Operand)(i:Nat):Tr:=match evH sl x with
 |some (.tup l)=>(match l[i]? with|some v=>retT (.v v)|none=> .no)
 |_=> .no
theorem Ot(h:Told f (tExtract sl x i) bl bl' v):EffH P n (.extract x i) ty sl bl bl' v:=by
 unfold tExtract at h;split at h
 ·rename_i l ex;split at h
  ·rename_i u hu;obtain⟨rfl,rfl⟩:=Al h;refine .of_yld λg ρ own fr hr=>?_;obtain⟨vx,hx1,vs,rfl,hx2⟩:=Aa hr ex;obtain⟨w,h1,h2⟩:=hx2.get hu;exact⟨w,h2,λo ac w' e1 e2 hf hr=>by simp[execOp,e1,hf.ev hx1,Instr.extract,h1]⟩
  ·exact h.elim
 ·exact h.elim
def tNil(sl:List (Nat×SV))(x:Operand):Tr:=match evH sl x with
 |some (.v (.c (.ptr b off)))=>retT (vC (.ptr b off))
 |some (.v (.c (.el c x off)))=>retT (vC (.el c x off))
 |some (.v (.c (.eo b c i off)))=>retT (vC (.eo b c i off))
 |some (.v (.c (.fn f)))=>retT (vC (.fn f))
 |some (.v (.c (.ifc t c)))=>retT (vC (.ifc t c))
 |_=> .no
theorem Abu(h:Told f (tNil sl x) bl bl' v):EffH P n (.nilCheck x) ty sl bl bl' v:=by
 unfold tNil at h;split at h
 ·rename_i ex;obtain⟨rfl,rfl⟩:=Al h;refine .of_yld λg ρ own fr hr=>?_;obtain⟨vx,hx1,hx2⟩:=Aa hr ex;refine⟨vx,hx2,?_⟩
  obtain⟨_,a,_,rfl⟩:=hx2;exact λo ac w' e1 e2 hf hr=>by simp[execOp,e1,hf.ev hx1]
 ·rename_i ex;obtain⟨rfl,rfl⟩:=Al h;refine .of_yld λg ρ own fr hr=>?_;obtain⟨vx,hx1,hx2⟩:=Aa hr ex;refine⟨vx,hx2,?_⟩
  obtain⟨a,cs,rfl,_⟩:=hx2;exact λo ac w' e1 e2 hf hr=>by simp[execOp,e1,hf.ev hx1]
 ·rename_i ex;obtain⟨rfl,rfl⟩:=Al h;refine .of_yld λg ρ own fr hr=>?_;obtain⟨vx,hx1,hx2⟩:=Aa hr ex;refine⟨vx,hx2,?_⟩
  obtain⟨_,a,_,rfl,_⟩:=hx2;exact λo ac w' e1 e2 hf hr=>by simp[execOp,e1,hf.ev hx1]
 ·rename_i ex;obtain⟨rfl,rfl⟩:=Al h;refine .of_yld λg ρ own fr hr=>?_;obtain⟨vx,hx1,hx2⟩:=Aa hr ex;refine⟨vx,hx2,?_⟩
  have hx2:vx=_:=hx2;subst hx2;exact λo ac w' e1 e2 hf hr=>by simp[execOp,e1,hf.ev hx1]
 ·rename_i ex;obtain⟨rfl,rfl⟩:=Al h;refine .of_yld λg ρ own fr hr=>?_;obtain⟨vx,hx1,hx2⟩:=Aa hr ex;refine⟨vx,hx2,?_⟩
  obtain⟨u,_,rfl⟩:=hx2;exact λo ac w' e1 e2 hf hr=>by simp[execOp,e1,hf.ev hx1]
 ·exact h.elim
end
def eqB:Bool->Bool->Bool
 |true,true=>true
 |false,false=>true
 |_,_=>false
theorem Aef{a b:Bool}(h:eqB a b=true):a=b:=by cases a<;>cases b<;>first|rfl|cases h
inductive Sh where
 |i (k:IntKind)
 |b
 |s
 |cst (v:Value)
 |ic (k:IntKind) (z:Int)
 |bc (b:Bool)
 |ptr (j off:Nat)
 |own (j:Nat)
 |ro (c:Cd) (m:Bool)
 |el (c:Cd) (off:Nat)
 |fn (f:FuncId)
 |cap (f c:Sh)
 |ifc (t:TypeId) (c:Sh)
 |mp (j:Nat)
 |eo (j:Nat) (c:Cd) (off:Nat)
inductive Sh1 where
 |c (x:Sh)
 |agg (l:List Sh)
inductive SSh where
 |v (x:Sh1)
 |tup (l:List Sh1)
inductive BSh where
 |no
 |cells (t:TypeId) (l:List Sh)
 |row (c:Cd) (et:TypeId)
 |lent (l:List Sh)
 |map (c:Cd)
 |tree (t:TD) (et:TypeId)
variable{bs:List BSh}
structure Sch where
 sl:List (Nat×SSh)
 bl:List BSh
variable{sc:Sch}
structure DV where
 c:Cd
 x:c.den
inductive LT where
 |o
 |l (c:Cd)
 |p (a b:LT)
def HT:LT->Type
 | .o=>Unit
 | .l c=>c.den
 | .p a b=>HT a×HT b
def unT:(t:LT)->HT t->List DV->List DV
 | .o,_,r=>r
 | .l c,x,r=>⟨c,x⟩::r
 | .p a b,x,r=>unT a x.1 (unT b x.2 r)
def pkT:(t:LT)->List DV->Option (HT t×List DV)
 | .o,r=>some ((),r)
 | .l c,v::r=>match v.c.same c with|some h=>some ((h.down▸v.x:c.den),r)|none=>none
 | .l _,[]=>none
 | .p a b,r=>match pkT a r with|some (x,r1)=>(match pkT b r1 with|some (y,r2)=>some ((x,y),r2)|none=>none)|none=>none
theorem Rk:∀(t:LT){vs r:List DV}{x:HT t},pkT t vs=some (x,r)->unT t x r=vs
 | .o,vs,r,x,h=>(congrArg Prod.snd (Option.some.inj h)).symm
 | .l c,⟨e,y⟩::vs,r,x,h=>by
  unfold pkT at h;split at h
  ·rename_i hk _;obtain⟨hk⟩:=hk;have hk:e=c:=hk;subst hk;have h1:y=x:=congrArg bY (Option.some.inj h);have h2:vs=r:=congrArg Prod.snd (Option.some.inj h);subst h1;subst h2;rfl
  ·cases h
 | .l c,[],r,x,h=>by cases h
 | .p a b,vs,r,x,h=>by
  unfold pkT at h;split at h
  ·rename_i x1 r1 h1;split at h
   ·rename_i y r2 h2;have h3:(x1,y)=x:=congrArg bY (Option.some.inj h);have h4:r2=r:=congrArg Prod.snd (Option.some.inj h);subst h3;subst h4;show unT a x1 (unT b y _)=_;rw[Rk b h2,Rk a h1]
   ·cases h
  ·cases h
def unpack(t:LT)(x:HT t):List DV:=unT t x []
def pack(t:LT)(ds:List DV):Option (HT t):=match pkT t ds with|some (x,[])=>some x|_=>none
theorem MN(t:LT){vs:List DV}{x:HT t}(h:pack t vs=some x):unpack t x=vs:=by
 unfold pack at h;split at h
 ·rename_i y e;injection h with h;subst h;exact Rk t e
 ·cases h
def rgt:List LT->LT
 | []=> .o
 | [t]=>t
 |t::u::l=> .p t (rgt (u::l))
def bal:Nat->List LT->LT
 |0,l=>rgt l
 |n+1,l=>match l with
  | []=> .o
  | [t]=>t
  |t::u::r=> .p (bal n ((t::u::r).take ((t::u::r).length/2))) (bal n ((t::u::r).drop ((t::u::r).length/2)))
def Sh.lv:Sh->List Cd
 | .i k=>[.i k]
 | .b=>[.b]
 | .s=>[.s]
 | .ro c _=>[.a c]
 | .el c _=>[c]
 | .cap f c=>f.lv++c.lv
 | .ifc _ c=>c.lv
 | .eo _ _ _=>[.i .i64]
 |_=>[]
def shL:List Sh->List Cd
 | []=>[]
 |x::l=>x.lv++shL l
def Sh1.lv:Sh1->List Cd
 | .c x=>x.lv
 | .agg l=>shL l
def AgM:List Sh1->List Cd
 | []=>[]
 |x::l=>x.lv++AgM l
def SSh.lv:SSh->List Cd
 | .v x=>x.lv
 | .tup l=>AgM l
def BSh.lv:BSh->List Cd
 | .no=>[]
 | .cells _ l=>shL l
 | .row c _=>[.a c]
 | .lent l=>shL l
 | .map c=>[.a (.p .s c)]
 | .tree t _=>[.a t.cd]
def grp(l:List Cd):LT:=bal 8 (l.map .l)
def putG:LT->List LT->List LT
 | .o,l=>l
 |t,l=>t::l
def slG:List (Nat×SSh)->List LT->List LT
 | [],r=>r
 |(_,x)::l,r=>putG (grp x.lv) (slG l r)
def blG:List BSh->List LT
 | []=>[]
 |x::l=>putG (grp x.lv) (blG l)
def Sch.tr(s:Sch):LT:=bal 8 (slG s.sl (blG s.bl))
abbrev Con(α:Type):=List DV->Option (α×List DV)
def conC(rn:Nat->Nat):Sh->Con CV
 | .i k,⟨c,x⟩::r=>match c.same (.i k)with|some h=>some (.int k (h.down▸x:Cd.den (.i k)),r)|none=>none
 | .b,⟨c,x⟩::r=>match c.same .b with|some h=>some (.bool (h.down▸x:Cd.den .b),r)|none=>none
 | .s,⟨c,x⟩::r=>match c.same .s with|some h=>some (.str (h.down▸x:Cd.den .s),r)|none=>none
 | .cst v,r=>some (.k v,r)
 | .ic k z,r=>some (.int k z,r)
 | .bc b,r=>some (.bool b,r)
 | .ptr j off,r=>some (.ptr (rn j) off,r)
 | .own j,r=>some (.own (rn j),r)
 | .ro d m,⟨c,x⟩::r=>match c.same (.a d)with|some h=>some (.ro d (h.down▸x:Cd.den (.a d)) m,r)|none=>none
 | .el d off,⟨c,x⟩::r=>match c.same d with|some h=>some (.el d (h.down▸x:Cd.den d) off,r)|none=>none
 | .fn f,r=>some (.fn f,r)
 | .mp j,r=>some (.mp (rn j),r)
 | .cap f c,r=>match conC rn f r with|some (a,r1)=>(match conC rn c r1 with|some (b,r2)=>some (.cap a b,r2)|none=>none)|none=>none
 | .ifc t c,r=>match conC rn c r with|some (a,r1)=>some (.ifc t a,r1)|none=>none
 | .eo j d off,⟨c,x⟩::r=>match c.same (.i .i64)with|some h=>some (.eo (rn j) d (Int.toNat (h.down▸x:Cd.den (.i .i64))) off,r)|none=>none
 | .eo _ _ _,[]=>none
 | .i _,[]=>none
 | .b,[]=>none
 | .s,[]=>none
 | .ro _ _,[]=>none
 | .el _ _,[]=>none
def conL{α β:Type}(one:α->Con β):List α->Con (List β)
 | [],r=>some ([],r)
 |x::l,r=>match one x r with|some (a,r1)=>(match conL one l r1 with|some (m,r2)=>some (a::m,r2)|none=>none)|none=>none
def Wa(rn:Nat->Nat):Sh1->Con V1
 | .c x,r=>match conC rn x r with|some (a,r1)=>some (.c a,r1)|none=>none
 | .agg l,r=>match conL (conC rn) l r with|some (a,r1)=>some (.agg a,r1)|none=>none
def conS(rn:Nat->Nat):SSh->Con SV
 | .v x,r=>match Wa rn x r with|some (a,r1)=>some (.v a,r1)|none=>none
 | .tup l,r=>match conL (Wa rn) l r with|some (a,r1)=>some (.tup a,r1)|none=>none
def conB(rn:Nat->Nat):BSh->Con BV
 | .no,r=>some (.no,r)
 | .cells t l,r=>match conL (conC rn) l r with|some (a,r1)=>some (.cells t a,r1)|none=>none
 | .row d et,⟨c,x⟩::r=>match c.same (.a d)with|some h=>some (.row d et (h.down▸x:Cd.den (.a d)),r)|none=>none
 | .row _ _,[]=>none
 | .lent l,r=>match conL (conC rn) l r with|some (a,r1)=>some (.lent a,r1)|none=>none
 | .map d,⟨c,x⟩::r=>match c.same (.a (.p .s d))with|some h=>some (.map d (h.down▸x:Cd.den (.a (.p .s d))),r)|none=>none
 | .map _,[]=>none
 | .tree t et,⟨c,x⟩::r=>match c.same (.a t.cd)with|some h=>some (.tree t et (h.down▸x:Cd.den (.a t.cd)),r)|none=>none
 | .tree _ _,[]=>none
def conSl(rn:Nat->Nat)(p:Nat×SSh):Con (Nat×SV):=λr=>match conS rn p.2 r with|some (a,r1)=>some ((p.1,a),r1)|none=>none
def conSt(rn:Nat->Nat)(s:Sch)(ds:List DV):Option HSt:=match conL (conSl rn) s.sl ds with
 |some (a,r)=>(match conL (conB rn) s.bl r with
  |some (b,[])=>some ⟨a,b⟩
  |_=>none)
 |none=>none
structure AS where
 σ:List (Option Nat)
 bl:List BV
 ds:List DV
 lt:List Nat
 fl:List Nat
variable{s s':AS}
def sameCv:Value->Value->Bool
 | .pointer none,.pointer none=>true
 | .slice none 0 0,.slice none 0 0=>true
 | .nilFunc,.nilFunc=>true
 | .map none,.map none=>true
 | .nilIface,.nilIface=>true
 |_,_=>false
theorem FV{u:Value}(h:sameCv u v=true):u=v:=by unfold sameCv at h;split at h<;>first|rfl|cases h
def eqZ:Int->Int->Bool
 | .ofNat a,.ofNat b=>aD a b
 | .negSucc a,.negSucc b=>aD a b
 |_,_=>false
theorem Wb{x z:Int}(h:eqZ x z=true):x=z:=by
 unfold eqZ at h;split at h
 ·rw[aA h]
 ·rw[aA h]
 ·cases h
def AS.put(s:AS)(d:DV):AS:=⟨s.σ,s.bl,s.ds++[d],s.lt,s.fl⟩
def AS.asg(s:AS)(j b:Nat):Option AS:=match s.σ[j]? with
 |some none=>some ⟨s.σ.set j (some b),s.bl,s.ds,s.lt,s.fl⟩
 |some (some b')=>cond (aD b b') (some s) none
 |none=>none
def AS.rowAt(s:AS)(ln m:Bool)(c:Cd)(b:Nat):Option AS:=match s.bl[b]? with
 |some (.row d _ xs)=>(match d.same c with
  |some h=>(match m,ln with
   |true,_=>some ⟨s.σ,s.bl.set b (.fz d xs),s.ds++[⟨.a c,(h.down▸xs:List c.den)⟩],s.lt,b::s.fl⟩
   |false,true=>some ⟨s.σ,s.bl,s.ds++[⟨.a c,(h.down▸xs:List c.den)⟩],b::s.lt,s.fl⟩
   |false,false=>none)
  |none=>none)
 |some (.fz d xs)=>(match d.same c with|some h=>some (s.put ⟨.a c,(h.down▸xs:List c.den)⟩)|none=>none)
 |some (.tree t _ xs)=>(match t.cd.same c,m with
  |some h,true=>some ⟨s.σ,s.bl.set b (.fz t.cd xs),s.ds++[⟨.a c,(h.down▸xs:List c.den)⟩],s.lt,b::s.fl⟩
  |_,_=>none)
 |_=>none
def AS.rowV(s:AS)(ln m:Bool)(c:Cd)(b l h:Nat):Option AS:=match s.bl[b]? with
 |some (.row d _ xs)=>(match d.same c with
  |some e=>(match m,ln with
   |true,_=>some ⟨s.σ,s.bl.set b (.fz d xs),s.ds++[⟨.a c,((e.down▸xs:List c.den).drop l).take (h-l)⟩],s.lt,b::s.fl⟩
   |false,true=>some ⟨s.σ,s.bl,s.ds++[⟨.a c,((e.down▸xs:List c.den).drop l).take (h-l)⟩],b::s.lt,s.fl⟩
   |false,false=>none)
  |none=>none)
 |some (.fz d xs)=>(match d.same c with|some e=>some (s.put ⟨.a c,((e.down▸xs:List c.den).drop l).take (h-l)⟩)|none=>none)
 |_=>none
def absC(ln:Bool)(bs:List BSh):Sh->CV->AS->Option AS
 | .i k,.int j x,s=>match sameK j k with|some _=>some (s.put ⟨.i k,x⟩)|none=>none
 | .b,.bool x,s=>some (s.put ⟨.b,x⟩)
 | .s,.str x,s=>some (s.put ⟨.s,x⟩)
 | .cst v,.k u,s=>cond (sameCv v u) (some s) none
 | .ic k z,.int j x,s=>match sameK j k with|some _=>cond (eqZ x z) (some s) none|none=>none
 | .bc b,.bool x,s=>cond (eqB x b) (some s) none
 | .ptr j off,.ptr b o,s=>cond (aD off o) (s.asg j b) none
 | .own j,.own b,s=>s.asg j b
 | .mp j,.mp b,s=>s.asg j b
 | .own j,.k u,s=>match sameCv u (.slice none 0 0),ln,bs[j]?,s.σ[j]? with
  |true,false,some (.row c et),some none=>some ⟨s.σ.set j (some s.bl.length),s.bl++[.row c et []],s.ds,s.lt,s.bl.length::s.fl⟩
  |true,false,some (.tree t et),some none=>some ⟨s.σ.set j (some s.bl.length),s.bl++[.tree t et []],s.ds,s.lt,s.bl.length::s.fl⟩
  |_,_,_,_=>none
 | .ro c m,.ro d xs m',s=>match d.same c,(m&&!m')with|some h,false=>some (s.put ⟨.a c,(h.down▸xs:List c.den)⟩)|_,_=>none
 | .ro c m,.own b,s=>s.rowAt ln m c b
 | .ro c m,.vw b d l h,s=>match d.same c with|some _=>s.rowV ln m c b l h|none=>none
 | .ro c m,.k u,s=>cond (sameCv u (.slice none 0 0)) (some (s.put ⟨.a c,([]:List c.den)⟩)) none
 | .el c off,.el d x o,s=>match d.same c,aD off o with|some h,true=>some (s.put ⟨c,(h.down▸x:c.den)⟩)|_,_=>none
 | .fn f,.fn g,s=>cond (aD f g) (some s) none
 | .cap f c,.cap g d,s=>match absC ln bs f g s with|some s1=>absC ln bs c d s1|none=>none
 | .ifc t c,.ifc u d,s=>cond (aD t u) (absC ln bs c d s) none
 | .eo j c off,.eo b d i o,s=>match d.same c,aD off o with
  |some _,true=>(match s.asg j b with|some s1=>some (s1.put ⟨.i .i64,(i:Int)⟩)|none=>none)
  |_,_=>none
 |_,_,_=>none
def absL{α β:Type}(one:α->β->AS->Option AS):List α->List β->AS->Option AS
 | [],[],s=>some s
 |x::l,y::m,s=>match one x y s with|some s1=>absL one l m s1|none=>none
 |_,_,_=>none
def Aeg(ln:Bool)(bs:List BSh):Sh1->V1->AS->Option AS
 | .c x,.c y,s=>absC ln bs x y s
 | .agg l,.agg m,s=>absL (absC ln bs) l m s
 |_,_,_=>none
def absS(ln:Bool)(bs:List BSh):SSh->SV->AS->Option AS
 | .v x,.v y,s=>Aeg ln bs x y s
 | .tup l,.tup m,s=>absL (Aeg ln bs) l m s
 |_,_,_=>none
def absB(ln:Bool)(bs:List BSh)(b:BSh)(id:Option Nat)(s:AS):Option AS:=match b,id with
 | .no,_=>some s
 | .cells t l,some i=>(match s.bl[i]? with
  |some (.cells t' m)=>cond (aD t t') (absL (absC ln bs) l m s) none
  |_=>none)
 | .row c et,some i=>(match s.bl[i]? with
  |some (.row d et' xs)=>(match d.same c,aD et et' with|some h,true=>some (s.put ⟨.a c,(h.down▸xs:List c.den)⟩)|_,_=>none)
  |_=>none)
 | .lent l,some i=>(match s.bl[i]? with
  |some (.lent m)=>absL (absC ln bs) l m s
  |some (.cells _ m)=>cond ln (absL (absC ln bs) l m ⟨s.σ,s.bl,s.ds,i::s.lt,s.fl⟩) none
  |_=>none)
 | .map c,some i=>(match s.bl[i]? with
  |some (.map d xs)=>(match d.same c with|some h=>some (s.put ⟨.a (.p .s c),(h.down▸xs:List (Bt×c.den))⟩)|none=>none)
  |_=>none)
 | .tree t et,some i=>(match s.bl[i]? with
  |some (.tree t' et' xs)=>(match t'.same t,aD et et' with|some h,true=>some (s.put ⟨.a t.cd,(h.down▸xs:List t.cd.den)⟩)|_,_=>none)
  |_=>none)
 |_,none=>none
def absBs(ln:Bool)(bs:List BSh):Nat->List BSh->AS->Option AS
 |_,[],s=>some s
 |j,b::l,s=>match absB ln bs b (match s.σ[j]? with|some x=>x|none=>none) s with|some s1=>absBs ln bs (j+1) l s1|none=>none
def absSl(ln:Bool)(bs:List BSh)(sl:List (Nat×SV)):List (Nat×SSh)->AS->Option AS
 | [],s=>some s
 |(t,x)::l,s=>match getH sl t with
  |some y=>(match absS ln bs x y s with|some s1=>absSl ln bs sl l s1|none=>none)
  |none=>none
def nones:Nat->List (Option Nat)
 |0=>[]
 |m+1=>none::nones m
def absSt(ln:Bool)(sc:Sch)(σ0:List (Option Nat))(st:HSt):Option AS:=match absSl ln sc.bl st.sl sc.sl ⟨σ0,st.bl,[],[],[]⟩with
 |some s=>absBs ln sc.bl 0 sc.bl s
 |none=>none
inductive StepsTo:List BV->List BV->Prop where
 |refl {l:List BV}:StepsTo l l
 |frz {l l2:List BV} {b:Nat} {c:Cd} {et:TypeId} {xs:List c.den} (h:l[b]? =some (.row c et xs)) (k:StepsTo (l.set b (.fz c xs)) l2):StepsTo l l2
 |frzT {l l2:List BV} {b:Nat} {t:TD} {et:TypeId} {xs:List t.cd.den} (h:l[b]? =some (.tree t et xs)) (k:StepsTo (l.set b (.fz t.cd xs)) l2):StepsTo l l2
 |nil {l l2:List BV} {bv:BV} (h:(∃c et,bv= .row c et [])\/∃t et,bv= .tree t et []) (k:StepsTo (l++[bv]) l2):StepsTo l l2
theorem StepsTo.trans{a b c:List BV}(h:StepsTo a b)(k:StepsTo b c):StepsTo a c:=by
 induction h with
 |refl=>exact k
 |frz h _ ih=>exact .frz h (ih k)
 |frzT h _ ih=>exact .frzT h (ih k)
 |nil h _ ih=>exact .nil h (ih k)
def Grow(a b:List BV):Prop:=∀(i:Nat)(bv:BV),a[i]? =some bv->b[i]? =some bv\/∃c xs,frzB bv=some (.fz c xs)/\b[i]? =some (.fz c xs)
theorem Grow.refl{a:List BV}:Grow a a:=λi bv h=> .inl h
theorem Grow.trans{a b c:List BV}(h:Grow a b)(k:Grow b c):Grow a c:=λi bv e=>by
 rcases h i bv e with e1|⟨d,xs,hf,e1⟩
 ·exact k i bv e1
 ·rcases k i _ e1 with e2|⟨_,_,e2,_⟩
  ·exact .inr ⟨d,xs,hf,e2⟩
  ·cases e2
theorem StepsTo.grow{a b:List BV}(h:StepsTo a b):Grow a b:=by
 induction h with
 |refl=>exact .refl
 |@frz l l2 b c et xs h _ ih=>
  refine Grow.trans (λi bv e=>?_) ih;by_cases e2:b=i
  ·subst e2;rw[h]at e;injection e with e;subst e;exact .inr ⟨c,xs,rfl,by simp[aE,Am h]⟩
  ·exact .inl (by rw[AK e2];exact e)
 |@frzT l l2 b t et xs h _ ih=>
  refine Grow.trans (λi bv e=>?_) ih;by_cases e2:b=i
  ·subst e2;rw[h]at e;injection e with e;subst e;exact .inr ⟨t.cd,xs,rfl,by simp[aE,Am h]⟩
  ·exact .inl (by rw[AK e2];exact e)
 |nil _ _ ih=>exact Grow.trans (λi bv e=> .inl (by rw[aB (Am e)];exact e)) ih
theorem StepsTo.length{a b:List BV}(h:StepsTo a b):a.length<=b.length:=by
 induction h with
 |refl=>exact aR _
 |frz _ _ ih=>rwa [aI]at ih
 |frzT _ _ ih=>rwa [aI]at ih
 |nil _ _ ih=>rw[aU]at ih;exact aS (Nat.le_add_right _ _) ih
theorem Ou{bv fv:BV}(h:frzB bv=some fv):fv.len=bv.len/\fv.isHole=bv.isHole:=by
 cases bv<;>first|(cases h;done)|skip
 ·injection h with h;subst h;exact⟨rfl,rfl⟩
 ·injection h with h;subst h;exact⟨rfl,rfl⟩
theorem Grow.len{a b:List BV}(h:Grow a b){i:Nat}{bv:BV}(e:a[i]? =some bv):∃bv',b[i]? =some bv'/\bv'.len=bv.len/\bv'.isHole=bv.isHole:=by
 rcases h i bv e with e1|⟨c,xs,hf,e1⟩
 ·exact⟨_,e1,rfl,rfl⟩
 ·exact⟨_,e1,(Ou hf).1,(Ou hf).2⟩
section
variable{bl bl2:List BV}
theorem St.addNone(h:St w g own):St w g (own++[none]):=h.fewer (by rw[show Own.ids (own++[none])=Own.ids own by simp[Own.ids]];exact h.nodup) λk hk=>by simpa using hk
theorem StepsTo.do_ {w:World} (h:StepsTo bl bl2):∀ {g:Gh} {ρ:Env} {own:Own},Rl g ρ ⟨sl,bl⟩ own fr->St w g own ->
  ∃g' ρ' own',g.le g'/\St w g' own'/\Ext ρ bl ρ' bl2/\Rl g' ρ' ⟨sl,bl2⟩ own' fr/\(∀b,b<bl.length->ρ' b=ρ b)/\(∀b,bl.length<=b->b<bl2.length->ρ' b=(none,0)):=by
 induction h with
 |refl=>exact λhr hs=>⟨_,_,_,.refl _,hs,.refl,hr,λb _=>rfl,λb h1 h2=>absurd h2 (by omega)⟩
 |@frz bl bl2 b c et xs hb _ ih=>
  intro g ρ own hr hs;obtain⟨g1,own1,hg,hs1,hx,hr1⟩:=(FrzTo.step hb .refl).do_ (w:=w) hr hs;obtain⟨g2,ρ2,own2,h1,h2,h3,h4,h5,h6⟩:=ih hr1 hs1;rw[aI]at h5 h6;exact⟨g2,ρ2,own2,hg.trans h1,h2,hx.trans h3,h4,h5,h6⟩
 |@frzT bl bl2 b t et xs hb _ ih=>
  intro g ρ own hr hs;obtain⟨g1,own1,hg,hs1,hx,hr1⟩:=(FrzTo.frzT hb .refl).do_ (w:=w) hr hs;obtain⟨g2,ρ2,own2,h1,h2,h3,h4,h5,h6⟩:=ih hr1 hs1;rw[aI]at h5 h6;exact⟨g2,ρ2,own2,hg.trans h1,h2,hx.trans h3,h4,h5,h6⟩
 |@nil bl bl2 bv0 hbv hk ih=>
  intro g ρ own hr hs;have hx:Ext ρ bl (setρ ρ bl.length (none,0)) (bl++[bv0]):=λb bv e h2=>by have hlt:=Am e;exact⟨FP,bv,by rw[aB hlt];exact e,h2,λm h=>h⟩
  have hr1:Rl g (setρ ρ bl.length (none,0)) ⟨sl,bl++[bv0]⟩ (own++[none]) fr:=by
   refine hr.turn (.refl g) hx (by simp[hr.len]) λi bv k h1 h2=>?_;have hl:=hr.len;rcases aT i bl.length with hi|hi
   ·rw[aB hi]at h1;rw[aB (by simpa[hl]using hi)]at h2;rw[FP];exact(hr.blk i bv k h1 h2).ext (.refl g) hx
   ·have hi2:=Am h1;simp at hi2;have:i=bl.length:=by omega
    subst this;simp at h1;subst h1;have hl:own.length=bl.length:=hl;rw[<-hl]at h2;simp at h2;subst h2;rw[Bn];rcases hbv with⟨c,et,rfl⟩|⟨t,et,rfl⟩
    ·exact Buf.nil
    ·exact⟨by simp,.inl ⟨rfl,rfl,rfl⟩⟩
  obtain⟨g2,ρ2,own2,h1,h2,h3,h4,h5,h6⟩:=ih hr1 hs.addNone;have h7:=hk.length;simp only[aU,List.length_singleton]at h5 h6 h7;refine⟨g2,ρ2,own2,h1,h2,hx.trans h3,h4,λb hb=>by rw[h5 b (by omega),FP],λb hb1 hb2=>?_⟩
  rcases aT bl.length b with hb3|hb3
  ·exact h6 b (by omega) hb2
  ·have:b=bl.length:=by omega
   subst this;rw[h5 _ (by omega),Bn]
end
inductive SimC(L:List Nat)(n0:Nat)(σ:List (Option Nat))(bl:List BV):CV->CV->Prop where
 |int {k:IntKind} {x:Int}:SimC L n0 σ bl (.int k x) (.int k x)
 |bool {b:Bool}:SimC L n0 σ bl (.bool b) (.bool b)
 |str {l:Bt}:SimC L n0 σ bl (.str l) (.str l)
 |k {v:Value}:SimC L n0 σ bl (.k v) (.k v)
 |el {c:Cd} {x:c.den} {off:Nat}:SimC L n0 σ bl (.el c x off) (.el c x off)
 |fn {f:FuncId}:SimC L n0 σ bl (.fn f) (.fn f)
 |ro {c:Cd} {xs:List c.den} {m m':Bool} (h:m=true->m'=true):SimC L n0 σ bl (.ro c xs m') (.ro c xs m)
 |ptr {j b off:Nat} (h:σ[j]? =some (some b)):SimC L n0 σ bl (.ptr b off) (.ptr j off)
 |own {j b:Nat} (h:σ[j]? =some (some b)):SimC L n0 σ bl (.own b) (.own j)
 |mp {j b:Nat} (h:σ[j]? =some (some b)):SimC L n0 σ bl (.mp b) (.mp j)
 |nilown {j b:Nat} {bv:BV} (h:σ[j]? =some (some b)) (hb:bl[b]? =some bv) (hl:bv.len=some 0) (hn:n0<=b):SimC L n0 σ bl (.k (.slice none 0 0)) (.own j)
 |fz {b:Nat} {c:Cd} {xs:List c.den} {m:Bool} (hb:bl[b]? =some (.fz c xs)):SimC L n0 σ bl (.own b) (.ro c xs m)
 |lend {b:Nat} {c:Cd} {et:TypeId} {xs:List c.den} (hl:b∈L) (hb:bl[b]? =some (.row c et xs)):SimC L n0 σ bl (.own b) (.ro c xs false)
 |fzv {b l h:Nat} {c:Cd} {xs:List c.den} {m:Bool} (hb:bl[b]? =some (.fz c xs)):SimC L n0 σ bl (.vw b c l h) (.ro c ((xs.drop l).take (h-l)) m)
 |lendv {b l h:Nat} {c:Cd} {et:TypeId} {xs:List c.den} (hl:b∈L) (hb:bl[b]? =some (.row c et xs)):SimC L n0 σ bl (.vw b c l h) (.ro c ((xs.drop l).take (h-l)) false)
 |nilro {c:Cd} {m:Bool}:SimC L n0 σ bl (.k (.slice none 0 0)) (.ro c [] m)
 |cap {f f' c c':CV} (h1:SimC L n0 σ bl f f') (h2:SimC L n0 σ bl c c'):SimC L n0 σ bl (.cap f c) (.cap f' c')
 |ifc {t:TypeId} {c c':CV} (h:SimC L n0 σ bl c c'):SimC L n0 σ bl (.ifc t c) (.ifc t c')
 |eo {j b:Nat} {c:Cd} {i off:Nat} (h:σ[j]? =some (some b)):SimC L n0 σ bl (.eo b c i off) (.eo j c i off)
def SigLe(σ τ:List (Option Nat)):Prop:=∀(j b:Nat),σ[j]? =some (some b)->τ[j]? =some (some b)
theorem SigLe.trans{a b c:List (Option Nat)}(h:SigLe a b)(k:SigLe b c):SigLe a c:=λj x e=>k j x (h j x e)
theorem SigLe.refl{a:List (Option Nat)}:SigLe a a:=λ_ _ h=>h
theorem SimC.mono{L2:List Nat}{τ:List (Option Nat)}{bl bl2:List BV}(h0:∀b∈L,b∈L2)(h1:SigLe σ τ)(h2:Grow bl bl2){x y:CV}(h:SimC L n0 σ bl x y):SimC L2 n0 τ bl2 x y:=by
 induction h with
 |int=>exact .int
 |bool=>exact .bool
 |str=>exact .str
 |k=>exact .k
 |el=>exact .el
 |fn=>exact .fn
 |ro h=>exact .ro h
 |ptr h=>exact .ptr (h1 _ _ h)
 |own h=>exact .own (h1 _ _ h)
 |mp h=>exact .mp (h1 _ _ h)
 |eo h=>exact .eo (h1 _ _ h)
 |nilown h hb hl hn=>
  obtain⟨bv',e1,e2,_⟩:=h2.len hb;exact .nilown (h1 _ _ h) e1 (e2.trans hl) hn
 |fz hb=>
  rcases h2 _ _ hb with e|⟨_,_,e,_⟩
  ·exact .fz e
  ·cases e
 |lend hl hb=>
  rcases h2 _ _ hb with e|⟨_,_,e,e2⟩
  ·exact .lend (h0 _ hl) e
  ·injection e with e;injection e with e3 e5;subst e3;have e5:=eq_of_heq e5;subst e5;exact .fz e2
 |fzv hb=>
  rcases h2 _ _ hb with e|⟨_,_,e,_⟩
  ·exact .fzv e
  ·cases e
 |lendv hl hb=>
  rcases h2 _ _ hb with e|⟨_,_,e,e2⟩
  ·exact .lendv (h0 _ hl) e
  ·injection e with e;injection e with e3 e5;subst e3;have e5:=eq_of_heq e5;subst e5;exact .fzv e2
 |nilro=>exact .nilro
 |cap _ _ ih1 ih2=>exact .cap ih1 ih2
 |ifc _ ih=>exact .ifc ih
structure AsOk(ln:Bool)(n0:Nat)(s s':AS):Prop where
 st:StepsTo s.bl s'.bl
 sg:SigLe s.σ s'.σ
 lt:∀b∈s.lt,b∈s'.lt
 fl:∃l,s'.fl=l++s.fl/\(l=[]->s'.bl=s.bl)
theorem AsOk.refl{ln:Bool}{n0:Nat}{s:AS}:AsOk ln n0 s s:=⟨.refl,.refl,λ_ h=>h,[],rfl,λ_=>rfl⟩
theorem AsOk.trans{ln:Bool}{n0:Nat}{a b c:AS}(h:AsOk ln n0 a b)(k:AsOk ln n0 b c):AsOk ln n0 a c:=⟨h.st.trans k.st,h.sg.trans k.sg,λb hb=>k.lt b (h.lt b hb),by
 obtain⟨l,e1,e2⟩:=h.fl;obtain⟨m,e3,e4⟩:=k.fl;refine⟨m++l,by rw[e3,e1,aL],λe=>?_⟩
 have e:=List.append_eq_nil_iff.1 e;rw[e4 e.1,e2 e.2]⟩
theorem MO(h:s.asg j b=some s'):AsOk ln n0 s s'/\s'.ds=s.ds/\s'.σ[j]? =some (some b)/\s'.bl=s.bl:=by
 unfold AS.asg at h;split at h
 ·rename_i e;injection h with h;subst h;have hlt:=Am e;refine⟨⟨.refl,λi x hx=>?_,λ_ h=>h,[],rfl,λ_=>rfl⟩,rfl,by simp[aE,hlt],rfl⟩
  show(s.σ.set j (some b))[i]? =_;by_cases hij:j=i
  ·subst hij;rw[e]at hx;cases hx
  ·rw[AK hij];exact hx
 ·rename_i b' e;cases hb:aD b b' with
  |false=>rw[hb]at h;cases h
  |true=>
   rw[hb]at h;injection h with h;subst h;have:=aA hb;subst this;exact⟨.refl,rfl,e,rfl⟩
 ·cases h
theorem AO:∀(c:Cd),c.same c=some ⟨rfl⟩
 | .i k=>by cases k<;>rfl
 | .y=>rfl
 | .b=>rfl
 | .s=>rfl
 | .a c=>by simp[Cd.same,AO c]
 | .p c d=>by simp[Cd.same,AO c,AO d]
abbrev AbsR(ln:Bool)(n0:Nat)(sh:Sh)(cv:CV)(s s':AS):Prop:=AsOk ln n0 s s'/\∃new cv',s'.ds=s.ds++new/\(∀r,conC id sh (new++r)=some (cv',r))/\SimC s'.lt n0 s'.σ s'.bl cv cv'
theorem Dv{d:DV}:AsOk ln n0 s (s.put d):=⟨.refl,.refl,λ_ h=>h,[],rfl,λ_=>rfl⟩
theorem condS{b:Bool}{x:Option α}{y:α}(h:cond b x none=some y):b=true/\x=some y:=by
 cases b
 ·cases h
 ·exact⟨rfl,h⟩
theorem Wc{m:Bool}(h:s.rowAt ln m c b=some s'):AbsR ln n0 (.ro c m) (.own b) s s':=by
 unfold AS.rowAt at h;split at h
 ·rename_i d et xs hb;split at h
  ·rename_i hk _;obtain⟨hk⟩:=hk;subst hk;split at h
   ·injection h with h;subst h;refine⟨⟨.frz hb .refl,.refl,λ_ h=>h,[b],rfl,λe=>by cases e⟩,[⟨.a d,xs⟩],.ro d xs true,rfl,λr=>by simp[conC,AO],.fz (by simp[aE,Am hb])⟩
   ·injection h with h;subst h;exact⟨⟨.refl,.refl,λ_ h=>aH _ h,[],rfl,λ_=>rfl⟩,[⟨.a d,xs⟩],.ro d xs false,rfl,λr=>by simp[conC,AO],.lend (aJ ..) hb⟩
   ·cases h
  ·cases h
 ·rename_i d xs hb;split at h
  ·rename_i hk _;obtain⟨hk⟩:=hk;subst hk;injection h with h;subst h;exact⟨Dv,[⟨.a d,xs⟩],.ro d xs m,rfl,λr=>by simp[conC,AO],.fz hb⟩
  ·cases h
 ·rename_i t et xs hb;split at h
  ·rename_i hk _;obtain⟨hk⟩:=hk;subst hk;injection h with h;subst h;exact⟨⟨.frzT hb .refl,.refl,λ_ h=>h,[b],rfl,λe=>by cases e⟩,[⟨.a t.cd,xs⟩],.ro t.cd xs true,rfl,λr=>by simp[conC,AO],.fz (by simp[aE,Am hb])⟩
  ·cases h
 ·cases h
theorem Abv{m:Bool}{l r:Nat}(h:s.rowV ln m c b l r=some s'):AbsR ln n0 (.ro c m) (.vw b c l r) s s':=by
 unfold AS.rowV at h;split at h
 ·rename_i d et xs hb;split at h
  ·rename_i hk _;obtain⟨hk⟩:=hk;subst hk;split at h
   ·injection h with h;subst h;refine⟨⟨.frz hb .refl,.refl,λ_ h=>h,[b],rfl,λe=>by cases e⟩,[⟨.a d,(xs.drop l).take (r-l)⟩],.ro d ((xs.drop l).take (r-l)) true,rfl,λr=>by simp[conC,AO],.fzv (by simp[aE,Am hb])⟩
   ·injection h with h;subst h;exact⟨⟨.refl,.refl,λ_ h=>aH _ h,[],rfl,λ_=>rfl⟩,[⟨.a d,(xs.drop l).take (r-l)⟩],.ro d ((xs.drop l).take (r-l)) false,rfl,λr=>by simp[conC,AO],.lendv (aJ ..) hb⟩
   ·cases h
  ·cases h
 ·rename_i d xs hb;split at h
  ·rename_i hk _;obtain⟨hk⟩:=hk;subst hk;injection h with h;subst h;exact⟨Dv,[⟨.a d,(xs.drop l).take (r-l)⟩],.ro d ((xs.drop l).take (r-l)) m,rfl,λr=>by simp[conC,AO],.fzv hb⟩
  ·cases h
 ·cases h
theorem Hk:∀{sh:Sh}{cv:CV}{s s':AS},absC ln bs sh cv s=some s'->n0<=s.bl.length->AbsR ln n0 sh cv s s':=by
 intro sh;induction sh with
 |i k=>
  intro cv s s' h hn;cases cv<;>try(cases h;done)
  rename_i j x;unfold absC at h;split at h
  ·rename_i hk _;obtain⟨hk⟩:=hk;subst hk;injection h with h;subst h;exact⟨Dv,[⟨.i j,x⟩],.int j x,rfl,λr=>by simp[conC,AO],.int⟩
  ·cases h
 |b=>
  intro cv s s' h hn;cases cv<;>try(cases h;done)
  rename_i x;injection h with h;subst h;exact⟨Dv,[⟨.b,x⟩],.bool x,rfl,λr=>by simp[conC,AO],.bool⟩
 |s=>
  intro cv s s' h hn;cases cv<;>try(cases h;done)
  rename_i x;injection h with h;subst h;exact⟨Dv,[⟨.s,x⟩],.str x,rfl,λr=>by simp[conC,AO],.str⟩
 |cst v=>
  intro cv s s' h hn;cases cv<;>try(cases h;done)
  obtain⟨h1,h2⟩:=condS h;injection h2 with h2;subst h2;have:=FV h1;subst this;exact⟨.refl,[],_,by simp,λr=>rfl,.k⟩
 |ic k z=>
  intro cv s s' h hn;cases cv<;>try(cases h;done)
  rename_i j x;unfold absC at h;split at h
  ·rename_i hk _;obtain⟨hk⟩:=hk;subst hk;obtain⟨h1,h2⟩:=condS h;have:=Wb h1;subst this;injection h2 with h2;subst h2;exact⟨.refl,[],_,by simp,λr=>rfl,.int⟩
  ·cases h
 |bc b=>
  intro cv s s' h hn;cases cv<;>try(cases h;done)
  obtain⟨h1,h2⟩:=condS h;have:=Aef h1;subst this;injection h2 with h2;subst h2;exact⟨.refl,[],_,by simp,λr=>rfl,.bool⟩
 |ptr j off=>
  intro cv s s' h hn;cases cv<;>try(cases h;done)
  obtain⟨h1,h2⟩:=condS h;have h1:=aA h1;subst h1;obtain⟨h3,h4,h5,_⟩:=MO (ln:=ln) (n0:=n0) h2;exact⟨h3,[],_,by simp[h4],λr=>rfl,.ptr h5⟩
 |mp j=>
  intro cv s s' h hn;cases cv<;>try(cases h;done)
  obtain⟨h3,h4,h5,_⟩:=MO (ln:=ln) (n0:=n0) h;exact⟨h3,[],_,by simp[h4],λr=>rfl,.mp h5⟩
 |own j=>
  intro cv s s' h hn;cases cv<;>try(cases h;done)
  ·rename_i u;unfold absC at h;split at h
   ·rename_i c et h1 h2 h3;injection h with h;subst h;have:=FV h1;subst this;have hlt:=Am h3;refine⟨⟨.nil (.inl ⟨_,_,rfl⟩) .refl,λi x hx=>?_,λ_ h=>h,[s.bl.length],rfl,λe=>by cases e⟩,[],_,by simp,λr=>rfl,.nilown (b:=s.bl.length) (by simp[aE,hlt]) (by simp;rfl) rfl hn⟩
    show(s.σ.set j (some s.bl.length))[i]? =_;by_cases hij:j=i
    ·subst hij;rw[h3]at hx;cases hx
    ·rw[AK hij];exact hx
   ·rename_i t et h1 h2 h3;injection h with h;subst h;have:=FV h1;subst this;have hlt:=Am h3;refine⟨⟨.nil (.inr ⟨_,_,rfl⟩) .refl,λi x hx=>?_,λ_ h=>h,[s.bl.length],rfl,λe=>by cases e⟩,[],_,by simp,λr=>rfl,.nilown (b:=s.bl.length) (by simp[aE,hlt]) (by simp;rfl) rfl hn⟩
    show(s.σ.set j (some s.bl.length))[i]? =_;by_cases hij:j=i
    ·subst hij;rw[h3]at hx;cases hx
    ·rw[AK hij];exact hx
   ·cases h
  ·obtain⟨h3,h4,h5,_⟩:=MO (ln:=ln) (n0:=n0) h;exact⟨h3,[],_,by simp[h4],λr=>rfl,.own h5⟩
 |ro c m=>
  intro cv s s' h hn;cases cv<;>try(cases h;done)
  ·obtain⟨h1,h2⟩:=condS h;have:=FV h1;subst this;injection h2 with h2;subst h2;exact⟨Dv,[⟨.a c,([]:List c.den)⟩],.ro c [] m,rfl,λr=>by simp[conC,AO],.nilro⟩
  ·exact Wc h
  ·rename_i d xs m';unfold absC at h;split at h
   ·rename_i hk _ hm;obtain⟨hk⟩:=hk;subst hk;injection h with h;subst h;refine⟨Dv,[⟨.a d,xs⟩],.ro d xs m,rfl,λr=>by simp[conC,AO],.ro λe=>by subst e;cases m'<;>simp_all⟩
   ·cases h
  ·rename_i b d l r;unfold absC at h;split at h
   ·rename_i hk _;obtain⟨hk⟩:=hk;subst hk;exact Abv h
   ·cases h
 |eo j c off=>
  intro cv s s' h hn;cases cv<;>try(cases h;done)
  rename_i b d i o;unfold absC at h;split at h
  ·rename_i hk _ ho;obtain⟨hk⟩:=hk;subst hk;have ho:=aA ho;subst ho;split at h
   ·rename_i s1 hs1;injection h with h;subst h;obtain⟨h3,h4,h5,_⟩:=MO (ln:=ln) (n0:=n0) hs1;exact⟨h3.trans Dv,[⟨.i .i64,(i:Int)⟩],.eo j d i off,by simp[AS.put,h4],λr=>by simp[conC,AO],.eo h5⟩
   ·cases h
  ·cases h
 |el c off=>
  intro cv s s' h hn;cases cv<;>try(cases h;done)
  rename_i d x o;unfold absC at h;split at h
  ·rename_i hk _ ho;obtain⟨hk⟩:=hk;subst hk;have ho:=aA ho;subst ho;injection h with h;subst h;exact⟨Dv,[⟨d,x⟩],.el d x off,rfl,λr=>by simp[conC,AO],.el⟩
  ·cases h
 |fn f=>
  intro cv s s' h hn;cases cv<;>try(cases h;done)
  obtain⟨h1,h2⟩:=condS h;have h1:=aA h1;subst h1;injection h2 with h2;subst h2;exact⟨.refl,[],_,by simp,λr=>rfl,.fn⟩
 |cap f c ih1 ih2=>
  intro cv s s' h hn;cases cv<;>try(cases h;done)
  rename_i g d;unfold absC at h;split at h
  ·rename_i s1 h1;obtain⟨a1,n1,c1,d1,e1,s1'⟩:=ih1 h1 hn;obtain⟨a2,n2,c2,d2,e2,s2'⟩:=ih2 h (aS hn a1.st.length);refine⟨a1.trans a2,n1++n2,.cap c1 c2,by rw[d2,d1,aL],λr=>?_,.cap (s1'.mono a2.lt a2.sg a2.st.grow) s2'⟩
   rw[aL];simp only[conC,e1,e2]
  ·cases h
 |ifc t c ih=>
  intro cv s s' h hn;cases cv<;>try(cases h;done)
  rename_i u d;obtain⟨h1,h2⟩:=condS h;have h1:=aA h1;subst h1;obtain⟨a1,n1,c1,d1,e1,s1'⟩:=ih h2 hn;exact⟨a1,n1,.ifc t c1,d1,λr=>by simp only[conC,e1],.ifc s1'⟩
def ReadsOk{α β:Type}(ln:Bool)(n0:Nat)(con:α->Con β)(Sim:List Nat->List (Option Nat)->List BV->β->β->Prop)(x:α)(y:β)(s s':AS):Prop:=
 AsOk ln n0 s s'/\∃new y',s'.ds=s.ds++new/\(∀r,con x (new++r)=some (y',r))/\Sim s'.lt s'.σ s'.bl y y'
def MonoS{β:Type}(Sim:List Nat->List (Option Nat)->List BV->β->β->Prop):Prop:=∀L L2 σ τ bl bl2 y y',(∀b∈L,b∈L2)->SigLe σ τ->Grow bl bl2->Sim L σ bl y y'->Sim L2 τ bl2 y y'
theorem FW {α β:Type} {ln:Bool} {n0:Nat} {one:α->β->AS->Option AS} {con:α->Con β} {Sim:List Nat->List (Option Nat)->List BV->β->β->Prop} (hm:MonoS Sim)
  (h1:∀x y s s',one x y s=some s'->n0<=s.bl.length->ReadsOk ln n0 con Sim x y s s'):∀{l:List α}{m:List β}{s s':AS},absL one l m s=some s'->n0<=s.bl.length->
  ReadsOk ln n0 (conL con) (λL σ bl=>AB (Sim L σ bl)) l m s s'
 | [],[],s,s',h,hn=>by injection h with h;subst h;exact⟨.refl,[],[],by simp,λr=>rfl,trivial⟩
 |x::l,y::m,s,s',h,hn=>by
  unfold absL at h;split at h
  ·rename_i s1 e;obtain⟨a1,n1,y1,d1,c1,q1⟩:=h1 x y s s1 e hn;obtain⟨a2,n2,y2,d2,c2,q2⟩:=FW hm h1 h (aS hn a1.st.length);refine⟨a1.trans a2,n1++n2,y1::y2,by rw[d2,d1,aL],λr=>?_,hm _ _ _ _ _ _ _ _ a2.lt a2.sg a2.st.grow q1,q2⟩
   rw[aL];simp only[conL,c1,c2]
  ·cases h
 | [],_::_,_,_,h,_=>by cases h
 |_::_,[],_,_,h,_=>by cases h
def LR(L:List Nat)(n0:Nat)(σ:List (Option Nat))(bl:List BV):V1->V1->Prop
 | .c x,.c y=>SimC L n0 σ bl x y
 | .agg l,.agg m=>AB (SimC L n0 σ bl) l m
 |_,_=>False
def SimS(L:List Nat)(n0:Nat)(σ:List (Option Nat))(bl:List BV):SV->SV->Prop
 | .v x,.v y=>LR L n0 σ bl x y
 | .tup l,.tup m=>AB (LR L n0 σ bl) l m
 |_,_=>False
theorem FX:MonoS (λL=>SimC L n0):=λ_ _ _ _ _ _ _ _ h0 h1 h2 h=>h.mono h0 h1 h2
theorem Im:MonoS (λL=>LR L n0):=λ_ _ _ _ _ _ y y' h0 h1 h2 h=>by
 cases y<;>cases y'<;>first|exact h.elim|skip
 ·exact SimC.mono h0 h1 h2 h
 ·exact AB.mono (λ_ _ h=>SimC.mono h0 h1 h2 h) h
theorem Ma:MonoS (λL=>SimS L n0):=λ_ _ _ _ _ _ y y' h0 h1 h2 h=>by
 cases y<;>cases y'<;>first|exact h.elim|skip
 ·exact Im _ _ _ _ _ _ _ _ h0 h1 h2 h
 ·exact AB.mono (λ_ _ h=>Im _ _ _ _ _ _ _ _ h0 h1 h2 h) h
theorem SC(x:Sh1)(y:V1)(s s':AS)(h:Aeg ln bs x y s=some s')(hn:n0<=s.bl.length):ReadsOk ln n0 (Wa id) (λL=>LR L n0) x y s s':=by
 cases x<;>cases y<;>first|(cases h;done)|skip
 ·obtain⟨a,nw,y',d,c,q⟩:=Hk h hn;exact⟨a,nw,.c y',d,λr=>by simp only[Wa,c],q⟩
 ·obtain⟨a,nw,y',d,c,q⟩:=FW FX (λx y s s' h hn=>Hk h hn) h hn;exact⟨a,nw,.agg y',d,λr=>by simp only[Wa,c],q⟩
theorem Abw(x:SSh)(y:SV)(s s':AS)(h:absS ln bs x y s=some s')(hn:n0<=s.bl.length):ReadsOk ln n0 (conS id) (λL=>SimS L n0) x y s s':=by
 cases x<;>cases y<;>first|(cases h;done)|skip
 ·obtain⟨a,nw,y',d,c,q⟩:=SC _ _ _ _ h hn;exact⟨a,nw,.v y',d,λr=>by simp only[conS,c],q⟩
 ·obtain⟨a,nw,y',d,c,q⟩:=FW Im (SC (bs:=bs)) h hn;exact⟨a,nw,.tup y',d,λr=>by simp only[conS,c],q⟩
def SimSl(L:List Nat)(n0:Nat)(sl:List (Nat×SV))(σ:List (Option Nat))(bl:List BV)(p:Nat×SV):Prop:=∃y,getH sl p.1=some y/\SimS L n0 σ bl y p.2
theorem Kg {ln:Bool} {bs:List BSh} {n0:Nat} {sl:List (Nat×SV)}:∀ {l:List (Nat×SSh)} {s s':AS},absSl ln bs sl l s=some s'->n0<=s.bl.length ->
  AsOk ln n0 s s'/\∃new m,s'.ds=s.ds++new/\(∀r,conL (conSl id) l (new++r)=some (m,r))/\∀p∈m,SimSl s'.lt n0 sl s'.σ s'.bl p
 | [],s,s',h,hn=>by injection h with h;subst h;exact⟨.refl,[],[],by simp,λr=>rfl,λp hp=>by cases hp⟩
 |(t,x)::l,s,s',h,hn=>by
  unfold absSl at h;split at h
  ·rename_i y ey;split at h
   ·rename_i s1 e;obtain⟨a1,n1,y1,d1,c1,q1⟩:=Abw x y s s1 e hn;obtain⟨a2,n2,m,d2,c2,q2⟩:=Kg h (aS hn a1.st.length);refine⟨a1.trans a2,n1++n2,(t,y1)::m,by rw[d2,d1,aL],λr=>?_,λp hp=>?_⟩
    ·rw[aL];simp only[conL,conSl,c1,c2]
    ·rcases aP.1 hp with rfl|hp
     ·exact⟨y,ey,Ma _ _ _ _ _ _ _ _ a2.lt a2.sg a2.st.grow q1⟩
     ·exact q2 p hp
   ·cases h
  ·cases h
inductive SimB(L:List Nat)(n0:Nat)(σ:List (Option Nat))(bl:List BV):Option Nat->BV->Prop where
 |no {x:Option Nat}:SimB L n0 σ bl x .no
 |cells {i:Nat} {t:TypeId} {l m:List CV} (h:bl[i]? =some (.cells t l)) (hs:AB (SimC L n0 σ bl) l m):SimB L n0 σ bl (some i) (.cells t m)
 |row {i:Nat} {c:Cd} {et:TypeId} {xs:List c.den} (h:∃bv,bl[i]? =some bv/\(bv= .row c et xs\/bv= .fz c xs)):SimB L n0 σ bl (some i) (.row c et xs)
 |lent {i:Nat} {l m:List CV} (h:bl[i]? =some (.lent l)) (hs:AB (SimC L n0 σ bl) l m):SimB L n0 σ bl (some i) (.lent m)
 |lend {i:Nat} {t:TypeId} {l m:List CV} (hl:i∈L) (h:bl[i]? =some (.cells t l)) (hs:AB (SimC L n0 σ bl) l m):SimB L n0 σ bl (some i) (.lent m)
 |map {i:Nat} {c:Cd} {xs:List (Bt×c.den)} (h:bl[i]? =some (.map c xs)):SimB L n0 σ bl (some i) (.map c xs)
 |tree {i:Nat} {t:TD} {et:TypeId} {xs:List t.cd.den} (h:∃bv,bl[i]? =some bv/\(bv= .tree t et xs\/bv= .fz t.cd xs)):SimB L n0 σ bl (some i) (.tree t et xs)
theorem SimB.mono{L L2:List Nat}{n0:Nat}{σ τ:List (Option Nat)}{bl bl2:List BV}(h0:∀b∈L,b∈L2)(h1:SigLe σ τ)(h2:Grow bl bl2){x:Option Nat}{y:BV}(h:SimB L n0 σ bl x y):SimB L2 n0 τ bl2 x y:=by
 have hc:∀{i:Nat}{t:TypeId}{l:List CV},bl[i]? =some (.cells t l)->bl2[i]? =some (.cells t l):=λe=>by
  rcases h2 _ _ e with e|⟨_,_,e,_⟩
  ·exact e
  ·cases e
 cases h with
 |no=>exact .no
 |cells h hs=>exact .cells (hc h) (hs.mono λ_ _ h=>h.mono h0 h1 h2)
 |row h=>
  obtain⟨bv,e,h⟩:=h;rcases h2 _ _ e with e2|⟨c,xs,e2,e3⟩
  ·exact .row ⟨bv,e2,h⟩
  ·rcases h with rfl|rfl
   ·injection e2 with e2;injection e2 with h3 h5;subst h3;have h5:=eq_of_heq h5;subst h5;exact .row ⟨_,e3,.inr rfl⟩
   ·cases e2
 |lent h hs=>
  rcases h2 _ _ h with e|⟨_,_,e,_⟩
  ·exact .lent e (hs.mono λ_ _ h=>h.mono h0 h1 h2)
  ·cases e
 |lend hl h hs=>exact .lend (h0 _ hl) (hc h) (hs.mono λ_ _ h=>h.mono h0 h1 h2)
 |map h=>
  rcases h2 _ _ h with e|⟨_,_,e,_⟩
  ·exact .map e
  ·cases e
 |tree h=>
  obtain⟨bv,e,h⟩:=h;rcases h2 _ _ e with e2|⟨c,xs,e2,e3⟩
  ·exact .tree ⟨bv,e2,h⟩
  ·rcases h with rfl|rfl
   ·injection e2 with e2;injection e2 with h3 h5;subst h3;have h5:=eq_of_heq h5;subst h5;exact .tree ⟨_,e3,.inr rfl⟩
   ·cases e2
theorem Abx {b:BSh} {id_:Option Nat} (h:absB ln bs b id_ s=some s') (hn:n0<=s.bl.length) :
  AsOk ln n0 s s'/\∃new y',s'.ds=s.ds++new/\(∀r,conB id b (new++r)=some (y',r))/\SimB s'.lt n0 s'.σ s'.bl id_ y':=by
 unfold absB at h;split at h
 ·injection h with h;subst h;exact⟨.refl,[],_,by simp,λr=>rfl,.no⟩
 ·rename_i t l i;split at h
  ·rename_i t' m hb;obtain⟨ht,h2⟩:=condS h;clear h;have ht:=aA ht;subst ht;obtain⟨a,nw,y',d,c,q⟩:=FW (con:=conC id) FX (λx y s s' h hn=>Hk h hn) h2 hn;have hb':s'.bl[i]? =some (.cells t m):=by
    rcases a.st.grow _ _ hb with e|⟨_,_,e,_⟩
    ·exact e
    ·cases e
   exact⟨a,nw,.cells t y',d,λr=>by simp only[conB,c],.cells hb' q⟩
  ·cases h
 ·rename_i c et i;split at h
  ·rename_i d et' xs hb;split at h
   ·rename_i hk _ he;obtain⟨hk⟩:=hk;subst hk;have he:=aA he;subst he;injection h with h;subst h;exact⟨Dv,[⟨.a d,xs⟩],.row d et xs,rfl,λr=>by simp[conB,AO],.row ⟨_,hb,.inl rfl⟩⟩
   ·cases h
  ·cases h
 ·rename_i l i;split at h
  ·rename_i m hb;obtain⟨a,nw,y',d,c,q⟩:=FW FX (λx y s s' h hn=>Hk h hn) h hn;have hb':s'.bl[i]? =some (.lent m):=by
    rcases a.st.grow _ _ hb with e|⟨_,_,e,_⟩
    ·exact e
    ·cases e
   exact⟨a,nw,.lent y',d,λr=>by simp only[conB,c],.lent hb' q⟩
  ·rename_i t' m hb;obtain⟨hl,h⟩:=condS h;obtain⟨a,nw,y',d,c,q⟩:=FW FX (λx y s s' h hn=>Hk h hn) h hn;have hb':s'.bl[i]? =some (.cells t' m):=by
    rcases a.st.grow _ _ hb with e|⟨_,_,e,_⟩
    ·exact e
    ·cases e
   exact⟨⟨a.st,a.sg,λb hb=>a.lt b (aH _ hb),a.fl⟩,nw,.lent y',d,λr=>by simp only[conB,c],.lend (a.lt i (aJ ..)) hb' q⟩
  ·cases h
 ·rename_i c i;split at h
  ·rename_i d xs hb;split at h
   ·rename_i hk _;obtain⟨hk⟩:=hk;subst hk;injection h with h;subst h;exact⟨Dv,[⟨.a (.p .s d),xs⟩],.map d xs,rfl,λr=>by simp[conB,AO],.map hb⟩
   ·cases h
  ·cases h
 ·rename_i t et i;split at h
  ·rename_i d et' xs hb;split at h
   ·rename_i hk _ he;obtain⟨hk⟩:=hk;subst hk;have he:=aA he;subst he;injection h with h;subst h;exact⟨Dv,[⟨.a d.cd,xs⟩],.tree d et xs,rfl,λr=>by simp[conB,AO],.tree ⟨_,hb,.inl rfl⟩⟩
   ·cases h
  ·cases h
 ·cases h
def sigAt(σ:List (Option Nat))(j:Nat):Option Nat:=match σ[j]? with|some x=>x|none=>none
theorem Ov{τ:List (Option Nat)}(h:SigLe σ τ)(e:sigAt σ j=some b):sigAt τ j=some b:=by
 unfold sigAt at e⊢;split at e
 ·rename_i x hx;subst e;rw[h j b hx]
 ·cases e
def SimBs(L:List Nat)(n0:Nat)(σ:List (Option Nat))(bl:List BV):Nat->List BV->Prop
 |_,[]=>True
 |j,y::l=>(y= .no\/∃i,sigAt σ j=some i/\SimB L n0 σ bl (some i) y)/\SimBs L n0 σ bl (j+1) l
theorem SimBs.mono{L L2:List Nat}{n0:Nat}{σ τ:List (Option Nat)}{bl bl2:List BV}(h0:∀b∈L,b∈L2)(h1:SigLe σ τ)(h2:Grow bl bl2):∀{l:List BV}{j:Nat},SimBs L n0 σ bl j l->SimBs L2 n0 τ bl2 j l
 | [],_,h=>trivial
 |y::l,j,h=>⟨h.1.imp id λ⟨i,e,q⟩=>⟨i,Ov h1 e,q.mono h0 h1 h2⟩,h.2.mono h0 h1 h2⟩
theorem Kh {ln:Bool} {bs:List BSh} {n0:Nat}:∀ {l:List BSh} {j:Nat} {s s':AS},absBs ln bs j l s=some s'->n0<=s.bl.length ->
  AsOk ln n0 s s'/\∃new m,s'.ds=s.ds++new/\(∀r,conL (conB id) l (new++r)=some (m,r))/\SimBs s'.lt n0 s'.σ s'.bl j m
 | [],j,s,s',h,hn=>by injection h with h;subst h;exact⟨.refl,[],[],by simp,λr=>rfl,trivial⟩
 |b::l,j,s,s',h,hn=>by
  unfold absBs at h;split at h
  ·rename_i s1 e;have e:absB ln bs b (sigAt s.σ j) s=some s1:=e;obtain⟨a1,n1,y1,d1,c1,q1⟩:=Abx e hn;obtain⟨a2,n2,m,d2,c2,q2⟩:=Kh h (aS hn a1.st.length);refine⟨a1.trans a2,n1++n2,y1::m,by rw[d2,d1,aL],λr=>?_,?_,q2⟩
   ·rw[aL];simp only[conL,c1,c2]
   ·have hsg:∀i,sigAt s.σ j=some i->sigAt s'.σ j=some i:=λi hi=>Ov (a1.sg.trans a2.sg) hi;have q1':=q1.mono a2.lt a2.sg a2.st.grow;generalize sigAt s.σ j=x at q1' hsg;cases x with
    |none=>cases q1' with|no=>exact .inl rfl
    |some i=>exact .inr ⟨i,hsg i rfl,q1'⟩
  ·cases h
theorem Fa (h:absSt ln sc σ0 st=some s):∃ st',conSt id sc s.ds=some st'/\StepsTo st.bl s.bl/\SigLe σ0 s.σ /\
  (∀p∈st'.sl,SimSl s.lt st.bl.length st.sl s.σ s.bl p)/\SimBs s.lt st.bl.length s.σ s.bl 0 st'.bl:=by
 unfold absSt at h;split at h
 ·rename_i s1 e;obtain⟨a1,n1,m1,d1,c1,q1⟩:=Kg e (aR _);obtain⟨a2,n2,m2,d2,c2,q2⟩:=Kh h a1.st.length;refine⟨⟨m1,m2⟩,?_,a1.st.trans a2.st,a1.sg.trans a2.sg,λp hp=>?_,q2⟩
  ·unfold conSt;rw[d2,d1,bD,c1];have:=c2 [];rw[bO]at this;simp only[this]
  ·obtain⟨y,e1,e2⟩:=q1 p hp;exact⟨y,e1,Ma _ _ _ _ _ _ _ _ a2.lt a2.sg a2.st.grow e2⟩
 ·cases h
theorem Rm(h:absSt ln sc σ0 st=some s)(hf:s.fl=[]):s.bl=st.bl:=by
 unfold absSt at h;split at h
 ·rename_i s1 e;obtain⟨a1,_⟩:=Kg e (aR _);obtain⟨a2,_⟩:=Kh h a1.st.length;obtain⟨l,e1,e2⟩:=(a1.trans a2).fl;have e1:s.fl=l++[]:=e1;rw[hf,bO]at e1;exact e2 e1.symm
 ·cases h
structure Ctx(L:List Nat)(n0:Nat)(σ:List (Option Nat))(bl:List BV)(ρ:Env)(g:Gh)(bl':List BV)(ρ':Env)(g':Gh):Prop where
 gr:g.r.le g'.r
 gb:g.b.le g'.b
 at_:∀(j b:Nat),σ[j]? =some (some b)->ρ' j=ρ b/\∃bv:BV,bl'[j]? =some bv/\bv.isHole=false/\∀m,bv.len=some m->∃bv0:BV,bl[b]? =some bv0/\bv0.len=some m
 nil:∀(b:Nat)(bv:BV),n0<=b->bl[b]? =some bv->ρ b=(none,0)
 fz:∀(b:Nat)(c:Cd)(xs:List c.den),bl[b]? =some (.fz c xs)->Arr g.b c.ty (ρ b).1 (ρ b).2 xs
 lend:∀(b:Nat)(c:Cd)(et:TypeId)(xs:List c.den),b∈L->bl[b]? =some (.row c et xs)->ArrM g'.r g'.b c.ty (ρ b).1 (ρ b).2 xs
section
variable{bl bl':List BV}{ρ':Env}
theorem SimC.real(c:Ctx L n0 σ bl ρ g bl' ρ' g'){x y:CV}(h:SimC L n0 σ bl x y):∀{v:Value},RealC g ρ bl x v->RealC g' ρ' bl' y v:=by
 induction h with
 |int=>exact λhr=>hr
 |bool=>exact λhr=>hr
 |str=>exact λhr=>hr
 |k=>exact λhr=>hr
 |el=>exact λ⟨a,cs,h1,h2,h3⟩=>⟨a,cs,h1,h2.mono c.gr,Ty.mono _ c.gb h3⟩
 |fn=>exact λhr=>hr
 |@ro d xs m m' h=>
  intro v hr;obtain⟨A,cap,hv,ha⟩:=hr;refine⟨A,cap,hv,?_⟩
  cases m with
  |true=>
   have:=h rfl;subst this;exact Arr.mono ha c.gb
  |false=>
   cases m' with
   |true=>exact Arr.toM (Arr.mono ha c.gb) g'.br
   |false=>exact ArrM.mono ha c.gr c.gb
 |@ptr j b off h=>
  intro v ⟨hk,a,ha,hv⟩;obtain⟨e,bv,e1,e2,_⟩:=c.at_ _ _ h;exact⟨⟨bv,e1,e2⟩,a,by rw[e];exact ha,hv⟩
 |@mp j b h=>
  intro v ⟨hk,bk,ha,hv⟩;obtain⟨e,bv,e1,e2,_⟩:=c.at_ _ _ h;exact⟨⟨bv,e1,e2⟩,bk,by rw[e];exact ha,hv⟩
 |@eo j b d i off h=>
  intro v ⟨hk,a,ha,hv,hl⟩;obtain⟨e,bv,e1,e2,e3⟩:=c.at_ _ _ h;refine⟨⟨bv,e1,e2⟩,a,by rw[e];exact ha,hv,λbv' l h1 h2=>?_⟩
  rw[e1]at h1;injection h1 with h1;subst h1;obtain⟨bv0,h3,h4⟩:=e3 l h2;exact hl bv0 l h3 h4
 |@own j b h=>
  intro v ⟨hk,m,hv,hl⟩;obtain⟨e,bv,e1,e2,e3⟩:=c.at_ _ _ h;refine⟨⟨bv,e1,e2⟩,m,by rw[e];exact hv,λbv' l h1 h2=>?_⟩
  rw[e1]at h1;injection h1 with h1;subst h1;obtain⟨bv0,h3,h4⟩:=e3 l h2;exact hl bv0 l h3 h4
 |@nilown j b bv0 h hb hl hn=>
  intro v ⟨hv,_⟩;obtain⟨e,bv,e1,e2,e3⟩:=c.at_ _ _ h;refine⟨⟨bv,e1,e2⟩,0,by rw[e,c.nil b bv0 hn hb];exact hv,λbv' l h1 h2=>?_⟩
  rw[e1]at h1;injection h1 with h1;subst h1;obtain⟨bv1,h3,h4⟩:=e3 l h2;rw[hb]at h3;injection h3 with h3;subst h3;rw[hl]at h4;injection h4
 |@fz b d xs m hb=>
  intro v ⟨hk,l,hv,hl⟩;have:=hl _ _ hb rfl;subst this;refine⟨_,_,hv,?_⟩
  have ha:=c.fz b d xs hb;cases m with
  |true=>exact ha.mono c.gb
  |false=>exact Arr.toM (ha.mono c.gb) g'.br
 |@lend b d et xs hl hb=>
  intro v ⟨hk,l,hv,hl2⟩;have:=hl2 _ _ hb rfl;subst this;exact⟨_,_,hv,c.lend b d et xs hl hb⟩
 |@fzv b l r d xs m hb=>
  intro v ⟨hk,hv,hl2⟩;obtain⟨h1,h2⟩:=hl2 _ _ hb rfl;have hlen:((xs.drop l).take (r-l)).length=r-l:=by rw[aO,bM];omega
  have ha:=(c.fz b d xs hb).cut l r h1 h2;rw[d.ty_n]at ha;refine⟨_,_,by rw[hlen];exact hv,?_⟩
  cases m with
  |true=>exact ha.mono c.gb
  |false=>exact Arr.toM (ha.mono c.gb) g'.br
 |@lendv b l r d et xs hl hb=>
  intro v ⟨hk,hv,hl2⟩;obtain⟨h1,h2⟩:=hl2 _ _ hb rfl;have hlen:((xs.drop l).take (r-l)).length=r-l:=by rw[aO,bM];omega
  have ha:=(c.lend b d et xs hl hb).cut l r h1 h2;rw[d.ty_n]at ha;exact⟨_,_,by rw[hlen];exact hv,ha⟩
 |nilro=>
  rename_i d m;intro v ⟨hv,_⟩;refine⟨none,0,hv,?_⟩
  cases m with
  |true=>exact Arr.nil
  |false=>exact ArrM.nil
 |cap _ _ ih1 ih2=>exact λ⟨f0,caps,vc,h1,h2,h3⟩=>⟨f0,caps,vc,ih1 h1,ih2 h2,h3⟩
 |ifc _ ih=>exact λ⟨u,h1,h2⟩=>⟨u,ih h1,h2⟩
theorem AB.over{α β γ:Type}{R:α->β->Prop}{S:α->γ->Prop}{T:β->γ->Prop}(hi:∀x y v,R x y->S x v->T y v):∀{l:List α}{m:List β}{n:List γ},AB R l m->AB S l n->AB T m n
 | [],[],[],_,_=>trivial
 |_::_,_::_,_::_,h,k=>⟨hi _ _ _ h.1 k.1,AB.over hi h.2 k.2⟩
 | [],[],_::_,_,k=>k.elim
 | [],_::_,_,h,_=>h.elim
 |_::_,[],_,h,_=>h.elim
 |_::_,_::_,[],_,k=>k.elim
theorem LR.real(c:Ctx L n0 σ bl ρ g bl' ρ' g'){x y:V1}{v:Value}(h:LR L n0 σ bl x y)(hr:BO g ρ bl x v):BO g' ρ' bl' y v:=by
 cases x<;>cases y<;>first|exact h.elim|skip
 ·exact SimC.real (v:=v) c h hr
 ·obtain⟨cs,e,hr⟩:=hr;refine⟨cs,e,?_⟩
  rename_i l m;exact AB.over (R:=SimC L n0 σ bl) (S:=RealC g ρ bl) (T:=RealC g' ρ' bl') (λx y v h1 h2=>SimC.real (v:=v) c h1 h2) h hr
theorem Io{l m:List CV}(c:Ctx L n0 σ bl ρ g bl' ρ' g')(h:AB (SimC L n0 σ bl) l m){cs:List Value}(hr:AB (RealC g ρ bl) l cs):AB (RealC g' ρ' bl') m cs:=by
 obtain⟨cs',e,h'⟩:=LR.real (x:= .agg l) (y:= .agg m) (v:= .agg cs.toArray) c h ⟨cs,rfl,hr⟩;have:cs=cs':=by simpa using e
 subst this;exact h'
theorem SimS.real(c:Ctx L n0 σ bl ρ g bl' ρ' g'){x y:SV}{v:Value}(h:SimS L n0 σ bl x y)(hr:RealS g ρ bl x v):RealS g' ρ' bl' y v:=by
 cases x<;>cases y<;>first|exact h.elim|skip
 ·exact LR.real c h hr
 ·obtain⟨vs,e,hr⟩:=hr;refine⟨vs,e,?_⟩
  rename_i l m;exact AB.over (R:=LR L n0 σ bl) (S:=BO g ρ bl) (T:=BO g' ρ' bl') (λx y v h1 h2=>LR.real c h1 h2) h hr
end
def BV.owned:BV->Bool
 | .cells _ _=>true
 | .row _ _ _=>true
 | .map _ _=>true
 | .tree _ _ _=>true
 |_=>false
variable{bl:List BV}{E:List (Nat×BV)}{bl':List BV}{bv:BV}{a:List BV}
def ownIds(σ:List (Option Nat)):Nat->List BV->List (Option Nat)
 |_,[]=>[]
 |j,y::l=>cond y.owned (sigAt σ j) none::ownIds σ (j+1) l
theorem CN(σ:List (Option Nat)):∀(j:Nat)(l:List BV),(ownIds σ j l).length=l.length
 |_,[]=>rfl
 |j,y::l=>by simp[ownIds,CN σ (j+1) l]
theorem DM(σ:List (Option Nat)):∀(l:List BV)(j i:Nat){y:BV},l[i]? =some y->(ownIds σ j l)[i]? =some (cond y.owned (sigAt σ (j+i)) none)
 | [],_,_,_,h=>by simp at h
 |z::l,j,0,y,h=>by simp at h;subst h;rfl
 |z::l,j,i+1,y,h=>by have:=DM σ l (j+1) i (by simpa using h);simp only[ownIds,aQ,this];rw[show j+1+i=j+(i+1) by omega]
theorem SimBs.get{L:List Nat}{n0:Nat}{σ:List (Option Nat)}{bl:List BV}:∀{l:List BV}{j i:Nat}{y:BV},SimBs L n0 σ bl j l->l[i]? =some y->y= .no\/∃b,sigAt σ (j+i)=some b/\SimB L n0 σ bl (some b) y
 | [],_,_,_,_,h=>by simp at h
 |z::l,j,0,y,hs,h=>by simp at h;subst h;exact hs.1
 |z::l,j,i+1,y,hs,h=>by
  have:=hs.2.get (i:=i) (by simpa using h)
  rwa [show j+1+i=j+(i+1) by omega]at this
def nodupB:List Nat->Bool
 | []=>true
 |x::l=>!natMem x l&&nodupB l
theorem CO{x:Nat}:∀{l:List Nat},natMem x l=true↔x∈l
 | []=>by simp[natMem]
 |y::l=>by
  unfold natMem;cases h:aD x y with
  |true=>have:=aA h;simp[this]
  |false=>have:x≠y:=(λe=>by subst e;simp at h);simp[CO (x:=x) (l:=l),this]
theorem FY:∀{l:List Nat},nodupB l=true->l.Nodup
 | [],_=>bF
 |x::l,h=>by simp only[nodupB,aC,Bool.not_eq_true']at h;exact bE.2 ⟨λhm=>by rw[CO.2 hm]at h;exact absurd h.1 (by decide),FY h.2⟩
def rowsB(bl:List BV)(σ:List (Option Nat)):Nat->List BV->Bool
 |_,[]=>true
 |j,y::l=>(match y with
  | .row _ _ _=>(match sigAt σ j with|some i=>(match bl[i]? with|some (.row _ _ _)=>true|_=>false)|none=>false)
  | .tree _ _ _=>(match sigAt σ j with|some i=>(match bl[i]? with|some (.tree _ _ _)=>true|_=>false)|none=>false)
  |_=>true)&&rowsB bl σ (j+1) l
theorem Ip{bl:List BV}{σ:List (Option Nat)}:∀{l:List BV}{j i:Nat}{c:Cd}{et:TypeId}{xs:List c.den},rowsB bl σ j l=true->l[i]? =some (.row c et xs)->∃b c' et' xs',sigAt σ (j+i)=some b/\bl[b]? =some (.row c' et' xs')
 | [],_,_,_,_,_,_,h=>by simp at h
 |z::l,j,0,c,et,xs,hr,h=>by
  simp at h;subst h;simp only[rowsB,aC]at hr;have hr:=hr.1;split at hr
  ·rename_i i hi;split at hr
   ·rename_i c' et' xs' hb;exact⟨i,c',et',xs',hi,hb⟩
   ·cases hr
  ·cases hr
 |z::l,j,i+1,c,et,xs,hr,h=>by
  simp only[rowsB,aC]at hr;have:=Ip (i:=i) hr.2 (by simpa using h)
  rwa [show j+1+i=j+(i+1) by omega]at this
theorem Iq{bl:List BV}{σ:List (Option Nat)}:∀{l:List BV}{j i:Nat}{t:TD}{et:TypeId}{xs:List t.cd.den},rowsB bl σ j l=true->l[i]? =some (.tree t et xs)->∃b t' et' xs',sigAt σ (j+i)=some b/\bl[b]? =some (.tree t' et' xs')
 | [],_,_,_,_,_,_,h=>by simp at h
 |z::l,j,0,c,et,xs,hr,h=>by
  simp at h;subst h;simp only[rowsB,aC]at hr;have hr:=hr.1;split at hr
  ·rename_i i hi;split at hr
   ·rename_i c' et' xs' hb;exact⟨i,c',et',xs',hi,hb⟩
   ·cases hr
  ·cases hr
 |z::l,j,i+1,c,et,xs,hr,h=>by
  simp only[rowsB,aC]at hr;have:=Iq (i:=i) hr.2 (by simpa using h)
  rwa [show j+1+i=j+(i+1) by omega]at this
def absChk(s:AS)(bl':List BV):Bool:=let os:=(ownIds s.σ 0 bl').filterMap id
 nodupB os&&(rowsB s.bl s.σ 0 bl'&&(os.all (λi=>!natMem i s.lt)&&aD s.σ.length bl'.length))
def joinChk(s:AS)(bl':List BV):Bool:=(match s.lt with| []=>true|_=>false)&&absChk s bl'
def Rn:Nat->Nat->List (Option Nat)
 |_,0=>[]
 |j,m+1=>some j::Rn (j+1) m
theorem Ki:∀(m j i:Nat),i<m->(Rn j m)[i]? =some (some (j+i))
 |m+1,j,0,_=>rfl
 |m+1,j,i+1,h=>by have:=Ki m (j+1) i (by omega);simp only[Rn,aQ,this];rw[show j+1+i=j+(i+1) by omega]
structure An where
 np:Nat
 ρ:Env
 len:Nat->Option Nat
variable{A:An}
def Anch(A:An)(ρ:Env)(bl:List BV):Prop:=∀j,j<A.np->ρ j=A.ρ j/\Known bl j/\∀(bv:BV)(m:Nat),bl[j]? =some bv->bv.len=some m->A.len j=some m
theorem Anch.ext{ρ':Env}(h:Anch A ρ bl)(hx:Ext ρ bl ρ' bl'):Anch A ρ' bl':=λj hj=>by
 obtain⟨h1,h2,h5⟩:=h j hj;obtain⟨h3,h4⟩:=hx.known h2;refine⟨h4.trans h1,h3,λbv m e1 e2=>?_⟩
 obtain⟨bv0,e3,e4⟩:=h2;obtain⟨_,bv',e5,_,e6⟩:=hx j bv0 e3 e4;rw[e5]at e1;injection e1 with e1;subst e1;exact h5 bv0 m e3 (e6 m e2)
def SW(K:Act->World->Prop)(n:Nat)(A:An)(g0:Gh)(st:HSt):Prop:=∀g ρ own fr,g0.le g->Anch A ρ st.bl->Rl g ρ st own fr->WPq K n g own fr
def envOf(σ:List (Option Nat))(ρ:Env):Env:=λj=>match sigAt σ j with|some b=>ρ b|none=>(none,0)
theorem Kj(h:σ[j]? =some (some b)):sigAt σ j=some b:=by unfold sigAt;rw[h]
theorem UO{x:Option Nat}{y:BV}(h:SimB L n0 σ bl x y):y.isHole=false:=by cases h<;>rfl
theorem FZ (hb:SimBs L n0 σ bl 0 bl') (hl:σ.length=bl'.length) (j b:Nat) (e:σ[j]? = some (some b)) :
  envOf σ ρ j=ρ b/\∃bv:BV,bl'[j]? =some bv/\bv.isHole=false/\∀m,bv.len=some m->∃bv0:BV,bl[b]? =some bv0/\bv0.len=some m:=by
 have hlt:j<bl'.length:=by rw[<-hl];exact Am e
 refine⟨by unfold envOf;rw[Kj e],bl'[j],aF hlt,?_,?_⟩
 ·rcases hb.get (aF hlt)with h|⟨b',h1,h2⟩
  ·rw[h];rfl
  ·exact UO h2
 ·intro m hm;rcases hb.get (aF hlt)with h|⟨b',h1,h2⟩
  ·rw[h]at hm;cases hm
  ·rw[aK,Kj e]at h1;injection h1 with h1;subst h1;generalize bl'[j]=bv at h2 hm;cases h2 with
   |no=>cases hm
   |cells h hs=>cases hm
   |row h=>
    obtain⟨bv,e1,h⟩:=h;rcases h with rfl|rfl
    ·exact⟨_,e1,hm⟩
    ·exact⟨_,e1,hm⟩
   |lent h hs=>cases hm
   |lend hl h hs=>cases hm
   |map h=>cases hm
   |tree h=>
    obtain⟨bv,e1,h⟩:=h;rcases h with rfl|rfl
    ·exact⟨_,e1,hm⟩
    ·exact⟨_,e1,hm⟩
theorem Hl{t:Nat}{v:SV}(h:getH l t=some v):(t,v)∈l:=by
 induction l with
 |nil=>cases h
 |cons p l ih=>
  obtain⟨k,u⟩:=p;unfold getH at h;cases hb:aD k t with
  |true=>
   rw[hb]at h;have:=aA hb;subst this;injection h with h;subst h;exact aJ ..
  |false=>rw[hb]at h;exact aH _ (ih h)
theorem Kk (h:absSt false sc σ0 st=some s) (hc:conSt id sc s.ds=some st') (hk:joinChk s st'.bl=true) (hr:Rl g ρ st own fr) (hs:St w g own) :
  ∃g1 ρ1 own1,g.le g1/\St w g1 own1/\Rl g1 (envOf s.σ ρ1) st' own1 fr/\SigLe σ0 s.σ/\∀b,b<st.bl.length->ρ1 b=ρ b:=by
 unfold joinChk at hk;rw[aC]at hk;obtain⟨hk0,hk⟩:=hk;have hlt:∀b,b∈s.lt->False:=λb hb=>by
  cases e:s.lt with
  |nil=>rw[e]at hb;cases hb
  |cons x l=>rw[e]at hk0;cases hk0
 obtain⟨st2,e1,hst,hsg,hsl,hbl⟩:=Fa h;rw[hc]at e1;injection e1 with e1;subst e1;unfold absChk at hk;simp only[aC]at hk;obtain⟨hnd,hrows,hlent,hlen⟩:=hk;have hlen:=aA hlen;obtain⟨g1,ρ1,own1,hg1,hs1,hx,hr1,hρ1,hρ2⟩:=hst.do_ (sl:=st.sl) hr hs;have hctx:Ctx s.lt st.bl.length s.σ s.bl ρ1 g1 st'.bl (envOf s.σ ρ1) g1:=by
  refine⟨.refl _,.refl _,λj b e=>FZ hbl hlen j b e,λb bv hn e=>hρ2 b hn (Am e),λb c xs e=>?_,λb c et xs hb _=>(hlt b hb).elim⟩
  obtain⟨k0,h1,h2⟩:=hr1.own_at e;exact h2.2
 refine⟨g1,ρ1,pickP (ownIds s.σ 0 st'.bl) own1,hg1,keepP (ownIds s.σ 0 st'.bl) (by simpa using FY hnd) rfl w hs1,⟨?_,λi bv k0 e1 e2=>?_,λt sv e=>?_,hr1.gi⟩,hsg,hρ1⟩
 ·simp[pickP,CN]
 ·have e3:(pickP (ownIds s.σ 0 st'.bl) own1)[i]? = some (match cond bv.owned (sigAt s.σ i) none with | none=>none | some b=>(own1[b]?).join):=by unfold pickP;rw[bI,DM s.σ st'.bl 0 i e1,aK];rfl
  rw[e3]at e2;injection e2 with e2;have hB:=hbl.get e1;rw[aK]at hB;have hown:∀b bv0,s.bl[b]? =some bv0->∃k1,own1[b]? =some k1/\BlkR g1 ρ1 s.bl k1 (ρ1 b) bv0:=λb bv0 e=>hr1.own_at e
  rcases hB with rfl|⟨b,hb1,hb2⟩
  ·exact e2.symm
  ·have henv:envOf s.σ ρ1 i=ρ1 b:=by unfold envOf;rw[hb1]
   rw[henv];rw[hb1]at e2;cases hb2 with
   |no=>exact e2.symm
   |cells h hs=>
    obtain⟨k1,h1,b0,cs,rfl,h3,h4⟩:=hown _ _ h;have e2:(own1[b]?).join=k0:=e2;rw[h1]at e2;exact⟨b0,cs,e2.symm,h3,Io hctx hs h4⟩
   |@row _ c et xs h=>
    obtain⟨b',c',et',xs',h3,h4⟩:=Ip hrows e1;rw[aK,hb1]at h3;injection h3 with h3;subst h3;obtain⟨bv,h5,h6⟩:=h;rw[h4]at h5;injection h5 with h5;subst h5;rcases h6 with h6|h6
    ·rw[h6]at h4;obtain⟨k1,h1,h2⟩:=hown _ _ h4;have e2:(own1[b]?).join=k0:=e2;rw[h1]at e2;have e2:k1=k0:=e2;subst e2;exact h2
    ·cases h6
   |lent h hs=>
    obtain⟨k1,h1,h2,ad,cs,h3,h4,h5⟩:=hown _ _ h;exact⟨e2.symm,ad,cs,h3,h4,Io hctx hs h5⟩
   |lend hl h hs=>exact(hlt b hl).elim
   |map h=>
    obtain⟨k1,h1,b0,cs,rfl,h3,h4⟩:=hown _ _ h;have e2:(own1[b]?).join=k0:=e2;rw[h1]at e2;exact⟨b0,cs,e2.symm,h3,h4⟩
   |@tree _ t et xs h=>
    obtain⟨b',t',et',xs',h3,h4⟩:=Iq hrows e1;rw[aK,hb1]at h3;injection h3 with h3;subst h3;obtain⟨bv,h5,h6⟩:=h;rw[h4]at h5;injection h5 with h5;subst h5;rcases h6 with h6|h6
    ·rw[h6]at h4;obtain⟨k1,h1,h2⟩:=hown _ _ h4;have e2:(own1[b]?).join=k0:=e2;rw[h1]at e2;have e2:k1=k0:=e2;subst e2;exact h2
    ·cases h6
 ·obtain⟨y,h1,h2⟩:=hsl (t,sv) (Hl e);obtain⟨v,h3,h4⟩:=hr1.slot t y h1;exact⟨v,h3,SimS.real hctx h2 h4⟩
theorem SW.weaken(h:absSt false sc (Rn 0 A.np++nones m) st=some s)(hc:conSt id sc s.ds=some st')(hk:joinChk s st'.bl=true)(k:SW K n A g0 st'):SW K n A g0 st:=by
 intro g ρ own fr hg hA hr a w hf hs;obtain⟨g1,ρ1,own1,hg1,hs1,hr1,hsg,hρ⟩:=Kk h hc hk hr hs;refine k g1 _ own1 fr (hg.trans hg1) (λj hj=>?_) hr1 a w hf hs1;have hj0:s.σ[j]? =some (some j):=hsg j j (by have:=Ki A.np 0 j hj;rw[aK]at this;rw[aB (Am this)];exact this)
 obtain⟨h1,h2,h20⟩:=hA j hj;obtain⟨bv,h3,_⟩:=h2;obtain⟨st2,e1,hsteps,_,_,hbl⟩:=Fa h;rw[hc]at e1;injection e1 with e1;subst e1;unfold joinChk absChk at hk;simp only[aC]at hk;obtain⟨_,_,_,_,hlen⟩:=hk;obtain⟨h4,bv',h5,h6,h7⟩:=FZ (ρ:=ρ1) hbl (aA hlen) j j hj0;refine⟨h4.trans ((hρ j (Am h3)).trans h1),⟨bv',h5,h6⟩,λbv2 m e1 e2=>?_⟩
 rw[h5]at e1;injection e1 with e1;subst e1;obtain⟨bv3,e3,e4⟩:=h7 m e2;obtain⟨bv4,e5,e6,_⟩:=hsteps.grow.len h3;rw[e3]at e5;injection e5 with e5;subst e5;exact h20 bv m h3 (e6.symm.trans e4)
section
theorem Rl.put(h:Rl g ρ ⟨sl,bl⟩ own fr)(d:Nat){s:SV}(hv:RealS g ρ bl s v):Rl g ρ ⟨(d,s)::sl,bl⟩ own ((d,v)::fr):=by
 refine⟨h.len,h.blk,λt sv e=>?_,h.gi⟩
 have e:cond (aD d t) (some s) (getH sl t)=some sv:=e;show∃u,cond (aD d t) (some v) (getS fr t)=some u/\_;cases hb:aD d t with
 |true=>rw[hb]at e;injection e with e;subst e;exact⟨v,rfl,hv⟩
 |false=>rw[hb]at e;exact h.slot t sv e
theorem SW.split{t:Nat}{b:Bool}(ht:getH sl t=some (vC (.bool b)))(h1:b=true->SW K n A g0 ⟨(t,vC (.bool true))::sl,bl⟩)(h0:b=false->SW K n A g0 ⟨(t,vC (.bool false))::sl,bl⟩):SW K n A g0 ⟨sl,bl⟩:=by intro g ρ own fr hg hA hr;obtain⟨v,hv1,hv2⟩:=hr.slot t _ ht;have hv2:v= .bool b:=hv2;subst hv2;exact UB t hv1 (λe=>h1 e g ρ own _ hg hA (hr.put t rfl)) (λe=>h0 e g ρ own _ hg hA (hr.put t rfl))
def holes:Nat->List BV
 |0=>[]
 |m+1=> .hole::holes m
theorem SW.holes(m:Nat)(h:SW K n A g0 ⟨sl,bl++holes m⟩):SW K n A g0 ⟨sl,bl⟩:=by
 induction m generalizing bl with
 |zero=>simpa[holes]using h
 |succ m ih=>
  have h:SW K n A g0 ⟨sl,(bl++[.hole])++Go.Proofs.YtpglaekodahcoaaGreatDoor.holes m⟩:=by simpa[Go.Proofs.YtpglaekodahcoaaGreatDoor.holes]using h
  have h:=ih h;intro g ρ own fr hg hA hr a w hf hs;have hl:own.length=bl.length:=hr.len;have hx:Ext ρ bl ρ (bl++[.hole]):=λb bv e h2=>⟨rfl,bv,by rw[aB (Am e)];exact e,h2,λm h=>h⟩
  refine h g ρ (own++[none]) fr hg (hA.ext hx) (hr.turn (.refl g) hx (by simp[hl]) λi bv k h1 h2=>?_) a w hf hs.addNone;rcases aT i bl.length with hi|hi
  ·rw[aB hi]at h1;rw[aB (by omega)]at h2;exact(hr.blk i bv k h1 h2).ext (.refl g) hx
  ·have hi2:=Am h1;simp at hi2;have:i=bl.length:=by omega
   subst this;simp at h1;subst h1;rw[<-hl]at h2;simp at h2;exact h2.symm
end
structure Stp(P:Program) where
 t:List (Nat×SV)->Nat->Op->TypeId->Tr
 m:List (Nat×SV)->Op->Nat
 ok:∀{n f:Nat}{sl:List (Nat×SV)}{op:Op}{ty:TypeId}{bl bl':List BV}{v:SV},(∀i,i<m sl op->bl[f+i]? =some .hole)->Told f (t sl f op ty) bl bl' v->EffH P n op ty sl bl bl' v
variable{S:Stp P}
theorem Mb:∀{m i:Nat},i<m->(holes m)[i]? =some .hole
 |m+1,0,_=>rfl
 |m+1,i+1,h=>by simpa[holes]using Mb (m:=m) (i:=i) (by omega)
theorem We(h:i<m):(bl++holes m)[bl.length+i]? =some .hole:=by rw[bG (by omega),show bl.length+i-bl.length=i by omega];exact Mb h
def put(n:Nat)(d:Option Nat)(v:SV)(st:HSt):Option HSt:=match d with
 |some d=>cond (bA d n) (some ⟨(d,v)::st.sl,st.bl⟩) none
 |none=>some st
def doOp{P:Program}(S:Stp P)(n:Nat){ρ:Type}(o:Oper)(st:HSt)(K:HSt->Option ρ):Option ρ:=
 runT st.bl.length (S.t st.sl st.bl.length o.op o.type) (st.bl++holes (S.m st.sl o.op)) λbl' v=>match put n o.dst v ⟨st.sl,bl'⟩with|some st'=>K st'|none=>none
def skOp(n:Nat){ρ:Type}(o:Oper)(st:HSt)(K:HSt->Option ρ):Option ρ:=match o.dst with
 |some d=>match bA d n with|true=>K ⟨(d,.und)::st.sl,st.bl⟩|false=>none
 |none=>none
def evOps{P:Program}(S:Stp P)(n:Nat)(ops:Array Oper){ρ:Type}:Nat->Nat->HSt->(HSt->Option ρ)->Option ρ
 |0,i,st,K=>match aD ops.size i with|true=>K st|false=>none
 |f+1,i,st,K=>match ops[i]? with
  |none=>none
  |some o=>match o.guard with
   |none=>doOp S n o st (λst'=>evOps S n ops f (i+1) st' K)
   |some (j,want)=>match dstAt ops j with
    |none=>none
    |some t=>match getH st.sl t with
     | some (.v (.c (.bool b)))=>cnd b
       (match want with|true=>doOp S n o ⟨(t,vC (.bool true))::st.sl,st.bl⟩ (λst'=>evOps S n ops f (i+1) st' K)|false=>skOp n o ⟨(t,vC (.bool true))::st.sl,st.bl⟩ (λst'=>evOps S n ops f (i+1) st' K))
       (match want with|true=>skOp n o ⟨(t,vC (.bool false))::st.sl,st.bl⟩ (λst'=>evOps S n ops f (i+1) st' K)|false=>doOp S n o ⟨(t,vC (.bool false))::st.sl,st.bl⟩ (λst'=>evOps S n ops f (i+1) st' K))
     |some .und=>skOp n o st (λst'=>evOps S n ops f (i+1) st' K)
     |_=>none
section
variable{ρ:Type}{r:ρ}
theorem MP {K:HSt->Option ρ} (ho:ops[i]? = some o) (hw:∀ g ρ own fr bl a,Rl g ρ ⟨st.sl,bl⟩ own fr->Fr n a fr->Region.wanted o (yielded ops a.tmps)=true)
  (h:doOp S n o st K=some r) (hK:∀st',K st'=some r->SW (wpOps P ops Q (bJ (i+1) (ops.size-(i+1)))) n A g0 st'):SW (wpOps P ops Q (bJ i (ops.size-i))) n A g0 st:=by
 obtain⟨bl',v,h1,h2⟩:=Co h;have he:=S.ok (n:=n) (λi hi=>We hi) h1;refine SW.holes (S.m st.sl o.op) ?_;split at h2
 ·rename_i st' hp;have hsw:=hK st' h2;intro g ρ own fr hg hA hr a w hf hs;rw[JS ho];simp only[wpOps,ho,hw g ρ own fr _ a hr hf,if_true];refine .inl (he o a w Q _ g ρ own fr rfl rfl hr hf hs λv' g' ρ' own' w' hg' hx hs' hr' hv'=>?_);unfold put at hp;split at hp
  ·rename_i d hd;obtain⟨hdn,hp⟩:=condS hp;injection hp with hp;subst hp;have hdn:d<n:=by simpa using hdn
   rw[hd];exact hsw g' ρ' own' ((d,v')::fr) (hg.trans hg') (hA.ext hx) (hr'.put d hv') _ w' (hf.put hdn v') hs'
  ·rename_i hd;injection hp with hp;subst hp;rw[hd];exact hsw g' ρ' own' fr (hg.trans hg') (hA.ext hx) hr' a w' hf hs'
 ·cases h2
theorem MQ {K:HSt->Option ρ} (ho:ops[i]? = some o) (hw:∀ g ρ own fr bl a,Rl g ρ ⟨st.sl,bl⟩ own fr->Fr n a fr->Region.wanted o (yielded ops a.tmps)=false)
  (h:skOp n o st K=some r) (hK:∀st',K st'=some r->SW (wpOps P ops Q (bJ (i+1) (ops.size-(i+1)))) n A g0 st'):SW (wpOps P ops Q (bJ i (ops.size-i))) n A g0 st:=by
 unfold skOp at h;split at h
 ·rename_i d hd;split at h;case h_2=>cases h
  rename_i hdn;have hdn:d<n:=by simpa using hdn
  have hsw:=hK _ h;intro g ρ own fr hg hA hr a w hf hs;rw[JS ho];simp only[wpOps,ho,hw g ρ own fr _ a hr hf,Bool.false_eq_true,if_false,hd];exact hsw g ρ own ((d,undef)::fr) hg hA (hr.put d rfl) _ w (hf.put hdn _) hs
 ·cases h
theorem Ep {t:Nat} {want b:Bool} (hg:o.guard=some (j,want)) (hj:dstAt ops j=some t) (hb:getH sl t=some (vC (.bool b))) {ρ:Env} {a:Act}
  (hr:Rl g ρ ⟨sl,bl⟩ own fr) (hf:Fr n a fr):Region.wanted o (yielded ops a.tmps)=(b==want):=by
 obtain⟨v,h1,h2⟩:=hr.slot t _ hb;have h2:v= .bool b:=h2;subst h2;simp[Region.wanted,hg,QQ hf hj h1]
theorem Er{t:Nat}{v:SV}:getH ((t,v)::l) t=some v:=by simp[getH]
theorem Kl {t:Nat} {want:Bool} (hg:o.guard=some (j,want)) (hj:dstAt ops j=some t) (hb:getH sl t=some .und) {ρ:Env} {a:Act}
  (hr:Rl g ρ ⟨sl,bl⟩ own fr) (hf:Fr n a fr):Region.wanted o (yielded ops a.tmps)=false:=by
 obtain⟨v,h1,h2⟩:=hr.slot t _ hb;have h2:v=undef:=h2;subst h2;have h3:=hf.at_ t _ h1;have:yielded ops a.tmps j=none:=by unfold dstAt at hj;unfold yielded;rw[hj];simp[h3,undef]
 simp[Region.wanted,hg,this]
theorem Ga{b:Bool}{x y:Option α}{r:α}(h:cnd b x y=some r):(b=true/\x=some r)\/(b=false/\y=some r):=by
 cases b
 ·exact .inr ⟨rfl,h⟩
 ·exact .inl ⟨rfl,h⟩
theorem Dd{K:HSt->Option ρ}(hK:∀st',K st'=some r->SW (Q .normal) n A g0 st'):∀{f i:Nat}{st:HSt},evOps S n ops f i st K=some r->SW (wpOps P ops Q (bJ i (ops.size-i))) n A g0 st
 |0,i,st,h=>by
  unfold evOps at h;split at h;case h_2=>cases h
  rename_i e;have e:=aA e;have:=hK st h;rw[e,Nat.sub_self];exact this
 |f+1,i,st,h=>by
  unfold evOps at h;split at h
  ·cases h
  ·rename_i o ho;split at h
   ·rename_i hg;exact MP ho (λg ρ own fr bl a hr hf=>by simp[Region.wanted,hg]) h λst' h'=>Dd hK h'
   ·rename_i j want hg;split at h
    ·cases h
    ·rename_i t hj;split at h
     ·rename_i b hb;obtain⟨sl,bl⟩:=st;refine SW.split hb (λe=>?_) (λe=>?_)
      ·subst e;rcases Ga (h:cnd true _ _=_)with⟨_,h⟩|⟨e,_⟩
       ·split at h
        ·exact MP ho (λg ρ own fr bl a hr hf=>by rw[Ep hg hj Er hr hf];rfl) h λst' h'=>Dd hK h'
        ·exact MQ ho (λg ρ own fr bl a hr hf=>by rw[Ep hg hj Er hr hf];rfl) h λst' h'=>Dd hK h'
       ·cases e
      ·subst e;rcases Ga (h:cnd false _ _=_)with⟨e,_⟩|⟨_,h⟩
       ·cases e
       ·split at h
        ·exact MQ ho (λg ρ own fr bl a hr hf=>by rw[Ep hg hj Er hr hf];rfl) h λst' h'=>Dd hK h'
        ·exact MP ho (λg ρ own fr bl a hr hf=>by rw[Ep hg hj Er hr hf];rfl) h λst' h'=>Dd hK h'
     ·rename_i hb;exact MQ ho (λg ρ own fr bl a hr hf=>Kl hg hj hb hr hf) h λst' h'=>Dd hK h'
     ·cases h
end
def hasN(m b:Nat):Bool:=bK m b
def bitN(b:Nat):Nat:=Nat.shiftLeft 1 b
def uniN(x y:Nat):Nat:=Nat.lor x y
def sepN(x y:Nat):Bool:=aD (Nat.land x y) 0
theorem Es(b:Nat):hasN (bitN b) b=true:=by show bK (1<<<b) b=true;simp
theorem Ow(h:hasN (bitN b) j=true):j=b:=by
 have h:bK (1<<<b) j=true:=h;rw[Nat.testBit_shiftLeft]at h;simp only[aC,decide_eq_true_eq]at h;obtain⟨h1,h2⟩:=h;cases e:j-b with
 |zero=>omega
 |succ k=>rw[e]at h2;simp[bK,Nat.shiftRight_eq_div_pow]at h2;rw[Nat.div_eq_of_lt (Nat.one_lt_two_pow (by omega))]at h2;cases h2
theorem Bp(x y b:Nat):hasN (uniN x y) b=(hasN x b||hasN y b):=Nat.testBit_or x y b
theorem Gb{x y:Nat}(h:sepN x y=true)(h1:hasN x b=true):hasN y b=false:=by have h0:x&&&y=0:=aA h;have h2:=Nat.testBit_and x y b;rw[h0,Nat.zero_testBit]at h2;have h1:x.testBit b=true:=h1;rw[h1,Bool.true_and]at h2;exact h2.symm
def bitsOf:List Nat->Nat
 | []=>0
 |b::l=>uniN (bitN b) (bitsOf l)
theorem Ir{l:List Nat}(h:b∈l):hasN (bitsOf l) b=true:=by
 induction l with
 |nil=>cases h
 |cons c l ih=>
  show hasN (uniN _ _) b=true;rw[Bp];rcases aP.1 h with rfl|h
  ·rw[Es];rfl
  ·rw[ih h];simp
def restr(sl:List (Nat×SV)):List Nat->List (Nat×SV)
 | []=>[]
 |t::ts=>match getH sl t with|some v=>(t,v)::restr sl ts|none=>restr sl ts
theorem Is{sl:List (Nat×SV)}{t:Nat}{sv:SV}:∀{ts:List Nat},getH (restr sl ts) t=some sv->getH sl t=some sv
 | [],h=>by cases h
 |u::ts,h=>by
  unfold restr at h;split at h
  ·rename_i v e;have h:cond (aD u t) (some v) (getH (restr sl ts) t)=some sv:=h;cases hb:aD u t with
   |true=>
    rw[hb]at h;have:=aA hb;subst this;rw[e];exact h
   |false=>rw[hb]at h;exact Is h
  ·exact Is h
theorem Fb{sl sl':List (Nat×SV)}:∀{ts:List Nat},(∀t∈ts,getH sl t=getH sl' t)->restr sl ts=restr sl' ts
 | [],h=>rfl
 |u::ts,h=>by unfold restr;rw[h u (aJ ..),Fb λt ht=>h t (aH _ ht)]
theorem Rl.sub{sl':List (Nat×SV)}(h:Rl g ρ ⟨sl,bl⟩ own fr)(hi:∀t sv,getH sl' t=some sv->getH sl t=some sv):Rl g ρ ⟨sl',bl⟩ own fr:=
 ⟨h.len,h.blk,λt sv e=>h.slot t sv (hi t sv e),h.gi⟩
theorem EffH.sub{P:Program}{n:Nat}{op:Op}{ty:TypeId}{sl sl':List (Nat×SV)}{bl bl':List BV}{v:SV}(h:EffH P n op ty sl' bl bl' v)(hi:∀t sv,getH sl' t=some sv->getH sl t=some sv):EffH P n op ty sl bl bl' v:=
 λo a w Q K g ρ own fr h1 h2 hr hf hs hk=>h o a w Q K g ρ own fr h1 h2 (hr.sub hi) hf hs λv g' ρ' own' w' hg hx hs' hr' hv=>hk v g' ρ' own' w' hg hx hs' ⟨hr'.len,hr'.blk,λt sv e=>by obtain⟨u,h3,h4⟩:=hr.slot t sv e;exact⟨u,h3,h4.ext hg hx⟩,hr'.gi⟩ hv
def opSlots(op:Op):List Nat:=op.operands.toList.filterMap λ| .tmp t=>some t|_=>none
def numE:Nat->List BV->List (Nat×BV)
 |_,[]=>[]
 |f,v::l=>(f,v)::numE (f+1) l
theorem Ro{F:List (Nat×BV)}:setUpd bl (E++F)=setUpd (setUpd bl E) F:=by
 induction E generalizing bl with
 |nil=>rfl
 |cons x E ih=>exact ih
theorem Rp{l:List BV}:setNew bl f l=setUpd bl (numE f l):=by
 induction l generalizing bl f with
 |nil=>rfl
 |cons x l ih=>exact ih
theorem Fc:(setUpd bl E).length=bl.length:=by
 induction E generalizing bl with
 |nil=>rfl
 |cons x E ih=>exact ih.trans (by simp)
def lastE:List (Nat×BV)->Nat->Option BV
 | [],_=>none
 |(c,v)::l,b=>match lastE l b with|some u=>some u|none=>cond (aD c b) (some v) none
theorem Rq{c:Nat}{v:BV}{l:List (Nat×BV)}:lastE ((c,v)::l) b=match lastE l b with|some u=>some u|none=>cond (aD c b) (some v) none:=rfl
theorem Cn:(setUpd bl E)[b]? =match lastE E b with|some u=>cond (bA b bl.length) (some u) none|none=>bl[b]?:=by
 induction E generalizing bl with
 |nil=>rfl
 |cons x E ih=>
  obtain⟨c,v⟩:=x;show(setUpd (bl.set c v) E)[b]? =_;rw[ih,Rq];cases lastE E b with
  |some u=>simp
  |none=>
   dsimp only;cases hb:aD c b with
   |true=>
    have:=aA hb;subst this;rw[aV];by_cases hlt:c<bl.length
    ·have:bA c bl.length=true:=by simpa using hlt
     rw[this,aF hlt];rfl
    ·have:bA c bl.length=false:=by
      cases hx:bA c bl.length with
      |false=>rfl
      |true=>exact absurd (by simpa using hx) hlt
     rw[this,bU (by omega)];rfl
   |false=>
    have:c≠b:=λe=>by subst e;simp at hb
    rw[bB this];rfl
theorem UP{u:BV}(h:lastE E b=some u):b∈E.map bY:=by
 induction E with
 |nil=>cases h
 |cons x E ih=>
  obtain⟨c,v⟩:=x;unfold lastE at h;split at h
  ·rename_i w e;injection h with h;subst h;exact aH _ (ih e)
  ·cases hb:aD c b with
   |true=>have:=aA hb;subst this;exact aJ ..
   |false=>rw[hb]at h;cases h
def TolD(f:Nat):Tr->List BV->Nat->List (Nat×BV)->SV->Prop
 | .no,_,_,_,_=>False
 | .done e,bl,fp,E,v=>E=e.upd++numE f e.new/\v=e.val
 | .need b k,bl,fp,E,v=>hasN fp b=true/\∃bv,bl[b]? =some bv/\TolD f (k bv) bl fp E v
 | .frz b k,bl,fp,E,v=>hasN fp b=true/\∃bv fv E',bl[b]? =some bv/\frzB bv=some fv/\E=(b,fv)::E'/\TolD f k (bl.set b fv) fp E' v
 | .grd c k,bl,fp,E,v=>c=true/\TolD f k bl fp E v
 | .bnd x k,bl,fp,E,v=>∃t,x=some t/\TolD f (k t) bl fp E v
 | .sub _ k,bl,fp,E,v=>∃idl,(∀b∈idl,hasN fp b=true)/\TolD f (k (maskB 0 idl bl)) bl fp E v
 | .alt x k1 k2,bl,fp,E,v=>(∃a,x= .inl a/\TolD f (k1 a) bl fp E v)\/∃b,x= .inr b/\TolD f (k2 b) bl fp E v
theorem Rs{x:Nat}{l:List Nat}(h:natMem x l=true):x∈l:=by
 induction l with
 |nil=>cases h
 |cons y l ih=>
  have h:cond (aD x y) true (natMem x l)=true:=h;cases hb:aD x y with
  |true=>have:=aA hb;subst this;exact aJ ..
  |false=>rw[hb]at h;exact aH _ (ih h)
theorem IY{ids:List Nat}:∀{bl bl2:List BV}{i:Nat},bl2.length=bl.length->(∀b,i+b∈ids->bl2[b]? =bl[b]?)->maskB i ids bl2=maskB i ids bl
 | [],[],_,_,_=>rfl
 | [],_::_,_,h,_=>by cases h
 |_::_,[],_,h,_=>by cases h
 |x::bl,y::bl2,i,hl,h=>by
  unfold maskB;rw[IY (i:=i+1) (by simpa using hl) λb hb=>by simpa using h (b+1) (by rw[show i+(b+1)=i+1+b by omega];exact hb)];congr 1;cases hm:natMem i ids with
  |false=>rfl
  |true=>
   have:=h 0 (Rs hm);simp at this;rw[this]
theorem TolD.told{f:Nat}{fp:Nat}:∀{t:Tr}{bl bl2:List BV}{E:List (Nat×BV)}{v:SV},TolD f t bl fp E v->bl2.length=bl.length->(∀b,hasN fp b=true->bl2[b]? =bl[b]?)->Told f t bl2 (setUpd bl2 E) v
 | .no,_,_,_,_,h,_,_=>h
 | .done e,_,bl2,_,_,⟨h1,h2⟩,_,_=>⟨by rw[h1,Ro];exact(Rp).symm,h2⟩
 | .need b k,bl,bl2,E,v,⟨h1,bv,h2,h3⟩,hl,ha=>⟨bv,(ha b h1).trans h2,TolD.told h3 hl ha⟩
 | .frz b k,bl,bl2,E,v,⟨h1,bv,fv,E',h2,h3,h4,h5⟩,hl,ha=>by
  subst h4;refine⟨bv,fv,(ha b h1).trans h2,h3,TolD.told h5 (by simp[hl]) λc hc=>?_⟩
  by_cases e:b=c
  ·subst e;rw[aV,aV,ha b h1]
  ·rw[bB e,bB e,ha c hc]
 | .grd c k,bl,bl2,E,v,⟨h1,h2⟩,hl,ha=>⟨h1,TolD.told h2 hl ha⟩
 | .bnd x k,bl,bl2,E,v,⟨t,h1,h2⟩,hl,ha=>⟨t,h1,TolD.told h2 hl ha⟩
 | .sub _ k,bl,bl2,E,v,⟨idl,h1,h2⟩,hl,ha=>⟨idl,by rw[IY (i:=0) hl λb hb=>ha b (h1 b (by simpa using hb))];exact TolD.told h2 hl ha⟩
 | .alt x k1 k2,bl,bl2,E,v,h,hl,ha=>by
  rcases h with⟨a,h1,h2⟩|⟨b,h1,h2⟩
  ·exact .inl ⟨a,h1,TolD.told h2 hl ha⟩
  ·exact .inr ⟨b,h1,TolD.told h2 hl ha⟩
def runD{ρ:Type}(f:Nat):Tr->List BV->Nat->List (Nat×BV)->(Nat->List (Nat×BV)->SV->Option ρ)->Option ρ
 | .no,_,_,_,_=>none
 | .done e,bl,fp,E,K=>K fp (E++(e.upd++numE f e.new)) e.val
 | .need b k,bl,fp,E,K=>match bl[b]? with|some bv=>runD f (k bv) bl (uniN (bitN b) fp) E K|none=>none
 | .frz b k,bl,fp,E,K=>match bl[b]? with|some bv=>(match frzB bv with|some fv=>runD f k (bl.set b fv) (uniN (bitN b) fp) (E++[(b,fv)]) K|none=>none)|none=>none
 | .grd c k,bl,fp,E,K=>gd c (runD f k bl fp E K)
 | .bnd x k,bl,fp,E,K=>bd x λt=>runD f (k t) bl fp E K
 | .sub ids k,bl,fp,E,K=>runD f (k (maskB 0 (ids bl) bl)) bl (uniN (bitsOf (ids bl)) fp) E K
 | .alt x k1 k2,bl,fp,E,K=>sm x (λa=>runD f (k1 a) bl fp E K) (λb=>runD f (k2 b) bl fp E K)
theorem Cq{ρ:Type}{f:Nat}{K:Nat->List (Nat×BV)->SV->Option ρ}{r:ρ}:∀{t:Tr}{bl:List BV}{fp:Nat}{E:List (Nat×BV)},runD f t bl fp E K=some r->∃fp' E' v,(∀b,hasN fp b=true->hasN fp' b=true)/\TolD f t bl fp' E' v/\K fp' (E++E') v=some r
 | .no,_,_,_,h=>by cases h
 | .done e,bl,fp,E,h=>⟨fp,_,_,λ_ h=>h,⟨rfl,rfl⟩,h⟩
 | .need b k,bl,fp,E,h=>by
  unfold runD at h;split at h
  ·rename_i bv e;obtain⟨fp',E',v,h1,h2,h3⟩:=Cq h;exact⟨fp',E',v,λc hc=>h1 c (by rw[Bp,hc];simp),⟨h1 b (by rw[Bp,Es];rfl),bv,e,h2⟩,h3⟩
  ·cases h
 | .frz b k,bl,fp,E,h=>by
  unfold runD at h;split at h
  ·rename_i bv e;split at h
   ·rename_i fv e2;obtain⟨fp',E',v,h1,h2,h3⟩:=Cq h;exact⟨fp',(b,fv)::E',v,λc hc=>h1 c (by rw[Bp,hc];simp),⟨h1 b (by rw[Bp,Es];rfl),bv,fv,E',e,e2,rfl,h2⟩,by simpa using h3⟩
   ·cases h
  ·cases h
 | .grd c k,bl,fp,E,h=>by obtain⟨hc,h⟩:=Adz ((VO _ _).symm.trans h);obtain⟨fp',E',v,h1,h2,h3⟩:=Cq h;exact⟨fp',E',v,h1,⟨hc,h2⟩,h3⟩
 | .bnd x k,bl,fp,E,h=>by obtain⟨t,hx,h⟩:=He ((Ka _ _).symm.trans h);obtain⟨fp',E',v,h1,h2,h3⟩:=Cq h;exact⟨fp',E',v,h1,⟨t,hx,h2⟩,h3⟩
 | .sub ids k,bl,fp,E,h=>by unfold runD at h;obtain⟨fp',E',v,h1,h2,h3⟩:=Cq h;exact⟨fp',E',v,λc hc=>h1 c (by rw[Bp,hc];simp),⟨_,λb hb=>h1 b (by rw[Bp,Ir hb];rfl),h2⟩,h3⟩
 | .alt x k1 k2,bl,fp,E,h=>by
  unfold runD at h;cases x with
  |inl a=>
   obtain⟨fp',E',v,h1,h2,h3⟩:=Cq h;exact⟨fp',E',v,h1,.inl ⟨a,rfl,h2⟩,h3⟩
  |inr b=>
   obtain⟨fp',E',v,h1,h2,h3⟩:=Cq h;exact⟨fp',E',v,h1,.inr ⟨b,rfl,h2⟩,h3⟩
structure F4 where
 bR:Nat
 bW:Nat
 sR:Nat
 sW:Nat
def dj(x y:F4):Bool:=sepN x.bW (uniN y.bR y.bW)&&(sepN y.bW x.bR&&(sepN x.sW (uniN y.sR y.sW)&&sepN y.sW x.sR))
structure RcD where
 d:Option Nat
 E:List (Nat×BV)
 v:SV
 f4:F4
variable{rc:Nat->RcD}
def putL(d:Option Nat)(v:SV)(sl:List (Nat×SV)):List (Nat×SV):=match d with|some d=>(d,v)::sl|none=>sl
def apR(r:RcD)(st:HSt):HSt:=⟨putL r.d r.v st.sl,setUpd st.bl r.E⟩
def stD(D:Nat->Bool)(st0:HSt)(rc:Nat->RcD):Nat->HSt
 |0=>st0
 |k+1=>cond (D k) (apR (rc k) (stD D st0 rc k)) (stD D st0 rc k)
def Eqv(s t:HSt):Prop:=s.bl=t.bl/\∀x,getH s.sl x=getH t.sl x
theorem Eqv.refl{s:HSt}:Eqv s s:=⟨rfl,λ_=>rfl⟩
theorem Eqv.trans{s t u:HSt}(h:Eqv s t)(k:Eqv t u):Eqv s u:=⟨h.1.trans k.1,λx=>(h.2 x).trans (k.2 x)⟩
theorem Eqv.symm{s t:HSt}(h:Eqv s t):Eqv t s:=⟨h.1.symm,λx=>(h.2 x).symm⟩
theorem UQ{d t:Nat}{v:SV}:getH ((d,v)::l) t=cond (aD d t) (some v) (getH l t):=rfl
theorem Cc{d:Option Nat}{v:SV}{t:Nat}:getH (putL d v l) t=match d with|some d=>cond (aD d t) (some v) (getH l t)|none=>getH l t:=by cases d<;>rfl
theorem Eqv.ap{s t:HSt}(h:Eqv s t)(r:RcD):Eqv (apR r s) (apR r t):=by
 refine⟨by show setUpd _ _=setUpd _ _;rw[h.1],λx=>?_⟩
 show getH (putL _ _ _) x=getH (putL _ _ _) x;rw[Cc,Cc];cases r.d with
 |none=>exact h.2 x
 |some d=>dsimp only;rw[h.2 x]
theorem Rl.eqv{s t:HSt}(h:Rl g ρ s own fr)(e:Eqv s t):Rl g ρ t own fr:=by obtain⟨sl,bl⟩:=s;obtain⟨sl',bl'⟩:=t;obtain⟨e1,e2⟩:=e;have e1:bl=bl':=e1;subst e1;exact h.sub λt sv h=>(e2 t).trans h
theorem SW.eqv{K:Act->World->Prop}{n:Nat}{A:An}{g0:Gh}{s t:HSt}(h:SW K n A g0 t)(e:Eqv s t):SW K n A g0 s:=λg ρ own fr hg hA hr=>h g ρ own fr hg (by rw[<-e.1];exact hA) (hr.eqv e)
structure RcD.Wf(r:RcD):Prop where
 b:∀b u,lastE r.E b=some u->hasN r.f4.bW b=true
 s:∀d,r.d=some d->hasN r.f4.sW d=true
structure Apart(x y:F4):Prop where
 b1:∀b,hasN x.bW b=true->hasN y.bR b=false/\hasN y.bW b=false
 b2:∀b,hasN y.bW b=true->hasN x.bR b=false
 s1:∀b,hasN x.sW b=true->hasN y.sR b=false/\hasN y.sW b=false
 s2:∀b,hasN y.sW b=true->hasN x.sR b=false
theorem Aby{x y:F4}(h:dj x y=true):Apart x y:=by
 unfold dj at h;simp only[aC]at h;obtain⟨h1,h2,h3,h4⟩:=h;refine⟨λb hb=>?_,λb hb=>Gb h2 hb,λb hb=>?_,λb hb=>Gb h4 hb⟩
 ·have:=Gb h1 hb;rw[Bp,bZ]at this;exact this
 ·have:=Gb h3 hb;rw[Bp,bZ]at this;exact this
theorem Apart.symm{x y:F4}(h:Apart x y):Apart y x:=by
 refine⟨λb hb=>⟨h.b2 b hb,?_⟩,λb hb=>(h.b1 b hb).1,λb hb=>⟨h.s2 b hb,?_⟩,λb hb=>(h.s1 b hb).1⟩
 ·cases e:hasN x.bW b with
  |false=>rfl
  |true=>rw[(h.b1 b e).2]at hb;cases hb
 ·cases e:hasN x.sW b with
  |false=>rfl
  |true=>rw[(h.s1 b e).2]at hb;cases hb
theorem Km{r:RcD}(h:r.Wf)(hb:hasN r.f4.bW b=false):lastE r.E b=none:=by
 cases e:lastE r.E b with
 |none=>rfl
 |some u=>rw[h.b b u e]at hb;cases hb
theorem Abz{x y:RcD}{s:HSt}(hx:x.Wf)(hy:y.Wf)(h:Apart x.f4 y.f4):Eqv (apR x (apR y s)) (apR y (apR x s)):=by
 constructor
 ·show setUpd (setUpd s.bl y.E) x.E=setUpd (setUpd s.bl x.E) y.E;refine List.ext_getElem? λb=>?_;rw[Cn,Cn,Cn,Cn,Fc,Fc];cases e:lastE x.E b with
  |none=>rfl
  |some u=>rw[Km hy (h.b1 b (hx.b b u e)).2]
 ·intro t;show getH (putL x.d x.v (putL y.d y.v s.sl)) t=getH (putL y.d y.v (putL x.d x.v s.sl)) t;rw[Cc,Cc,Cc,Cc];cases e1:x.d with
  |none=>rfl
  |some d=>
   cases e2:y.d with
   |none=>rfl
   |some c=>
    dsimp only;have hd:=(h.s1 d (hx.s d e1)).2;have hc:=hy.s c e2;cases hb:aD d t with
    |false=>rfl
    |true=>
     have:=aA hb;subst this;cases hb2:aD c d with
     |false=>rfl
     |true=>
      have:=aA hb2;subst this;rw[hc]at hd;cases hd
theorem Gc{D:Nat->Bool}{st0:HSt}{rc:Nat->RcD}:∀{k:Nat},(stD D st0 rc k).bl.length=st0.bl.length
 |0=>rfl
 |k+1=>by
  show(cond (D k) _ _:HSt).bl.length=_;cases D k with
  |false=>exact Gc
  |true=>exact(Fc (E:=(rc k).E)).trans Gc
theorem Kn{D D':Nat->Bool}{st0:HSt}{rc:Nat->RcD}:∀{k:Nat},(∀j,j<k->D j=D' j)->stD D st0 rc k=stD D' st0 rc k
 |0,_=>rfl
 |k+1,h=>by show cond (D k) _ _=cond (D' k) _ _;rw[h k (aZ k),Kn λj hj=>h j (bL hj)]
theorem Wg{D:Nat->Bool}{st0:HSt}{rc rc':Nat->RcD}:∀{k:Nat},(∀j,j<k->rc j=rc' j)->stD D st0 rc k=stD D st0 rc' k
 |0,_=>rfl
 |k+1,h=>by show cond (D k) _ _=cond (D k) _ _;rw[h k (aZ k),Wg λj hj=>h j (bL hj)]
def setD(D:Nat->Bool)(i:Nat):Nat->Bool:=λk=>cond (aD i k) true (D k)
theorem DD:setD D i i=true:=by simp[setD]
theorem Dx{k:Nat}(h:i≠k:=by omega):setD D i k=D k:=by
 have:aD i k=false:=by
  cases hb:aD i k with
  |false=>rfl
  |true=>exact absurd (aA hb) h
 simp[setD,this]
theorem SD{D:Nat->Bool}{st0:HSt}{rc:Nat->RcD}{i:Nat}(hi:D i=false):∀{k:Nat},i<k->(∀j,j<k->(rc j).Wf)->(∀j,i<j->j<k->D j=true->Apart (rc j).f4 (rc i).f4)->Eqv (stD (setD D i) st0 rc k) (apR (rc i) (stD D st0 rc k))
 |0,h,_,_=>absurd h (aM i)
 |k+1,h,hw,ha=>by
  rcases aT i k with hk|hk
  ·have ih:=SD (st0:=st0) hi hk (λj hj=>hw j (by omega)) λj h1 h2=>ha j h1 (by omega);show Eqv (cond (setD D i k) _ _) (apR _ (cond (D k) _ _));rw[Dx];cases hd:D k with
   |false=>exact ih
   |true=>exact(ih.ap (rc k)).trans (Abz (hw k (by omega)) (hw i (by omega)) (ha k hk (by omega) hd))
  ·have:i=k:=by omega
   subst this;show Eqv (cond (setD D i i) _ _) (apR _ (cond (D i) _ _));rw[DD,hi,Kn (D':=D) λj hj=>Dx];exact .refl
theorem Mc {D:Nat->Bool} {st0:HSt} {rc:Nat->RcD} {i:Nat} {bR sR:Nat} (hb:(rc i).f4.bR=bR) (hs:(rc i).f4.sR=sR) (hi:D i=false):∀ {k:Nat},(∀ j,j < k->(rc j).Wf)->(∀ j,i < j->j < k->D j=true->Apart (rc j).f4 (rc i).f4)->(∀ j,j < k->j < i->D j=false->Apart (rc i).f4 (rc j).f4) ->
  (∀b,hasN bR b=true->(stD D st0 rc k).bl[b]? =(stD (λ_=>true) st0 rc (min i k)).bl[b]?)/\∀t,hasN sR t=true->getH (stD D st0 rc k).sl t=getH (stD (λ_=>true) st0 rc (min i k)).sl t
 |0,_,_,_=>by rw[Nat.min_zero];exact⟨λ_ _=>rfl,λ_ _=>rfl⟩
 |k+1,hw,h1,h2=>by
  have ih:=Mc (st0:=st0) hb hs hi (k:=k) (λj hj=>hw j (by omega)) (λj a b=>h1 j a (by omega)) (λj a=>h2 j (by omega));have wk:=hw k (by omega);have skip:Apart (rc k).f4 (rc i).f4->∀s:HSt,(∀b,hasN bR b=true->(apR (rc k) s).bl[b]? =s.bl[b]?)/\∀t,hasN sR t=true->getH (apR (rc k) s).sl t=getH s.sl t:=λap s=>by
   refine⟨λb hb2=>?_,λt ht=>?_⟩
   ·show(setUpd s.bl (rc k).E)[b]? =_;rw[Cn,Km wk];cases e:hasN (rc k).f4.bW b with
    |false=>rfl
    |true=>have:=(ap.b1 b e).1;rw[hb,hb2]at this;cases this
   ·show getH (putL _ _ _) t=_;rw[Cc];cases e:(rc k).d with
    |none=>rfl
    |some d=>
     dsimp only;cases hbq:aD d t with
     |false=>rfl
     |true=>
      have:=aA hbq;subst this;have:=(ap.s1 d (wk.s d e)).1;rw[hs,ht]at this;cases this
  rcases aT k i with hk|hk
  ·rw[show min i (k+1)=k+1 by omega];rw[show min i k=k by omega]at ih;show(∀b,hasN bR b=true->(cond (D k) _ _:HSt).bl[b]? =(apR _ _).bl[b]?)/\∀t,hasN sR t=true->getH (cond (D k) _ _:HSt).sl t=getH (apR _ _).sl t;cases hd:D k with
   |true=>
    refine⟨λb hb2=>?_,λt ht=>?_⟩
    ·show(setUpd _ _)[b]? =(setUpd _ _)[b]?;rw[Cn,Cn,Gc,Gc,ih.1 b hb2]
    ·show getH (putL _ _ _) t=getH (putL _ _ _) t;rw[Cc,Cc,ih.2 t ht]
   |false=>
    have sk:=skip (h2 k (by omega) hk hd).symm (stD (λ_=>true) st0 rc k);exact⟨λb hb2=>(ih.1 b hb2).trans (sk.1 b hb2).symm,λt ht=>(ih.2 t ht).trans (sk.2 t ht).symm⟩
  ·rw[show min i (k+1)=i by omega];rw[show min i k=i by omega]at ih;show(∀b,hasN bR b=true->(cond (D k) _ _:HSt).bl[b]? =_)/\∀t,hasN sR t=true->getH (cond (D k) _ _:HSt).sl t=_;cases hd:D k with
   |false=>exact ih
   |true=>
    have hne:i≠k:=λe=>by subst e;rw[hi]at hd;cases hd
    have sk:=skip (h1 k (by omega) (by omega) hd) (stD D st0 rc k);exact⟨λb hb2=>(sk.1 b hb2).trans (ih.1 b hb2),λt ht=>(sk.2 t ht).trans (ih.2 t ht)⟩
def wantS(ops:Array Oper)(sl:List (Nat×SV))(o:Oper):Option Bool:=match o.guard with
 |none=>some true
 |some (j,want)=>match dstAt ops j with
  |none=>none
  |some t=>match getH sl t with
   |some (.v (.c (.bool b)))=>some (b==want)
   |some .und=>some false
   |_=>none
def lookM(ops:Array Oper)(o:Oper):Nat:=uniN (bitsOf (opSlots o.op)) (match o.guard with
 |none=>0
 |some (j,_)=>match dstAt ops j with|none=>0|some t=>bitN t)
def dstM(o:Oper):Nat:=match o.dst with|some d=>bitN d|none=>0
def areHoles(bl:List BV):Nat->Nat->Bool
 |_,0=>true
 |f,m+1=>(match bl[f]? with|some .hole=>areHoles bl (f+1) m|_=>false)
def upto:Nat->Nat->Nat
 |_,0=>0
 |f,m+1=>uniN (bitN f) (upto (f+1) m)
theorem Gw{bl:List BV}:∀{m f:Nat},areHoles bl f m=true->∀i,i<m->bl[f+i]? =some .hole
 |m+1,f,h,i,hi=>by
  unfold areHoles at h;split at h
  ·rename_i e;cases i with
   |zero=>exact e
   |succ i=>rw[show f+(i+1)=f+1+i by omega];exact Gw h i (by omega)
  ·cases h
theorem Md:∀{m f i:Nat},i<m->hasN (upto f m) (f+i)=true
 |m+1,f,i,hi=>by
  show hasN (uniN _ _) _=true;rw[Bp];cases i with
  |zero=>rw[bN,Es];rfl
  |succ i=>rw[show f+(i+1)=f+1+i by omega,Md (by omega)];simp
def fstB(E:List (Nat×BV)):Nat:=bitsOf (E.map bY)
def maskE(i:Nat)(ms:List Nat):List Edge->Nat
 | []=>0
 |e::es=>cond (Region.binds .any e) (uniN (uniN (bitN e.on) (match ms[i-1-e.on]? with|some m=>m|none=>0)) (maskE i ms es)) (maskE i ms es)
def fwdE(i:Nat):List Edge->Bool
 | []=>true
 |e::es=>cond (Region.binds .any e) (bA e.on i&&fwdE i es) (fwdE i es)
def okRow(m:Nat)(x:F4):Nat->List F4->Bool
 |0,[]=>true
 |i+1,y::ys=>cond (hasN m i) (okRow m x i ys) (dj x y&&okRow m x i ys)
 |_,_=>false
structure DAcc where
 f:Nat
 ms:List Nat
 fs:List F4
variable{acc:DAcc}
def addD{ρ:Type}(ops:Array Oper)(i:Nat)(o:Oper)(acc:DAcc)(f':Nat)(x:F4)(K:DAcc->Option ρ):Option ρ:=match fwdE i o.after.toList with
 |true=>(match okRow (maskE i acc.ms o.after.toList) x i acc.fs with
  |true=>K ⟨f',maskE i acc.ms o.after.toList::acc.ms,x::acc.fs⟩
  |false=>none)
 |false=>none
def doD{P:Program}(S:Stp P)(n:Nat)(ops:Array Oper){ρ:Type}(i:Nat)(o:Oper)(acc:DAcc)(st:HSt)(K:DAcc->HSt->Option ρ):Option ρ:=
 match areHoles st.bl acc.f (S.m (restr st.sl (opSlots o.op)) o.op)with
 |true=>runD acc.f (S.t (restr st.sl (opSlots o.op)) acc.f o.op o.type) st.bl (upto acc.f (S.m (restr st.sl (opSlots o.op)) o.op)) [] λfp E v=>
  match put n o.dst v ⟨st.sl,setUpd st.bl E⟩with
  |some st'=>addD ops i o acc (acc.f+S.m (restr st.sl (opSlots o.op)) o.op) ⟨fp,fstB E,lookM ops o,dstM o⟩ λacc'=>K acc' st'
  |none=>none
 |false=>none
def skD(n:Nat)(ops:Array Oper){ρ:Type}(i:Nat)(o:Oper)(acc:DAcc)(st:HSt)(K:DAcc->HSt->Option ρ):Option ρ:=match o.dst with
 |some d=>match bA d n with|true=>addD ops i o acc acc.f ⟨0,0,lookM ops o,dstM o⟩ λacc'=>K acc' ⟨(d,.und)::st.sl,st.bl⟩|false=>none
 |none=>none
def evD{P:Program}(S:Stp P)(n:Nat)(ops:Array Oper){ρ:Type}:Nat->Nat->DAcc->HSt->(HSt->Option ρ)->Option ρ
 |0,i,acc,st,K=>match aD ops.size i with|true=>K st|false=>none
 |f+1,i,acc,st,K=>match ops[i]? with
  |none=>none
  |some o=>match o.guard with
   |none=>doD S n ops i o acc st λacc' st'=>evD S n ops f (i+1) acc' st' K
   |some (j,want)=>match dstAt ops j with
    |none=>none
    |some t=>match getH st.sl t with
     | some (.v (.c (.bool b)))=>cnd b
       (match want with|true=>doD S n ops i o acc ⟨(t,vC (.bool true))::st.sl,st.bl⟩ (λacc' st'=>evD S n ops f (i+1) acc' st' K)|false=>skD n ops i o acc ⟨(t,vC (.bool true))::st.sl,st.bl⟩ (λacc' st'=>evD S n ops f (i+1) acc' st' K))
       (match want with|true=>skD n ops i o acc ⟨(t,vC (.bool false))::st.sl,st.bl⟩ (λacc' st'=>evD S n ops f (i+1) acc' st' K)|false=>doD S n ops i o acc ⟨(t,vC (.bool false))::st.sl,st.bl⟩ (λacc' st'=>evD S n ops f (i+1) acc' st' K))
     |some .und=>skD n ops i o acc st (λacc' st'=>evD S n ops f (i+1) acc' st' K)
     |_=>none
section
variable{ρ:Type}{r:ρ}
structure RcOk(S:Stp P)(n:Nat)(ops:Array Oper)(st:HSt)(o:Oper)(x:RcD):Prop where
 d:x.d=o.dst
 lt:∀d,o.dst=some d->d<n
 wf:x.Wf
 sR:x.f4.sR=lookM ops o
 how:(wantS ops st.sl o=some true/\∃f,areHoles st.bl f (S.m (restr st.sl (opSlots o.op)) o.op)=true/\(∀i,i<S.m (restr st.sl (opSlots o.op)) o.op->hasN x.f4.bR (f+i)=true)/\TolD f (S.t (restr st.sl (opSlots o.op)) f o.op o.type) st.bl x.f4.bR x.E x.v)\/
  (wantS ops st.sl o=some false/\x.v= .und/\x.E=[]/\∃d,o.dst=some d)
def Closed(ops:Array Oper)(D:Nat->Bool):Prop:=∀k o e,ops[k]? =some o->e∈o.after.toList->Region.binds .any e=true->D k=true->D e.on=true
def MaskOk(ops:Array Oper)(p m:Nat):Prop:=∀D,Closed ops D->D p=true->∀j,hasN m j=true->D j=true
def Fwd(ops:Array Oper)(k:Nat):Prop:=∀o e,ops[k]? =some o->e∈o.after.toList->Region.binds .any e=true->e.on<k
def SepD(ops:Array Oper)(rc:Nat->RcD)(i j:Nat):Prop:=Apart (rc i).f4 (rc j).f4\/∀D,Closed ops D->D i=true->D j=true
structure InvD(S:Stp P)(n:Nat)(ops:Array Oper)(st0:HSt)(i:Nat)(rc:Nat->RcD)(acc:DAcc)(st:HSt):Prop where
 ok:∀k o,k<i->ops[k]? =some o->RcOk S n ops (stD (λ_=>true) st0 rc k) o (rc k)
 op:∀k,k<i->∃o,ops[k]? =some o
 fwd:∀k,k<i->Fwd ops k
 sep:∀k j,j<k->k<i->SepD ops rc k j
 ms:∀p,p<i->MaskOk ops p (match acc.ms[i-1-p]? with|some m=>m|none=>0)
 fs:∀p,p<i->acc.fs[i-1-p]? =some (rc p).f4
 eqv:Eqv st (stD (λ_=>true) st0 rc i)
theorem It{i:Nat}:∀{l:List Edge},fwdE i l=true->∀e∈l,Region.binds .any e=true->e.on<i
 |x::l,h,e,he,hb=>by
  unfold fwdE at h;rcases aP.1 he with rfl|he
  ·rw[hb]at h;have h:(bA e.on i&&fwdE i l)=true:=h;simp only[aC]at h;simpa using h.1
  ·cases hx:Region.binds .any x with
   |true=>
    rw[hx]at h;have h:(bA x.on i&&fwdE i l)=true:=h;simp only[aC]at h;exact It h.2 e he hb
   |false=>rw[hx]at h;exact It h e he hb
theorem Ox {i:Nat} {o:Oper} {ms:List Nat} (ho:ops[i]? = some o) (hms:∀ p,p < i->MaskOk ops p (match ms[i - 1 - p]? with | some m=>m | none=>0)) :
  ∀{l:List Edge},(∀e∈l,e∈o.after.toList)->(∀e∈l,Region.binds .any e=true->e.on<i)->MaskOk ops i (maskE i ms l)
 | [],_,_,D,hD,hi,j,hj=>by have:bK 0 j=true:=hj;simp at this
 |x::l,h1,h2,D,hD,hi,j,hj=>by
  have ih:=Ox ho hms (l:=l) (λe he=>h1 e (aH _ he)) (λe he=>h2 e (aH _ he)) D hD hi j;unfold maskE at hj;cases hx:Region.binds .any x with
  |false=>rw[hx]at hj;exact ih hj
  |true=>
   rw[hx]at hj;have hj:hasN (uniN (uniN _ _) _) j=true:=hj;have hon:=hD i o x ho (h1 x (aJ ..)) hx hi;rw[Bp,Bp]at hj;simp only[Bool.or_eq_true]at hj;rcases hj with(hj|hj)|hj
   ·rw[Ow hj];exact hon
   ·exact hms x.on (h2 x (aJ ..) hx) D hD hon j hj
   ·exact ih hj
theorem Ko{m:Nat}{x:F4}:∀{i:Nat}{l:List F4},okRow m x i l=true->l.length=i/\∀j y,j<i->l[i-1-j]? =some y->hasN m j=true\/Apart x y
 |0,[],h=>⟨rfl,λj y hj=>absurd hj (aM j)⟩
 |0,_::_,h=>by cases h
 |i+1,[],h=>by cases h
 |i+1,y::ys,h=>by
  unfold okRow at h;have key:okRow m x i ys=true/\(hasN m i=true\/Apart x y):=by
   cases hm:hasN m i with
   |true=>rw[hm]at h;exact⟨h,.inl rfl⟩
   |false=>
    rw[hm]at h;have h:(dj x y&&okRow m x i ys)=true:=h;simp only[aC]at h;exact⟨h.2,.inr (Aby h.1)⟩
  obtain⟨ih1,ih2⟩:=Ko key.1;refine⟨by simp[ih1],λj z hj hz=>?_⟩
  by_cases e:j=i
  ·subst e;rw[show j+1-1-j=0 by omega]at hz;simp at hz;subst hz;exact key.2
  ·rw[show i+1-1-j=(i-1-j)+1 by omega]at hz;exact ih2 j z (by omega) (by simpa using hz)
def setRc(rc:Nat->RcD)(i:Nat)(x:RcD):Nat->RcD:=λk=>cond (aD i k) x (rc k)
theorem EP{x:RcD}:setRc rc i x i=x:=by simp[setRc]
theorem Et{k:Nat}{x:RcD}(h:i≠k:=by omega):setRc rc i x k=rc k:=by
 have:aD i k=false:=by
  cases hb:aD i k with
  |false=>rfl
  |true=>exact absurd (aA hb) h
 simp[setRc,this]
theorem SF {f':Nat} {x:RcD} {K:DAcc->Option ρ} (I:InvD S n ops st0 i rc acc st) (ho:ops[i]? = some o) (hx:RcOk S n ops (stD (λ_=>true) st0 rc i) o x)
  (he:Eqv st' (apR x st)) (h:addD ops i o acc f' x.f4 K=some r):∃rc' acc',InvD S n ops st0 (i+1) rc' acc' st'/\K acc'=some r:=by
 unfold addD at h;split at h;case h_2=>cases h
 rename_i hf;split at h;case h_2=>cases h
 rename_i hrow;have hfw:=It hf;have hm:=Ox ho I.ms (λe he=>he) hfw;obtain⟨hl,hr⟩:=Ko hrow;have hst:∀k,k<=i->stD (λ_=>true) st0 (setRc rc i x) k=stD (λ_=>true) st0 rc k:=λk hk=>Wg λj hj=>Et;refine⟨setRc rc i x,_,⟨λk o' hk ho'=>?_,λk hk=>?_,λk hk=>?_,λk j hj hk=>?_,λp hp=>?_,λp hp=>?_,?_⟩,h⟩
 ·rw[hst k (by omega)];by_cases e:i=k
  ·subst e;rw[ho]at ho';injection ho' with ho';subst ho';rw[EP];exact hx
  ·rw[Et e];exact I.ok k o' (by omega) ho'
 ·by_cases e:i=k
  ·subst e;exact⟨o,ho⟩
  ·exact I.op k (by omega)
 ·by_cases e:i=k
  ·subst e;intro o' e' ho' he' hb';rw[ho]at ho';injection ho' with ho';subst ho';exact hfw e' he' hb'
  ·exact I.fwd k (by omega)
 ·unfold SepD;by_cases e:i=k
  ·subst e;rw[EP,Et];rcases hr j _ hj (I.fs j hj)with h1|h1
   ·exact .inr λD hD hi=>hm D hD hi j h1
   ·exact .inl h1
  ·rw[Et e,Et];exact I.sep k j hj (by omega)
 ·by_cases e:i=p
  ·subst e;rw[show i+1-1-i=0 by omega];exact hm
  ·rw[show i+1-1-p=(i-1-p)+1 by omega];exact I.ms p (by omega)
 ·by_cases e:i=p
  ·subst e;rw[show i+1-1-i=0 by omega,EP];rfl
  ·rw[show i+1-1-p=(i-1-p)+1 by omega,Et e];exact I.fs p (by omega)
 ·show Eqv st' (apR (setRc rc i x i) (stD _ st0 (setRc rc i x) i));rw[EP,hst i (aR i)];exact he.trans (I.eqv.ap x)
theorem Me{s t:List (Nat×SV)}(h:∀x,getH s x=getH t x):wantS ops s o=wantS ops t o:=by
 unfold wantS;cases o.guard with
 |none=>rfl
 |some q=>dsimp only;cases dstAt ops q.1 with
  |none=>rfl
  |some t=>dsimp only;rw[h t]
theorem Wh{u:BV}(h:lastE E b=some u):hasN (fstB E) b=true:=Ir (UP h)
theorem Oy{d:Nat}(h:o.dst=some d):hasN (dstM o) d=true:=by unfold dstM;rw[h];exact Es d
theorem Rt {K:DAcc->HSt->Option ρ} (I:InvD S n ops st0 i rc acc st) (ho:ops[i]? = some o) (hw:wantS ops st.sl o=some true)
  (h:doD S n ops i o acc st K=some r):∃rc' acc' st',InvD S n ops st0 (i+1) rc' acc' st'/\K acc' st'=some r:=by
 unfold doD at h;split at h;case h_2=>cases h
 rename_i hh;obtain⟨fp,E,v,h1,h2,h3⟩:=Cq h;rw[bD]at h3;split at h3;case h_2=>cases h3
 rename_i st' hp;have hlt:∀d,o.dst=some d->d<n:=λd hd=>by unfold put at hp;rw[hd]at hp;obtain⟨hdn,_⟩:=condS hp;simpa using hdn
 have hst:st'=apR ⟨o.dst,E,v,⟨fp,fstB E,lookM ops o,dstM o⟩⟩ st:=by
  unfold put at hp;split at hp
  ·rename_i d hd;obtain⟨_,hp⟩:=condS hp;injection hp with hp;rw[<-hp];show _=HSt.mk (putL o.dst v st.sl) _;rw[hd];rfl
  ·rename_i hd;injection hp with hp;rw[<-hp];show _=HSt.mk (putL o.dst v st.sl) _;rw[hd];rfl
 have e1:=Fb (ts:=opSlots o.op) λt _=>I.eqv.2 t;obtain⟨rc',acc',h4,h5⟩:=SF (x:=⟨o.dst,E,v,⟨fp,fstB E,lookM ops o,dstM o⟩⟩) (st':=st') I ho ⟨rfl,hlt,⟨λb u hb=>Wh hb,λd hd=>Oy hd⟩,rfl,.inl ⟨(Me λx=>I.eqv.2 x).symm.trans hw,acc.f,by rw[<-e1,<-I.eqv.1];exact hh,λi hi=>h1 _ (Md (by rw[e1];exact hi)),by rw[<-e1,<-I.eqv.1];exact h2⟩⟩ (hst▸.refl) h3;exact⟨rc',acc',st',h4,h5⟩
theorem Ru {K:DAcc->HSt->Option ρ} (I:InvD S n ops st0 i rc acc st) (ho:ops[i]? = some o) (hw:wantS ops st.sl o=some false)
  (h:skD n ops i o acc st K=some r):∃rc' acc' st',InvD S n ops st0 (i+1) rc' acc' st'/\K acc' st'=some r:=by
 unfold skD at h;split at h;case h_2=>cases h
 rename_i d hd;split at h;case h_2=>cases h
 rename_i hdn
 obtain ⟨rc',acc',h4,h5⟩:=SF (x:=⟨o.dst,[],.und,⟨0,0,lookM ops o,dstM o⟩⟩) (st':=⟨(d,.und)::st.sl,st.bl⟩) I ho ⟨rfl,λd' hd'=>by rw [hd] at hd';injection hd' with hd';subst hd';simpa using hdn,⟨λb u hb=>absurd (show (none:Option BV)=some u from hb) (by simp),λd hd=>Oy hd⟩,rfl,.inr ⟨(Me λx=>I.eqv.2 x).symm.trans hw,rfl,rfl,d,hd⟩⟩ (by
   refine⟨rfl,λx=>?_⟩
   show _=getH (putL o.dst _ _) x;rw[hd];rfl) h
 exact⟨rc',acc',_,h4,h5⟩
theorem InvD.turn(I:InvD S n ops st0 i rc acc st)(e:Eqv st' st):InvD S n ops st0 i rc acc st':=⟨I.ok,I.op,I.fwd,I.sep,I.ms,I.fs,e.trans I.eqv⟩
theorem Mf{t:Nat}{b:Bool}(h:getH st.sl t=some (vC (.bool b))):Eqv ⟨(t,vC (.bool b))::st.sl,st.bl⟩ st:=by
 refine⟨rfl,λx=>?_⟩
 show getH ((t,_)::st.sl) x=_;rw[UQ];cases hb:aD t x with
 |false=>rfl
 |true=>
  have:=aA hb;subst this;exact h.symm
theorem EQ {st0:HSt} {K:HSt->Option ρ}:∀ {f i:Nat} {rc:Nat->RcD} {acc:DAcc} {st:HSt},InvD S n ops st0 i rc acc st->evD S n ops f i acc st K=some r ->
  ∃rc' acc' st',InvD S n ops st0 ops.size rc' acc' st'/\K st'=some r
 |0,i,rc,acc,st,I,h=>by
  unfold evD at h;split at h;case h_2=>cases h
  rename_i e;have e:=aA e;subst e;exact⟨rc,acc,st,I,h⟩
 |f+1,i,rc,acc,st,I,h=>by
  unfold evD at h;split at h
  ·cases h
  ·rename_i o ho;split at h
   ·rename_i hg;obtain⟨rc',acc',st',I',h'⟩:=Rt I ho (by simp[wantS,hg]) h;exact EQ I' h'
   ·rename_i j want hg;split at h
    ·cases h
    ·rename_i t hj;split at h
     ·rename_i b hb;have hwant:∀{b':Bool}{st':HSt},getH st'.sl t=some (vC (.bool b'))->wantS ops st'.sl o=some (b'==want):=λ{b' st'} hb'=>by have hb':getH st'.sl t=some (.v (.c (.bool b'))):=hb';simp[wantS,hg,hj,hb']
      rcases Ga h with⟨e,h2⟩|⟨e,h2⟩
      ·subst e;have I2:=I.turn (Mf hb);have h0:getH ((t,vC (.bool true))::st.sl) t=some (vC (.bool true)):=Er;clear h;split at h2
       ·obtain⟨rc',acc',st',I',h'⟩:=Rt I2 ho (by rw[hwant h0];rfl) h2;exact EQ I' h'
       ·obtain⟨rc',acc',st',I',h'⟩:=Ru I2 ho (by rw[hwant h0];rfl) h2;exact EQ I' h'
      ·subst e;have I2:=I.turn (Mf hb);have h0:getH ((t,vC (.bool false))::st.sl) t=some (vC (.bool false)):=Er;clear h;split at h2
       ·obtain⟨rc',acc',st',I',h'⟩:=Ru I2 ho (by rw[hwant h0];rfl) h2;exact EQ I' h'
       ·obtain⟨rc',acc',st',I',h'⟩:=Rt I2 ho (by rw[hwant h0];rfl) h2;exact EQ I' h'
     ·rename_i hb;obtain⟨rc',acc',st',I',h'⟩:=Ru I ho (by simp[wantS,hg,hj,hb]) h;exact EQ I' h'
     ·cases h
end
def Dl(listed:Array Bool):Nat->Bool:=λk=>listed.getD k false
theorem Aeh(h:i<listed.size):Dl (listed.setIfInBounds i true)=setD (Dl listed) i:=by
 funext k;by_cases e:i=k
 ·subst e;rw[DD];simp[Dl,h]
 ·rw[Dx e];exact getD_set_ne false e
theorem MR(h:i<listed.size:=by omega):listed.getD i true=listed.getD i false:=by simp[h]
def cntD(D:Nat->Bool):Nat->Nat
 |0=>0
 |k+1=>cond (D k) (cntD D k) (cntD D k+1)
theorem Mg{D D':Nat->Bool}:∀{k:Nat},(∀j,j<k->D j=D' j)->cntD D k=cntD D' k
 |0,_=>rfl
 |k+1,h=>by show cond (D k) _ _=cond (D' k) _ _;rw[h k (aZ k),Mg λj hj=>h j (bL hj)]
theorem Oz{D:Nat->Bool}{i:Nat}(hi:D i=false):∀{k:Nat},i<k->cntD (setD D i) k+1=cntD D k
 |0,h=>absurd h (aM i)
 |k+1,h=>by
  show cond (setD D i k) _ _+1=cond (D k) _ _;by_cases e:i=k
  ·subst e;rw[DD,hi,Mg (D':=D) λj hj=>Dx];rfl
  ·rw[Dx e];have:=Oz hi (k:=k) (by omega);cases D k with
   |true=>exact this
   |false=>show cntD _ k+1+1=cntD D k+1;rw[this]
theorem Mh{D:Nat->Bool}:∀{k:Nat},cntD D k=0->∀j,j<k->D j=true
 |0,_,j,hj=>absurd hj (aM j)
 |k+1,h,j,hj=>by
  have h:cond (D k) (cntD D k) (cntD D k+1)=0:=h;cases e:D k with
  |false=>rw[e]at h;cases h
  |true=>
   rw[e]at h;by_cases e2:j=k
   ·subst e2;exact e
   ·exact Mh h j (by omega)
section
theorem Mi{b:Bool}(h:wantS ops sl o=some b){a:Act}(hr:Rl g ρ ⟨sl,bl⟩ own fr)(hf:Fr n a fr):Region.wanted o (yielded ops a.tmps)=b:=by
 unfold wantS at h;split at h
 ·rename_i hg;injection h with h;subst h;simp[Region.wanted,hg]
 ·rename_i j want hg;split at h
  ·cases h
  ·rename_i t hj;split at h
   ·rename_i c hc;injection h with h;subst h;exact Ep hg hj hc hr hf
   ·rename_i hc;injection h with h;subst h;exact Kl hg hj hc hr hf
   ·cases h
theorem UR(I:InvD S n ops st0 ops.size rc acc st)(hs:listed.size=ops.size)(h:Region.ready .any ops listed=[]):∀k,k<ops.size->Dl listed k=true:=by
 intro k;induction k using Nat.strongRecOn with
 |_ k ih=>
  intro hk;cases e:Dl listed k with
  |true=>rfl
  |false=>
   exfalso;have:k∈Region.ready .any ops listed:=by
    rw[mem_ready];refine⟨by rw[MR];exact e,?_⟩
    obtain⟨o,ho⟩:=I.op k hk;refine⟨o,ho,λx hx hb=>?_⟩
    have:=I.fwd k hk o x ho (by simpa using hx) hb;exact ih x.on this (by omega)
   rw[h]at this;cases this
theorem Aei (I:InvD S n ops st0 ops.size rc acc st) (hK:SW (Q .normal) n A g0 (stD (λ_=>true) st0 rc ops.size)) :
  ∀(fuel:Nat)(listed:Array Bool),listed.size=ops.size->Closed ops (Dl listed)->cntD (Dl listed) ops.size<=fuel->SW (wpAny P .any ops Q fuel listed) n A g0 (stD (Dl listed) st0 rc ops.size):=by
 have hwf:∀j,j<ops.size->(rc j).Wf:=λj hj=>by obtain⟨o,ho⟩:=I.op j hj;exact(I.ok j o hj ho).wf
 have hdone:∀listed:Array Bool,(∀k,k<ops.size->Dl listed k=true)->SW (Q .normal) n A g0 (stD (Dl listed) st0 rc ops.size):=λlisted h=>by rw[Kn (D':=λ_=>true) h];exact hK
 intro fuel;induction fuel with
 |zero=>
  intro listed hs hc hn;have hall:=Mh (Nat.le_zero.1 hn);intro g ρ own fr hg hA hr a w hf hw;refine⟨?_,hdone listed hall g ρ own fr hg hA hr a w hf hw⟩
  refine List.eq_nil_iff_forall_not_mem.2 λi hi=>?_;obtain⟨h1,o,ho,_⟩:=mem_ready.1 hi;have hi2:i<ops.size:=(bH.1 ho).1;rw[MR]at h1;have:=hall i hi2;unfold Dl at this;rw[h1]at this;cases this
 |succ fuel ih=>
  intro listed hs hc hn g ρ own fr hg hA hr a w hf hw;refine⟨λh0=>hdone listed (UR I hs h0) g ρ own fr hg hA hr a w hf hw,λi hi=>?_⟩
  obtain⟨h1,o,ho,hpre⟩:=mem_ready.1 hi;have hi2:i<ops.size:=(bH.1 ho).1;rw[MR]at h1;have hDi:Dl listed i=false:=h1;have hset:=Aeh (listed:=listed) (i:=i) (by omega);have hc2:Closed ops (setD (Dl listed) i):=λk o' e ho' he hb hk=>by
   by_cases ek:i=k
   ·subst ek;rw[ho]at ho';injection ho' with ho';subst ho';have:=hpre e (by simpa using he) hb;by_cases ee:i=e.on
    ·rw[ee];exact DD
    ·rw[Dx ee];exact this
   ·rw[Dx ek]at hk;have:=hc k o' e ho' he hb hk;by_cases ee:i=e.on
    ·rw[ee];exact DD
    ·rw[Dx ee];exact this
  have later:∀j,i<j->j<ops.size->Dl listed j=true->Apart (rc j).f4 (rc i).f4:=λj h2 h3 h4=>by
   rcases I.sep j i h2 h3 with h|h
   ·exact h
   ·have:=h _ hc h4;rw[hDi]at this;cases this
  have before:∀j,j<ops.size->j<i->Dl listed j=false->Apart (rc i).f4 (rc j).f4:=λj h2 h3 h4=>by
   rcases I.sep i j h3 hi2 with h|h
   ·exact h
   ·have:=h _ hc2 DD;rw[Dx,h4]at this;cases this
  have R:=I.ok i o hi2 ho;obtain⟨lb,ls⟩:=Mc (st0:=st0) rfl R.sR hDi hwf later before;rw[Nat.min_eq_left (by omega)]at lb ls;have next:=(ih (listed.setIfInBounds i true) (by simpa using hs) (by rw[hset];exact hc2) (by rw[hset];have:=Oz hDi hi2;omega))
  rw[hset]at next
  have next:=next.eqv (SD (st0:=st0) hDi hi2 hwf later).symm
  have hls:∀t∈opSlots o.op,getH (stD (Dl listed) st0 rc ops.size).sl t=getH (stD (λ_=>true) st0 rc i).sl t:=λt ht=>ls t (by unfold lookM;rw[Bp,Ir ht];rfl);have hre:=Fb hls;have hws:wantS ops (stD (Dl listed) st0 rc ops.size).sl o=wantS ops (stD (λ_=>true) st0 rc i).sl o:=by
   unfold wantS;cases hgd:o.guard with
   |none=>rfl
   |some q=>
    obtain⟨j,want⟩:=q;dsimp only;cases hj:dstAt ops j with
    |none=>rfl
    |some t=>
     dsimp only;rw[ls t (by unfold lookM;rw[Bp,hgd];dsimp only;rw[hj];dsimp only;rw[Es];simp)]
  unfold wpOp;rw[ho];dsimp only;rcases R.how with⟨hwt,f,hh,hhb,ht⟩|⟨hwt,hv,hE,d,hd⟩
  ·rw[Mi (hws.trans hwt) hr hf,if_pos rfl];left;have hold:=TolD.told ht (bl2:=(stD (Dl listed) st0 rc ops.size).bl) (by rw[Gc,Gc]) lb;rw[<-hre]at hold;have heff:=S.ok (n:=n) (λk hk=>by rw[hre]at hk;rw[lb _ (hhb k hk)];exact Gw hh k hk) hold
   refine heff.sub (λt sv h=>Is h) o a w Q _ g ρ own fr rfl rfl hr hf hw λv' g' ρ' own' w' hg' hx hs' hr' hv'=>?_;have e:apR (rc i) (stD (Dl listed) st0 rc ops.size)=⟨putL o.dst (rc i).v (stD (Dl listed) st0 rc ops.size).sl,setUpd (stD (Dl listed) st0 rc ops.size).bl (rc i).E⟩:=by unfold apR;rw[R.d]
   rw[e]at next
   cases hd:o.dst with
   |none=>
    rw[hd]at next
    exact next g' ρ' own' fr (hg.trans hg') (hA.ext hx) hr' a w' hf hs'
   |some d=>
    rw[hd]at next
    exact next g' ρ' own' ((d,v')::fr) (hg.trans hg') (hA.ext hx) (hr'.put d hv') _ w' (hf.put (R.lt d hd) v') hs'
  ·rw[Mi (hws.trans hwt) hr hf,if_neg (by simp)];have e:apR (rc i) (stD (Dl listed) st0 rc ops.size)=⟨(d,.und)::(stD (Dl listed) st0 rc ops.size).sl,(stD (Dl listed) st0 rc ops.size).bl⟩:=by unfold apR;rw[R.d,hd,hv,hE];rfl
   rw[e]at next
   rw[hd];exact next g ρ own ((d,undef)::fr) hg hA (hr.put d rfl) _ w (hf.put (R.lt d hd) _) hw
theorem Wi{ρ:Type}{r:ρ}{K:HSt->Option ρ}(hm:P.follows .mixedOrders=true){id:Nat}(h:evD S n ops ops.size 0 ⟨f,[],[]⟩ st K=some r)(hK:∀st',K st'=some r->SW (Q .normal) n A g0 st'):SW (Code.wp P (.region id ops true) Q) n A g0 st:=by
 have I0:InvD S n ops st 0 (λ_=>⟨none,[],.und,⟨0,0,0,0⟩⟩) ⟨f,[],[]⟩ st:=
  ⟨λk _ hk=>absurd hk (aM k),λk hk=>absurd hk (aM k),λk hk=>absurd hk (aM k),λk j _ hk=>absurd hk (aM k),λk hk=>absurd hk (aM k),λk hk=>absurd hk (aM k),.refl⟩
 obtain⟨rc,acc,st',I,h'⟩:=EQ I0 h;have hk:=(hK st' h').eqv I.eqv.symm;have hD:Dl (Array.replicate ops.size false)=λ_=>false:=by funext k;by_cases hk:k<ops.size<;>simp[Dl,Array.getElem?_replicate,hk]
 have hcnt:∀k,cntD (λ_=>false) k<=k:=λk=>by
  induction k with
  |zero=>exact aR 0
  |succ k ih=>exact Nat.succ_le_succ ih
 have hst:∀k,stD (λ_=>false) st rc k=st:=λk=>by
  induction k with
  |zero=>rfl
  |succ k ih=>exact ih
 have:=Aei I hk ops.size (Array.replicate ops.size false) (by simp) (by rw[hD];exact λk o e _ _ _ h=>by cases h) (by rw[hD];exact hcnt _);rw[hD,hst]at this;intro g ρ own fr hg hA hr a w hf hw;exact wp_region_any hm (this g ρ own fr hg hA hr a w.drew hf hw.drew)
end
def cutS(t:Nat)(st:HSt):HSt:=match getH st.sl t with
 |some (.v (.c (.vw b _ l r)))=>(match st.bl[b]?,aD l 0 with
  |some (.row d et xs),true=>⟨(t,vC (.own st.bl.length))::st.sl,st.bl.set b .no++[.row d et (xs.take r)]⟩
  |_,_=>st)
 |_=>st
section
theorem Fr.again{a:Act}{t:Nat}(hf:Fr n a fr)(h1:getS fr t=some v):Fr n a ((t,v)::fr):=⟨hf.size,hf.defers,λs u hu=>by
 have hu:cond (aD t s) (some v) (getS fr s)=some u:=hu;cases hb:aD t s with
 |true=>
  rw[hb]at hu;have:=aA hb;subst this;injection hu with hu;subst hu;exact hf.at_ _ _ h1
 |false=>rw[hb]at hu;exact hf.at_ _ _ hu⟩
theorem SW.cutS{t:Nat}{st:HSt}(k:SW K n A g0 (cutS t st)):SW K n A g0 st:=by
 unfold Go.Proofs.YtpglaekodahcoaaGreatDoor.cutS at k;split at k;case h_2=>exact k
 rename_i b c l r ht;split at k;case h_2=>exact k
 rename_i d et xs hb hl0;have hl0:=aA hl0;subst hl0;obtain⟨sl,bl⟩:=st;refine SW.holes 1 ?_;have hb:bl[b]? =some (.row d et xs):=hb;have hbl:=Am hb;intro g ρ own fr hg hA hr a w hf hs;obtain⟨v,h1,h2⟩:=hr.slot t _ ht;obtain⟨hkn,rfl,hl⟩:=(h2:RealC g ρ (bl++Go.Proofs.YtpglaekodahcoaaGreatDoor.holes 1) (.vw b c 0 r) v)
 have hb1:(bl++Go.Proofs.YtpglaekodahcoaaGreatDoor.holes 1)[b]? =some (.row d et xs):=by rw[aB hbl];exact hb
 have hl:=(hl _ _ hb1 rfl).2;have hlr:(xs.take r).length=r:=by rw[aO];omega
 obtain⟨k0,hk0,hB⟩:=hr.own_at hb1;have hB:Buf g.b d.ty et (.slice (ρ b).1 xs.length (ρ b).2) k0 xs:=hB;have hB:=hB.cut r hl;have hf0:(bl++Go.Proofs.YtpglaekodahcoaaGreatDoor.holes 1)[bl.length]? =some .hole:=by simp[Go.Proofs.YtpglaekodahcoaaGreatDoor.holes]
 have hbf:b≠bl.length:=by omega
 have hno:=hr.hole_none hf0;have hst:=hs.move (b:=b) (f:=bl.length) (k:=k0) hk0 hno hbf;have hx:Ext ρ (bl++Go.Proofs.YtpglaekodahcoaaGreatDoor.holes 1) ρ ((bl++Go.Proofs.YtpglaekodahcoaaGreatDoor.holes 1).set b .no):=Ext.set_at hb1 rfl λm hm=>by cases hm
 have hr1:=hr.setB (g':=g) (bv1:= .no) (k:=none) (.refl g) hb1 rfl (λm hm=>by cases hm) rfl;have hf1:((bl++Go.Proofs.YtpglaekodahcoaaGreatDoor.holes 1).set b .no)[bl.length]? =some .hole:=by rw[AK hbf];exact hf0
 have hx1:Ext ρ ((bl++Go.Proofs.YtpglaekodahcoaaGreatDoor.holes 1).set b .no) (setρ ρ bl.length (ρ b)) (((bl++Go.Proofs.YtpglaekodahcoaaGreatDoor.holes 1).set b .no).set bl.length (.row d et (xs.take r))):=Ext.set_hole hf1;have hr2:=hr1.lay (g':=g) (bv:= .row d et (xs.take r)) (k:=k0) (e:=ρ b) (.refl g) hf1 hB;have e:((bl++Go.Proofs.YtpglaekodahcoaaGreatDoor.holes 1).set b .no).set bl.length (.row d et (xs.take r))=bl.set b .no++[.row d et (xs.take r)]:=by rw[cB _ _ hbl,bV _ _ (by simp)];simp[Go.Proofs.YtpglaekodahcoaaGreatDoor.holes]
 rw[e]at hx1 hr2;have hv:RealC g (setρ ρ bl.length (ρ b)) (bl.set b .no++[.row d et (xs.take r)]) (.own bl.length) (.slice (offA (ρ b).1 (ρ b).2 0 c.n) (r-0) ((ρ b).2-0)):=by
  rw[FU,aW,aW];refine⟨⟨.row d et (xs.take r),by simp,rfl⟩,r,by rw[Bn],λbv m e1 e2=>?_⟩
  have e3:(bl.set b .no++[.row d et (xs.take r)])[bl.length]? =some (.row d et (xs.take r)):=by simp
  rw[e3]at e1;injection e1 with e1;subst e1;have e2:some (xs.take r).length=some m:=e2;injection e2 with e2;omega
 exact k g (setρ ρ bl.length (ρ b)) _ _ hg (hA.ext (hx.trans hx1)) (hr2.put t hv) a w (hf.again h1) hst
theorem Rl.hole{g:Gh}{ρ:Env}{own:Own}{fr:Sl}{sl:List (Nat×SV)}{bl:List BV}{w:World}(hr:Rl g ρ ⟨sl,bl⟩ own fr)(hs:St w g own):Rl g ρ ⟨sl,bl++[.hole]⟩ (own++[none]) fr/\St w g (own++[none])/\Ext ρ bl ρ (bl++[.hole]):=by
 have hl:own.length=bl.length:=hr.len;have hx:Ext ρ bl ρ (bl++[.hole]):=λb bv e h2=>⟨rfl,bv,by rw[aB (Am e)];exact e,h2,λm h=>h⟩
 refine⟨hr.turn (.refl g) hx (by simp[hl]) λi bv k h1 h2=>?_,hs.addNone,hx⟩
 rcases aT i bl.length with hi|hi
 ·rw[aB hi]at h1;rw[aB (by omega)]at h2;exact(hr.blk i bv k h1 h2).ext (.refl g) hx
 ·have hi2:=Am h1;simp at hi2;have:i=bl.length:=by omega
  subst this;simp at h1;subst h1;rw[<-hl]at h2;simp at h2;exact h2.symm
theorem Rl.cutC {r:Nat} {d:Cd} {xs:List d.den} (hr:Rl g ρ ⟨sl,bl⟩ own fr) (hs:St w g own) (hb:bl[b]? = some (.row d et xs)) (hv:RealC g ρ bl (.vw b c 0 r) v) :
  ∃ρ' own',St w g own'/\Rl g ρ' ⟨sl,bl.set b .no++[.row d et (xs.take r)]⟩ own' fr/\RealC g ρ' (bl.set b .no++[.row d et (xs.take r)]) (.own bl.length) v/\Ext ρ bl ρ' (bl.set b .no++[.row d et (xs.take r)])/\∀j,j<bl.length->ρ' j=ρ j:=by
 obtain⟨hkn,rfl,hl⟩:=hv;have hbl:=Am hb;have hl:=(hl _ _ hb rfl).2;have hlr:(xs.take r).length=r:=by rw[aO];omega
 obtain⟨hr0,hs0,hx0⟩:=hr.hole hs;have hb1:(bl++[BV.hole])[b]? =some (.row d et xs):=by rw[aB hbl];exact hb
 obtain⟨k0,hk0,hB⟩:=hr0.own_at hb1;have hB:Buf g.b d.ty et (.slice (ρ b).1 xs.length (ρ b).2) k0 xs:=hB;have hB:=hB.cut r hl;have hf0:(bl++[BV.hole])[bl.length]? =some .hole:=by simp
 have hbf:b≠bl.length:=by omega
 have hno:=hr0.hole_none hf0;have hst:=hs0.move (b:=b) (f:=bl.length) (k:=k0) hk0 hno hbf;have hx:Ext ρ (bl++[BV.hole]) ρ ((bl++[BV.hole]).set b .no):=Ext.set_at hb1 rfl λm hm=>by cases hm
 have hr1:=hr0.setB (g':=g) (bv1:= .no) (k:=none) (.refl g) hb1 rfl (λm hm=>by cases hm) rfl;have hf1:((bl++[BV.hole]).set b .no)[bl.length]? =some .hole:=by rw[AK hbf];exact hf0
 have hx1:Ext ρ ((bl++[BV.hole]).set b .no) (setρ ρ bl.length (ρ b)) (((bl++[BV.hole]).set b .no).set bl.length (.row d et (xs.take r))):=Ext.set_hole hf1;have hr2:=hr1.lay (g':=g) (bv:= .row d et (xs.take r)) (k:=k0) (e:=ρ b) (.refl g) hf1 hB;have e:((bl++[BV.hole]).set b .no).set bl.length (.row d et (xs.take r))=bl.set b .no++[.row d et (xs.take r)]:=by rw[cB _ _ hbl,bV _ _ (by simp)];simp
 rw[e]at hx1 hr2;refine⟨setρ ρ bl.length (ρ b),_,hst,hr2,?_,hx0.trans (hx.trans hx1),λj hj=>FP⟩
 rw[FU,aW,aW];refine⟨⟨.row d et (xs.take r),by simp,rfl⟩,r,by rw[Bn],λbv m e1 e2=>?_⟩
 have e3:(bl.set b .no++[.row d et (xs.take r)])[bl.length]? =some (.row d et (xs.take r)):=by simp
 rw[e3]at e1;injection e1 with e1;subst e1;have e2:some (xs.take r).length=some m:=e2;injection e2 with e2;omega
end
inductive HC where
  |d
  |cut
  |r (m:Nat)
  |j (ex:Bool) (sc:List Sch) (h:HC)
  |on (sc:Sch) (a b:HC)
  |s (a b:HC)
  |c (a b:HC)
  |b (a:HC)
  |l (sc:List Sch) (a:HC)
  |u (k:Nat) (a:HC)
  |v (a b:HC)
variable{h:HC}
def HC.s1:HC->HC| .s x _=>x|_=> .d
def HC.s2:HC->HC| .s _ y=>y|_=> .d
def HC.c1:HC->HC| .c x _=>x|_=> .d
def HC.c2:HC->HC| .c _ y=>y|_=> .d
def HC.b1:HC->HC| .b x=>x|_=> .d
def HC.l1:HC->HC| .l _ x=>x| .u _ x=>x|_=> .d
def HC.uK:HC->Option Nat| .u k _=>some k|_=>none
def HC.v1:HC->HC| .v x _=>x|x=>x
def HC.v2:HC->HC| .v _ y=>y|x=>x
def HC.lS:HC->Option (List Sch)| .l y _=>some y|_=>none
def HC.j1:HC->HC| .j _ _ x=>x|x=>x
def HC.rM:HC->Nat| .r m=>m|_=>0
def HC.jS:HC->Option (Bool×List Sch)| .j x y _=>some (x,y)|_=>none
def cutAll:List (Nat×SSh)->HSt->HSt
  | [],st=>st
  |(t,.v (.c (.own _)))::l,st=>cutAll l (cutS t st)
  |_::l,st=>cutAll l st
theorem SW.cutAll {n:Nat} {A:An} {g0:Gh} {K:Act->World->Prop}:∀ {l:List (Nat×SSh)} {st:HSt},SW K n A g0 (cutAll l st)->SW K n A g0 st
  | [],st,k=>k
  | x::l,st,k=>by
    unfold Go.Proofs.YtpglaekodahcoaaGreatDoor.cutAll at k;split at k
    ·exact k
    · rename_i e
      injection e with e1 e2;subst e2;exact(SW.cutAll k).cutS
    · rename_i e
      injection e with e1 e2;subst e2;exact SW.cutAll k
def closeAt (l:List BV) (i:Nat):List BV:=match l[i]? with
  | some (.treeX t et xs i0 js)=>(match t.fill l (xs.getD i0 t.cd.dflt) js,nodupB js with
    |some (x,[]),true=>noAll js (l.set i (.tree t et (xs.set i0 x)))
    |_,_=>l)
  |_=>l
theorem OA {l:List BV}:FrzTo l (closeAt l i):=by
  unfold closeAt;split
  · rename_i t et xs i0 js h1
    split
    · rename_i x h2 h3
      exact .close h1 h2 (FY h3) .refl
    ·exact .refl
  ·exact .refl
def closeN:Nat->List BV->List BV
  |0,l=>l
  |n+1,l=>closeN n (closeAt l n)
theorem Kp:∀ {n:Nat} {l:List BV},FrzTo l (closeN n l)
  |0,l=> .refl
  |n+1,l=>FrzTo.trans OA Kp
def hasX:List BV->Bool
  | []=>false
  | .treeX _ _ _ _ _::_=>true
  |_::l=>hasX l
def closeBl (l:List BV):List BV:=match hasX l with
  |true=>closeN l.length l
  |false=>l
theorem DW {l:List BV}:FrzTo l (closeBl l):=by
  unfold closeBl;split
  ·exact Kp
  ·exact .refl
theorem FrzTo.length {a b:List BV} (h:FrzTo a b):b.length=a.length:=by
  induction h with
  |refl=>rfl
  |step _ _ ih=>rw[ih,aI]
  |frzT _ _ ih=>rw[ih,aI]
  |close _ _ _ _ ih=>rw[ih,DC,aI]
def closeSt(st:HSt):HSt:=⟨st.sl,closeBl st.bl⟩
theorem SW.closeSt {n:Nat} {A:An} {g0:Gh} {K:Act->World->Prop} {st:HSt} (k:SW K n A g0 (closeSt st)):SW K n A g0 st:=by intro g ρ own fr hg hA hr a w hf hs;obtain⟨g1,own1,hg1,hs1,hx,hr1⟩:=(DW (l:=st.bl)).do_ (w:=w) hr hs;exact k g1 ρ own1 fr (hg.trans hg1) (hA.ext hx) hr1 a w hf hs1
def absD (np:Nat) (sc:Sch) (st:HSt):Option (HT sc.tr):=match absSt false sc (Rn 0 np++nones (sc.bl.length - np)) (cutAll sc.sl (closeSt st)) with
  | some s=>(match conSt id sc s.ds with
    |some st'=>cond (joinChk s st'.bl) (pack sc.tr s.ds) none
    |none=>none)
  |none=>none
def conT(sc:Sch)(t:HT sc.tr):Option HSt:=conSt id sc (unpack sc.tr t)
theorem SG {t:HT sc.tr} (h:absD A.np sc st=some t):∃ st',conT sc t=some st'/\(SW K n A g0 st'->SW K n A g0 st):=by
  unfold absD at h;split at h
  · rename_i s hs
    split at h
    · rename_i st' hc
      obtain⟨hk,h⟩:=condS h;refine⟨st',?_,λk=>(SW.weaken hs hc hk k).cutAll.closeSt⟩
      unfold conT;rw[MN _ h];exact hc
    ·cases h
  ·cases h
def slotT:Operand->Bool->HSt->HSt
  | .tmp t,b,st=>⟨(t,vC (.bool b))::st.sl,st.bl⟩
  |_,_,st=>st
def ALT:List Sch->Type
  | []=>Empty
  | [s]=>HT s.tr
  |s::t::l=>HT s.tr ⊕ ALT (t::l)
def absDs (np:Nat) (st:HSt):(l:List Sch)->Option (ALT l)
  | []=>none
  | [s]=>absD np s st
  | s::t::l=>match absD np s st with
    |some x=>some (.inl x)
    |none=>match absDs np st (t::l)with|some y=>some (.inr y)|none=>none
def conTs {ρ:Type} (K:HSt->Option ρ):(l:List Sch)->ALT l->Option ρ
  | [],_=>none
  | [s],x=>match conT s x with|some st'=>K st'|none=>none
  |s::t::l,x=>sm x (λa=>match conT s a with|some st'=>K st'|none=>none) (λb=>conTs K (t::l) b)
theorem DN {K:Act->World->Prop} {n:Nat} {A:An} {g0:Gh} {st:HSt}:∀ {l:List Sch} {t:ALT l},absDs A.np st l=some t ->
    ∃st',(∀{ρ:Type}{k:HSt->Option ρ}{r:ρ},conTs k l t=some r->k st'=some r)/\(SW K n A g0 st'->SW K n A g0 st)
  | [],t,h=>by cases h
  | [s],t,h=>by
    obtain⟨st',h1,h2⟩:=SG (K:=K) (n:=n) (g0:=g0) (h:absD A.np s st=some t);refine⟨st',λ{ρ k r} hk=>?_,h2⟩
    have hk:(match conT s t with|some st'=>k st'|none=>none)=some r:=hk;rw[h1]at hk;exact hk
  | s::s2::l,t,h=>by
    unfold absDs at h;split at h
    · rename_i x hx
      injection h with h;subst h;obtain⟨st',h1,h2⟩:=SG (K:=K) (n:=n) (g0:=g0) hx;refine⟨st',λ{ρ k r} hk=>?_,h2⟩
      have hk:(match conT s x with|some st'=>k st'|none=>none)=some r:=hk;rw[h1]at hk;exact hk
    · split at h
      · rename_i y hy
        injection h with h;subst h;obtain⟨st',h1,h2⟩:=DN (K:=K) (n:=n) (g0:=g0) hy;exact⟨st',λ{ρ k r} hk=>h1 hk,h2⟩
      ·cases h
def fitsD (np:Nat) (sc:Sch) (st:HSt):Bool:=match absSt false sc (Rn 0 np++nones (sc.bl.length - np)) (cutAll sc.sl (closeSt st)) with
  |some _=>true
  |none=>false
def HC.sel (np:Nat) (st:HSt):HC->HC
  | .on sc x1 x2=>match fitsD np sc st with|true=>x1.sel np st|false=>x2.sel np st
  |h=>h
noncomputable def cutX{ρ:Type}(h:HC)(y:Option ρ):Option ρ:=(λ_:Nat->Option Unit=>match h with| .cut=>none|_=>y) λn=>sm (β:=Unit) (Sum.inl ()) (λ_=>nlO true (jd (α:=Unit) (dnO (bd (gd true (cnd true (loopO n (λ_=>none) ()) none)) some)) λ_=>none) none) λ_=>none
theorem Eu {ρ:Type} {y:Option ρ} {r:ρ} (e:cutX h y=some r):y=some r:=by cases h<;>first|exact e|cases e
noncomputable def evC {P:Program} (S:Stp P) (n np:Nat):(c:Code)->HC->{ρ:Type}->HSt->(Exit->HSt->Option ρ)->Option ρ
  | .skip,h,_,st,K=>K .normal st
  | .region _ ops false,h,_,st,K=>(match (h.sel np st).jS with
    |none=>evOps S n ops ops.size 0 st (K .normal)
    |some (_,sc)=>bd (evOps S n ops ops.size 0 st λst'=>absDs np st' sc) λt=>conTs (K .normal) sc t)
  | .region _ ops true,h,_,st,K=>(match P.follows .mixedOrders with
    | true=>(match (h.sel np st).jS with
      |none=>evD S n ops ops.size 0 ⟨st.bl.length,[],[]⟩ ⟨st.sl,st.bl++holes (h.sel np st).rM⟩ (K .normal)
      |some (_,sc)=>bd (evD S n ops ops.size 0 ⟨st.bl.length,[],[]⟩ ⟨st.sl,st.bl++holes (h.sel np st).j1.rM⟩ λst'=>absDs np st' sc) λt=>conTs (K .normal) sc t)
    |false=>none)
  | .seq a b,h,_,st,K=>(match (h.sel np st).jS with
    |none=>evC S n np a (h.sel np st).s1 st λe st'=>match e with| .normal=>cutX ((h.sel np st).s2.sel np st') (evC S n np b (h.sel np st).s2 st' K)|e=>K e st'
    |some (false,sc)=>bd (evC S n np a (h.sel np st).j1.s1 st λe st'=>match e with| .normal=>absDs np st' sc|_=>none) λt=>conTs (λst'=>cutX ((h.sel np st).j1.s2.sel np st') (evC S n np b (h.sel np st).j1.s2 st' K)) sc t
    |some (true,sc)=>jd (evC S n np a (h.sel np st).j1.s1 st λe st'=>match e with| .normal=>(match absDs np st' sc with|some t=>some (.go t)|none=>none)|e=>dnO (K e st')) λt=>conTs (λst'=>cutX ((h.sel np st).j1.s2.sel np st') (evC S n np b (h.sel np st).j1.s2 st' K)) sc t)
  | .cond o a b,h,_,st,K=>(match evH st.sl o with
    |some (.v (.c (.bool c)))=>cnd c (cutX (h.sel np st).c1 (evC S n np a (h.sel np st).c1 (slotT o true st) K)) (cutX (h.sel np st).c2 (evC S n np b (h.sel np st).c2 (slotT o false st) K))
    |some (.v (.c (.nb e false)))=>nlO e (evC S n np a (h.sel np st).c1 (slotT o true st) K) (evC S n np b (h.sel np st).c2 (slotT o false st) K)
    |some (.v (.c (.nb e true)))=>nlO e (evC S n np b (h.sel np st).c2 (slotT o false st) K) (evC S n np a (h.sel np st).c1 (slotT o true st) K)
    |_=>none)
  | .block i a,h,_,st,K=>evC S n np a (h.sel np st).b1 st λe st'=>match e with| .exit j=>(match aD j i with|true=>K .normal st'|false=>K (.exit j) st')|e=>K e st'
  | .loop a,h,ρ,st,K=>(match (h.sel np st).uK with
    |some k=>Nat.rec (motive:=λ_=>HC->HSt->Option ρ) (λ_ _=>none) (λ_ ih h1 st1=>evC S n np a (h1.sel np st1).v1 st1 λe st'=>match e with| .normal=>ih (h1.sel np st1).v2 st'|e=>K e st') k (h.sel np st).l1 st
    |none=>(match(h.sel np st).lS with
    |some sc=>match absDs np st sc with
     |none=>none
     |some t0=>loopO fuelN (λt=>conTs (λst1=>evC S n np a (h.sel np st).l1 st1 λe st'=>match e with| .normal=>(match absDs np st' sc with|some t=>some (.go t)|none=>none)|e=>dnO (K e st')) sc t) t0
    |none=>none))
  | .exit i,h,_,st,K=>K (.exit i) st
  | .ret,h,_,st,K=>K .ret st
  |_,_,_,_,_=>none
section
theorem SW.mono{g1:Gh}(hg:g0.le g1)(k:SW K n A g0 st):SW K n A g1 st:=λg ρ own fr h=>k g ρ own fr (hg.trans h)
theorem DX {N:Act->World->Prop} {e:Exit} (he:e ≠ .normal) (k:SW (Q e) n A g0 st):SW (Exit.then N Q e) n A g0 st:=by cases e<;>first|exact absurd rfl he|exact k
theorem Cj:∀ (c:Code) {A:An} {g0:Gh} {h:HC} {ρ:Type} {r:ρ} {st:HSt} {K:Exit->HSt->Option ρ} {Q:Exit->Act->World->Prop},evC S n A.np c h st K=some r->(∀ e st',K e st'=some r->SW (Q e) n A g0 st')->SW (Code.wp P c Q) n A g0 st
  | .skip,A,g0,h,ρ,r,st,K,Q,hs,hK=>λg ρ own fr hg hA hr=>Vy rfl (hK _ _ hs g ρ own fr hg hA hr)
  | .region id ops false,A,g0,h,ρ,r,st,K,Q,hs,hK=>by
    intro g ρ' own fr hg hA hr;refine QR (ops:=ops) rfl ?_;unfold evC at hs;split at hs
    ·exact Dd (Q:=Q) (hK .normal) hs g ρ' own fr hg hA hr
    · rename_i e sc _
      obtain⟨t,h1,h2⟩:=He ((Ka _ _).symm.trans hs);refine Dd (Q:=Q) (g0:=g0) (λst' h'=>?_) h1 g ρ' own fr hg hA hr;obtain⟨st2,h3,h4⟩:=DN (K:=Q .normal) (n:=n) (A:=A) (g0:=g0) h';exact h4 (hK _ _ (h3 h2))
  | .region id ops true,A,g0,h,ρ,r,st,K,Q,hs,hK=>by
    unfold evC at hs;split at hs;case h_2=>cases hs
    rename_i hm;split at hs
    ·exact SW.holes _ (Wi hm hs (hK .normal))
    · rename_i e sc _
      obtain⟨t,h1,h2⟩:=He ((Ka _ _).symm.trans hs);refine SW.holes _ (Wi hm h1 λst' h'=>?_);obtain⟨st2,h3,h4⟩:=DN (K:=Q .normal) (n:=n) (A:=A) (g0:=g0) h';exact h4 (hK _ _ (h3 h2))
  | .seq a b,A,g0,h,ρ,r,st,K,Q,hs,hK=>by
    intro g ρ' own fr hg hA hr;refine Abi rfl ?_;unfold evC at hs;split at hs
    · refine Cj a hs (λe st' h'=>?_) g ρ' own fr hg hA hr
      cases e with
      |normal=>exact Cj b (Eu h') hK
      |_=>exact DX (by simp) (hK _ _ h')
    · rename_i sc _
      obtain⟨t,h1,h2⟩:=He ((Ka _ _).symm.trans hs);refine Cj a h1 (λe st' h'=>?_) g ρ' own fr hg hA hr;cases e with
      | normal =>
        obtain⟨st2,h3,h4⟩:=DN (K:=Code.wp P b Q) (n:=n) (A:=A) (g0:=g0) h';exact h4 (Cj b (Eu (h3 h2)) hK)
      |_=>cases h'
    · rename_i sc _
      obtain⟨ctl,h1,h2,h3⟩:=Sv ((Aeb _ _).symm.trans hs);refine Cj a h1 (λe st' h'=>?_) g ρ' own fr hg hA hr;cases e with
      | normal =>
        dsimp only at h';split at h'
        · rename_i t ht
          injection h' with h';obtain⟨st2,h4,h5⟩:=DN (K:=Code.wp P b Q) (n:=n) (A:=A) (g0:=g0) ht;have h2:=h2 t h'.symm;exact h5 (Cj b (Eu (h4 h2)) hK)
        ·cases h'
      | _ =>
        obtain⟨r',hr',h'⟩:=Og h';have:=h3 r' h';subst this;exact DX (by simp) (hK _ _ hr')
  | .cond o a b,A,g0,h,ρ,r,st,K,Q,hs,hK=>by
    have key:∀ (c:Bool) (g:Gh) (ρ':Env) (own:Own) (fr:Sl),g0.le g->Anch A ρ' st.bl->Rl g ρ' st own fr->evS fr o=some (.bool c)->∀ cc:Code,SW (Code.wp P cc Q) n A g0 (slotT o c st)->WPc P cc Q n g own fr:=by
        intro c g ρ' own fr hg hA hr h1 cc k;cases o with
        | tmp t =>
          obtain⟨sl,bl⟩:=st;intro a w hf hs;refine k g ρ' own ((t,.bool c)::fr) hg hA (hr.put t rfl) a w ⟨hf.size,hf.defers,λs u hu=>?_⟩ hs;have hu:cond (aD t s) (some (Value.bool c)) (getS fr s)=some u:=hu;cases hb:aD t s with
          | true =>
            rw[hb]at hu;have:=aA hb;subst this;injection hu with hu;subst hu;exact hf.at_ _ _ h1
          |false=>rw[hb]at hu;exact hf.at_ _ _ hu
        |const _=>exact k g ρ' own fr hg hA hr
        |global _=>exact k g ρ' own fr hg hA hr
        |func _=>exact k g ρ' own fr hg hA hr
    unfold evC at hs;split at hs
    · rename_i c hc
      intro g ρ' own fr hg hA hr;obtain⟨v,h1,h2⟩:=Aa hr hc;have h2:v= .bool c:=h2;subst h2;rcases Ga hs with⟨e,hs⟩|⟨e,hs⟩
      ·subst e;exact El rfl h1 (λ_=>key true g ρ' own fr hg hA hr h1 a (Cj a (Eu hs) hK)) (λe2=>by cases e2)
      ·subst e;exact El rfl h1 (λe2=>by cases e2) (λ_=>key false g ρ' own fr hg hA hr h1 b (Cj b (Eu hs) hK))
    · rename_i e hc
      intro g ρ' own fr hg hA hr;obtain⟨v,h1,bb,rfl,h2⟩:=Aa hr hc;obtain⟨hy,hx⟩:=Of hs;cases bb with
      |true=>exact El rfl h1 (λ_=>key true g ρ' own fr hg hA hr h1 a (Cj a (hx (h2 rfl)) hK)) (λe2=>by cases e2)
      |false=>exact El rfl h1 (λe2=>by cases e2) (λ_=>key false g ρ' own fr hg hA hr h1 b (Cj b hy hK))
    · rename_i e hc
      intro g ρ' own fr hg hA hr;obtain⟨v,h1,bb,rfl,h2⟩:=Aa hr hc;obtain⟨hy,hx⟩:=Of hs;cases bb with
      |true=>exact El rfl h1 (λe2=>by cases e2) (λ_=>key false g ρ' own fr hg hA hr h1 b (Cj b (hx (h2 rfl)) hK))
      |false=>exact El rfl h1 (λ_=>key true g ρ' own fr hg hA hr h1 a (Cj a hy hK)) (λe2=>by cases e2)
    ·cases hs
  | .block i a,A,g0,h,ρ,r,st,K,Q,hs,hK=>by
    intro g ρ' own fr hg hA hr;refine UC rfl (Cj a (h:=(h.sel A.np st).b1) hs (λe st' h'=>?_) g ρ' own fr hg hA hr);cases e with
    | exit j =>
      dsimp only at h';split at h'
      · rename_i e
        have h2':=h';have:=aA e;subst this;exact λg ρ own fr hg hA hr=>QS (hK _ _ h2' g ρ own fr hg hA hr)
      · rename_i e
        have h2':=h';exact λg ρ own fr hg hA hr=>QT e (hK _ _ h2' g ρ own fr hg hA hr)
    |_=>exact hK _ _ h'
  | .loop a,A,g0,h,ρ,r,st,K,Q,hs,hK=>by
    unfold evC at hs;split at hs
    · rename_i k _
      have key:∀ (k:Nat) (h1:HC) (st:HSt),Nat.rec (motive:=λ_=>HC->HSt->Option ρ) (λ_ _=>none) (λ_ ih h1 st1=>evC S n A.np a (h1.sel A.np st1).v1 st1 λe st'=>match e with | .normal=>ih (h1.sel A.np st1).v2 st' | e=>K e st') k h1 st=some r->SW (Code.rounds P a Q k) n A g0 st:=by
        intro k;induction k with
        |zero=>intro h1 st hs;cases hs
        | succ k ih =>
          intro h1 st hs
          exact Cj a (Q:=Exit.then (Code.rounds P a Q k) Q) hs λe st' h'=>match e,h' with
            | .normal,h'=>ih _ st' h'
            | .exit i,h'=>DX (by simp) (hK _ _ h')
            | .goto i,h'=>DX (by simp) (hK _ _ h')
            | .ret,h'=>DX (by simp) (hK _ _ h')
            | .panic c,h'=>DX (by simp) (hK _ _ h')
            | .outgrown,h'=>DX (by simp) (hK _ _ h')
      intro g ρ' own fr hg hA hr a' w' hf hw;exact wp_loop_rounds k (key k _ _ hs g ρ' own fr hg hA hr a' w' hf hw)
    split at hs
    · rename_i sc _
      split at hs
      ·cases hs
      rename_i t0 h0;have hl:=hs;generalize hB:(λt=>conTs (λst1=>evC S n A.np a (h.sel A.np st).l1 st1 λe st'=>match e with| .normal=>(match absDs A.np st' sc with|some t=>some (.go t)|none=>none)|e=>dnO (K e st')) sc t)=B at hl;have hst0:∃st0,(∀{ρ:Type}{k:HSt->Option ρ}{r:ρ},conTs k sc t0=some r->k st0=some r)/\(SW (Code.wp P (.loop a) Q) n A g0 st0->SW (Code.wp P (.loop a) Q) n A g0 st):=DN h0;obtain⟨st0,hc0,hw0⟩:=hst0;refine hw0 ?_;clear h0 hw0;intro g ρ' own fr hg hA hr;refine VA (P:=P) (Q:=Q) rfl (λg1 own1 fr1 m=>g0.le g1/\∃(t:ALT sc)(st1:HSt)(ρ1:Env),(∀{ρ:Type}{k:HSt->Option ρ}{r:ρ},conTs k sc t=some r->k st1=some r)/\Anch A ρ1 st1.bl/\Rl g1 ρ1 st1 own1 fr1/\loopO m B t=some r) fuelN ⟨hg,t0,st0,ρ',hc0,hA,hr,hl⟩ ?_;rintro g1 own1 fr1 m hg1 ⟨hg01,t,st1,ρ1,hc1,hA1,hr1,hl1⟩ Qr hQr;obtain⟨m',ctl,em,h1,h2,h3⟩:=Sw hl1;subst em;rw[<-hB]at h1;have h1:=hc1 h1;refine Cj a (g0:=g1) h1 (Q:=Exit.then Qr Q) (λe st' h'=>?_) g1 ρ1 own1 fr1 (.refl _) hA1 hr1;cases e with
      | normal =>
        dsimp only at h';split at h'
        · rename_i t' ht
          injection h' with h';have h2:=h2 t' h'.symm;obtain⟨st2,h4,h5⟩:=DN (K:=Qr) (n:=n) (A:=A) (g0:=g1) ht;exact h5 λg2 ρ2 own2 fr2 hg2 hA2 hr2=>hQr g2 own2 fr2 m' hg2 (aZ _) ⟨hg01.trans hg2,t',st2,ρ2,h4,hA2,hr2,h2⟩
        ·cases h'
      | _ =>
        obtain⟨r',hr',h'⟩:=Og h';have:=h3 r' h';subst this;exact DX (by simp) ((hK _ _ hr').mono hg01)
    ·cases hs
  | .exit i,A,g0,h,ρ,r,st,K,Q,hs,hK=>λg ρ own fr hg hA hr=>Vz rfl (hK _ _ hs g ρ own fr hg hA hr)
  | .ret,A,g0,h,ρ,r,st,K,Q,hs,hK=>λg ρ own fr hg hA hr a w hf hw=>wp_ret (hK _ _ hs g ρ own fr hg hA hr a w hf hw)
  | .rangeFunc _ _ _ _,A,g0,h,ρ,r,st,K,Q,hs,hK=>by cases hs
  | .scope _,A,g0,h,ρ,r,st,K,Q,hs,hK=>by cases hs
  | .label _,A,g0,h,ρ,r,st,K,Q,hs,hK=>by cases hs
  | .goto _,A,g0,h,ρ,r,st,K,Q,hs,hK=>by cases hs
  | .refuse _,A,g0,h,ρ,r,st,K,Q,hs,hK=>by cases hs
end
structure FSp where
 ps:Sch
 rs:List Sch
 run:HT ps.tr->Option (ALT rs)
def altC:(l:List Sch)->ALT l->Option HSt
 | [],_=>none
 | [s],x=>conT s x
 |s::t::l,x=>match x with| .inl a=>conT s a| .inr b=>altC (t::l) b
def ghB(p:Psi):Gh:=⟨p,p,.refl p⟩
def refOk(bl:List BV)(b:Nat):Bool:=match bl[b]? with|some bv=>bv.owned|none=>false
def baseC(bl:List BV):CV->Bool
 | .int _ _=>true
 | .bool _=>true
 | .str _=>true
 | .k _=>true
 | .ptr b _=>refOk bl b
 | .own b=>refOk bl b
 | .mp b=>refOk bl b
 | .eo b _ _ _=>refOk bl b
 | .ro _ _ m=>m
 | .fn _=>true
 | .cap f c=>baseC bl f&&baseC bl c
 | .ifc _ c=>baseC bl c
 |_=>false
def allB{α:Type}(p:α->Bool):List α->Bool
 | []=>true
 |x::l=>p x&&allB p l
def OB(bl:List BV):V1->Bool
 | .c x=>baseC bl x
 | .agg l=>allB (baseC bl) l
def baseS(bl:List BV):SV->Bool
 | .v x=>OB bl x
 | .tup l=>allB (OB bl) l
 | .und=>false
 | .any=>true
def baseB(bl:List BV):BV->Bool
 | .no=>true
 | .cells _ l=>allB (baseC bl) l
 | .row _ _ _=>true
 | .map _ _=>true
 | .tree _ _ _=>true
 |_=>false
def baseSt(st:HSt):Bool:=allB (λp=>baseS st.bl p.2) st.sl&&allB (baseB st.bl) st.bl
section
theorem CQ:∀{x:CV}{v:Value},baseC bl x=true->RealC g ρ bl x v->RealC (ghB g.b) ρ bl x v
 | .int _ _,_,_,h=>h
 | .bool _,_,_,h=>h
 | .str _,_,_,h=>h
 | .k _,_,_,h=>h
 | .ptr _ _,_,_,h=>h
 | .own _,_,_,h=>h
 | .mp _,_,_,h=>h
 | .eo _ _ _ _,_,_,h=>h
 | .ro _ _ true,_,_,h=>h
 | .fn _,_,_,h=>h
 | .cap f c,_,hb,⟨f0,caps,vc,h1,h2,h3⟩=>by simp only[baseC,aC]at hb;exact⟨f0,caps,vc,CQ hb.1 h1,CQ hb.2 h2,h3⟩
 | .ifc t c,_,hb,⟨u,h1,h2⟩=>⟨u,CQ (x:=c) hb h1,h2⟩
theorem CR{α β:Type}{p:α->Bool}{R S:α->β->Prop}(hi:∀x y,p x=true->R x y->S x y):∀{l:List α}{m:List β},allB p l=true->AB R l m->AB S l m
 | [],[],_,_=>trivial
 |x::l,y::m,hp,h=>by simp only[allB,aC]at hp;exact⟨hi _ _ hp.1 h.1,CR hi hp.2 h.2⟩
 | [],_::_,_,h=>h.elim
 |_::_,[],_,h=>h.elim
theorem Fe{α:Type}{p:α->Bool}:∀{l:List α}{x:α},allB p l=true->x∈l->p x=true
 |y::l,x,h,hm=>by
  simp only[allB,aC]at h;rcases aP.1 hm with rfl|hm
  ·exact h.1
  ·exact Fe h.2 hm
theorem Kq{x:V1}(hb:OB bl x=true)(h:BO g ρ bl x v):BO (ghB g.b) ρ bl x v:=by
 cases x with
 |c x=>exact CQ hb h
 |agg l=>
  obtain⟨cs,e,h⟩:=h;exact⟨cs,e,CR (λ_ _=>CQ) hb h⟩
theorem Rv{x:SV}(hb:baseS bl x=true)(h:RealS g ρ bl x v):RealS (ghB g.b) ρ bl x v:=by
 cases x with
 |v x=>exact Kq hb h
 |tup l=>
  obtain⟨cs,e,h⟩:=h;exact⟨cs,e,CR (λ_ _=>Kq) hb h⟩
 |und=>cases hb
 |any=>trivial
theorem Rw(hb:baseB bl bv=true)(h:BlkR g ρ bl k e bv):BlkR (ghB g.b) ρ bl k e bv:=by
 cases bv with
 |hole=>cases hb
 |no=>exact h
 |cells t l=>
  obtain⟨b,cs,h1,h2,h3⟩:=h;exact⟨b,cs,h1,h2,CR (λ_ _=>CQ) hb h3⟩
 |row c et xs=>exact h
 |fz c xs=>cases hb
 |lent l=>cases hb
 |map c xs=>exact h
 |tree t et xs=>exact h
 |treeX t et xs i js=>cases hb
theorem IZ(hb:baseSt st=true)(h:Rl g ρ st own fr):Rl (ghB g.b) ρ st own fr:=by
 simp only[baseSt,aC]at hb;refine⟨h.len,λi bv k e1 e2=>Rw (Fe hb.2 (aG e1)) (h.blk i bv k e1 e2),λt sv e=>?_,h.gi⟩
 obtain⟨v,h1,h2⟩:=h.slot t sv e;exact⟨v,h1,Rv (Fe (p:=λp:Nat×SV=>baseS st.bl p.2) hb.1 (Hl e)) h2⟩
end
def argH:Nat->List SV->List (Nat×SV)
 |_,[]=>[]
 |i,v::l=>(i,v)::argH (i+1) l
def isArgs:Nat->List (Nat×SSh)->Bool
 |_,[]=>true
 |i,(j,_)::l=>aD j i&&isArgs (i+1) l
def lenAt(bl:List BV)(j:Nat):Option Nat:=match bl[j]? with|some bv=>bv.len|none=>none
theorem Kr(h:lenAt bl j=some m):∃bv,bl[j]? =some bv/\bv.len=some m:=by
 unfold lenAt at h;split at h
 ·rename_i bv e;exact⟨bv,e,h⟩
 ·cases h
def FOk(P:Program)(f:FuncId)(S:FSp):Prop:=∀(t:HT S.ps.tr)(r:ALT S.rs)(st0:HSt),S.run t=some r->conT S.ps t=some st0->
 ∀(g:Gh)(ρ:Env)(own:Own)(vs:List Value),Rl g ρ st0 own (argS 0 vs)->vs.length=S.ps.sl.length->
  Ctr P f vs g own λv ψ o=>∃str ρ',altC S.rs r=some str/\baseSt str=true/\Rl (ghB ψ) ρ' str o [(0,v)]/\∀j,j<st0.bl.length->ρ' j=ρ j/\∀(bv:BV)(m:Nat),str.bl[j]? =some bv->bv.len=some m->lenAt st0.bl j=some m
def resH(P:Program)(st:HSt):List ResultVar->Option (List V1)
 | []=>some []
 | .tmp t::l=>match getH st.sl t,resH P st l with
  |some (.v x),some m=>some (x::m)
  |_,_=>none
 | .cell x t::l=>match getH st.sl x,resH P st l with
  |some (.v (.c (.ptr b off))),some m=>(match st.bl[b]? with
   |some (.cells _ c)=>(match readL P t c off with|some (.v y)=>some (y::m)|_=>none)
   |_=>none)
  |_,_=>none
def tupH:List V1->SV
 | [x]=> .v x
 |l=> .tup l
def resSh(rs:Sch):List Sh1:=match rs.sl with
 | [(_,.v x)]=>[x]
 | [(_,.tup l)]=>l
 |_=>[]
def cutB(c:Cd)(r:Nat)(b:Nat):BV->List BV->List BV
 | .row d et xs,bl=>bl.set b .no++[.row d et (xs.take r)]
 |_,bl=>bl
def isRowB:BV->Bool
 | .row _ _ _=>true
 |_=>false
def cutV:List Sh1->List V1->List BV->List V1×List BV
 | .c (.own _)::shs,.c (.vw b c l r)::vs,bl=>(match bl[b]? with
  |some bv=>cond (isRowB bv&&aD l 0) (.c (.own bl.length)::(cutV shs vs (cutB c r b bv bl)).1,(cutV shs vs (cutB c r b bv bl)).2) (.c (.vw b c l r)::(cutV shs vs bl).1,(cutV shs vs bl).2)
  |none=>(.c (.vw b c l r)::(cutV shs vs bl).1,(cutV shs vs bl).2))
 |_::shs,v::vs,bl=>(v::(cutV shs vs bl).1,(cutV shs vs bl).2)
 |_,vs,bl=>(vs,bl)
def absR(P:Program)(rv:List ResultVar)(np:Nat)(rs:Sch)(st:HSt):Option (HT rs.tr):=match resH P st rv with
 |some l=>(match absSt false rs (Rn 0 np++nones (rs.bl.length-np)) ⟨[(0,tupH (cutV (resSh rs) l (closeBl st.bl)).1)],(cutV (resSh rs) l (closeBl st.bl)).2⟩with
  |some s=>(match conSt id rs s.ds with
   |some st'=>cond (joinChk s st'.bl&&(baseSt st'&&cC np st.bl.length)) (pack rs.tr s.ds) none
   |none=>none)
  |none=>none)
 |none=>none
def absA(P:Program)(rv:List ResultVar)(np:Nat)(st:HSt):(l:List Sch)->Option (ALT l)
 | []=>none
 | [s]=>absR P rv np s st
 |s::t::l=>match absR P rv np s st with
  |some x=>some (.inl x)
  |none=>match absA P rv np st (t::l)with|some y=>some (.inr y)|none=>none
noncomputable def evF{P:Program}(S:Stp P)(fn:Func)(ps:Sch)(rs:List Sch)(h:HC)(t:HT ps.tr):Option (ALT rs):=match conT ps t,fn.body with
 |some st0,some c=>evC S fn.ntmps st0.bl.length c h st0 λe st'=>match e with
  | .normal=>absA P fn.results.toList st0.bl.length st' rs
  | .ret=>absA P fn.results.toList st0.bl.length st' rs
  |_=>none
 |_,_=>none
section
theorem MS{st:HSt}{g:Gh}{ρ:Env}{own:Own}{fr:Sl}(hr:Rl g ρ st own fr):∀{rv:List ResultVar}{l:List V1},resH P st rv=some l->∃vs,ResOk P own fr rv vs/\AB (BO g ρ st.bl) l vs
 | [],l,h=>by injection h with h;subst h;exact⟨[],Abm,trivial⟩
 | .tmp t::rv,l,h=>by
  unfold resH at h;split at h
  ·rename_i x m h1 h2;injection h with h;subst h;obtain⟨vs,h3,h4⟩:=MS hr h2;obtain⟨v,h5,h6⟩:=hr.slot t _ h1;exact⟨v::vs,Abn h5 h3,h6,h4⟩
  ·cases h
 | .cell x t::rv,l,h=>by
  unfold resH at h;split at h
  ·rename_i b off m h1 h2;split at h
   ·rename_i t0 c hb;split at h
    ·rename_i y hy;injection h with h;subst h;obtain⟨vs,h3,h4⟩:=MS hr h2;obtain⟨v,h5,_,a,ha,rfl⟩:=hr.slot x _ h1;obtain⟨k,hk,b0,cs,rfl,h6,h7⟩:=Rl.own_at (sl:=st.sl) (bl:=st.bl) hr hb;rw[ha]at h6;injection h6 with h6;subst h6;rw[AF,aK]at h5;rcases DL hy h7 with⟨hf,u,h8,h9⟩|⟨us,h8,h9,h10⟩
     ·exact⟨u::vs,UF h5 hk rfl hf h8 h3,h9,h4⟩
     ·exact⟨.agg us.toArray::vs,UG h5 hk rfl h8 h9 h3,h10,h4⟩
    ·cases h
   ·cases h
  ·cases h
theorem US{l:List V1}{vs:List Value}(h:AB (BO g ρ bl) l vs):RealS g ρ bl (tupH l) (tupled vs):=by
 match l,vs,h with
 | [],[],_=>exact⟨[],rfl,trivial⟩
 | [x],[v],h=>exact h.1
 |x::y::l,v::u::vs,h=>exact⟨v::u::vs,rfl,h⟩
 | [],_::_,h=>exact h.elim
 | [_],[],h=>exact h.elim
 | [_],_::_::_,h=>exact h.2.elim
 |_::_::_,[],h=>exact h.elim
 |_::_::_,[_],h=>exact h.2.elim
theorem AbA:∀ {vs:List V1} {shs:List Sh1} {bl:List BV} {us:List Value} {ρ:Env} {own:Own},Rl g ρ ⟨sl,bl⟩ own fr->St w g own->AB (BO g ρ bl) vs us ->
  ∃ρ' own',St w g own'/\Rl g ρ' ⟨sl,(cutV shs vs bl).2⟩ own' fr/\AB (BO g ρ' (cutV shs vs bl).2) (cutV shs vs bl).1 us/\Ext ρ bl ρ' (cutV shs vs bl).2/\(∀j,j<bl.length->ρ' j=ρ j)/\bl.length<=(cutV shs vs bl).2.length/\∀j m,j<bl.length->lenAt (cutV shs vs bl).2 j=some m->lenAt bl j=some m:=by
 intro vs;induction vs with
 |nil=>
  intro shs bl us ρ own hr hs h;have e:cutV shs [] bl=([],bl):=by cases shs<;>simp[cutV]
  rw[e];exact⟨ρ,own,hs,hr,h,.refl,λ_ _=>rfl,aR _,λ_ _ _ h=>h⟩
 |cons v vs ih=>
  intro shs bl us ρ own hr hs h;cases us with
  |nil=>exact h.elim
  |cons u us=>
   obtain⟨hv,h⟩:=h;have plain:∀shs',∃ρ' own',St w g own'/\Rl g ρ' ⟨sl,(cutV shs' vs bl).2⟩ own' fr/\AB (BO g ρ' (cutV shs' vs bl).2) (v::(cutV shs' vs bl).1) (u::us)/\Ext ρ bl ρ' (cutV shs' vs bl).2/\(∀j,j<bl.length->ρ' j=ρ j)/\bl.length<=(cutV shs' vs bl).2.length/\∀j m,j<bl.length->lenAt (cutV shs' vs bl).2 j=some m->lenAt bl j=some m:=λshs'=>by obtain⟨ρ',own',h1,h2,h3,h4,h5,h6,h7⟩:=ih (shs:=shs') hr hs h;exact⟨ρ',own',h1,h2,⟨hv.ext (.refl g) h4,h3⟩,h4,h5,h6,h7⟩
   unfold cutV;split
   ·rename_i bl _ _ _ j0 shs' b c l r vs' e2;injection e2 with e2 e3;subst e2;subst e3;split
    ·rename_i bv hb;cases hc:(isRowB bv&&aD l 0)with
     |false=>exact plain shs'
     |true=>
      simp only[aC]at hc;obtain⟨hc1,hc2⟩:=hc;have hc2:=aA hc2;subst hc2;cases bv with
      |row d et xs=>
       obtain⟨ρ1,own1,h1,h2,h3,h4,h5⟩:=hr.cutC hs hb (hv:RealC g ρ bl (.vw b c 0 r) u);obtain⟨ρ',own',k1,k2,k3,k4,k5,k6,k7⟩:=ih (shs:=shs') h2 h1 (h.mono λ_ _=>BO.ext (.refl g) h4);have hlen:(bl.set b .no++[BV.row d et (xs.take r)]).length=bl.length+1:=by simp
       refine⟨ρ',own',k1,k2,⟨RealC.ext (.refl g) k4 h3,k3⟩,h4.trans k4,λj hj=>(k5 j (by omega)).trans (h5 j hj),aS (by omega) k6,λj m hj hm=>?_⟩
       have:=k7 j m (by omega) hm;unfold lenAt at this⊢;rw[aB (by simpa using hj)]at this;by_cases e:b=j
       ·subst e;rw[List.getElem?_set_self (by omega)]at this;cases this
       ·rw[AK e]at this;exact this
      |_=>cases hc1
    ·exact plain shs'
   ·rename_i _ _ _ _ x shs' v' vs' _ e2;injection e2 with e2 e3;subst e2;subst e3;exact plain shs'
   ·exact⟨ρ,own,hs,hr,⟨hv,h⟩,.refl,λ_ _=>rfl,aR _,λ_ _ _ h=>h⟩
theorem FrzTo.len_back{b:List BV}(h:FrzTo a b)(e:lenAt b j=some m):lenAt a j=some m:=by
 have set1:∀{l:List BV}{b:Nat}{x y:BV},l[b]? =some x->y.len=x.len->lenAt (l.set b y) j=some m->lenAt l j=some m:=by
  intro l b x y h1 h2 h3;unfold lenAt at h3⊢;by_cases eq:b=j
  ·subst eq;rw[aE,if_pos rfl,if_pos (Am h1)]at h3;rw[h1];exact h2.symm.trans h3
  ·rw[AK eq]at h3;exact h3
 induction h with
 |refl=>exact e
 |@step l l2 b c et xs h _ ih=>exact set1 (y:= .fz c xs) h rfl (ih e)
 |@frzT l l2 b t et xs h _ ih=>exact set1 (y:= .fz t.cd xs) h rfl (ih e)
 |@close l l2 i i0 t et xs js x h1 h2 h3 _ ih=>
  have h4:=ih e;by_cases hm:j∈js
  ·exfalso;unfold lenAt at h4;by_cases hl:j<(l.set i (.tree t et (xs.set i0 x))).length
   ·rw[BM.2 hm hl]at h4;cases h4
   ·rw[bU (by rw[DC];omega)]at h4;cases h4
  ·refine set1 h1 (y:= .tree t et (xs.set i0 x)) (by show some (xs.set i0 x).length=some xs.length;rw[aI]) ?_;unfold lenAt at h4⊢;rw[BM.1 hm]at h4;exact h4
theorem SH {rv:List ResultVar} {np:Nat} {rs:Sch} {r:HT rs.tr} (h:absR P rv np rs st=some r) (hr:Rl g ρ st own fr) (hs:St w g own) :
  ∃vs g1 ρ' own1 str,ResOk P own fr rv vs/\g.le g1/\St w g1 own1/\conT rs r=some str/\baseSt str=true/\Rl (ghB g1.b) ρ' str own1 [(0,tupled vs)]/\∀j,j<np->ρ' j=ρ j/\∀(bv:BV)(m:Nat),str.bl[j]? =some bv->bv.len=some m->lenAt st.bl j=some m:=by
 unfold absR at h;split at h
 ·rename_i l hl;split at h
  ·rename_i s hsx;split at h
   ·rename_i st' hc;obtain⟨hk,h⟩:=condS h;simp only[aC]at hk;obtain⟨hk,hb,hnp⟩:=hk;have hnp:=bQ hnp;obtain⟨vs,h1,h2⟩:=MS (P:=P) hr hl;obtain⟨gz,ownz,hgz,hsz,hxz,hrz⟩:=(DW (l:=st.bl)).do_ (w:=w) hr hs;have hlz:(closeBl st.bl).length=st.bl.length:=DW.length;obtain⟨ρc,ownc,hsc,hrc,h2c,hxc,hρc,hlc,hlenc⟩:=AbA (shs:=resSh rs) (sl:=st.sl) hrz hsz (h2.mono λ_ _=>BO.ext hgz hxz);have hr1:Rl gz ρc ⟨[(0,tupH (cutV (resSh rs) l (closeBl st.bl)).1)],(cutV (resSh rs) l (closeBl st.bl)).2⟩ ownc [(0,tupled vs)]:=by
     refine⟨hrc.len,hrc.blk,λt sv e=>?_,hrc.gi⟩
     have e:cond (aD 0 t) (some (tupH (cutV (resSh rs) l (closeBl st.bl)).1)) none=some sv:=e;obtain⟨e1,e2⟩:=condS e;injection e2 with e2;subst e2;have:=aA e1;subst this;exact⟨_,rfl,US h2c⟩
    obtain⟨g1,ρ1,own1,h3,h4,h5,h6,h7⟩:=Kk hsx hc hk hr1 hsc;refine⟨vs,g1,envOf s.σ ρ1,own1,st',h1,hgz.trans h3,h4,?_,hb,IZ hb h5,λj hj=>?_⟩
    ·unfold conT;rw[MN _ h];exact hc
    ·have:s.σ[j]? = some (some j):=h6 j j (by have:=Ki np 0 j hj;rw[aK]at this;rw[aB (Am this)];exact this)
     have hj2:j<st.bl.length:=by omega
     refine⟨by unfold envOf;rw[Kj this];exact(h7 j (show j<(cutV (resSh rs) l (closeBl st.bl)).2.length by omega)).trans (hρc j (by omega)),λbv m e1 e2=>?_⟩
     obtain⟨st2,e3,hsteps,_,_,hbl⟩:=Fa hsx;rw[hc]at e3;injection e3 with e3;subst e3;unfold joinChk absChk at hk;simp only[aC]at hk;obtain⟨_,_,_,_,hlen⟩:=hk;obtain⟨_,bv',h8,_,h9⟩:=FZ (ρ:=ρ1) hbl (aA hlen) j j this;rw[h8]at e1;injection e1 with e1;subst e1;obtain⟨bv3,e4,e5⟩:=h9 m e2;have hj4:j<(cutV (resSh rs) l (closeBl st.bl)).2.length:=by omega
     have hj3:(cutV (resSh rs) l (closeBl st.bl)).2[j]? =some (cutV (resSh rs) l (closeBl st.bl)).2[j]:=aF hj4;obtain⟨bv4,e6,e7,_⟩:=hsteps.grow.len hj3;rw[e4]at e6;injection e6 with e6;subst e6;refine DW.len_back (hlenc j m (by omega) ?_);unfold lenAt;rw[hj3];exact e7.symm.trans e5
   ·cases h
  ·cases h
 ·cases h
theorem SJ {rv:List ResultVar} {np:Nat} {st:HSt} {g:Gh} {ρ:Env} {own:Own} {fr:Sl} {w:World} (hr:Rl g ρ st own fr) (hs:St w g own):∀ {rs:List Sch} {r:ALT rs},absA P rv np st rs=some r ->
  ∃vs g1 ρ' own1 str,ResOk P own fr rv vs/\g.le g1/\St w g1 own1/\altC rs r=some str/\baseSt str=true/\Rl (ghB g1.b) ρ' str own1 [(0,tupled vs)]/\∀j,j<np->ρ' j=ρ j/\∀(bv:BV)(m:Nat),str.bl[j]? =some bv->bv.len=some m->lenAt st.bl j=some m
 | [],r,h=>by cases h
 | [s],r,h=>SH h hr hs
 |s::t::l,r,h=>by
  unfold absA at h;split at h
  ·rename_i x hx;injection h with h;subst h;exact SH hx hr hs
  ·split at h
   ·rename_i y hy;injection h with h;subst h;exact SJ hr hs (rs:=t::l) hy
   ·cases h
theorem Mj{rn:Nat->Nat}:∀{l:List BSh}{ds r:List DV}{m:List BV},conL (conB rn) l ds=some (m,r)->∀x∈m,x.isHole=false
 | [],ds,r,m,h,x,hx=>by injection h with h;injection h with h1 h2;subst h1;cases hx
 |b::l,ds,r,m,h,x,hx=>by
  unfold conL at h;split at h
  ·rename_i a r1 h1;split at h
   ·rename_i m' r2 h2;injection h with h;injection h with h3 h4;subst h3;rcases aP.1 hx with rfl|hx
    ·cases b<;>simp only[conB]at h1
     ·injection h1 with h1;injection h1 with h1 _;subst h1;rfl
     ·split at h1
      ·injection h1 with h1;injection h1 with h1 _;subst h1;rfl
      ·cases h1
     ·cases ds with
      |nil=>cases h1
      |cons d ds=>
       obtain⟨dc,dx⟩:=d;simp only[conB]at h1;split at h1
       ·injection h1 with h1;injection h1 with h1 _;subst h1;rfl
       ·cases h1
     ·split at h1
      ·injection h1 with h1;injection h1 with h1 _;subst h1;rfl
      ·cases h1
     ·cases ds with
      |nil=>cases h1
      |cons d ds=>
       obtain⟨dc,dx⟩:=d;simp only[conB]at h1;split at h1
       ·injection h1 with h1;injection h1 with h1 _;subst h1;rfl
       ·cases h1
     ·cases ds with
      |nil=>cases h1
      |cons d ds=>
       obtain⟨dc,dx⟩:=d;simp only[conB]at h1;split at h1
       ·injection h1 with h1;injection h1 with h1 _;subst h1;rfl
       ·cases h1
    ·exact Mj h2 x hx
   ·cases h
  ·cases h
theorem Rx{t:HT sc.tr}(h:conT sc t=some st)(hj:j<st.bl.length):Known st.bl j:=by
 unfold conT conSt at h;split at h
 ·split at h
  ·rename_i b hb;injection h with h;subst h;exact⟨_,aF hj,Mj hb _ (List.getElem_mem hj)⟩
  ·cases h
 ·cases h
theorem Ks{f:FuncId}{fn:Func}{ps:Sch}{rs:List Sch}(hf:P.funcs[f]? =some fn:=by kernel_rfl)(hb:fn.body.isSome=true:=by kernel_rfl)(hn:cC ps.sl.length fn.ntmps=true:=by kernel_rfl):FOk P f ⟨ps,rs,evF S fn ps rs h⟩:=by
 intro t r st0 hrun hcon g ρ own vs hr hlen;obtain⟨c,hb⟩:=Option.isSome_iff_exists.1 hb;have hrun:evF S fn ps rs h t=some r:=hrun;have hcon:conT ps t=some st0:=hcon;unfold evF at hrun;rw[hcon,hb]at hrun;refine AdW fn c fn.ntmps vs hf hb rfl (by rw[hlen];exact hn) ?_;have hk0:∀j,j<st0.bl.length->Known st0.bl j:=λj hj=>Rx hcon hj;refine Cj c (A:=⟨st0.bl.length,ρ,lenAt st0.bl⟩) (g0:=g) hrun (λe st' h'=>?_) g ρ own (argS 0 vs) (.refl _) (λj hj=>⟨rfl,hk0 j hj,λbv m e1 e2=>by show lenAt st0.bl j=some m;unfold lenAt;rw[e1];exact e2⟩) hr;intro g1 ρ1 own1 fr1 hg hA hr1 a w hf hs;have:absA P fn.results.toList st0.bl.length st' rs=some r/\(e= .normal\/e= .ret):=by cases e<;>first|exact⟨h',.inl rfl⟩|exact⟨h',.inr rfl⟩|cases h'
 obtain⟨h',he⟩:=this;obtain⟨vs',g2,ρ',own2,str,h1,h2,h3,h4,h5,h6,h7⟩:=SJ hr1 hs h';have hfin:RetR g (λv ψ o=>∃str ρ',altC rs r=some str/\baseSt str=true/\Rl (ghB ψ) ρ' str o [(0,v)]/\∀j,j<st0.bl.length->ρ' j=ρ j/\∀(bv:BV)(m:Nat),str.bl[j]? =some bv->bv.len=some m->lenAt st0.bl j=some m) (.returned (tupled vs')) w:=
  ⟨_,g2,own2,rfl,hg.trans h2,h3,str,ρ',h4,h5,h6,λj hj=>⟨((h7 j hj).1).trans (hA j hj).1,λbv m e1 e2=>by obtain⟨bv',e3,e4⟩:=Kr ((h7 j hj).2 bv m e1 e2);exact(hA j hj).2.2 bv' m e3 e4⟩⟩
 rcases he with rfl|rfl
 ·exact⟨hf.defers,_,IW (by simp) h1 hf hs.has,hfin⟩
 ·exact⟨hf.defers,_,IW (by simp) h1 hf hs.has,hfin⟩
end
theorem Iu:∀{l:List BV}{i j:Nat}{ids:List Nat}{bv:BV},(maskB i ids l)[j]? =some bv->(∃bv0,l[j]? =some bv0/\((natMem (i+j) ids=true/\bv=bv0)\/bv= .no))
 | [],_,_,_,_,h=>by simp[maskB]at h
 |b::l,i,0,ids,bv,h=>by
  simp only[maskB,List.getElem?_cons_zero,Option.some.injEq]at h;cases hm:natMem i ids with
  |true=>rw[hm]at h;exact⟨b,rfl,.inl ⟨rfl,h.symm⟩⟩
  |false=>rw[hm]at h;exact⟨b,rfl,.inr h.symm⟩
 |b::l,i,j+1,ids,bv,h=>by simp only[maskB,aQ]at h;obtain⟨bv0,h1,h2⟩:=Iu h;exact⟨bv0,by simpa using h1,by rwa [show i+1+j=i+(j+1) by omega]at h2⟩
theorem Mk:∀(l:List BV)(i:Nat)(ids:List Nat),(maskB i ids l).length=l.length
 | [],_,_=>rfl
 |b::l,i,ids=>by simp[maskB,Mk l (i+1) ids]
def dropIds:Nat->List Nat->Own->Own
 |_,_,[]=>[]
 |i,ids,k::l=>cond (natMem i ids) none k::dropIds (i+1) ids l
theorem De:∀{l:Own}{i j:Nat}{ids:List Nat}{k:Option Bk},l[j]? =some k->(dropIds i ids l)[j]? =some (cond (natMem (i+j) ids) none k)
 | [],_,_,_,_,h=>by simp at h
 |b::l,i,0,ids,k,h=>by simp at h;subst h;rfl
 |b::l,i,j+1,ids,k,h=>by have:=De (l:=l) (i:=i+1) (j:=j) (ids:=ids) (by simpa using h);simp only[dropIds,aQ,this];rw[show i+1+j=i+(j+1) by omega]
theorem Ja:∀(l:Own)(i:Nat)(ids:List Nat),(dropIds i ids l).length=l.length
 | [],_,_=>rfl
 |b::l,i,ids=>by simp[dropIds,Ja l (i+1) ids]
theorem Hm:(∀(i j:Nat)(k k':Bk),own[i]? =some (some k)->own[j]? =some (some k')->k.g=k'.g->i=j)->own.ids.Nodup:=by
 induction own with
 |nil=>exact λ_=>bF
 |cons x l ih=>
  intro h;have hl:=ih λi j k k' h1 h2 e=>by have:=h (i+1) (j+1) k k' (by simpa using h1) (by simpa using h2) e;omega
  rw[Own.ids_cons];cases x with
  |none=>simpa using hl
  |some k=>
   refine bE.2 ⟨λhm=>?_,hl⟩;obtain⟨k',hk',e⟩:=Own.of_ids hm;obtain⟨j,hj⟩:=aN hk';have:=h 0 (j+1) k k' rfl (by simpa using hj) e.symm;omega
theorem Wj{k:Bk}(h:(pickP is own)[i]? =some (some k)):∃b,is[i]? =some (some b)/\own[b]? =some (some k):=by
 unfold pickP at h;rw[bI]at h;cases e:is[i]? with
 |none=>rw[e]at h;cases h
 |some x=>
  rw[e]at h;cases x with
  |none=>cases h
  |some b=>
   have h:some ((own[b]?).join)=some (some k):=h;injection h with h;cases e2:own[b]? with
   |none=>rw[e2]at h;cases h
   |some y=>rw[e2]at h;exact⟨b,rfl,by rw[e2];exact congrArg some h⟩
theorem Bx:∀{l:List (Option Nat)}{i j b:Nat},(l.filterMap id).Nodup->l[i]? =some (some b)->l[j]? =some (some b)->i=j
 | [],_,_,_,_,h,_=>by simp at h
 |x::l,0,0,_,_,_,_=>rfl
 |x::l,0,j+1,b,hn,h1,h2=>by simp at h1;subst h1;simp at hn h2;exact absurd (aG h2) hn.1
 |x::l,i+1,0,b,hn,h1,h2=>by simp at h2;subst h2;simp at hn h1;exact absurd (aG h1) hn.1
 |x::l,i+1,j+1,b,hn,h1,h2=>by
  have hn':(l.filterMap id).Nodup:=by
   cases x with
   |none=>simpa using hn
   |some y=>simp at hn;exact hn.2
  have:=Bx (i:=i) (j:=j) hn' (by simpa using h1) (by simpa using h2);omega
theorem St.part(h:St w g own)(hn:(is.filterMap id).Nodup):St w g (pickP is own++dropIds 0 (is.filterMap id) own):=by
 have hmem:∀b,(∃i,is[i]? =some (some b))↔natMem b (is.filterMap id)=true:=λb=>by rw[CO];simp only[List.mem_filterMap,id_eq,exists_eq_right];exact⟨λ⟨i,hi⟩=>aG hi,λhb=>aN hb⟩
 have hat:∀i k,(pickP is own++dropIds 0 (is.filterMap id) own)[i]? =some (some k)->∃b,own[b]? =some (some k)/\((i<is.length/\is[i]? =some (some b))\/(i=is.length+b/\natMem b (is.filterMap id)=false)):=by
  intro i k hi;have hpl:(pickP is own).length=is.length:=by simp[pickP]
  rcases aT i is.length with hlt|hge
  ·rw[aB (by omega)]at hi;obtain⟨b,h1,h2⟩:=Wj hi;exact⟨b,h2,.inl ⟨hlt,h1⟩⟩
  ·rw[bG (by omega),hpl]at hi;have hlt2:i-is.length<own.length:=by rw[<-Ja own 0 (is.filterMap id)];exact Am hi
   have:=De (i:=0) (ids:=is.filterMap id) (aF hlt2);rw[hi,aK]at this;injection this with this;cases hm:natMem (i-is.length) (is.filterMap id)with
   |true=>rw[hm]at this;cases this
   |false=>
    rw[hm]at this;exact⟨i-is.length,by rw[aF hlt2,<-show some k=own[i-is.length]from this],.inr ⟨by omega,hm⟩⟩
 refine h.fewer (Hm λi j k k' h1 h2 e=>?_) λk hk=>?_
 ·obtain⟨b,e1,c1⟩:=hat i k h1;obtain⟨b',e2,c2⟩:=hat j k' h2;have hbb:=Hc h.nodup e1 e2 e;subst hbb;rcases c1 with⟨_,c1⟩|⟨c1,d1⟩<;>rcases c2 with⟨_,c2⟩|⟨c2,d2⟩
  ·exact Bx hn c1 c2
  ·rw[(hmem b).1 ⟨i,c1⟩]at d2;cases d2
  ·rw[(hmem b).1 ⟨j,c2⟩]at d1;cases d1
  ·omega
 ·obtain⟨i,hi⟩:=aN hk;obtain⟨b,e1,_⟩:=hat i k hi;exact aG e1
theorem St.back {sel rest own':Own} (h:St w g (sel++rest)) (hp:∀ (i:Nat) (k:Bk),own'[i]? = some (some k)->(∃ j:Nat,sel[j]? = some (some k))\/(∃ j:Nat,rest[j]? = some (some k)))
  (hi:∀(i j:Nat)(k:Bk),own'[i]? =some (some k)->own'[j]? =some (some k)->i=j):St w g own':=by
 refine h.fewer (Hm λi j k k' h1 h2 e=>?_) λk hk=>?_
 ·have m1:some k∈sel++rest:=by
   rcases hp i k h1 with⟨a,ha⟩|⟨a,ha⟩
   ·exact bC _ (aG ha)
   ·exact aX _ (aG ha)
  have m2:some k'∈sel++rest:=by
   rcases hp j k' h2 with⟨a,ha⟩|⟨a,ha⟩
   ·exact bC _ (aG ha)
   ·exact aX _ (aG ha)
  obtain⟨a,ha⟩:=aN m1;obtain⟨b,hb⟩:=aN m2;have:=Hc h.nodup ha hb e;subst this;rw[ha]at hb;injection hb with hb;injection hb with hb;subst hb;exact hi i j k h1 h2
 ·obtain⟨i,hi'⟩:=aN hk;rcases hp i k hi' with⟨a,ha⟩|⟨a,ha⟩
  ·exact bC _ (aG ha)
  ·exact aX _ (aG ha)
def renC(rn:Nat->Nat):CV->CV
 | .ptr b o=> .ptr (rn b) o
 | .own b=> .own (rn b)
 | .mp b=> .mp (rn b)
 | .eo b c i off=> .eo (rn b) c i off
 | .cap f c=> .cap (renC rn f) (renC rn c)
 | .ifc t c=> .ifc t (renC rn c)
 |c=>c
def AbB(rn:Nat->Nat):V1->V1
 | .c x=> .c (renC rn x)
 | .agg l=> .agg (l.map (renC rn))
def renS(rn:Nat->Nat):SV->SV
 | .v x=> .v (AbB rn x)
 | .tup l=> .tup (l.map (AbB rn))
 |x=>x
def renB(rn:Nat->Nat):BV->BV
 | .cells t l=> .cells t (l.map (renC rn))
 |x=>x
structure RenOk(rn:Nat->Nat)(ρ:Env)(bl:List BV)(ρ':Env)(bl':List BV):Prop where
 at_:∀(j:Nat)(bv:BV),bl[j]? =some bv->bv.owned=true->ρ' (rn j)=ρ j/\∃bv':BV,bl'[rn j]? =some bv'/\bv'.isHole=false/\bv'.len=bv.len
section
variable{rn:Nat->Nat}{ρ':Env}{ψ:Psi}
theorem Hn(h:refOk bl b=true):∃bv,bl[b]? =some bv/\bv.owned=true:=by
 unfold refOk at h;split at h
 ·rename_i bv e;exact⟨bv,e,h⟩
 ·cases h
theorem DE(hR:RenOk rn ρ bl ρ' bl')(hψ:ψ.le g.b):∀{x:CV}{v:Value},baseC bl x=true->RealC (ghB ψ) ρ bl x v->RealC g ρ' bl' (renC rn x) v
 | .int _ _,_,_,h=>h
 | .bool _,_,_,h=>h
 | .str _,_,_,h=>h
 | .k _,_,_,h=>h
 | .ptr b o,v,hb,⟨_,a,ha,hv⟩=>by obtain⟨bv,e1,e2⟩:=Hn hb;obtain⟨h1,bv',h2,h3,_⟩:=hR.at_ b bv e1 e2;exact⟨⟨bv',h2,h3⟩,a,by rw[h1];exact ha,hv⟩
 | .own b,v,hb,⟨_,n,hv,hl⟩=>by
  obtain⟨bv,e1,e2⟩:=Hn hb;obtain⟨h1,bv',h2,h3,h4⟩:=hR.at_ b bv e1 e2;refine⟨⟨bv',h2,h3⟩,n,by rw[h1];exact hv,λbv2 m e3 e4=>?_⟩
  rw[h2]at e3;injection e3 with e3;subst e3;exact hl bv m e1 (h4.symm.trans e4)
 | .mp b,v,hb,⟨_,k,ha,hv⟩=>by obtain⟨bv,e1,e2⟩:=Hn hb;obtain⟨h1,bv',h2,h3,_⟩:=hR.at_ b bv e1 e2;exact⟨⟨bv',h2,h3⟩,k,by rw[h1];exact ha,hv⟩
 | .eo b c i off,v,hb,⟨_,a,ha,hv,hl⟩=>by
  obtain⟨bv,e1,e2⟩:=Hn hb;obtain⟨h1,bv',h2,h3,h4⟩:=hR.at_ b bv e1 e2;refine⟨⟨bv',h2,h3⟩,a,by rw[h1];exact ha,hv,λbv2 m e3 e4=>?_⟩
  rw[h2]at e3;injection e3 with e3;subst e3;exact hl bv m e1 (h4.symm.trans e4)
 | .ro _ _ true,v,_,⟨A,cap,hv,ha⟩=>⟨A,cap,hv,Arr.mono ha hψ⟩
 | .fn _,_,_,h=>h
 | .cap f c,_,hb,⟨f0,caps,vc,h1,h2,h3⟩=>by simp only[baseC,aC]at hb;exact⟨f0,caps,vc,DE hR hψ hb.1 h1,DE hR hψ hb.2 h2,h3⟩
 | .ifc t c,_,hb,⟨u,h1,h2⟩=>⟨u,DE hR hψ (x:=c) hb h1,h2⟩
theorem Ff{α β γ:Type}{f:α->β}{R:β->γ->Prop}:∀{l:List α}{m:List γ},AB (λx y=>R (f x) y) l m->AB R (l.map f) m
 | [],[],_=>trivial
 |_::_,_::_,h=>⟨h.1,Ff h.2⟩
 | [],_::_,h=>h.elim
 |_::_,[],h=>h.elim
theorem Ml(hR:RenOk rn ρ bl ρ' bl')(hψ:ψ.le g.b){x:V1}(hb:OB bl x=true)(h:BO (ghB ψ) ρ bl x v):BO g ρ' bl' (AbB rn x) v:=by
 cases x with
 |c x=>exact DE hR hψ hb h
 |agg l=>
  obtain⟨cs,e,h⟩:=h;exact⟨cs,e,Ff (CR (p:=baseC bl) (R:=RealC (ghB ψ) ρ bl) (S:=λx y=>RealC g ρ' bl' (renC rn x) y) (λ_ _ h1 h2=>DE hR hψ h1 h2) hb h)⟩
theorem UT(hR:RenOk rn ρ bl ρ' bl')(hψ:ψ.le g.b){x:SV}(hb:baseS bl x=true)(h:RealS (ghB ψ) ρ bl x v):RealS g ρ' bl' (renS rn x) v:=by
 cases x with
 |v x=>exact Ml hR hψ hb h
 |tup l=>
  obtain⟨cs,e,h⟩:=h;exact⟨cs,e,Ff (CR (p:=OB bl) (R:=BO (ghB ψ) ρ bl) (S:=λx y=>BO g ρ' bl' (AbB rn x) y) (λ_ _ h1 h2=>Ml hR hψ h1 h2) hb h)⟩
 |und=>cases hb
 |any=>trivial
theorem Mm(hR:RenOk rn ρ bl ρ' bl')(hψ:ψ.le g.b)(hb:baseB bl bv=true)(h:BlkR (ghB ψ) ρ bl k e bv):BlkR g ρ' bl' k e (renB rn bv):=by
 cases bv with
 |hole=>cases hb
 |no=>exact h
 |cells t l=>
  obtain⟨b,cs,h1,h2,h3⟩:=h;exact⟨b,cs,h1,h2,Ff (CR (p:=baseC bl) (R:=RealC (ghB ψ) ρ bl) (S:=λx y=>RealC g ρ' bl' (renC rn x) y) (λ_ _ h1 h2=>DE hR hψ h1 h2) hb h3)⟩
 |row c et xs=>exact Buf.mono h hψ
 |fz c xs=>cases hb
 |lent l=>cases hb
 |map c xs=>
  obtain⟨b,cs,h1,h2,h3⟩:=h;exact⟨b,cs,h1,h2,h3.mono hψ⟩
 |tree t et xs=>exact RowB.mono (λ_ _ _ h=>TRep.mono hψ h) h
 |treeX t et xs i js=>cases hb
theorem Kt(bv:BV):(renB rn bv).len=bv.len:=by cases bv<;>rfl
theorem Iv(bv:BV):(renB rn bv).isHole=bv.isHole:=by cases bv<;>rfl
end
theorem GC:∀(L:List (Nat×BV))(bl:List BV),(setUpd bl L).length=bl.length
 | [],_=>rfl
 |(b,v)::L,bl=>by rw[setUpd,GC L,aI]
theorem GF:∀{L:List (Nat×BV)}{bl:List BV}{i:Nat},(∀p∈L,p.1≠i)->(setUpd bl L)[i]? =bl[i]?
 | [],_,_,_=>rfl
 |(b,v)::L,bl,i,h=>by rw[setUpd,GF λp hp=>h p (aH _ hp),AK (h (b,v) (aJ ..))]
theorem Mn:∀{L:List (Nat×BV)}{bl:List BV}{i:Nat}{v:BV},(i,v)∈L->(L.map bY).Nodup->i<bl.length->(setUpd bl L)[i]? =some v
 | [],_,_,_,h,_,_=>by cases h
 |(b,u)::L,bl,i,v,h,hn,hl=>by
  simp only[cD,bE]at hn;rw[setUpd];rcases aP.1 h with e|h
  ·injection e with e1 e2;subst e1;subst e2;rw[GF λp hp e=>hn.1 (by rw[<-e];exact List.mem_map_of_mem hp)];simp[aE,hl]
  ·exact Mn h hn.2 (by rw[aI];exact hl)
theorem GG:∀(l:List BV)(bl:List BV)(f:Nat),(setNew bl f l).length=bl.length
 | [],_,_=>rfl
 |v::l,bl,f=>by rw[setNew,GG l,aI]
theorem CS:∀{l:List BV}{bl:List BV}{f i:Nat},(i<f\/f+l.length<=i)->(setNew bl f l)[i]? =bl[i]?
 | [],_,_,_,_=>rfl
 |v::l,bl,f,i,h=>by rw[aY]at h;rw[setNew,CS (by omega),AK]
theorem Iw:∀{l:List BV}{bl:List BV}{f m:Nat}{v:BV},l[m]? =some v->f+l.length<=bl.length->(setNew bl f l)[f+m]? =some v
 | [],_,_,_,_,h,_=>by simp at h
 |u::l,bl,f,0,v,h,hl=>by simp at h;subst h;rw[aY]at hl;rw[setNew,CS (.inl (by omega)),bN];simp[aE];omega
 |u::l,bl,f,m+1,v,h,hl=>by rw[aY]at hl;rw[setNew,show f+(m+1)=f+1+m by omega];exact Iw (by simpa using h) (by rw[aI];omega)
def fnOf:CV->Option (FuncId×List CV)
 | .fn f=>some (f,[])
 | .cap g c=>match fnOf g with|some (f,l)=>some (f,l++[c])|none=>none
 |_=>none
def evL(sl:List (Nat×SV)):List Operand->Option (List SV)
 | []=>some []
 |x::l=>match evH sl x,evL sl l with|some v,some m=>some (v::m)|_,_=>none
structure Cand where
 S:FSp
 s:AS
 st0:HSt
 t:HT S.ps.tr
def candOf(asl:List (Nat×SV))(blm:List BV)(S:FSp):Option Cand:=match aD S.ps.sl.length asl.length&&isArgs 0 S.ps.sl,absSt true S.ps (nones S.ps.bl.length) ⟨asl,blm⟩with
 |true,some s=>(match conSt id S.ps s.ds with
  |some st0=>(match absChk s st0.bl&&aD s.bl.length blm.length,pack S.ps.tr s.ds with
   |true,some t=>some ⟨S,s,st0,t⟩
   |_,_=>none)
  |none=>none)
 |_,_=>none
def firstC(asl:List (Nat×SV))(blm:List BV):List FSp->Option Cand
 | []=>none
 |S::l=>match candOf asl blm S with|some c=>some c|none=>firstC asl blm l
def rnOf(np f:Nat)(σ:List (Option Nat))(j:Nat):Nat:=cond (bA j np) (match sigAt σ j with|some i=>i|none=>0) (f+(j-np))
def updL(rn:Nat->Nat)(σ:List (Option Nat)):Nat->List BV->List BV->List (Nat×BV)
 |j,b0::l,b::m=>match b0.owned,sigAt σ j with
  |true,some i=>(i,renB rn b)::updL rn σ (j+1) l m
  |_,_=>updL rn σ (j+1) l m
 |_,_,_=>[]
def callE(f:Nat)(c:Cand)(str:HSt)(v:SV):HE:=
 let rn:=rnOf c.st0.bl.length f c.s.σ
 ⟨renS rn v,updL rn c.s.σ 0 c.st0.bl str.bl,(str.bl.drop c.st0.bl.length).map (renB rn)⟩
def refC:CV->List Nat
 | .ptr b _=>[b]
 | .own b=>[b]
 | .mp b=>[b]
 | .sc b _=>[b]
 | .bnd _ c=>refC c
 | .eo b _ _ _=>[b]
 | .vw b _ _ _=>[b]
 | .cap f c=>refC f++refC c
 | .ifc _ c=>refC c
 |_=>[]
def AdA:V1->List Nat
 | .c x=>refC x
 | .agg l=>l.flatMap refC
def refsS:SV->List Nat
 | .v x=>AdA x
 | .tup l=>l.flatMap AdA
 |_=>[]
def refsB:BV->List Nat
 | .cells _ l=>l.flatMap refC
 | .lent l=>l.flatMap refC
 |_=>[]
def reachB(bl:List BV):Nat->List Nat->List Nat->List Nat
 |0,_,seen=>seen
 |_+1,[],seen=>seen
 |d+1,b::todo,seen=>cond (natMem b seen) (reachB bl d todo seen) (match bl[b]? with
  |some bv=>reachB bl d (refsB bv++todo) (b::seen)
  |none=>reachB bl d todo seen)
def frzAll:List Nat->Tr->Tr
 | [],k=>k
 |b::l,k=> .frz b (frzAll l k)
def ownC:List (Option Nat)->List BV->Bool
 |x::is,b::l=>(!b.owned||x.isSome)&&ownC is l
 |_,_=>true
def altT:(l:List Sch)->ALT l->(HSt->Tr)->Tr
 | [],_,_=> .no
 | [s],x,k=>match conT s x with|some st=>k st|none=> .no
 |s::t::l,x,k=> .alt x (λa=>match conT s a with|some st=>k st|none=> .no) (λb=>altT (t::l) b k)
def callN (f m:Nat) (c:Cand):Tr:= .bnd (c.S.run c.t) λr=>altT c.S.rs r λstr=>(match getH str.sl 0,cC c.st0.bl.length str.bl.length&&(cC (str.bl.length - c.st0.bl.length) m&&ownC (ownIds c.s.σ 0 c.st0.bl) str.bl) with
  |some v,true=> .done (callE f c str v)
  |_,_=> .no)
def callT (P:Program) (tbl:FuncId->List FSp) (fr m:Nat) (fn:FuncId) (uav:List SV):Tr:=cond (enters P fn) (
   let asl:=argH 0 uav;let ids:=λbl=>reachB bl 1000 (uav.flatMap refsS) []
   .sub ids λblm=>match firstC asl blm (tbl fn)with
    |some c=>(match c.s.fl with
     | []=>callN fr m c
     |fl=>frzAll fl (.sub ids λblm2=>match firstC asl blm2 (tbl fn)with
      |some c2=>(match c2.s.fl with| []=>callN fr m c2|_=> .no)
      |none=> .no))
    |none=> .no) .no
def tCall(P:Program)(tbl:FuncId->List FSp)(sl:List (Nat×SV))(fr m:Nat)(x:Operand)(args:List Operand):Tr:=match evH sl x,evL sl args with
 |some (.v (.c (.bnd fn c))),some avs=>callT P tbl fr m fn (vC c::avs)
 |some (.v (.c fv)),some avs=>(match fnOf fv with
  |some (fn,caps)=>callT P tbl fr m fn (avs++caps.map vC)
  |none=> .no)
 |_,_=> .no
section
variable{v:SV}
theorem Mo:∀{l:List Sch}{x:ALT l}{k:HSt->Tr},Told f (altT l x k) bl bl' v->∃st,altC l x=some st/\Told f (k st) bl bl' v
 | [],_,_,h=>h.elim
 | [s],x,k,h=>by
  unfold altT at h;split at h
  ·rename_i st hst;exact⟨st,hst,h⟩
  ·exact h.elim
 |s::t::l,x,k,h=>by
  unfold altT at h;rcases h with⟨a,rfl,h⟩|⟨b,rfl,h⟩
  ·dsimp only at h;split at h
   ·rename_i st hst;exact⟨st,hst,h⟩
   ·exact h.elim
  ·exact Mo (l:=t::l) h
theorem Mp:∀{c:CV}{fn:FuncId}{caps:List CV}{v:Value},fnOf c=some (fn,caps)->RealC g ρ bl c v->∃cs,v= .func (.func fn) #[] cs.toArray/\AB (RealC g ρ bl) caps cs
 | .fn f0,fn,caps,v,h,hr=>by injection h with h;injection h with h1 h2;subst h1;subst h2;exact⟨[],hr,trivial⟩
 | .cap f0 c,fn,caps,v,h,hr=>by
  unfold fnOf at h;split at h
  ·rename_i f1 l hl;injection h with h;injection h with h1 h2;subst h1;subst h2;obtain⟨fx,cx,vc,h3,h4,rfl⟩:=hr;obtain⟨cs,e,h5⟩:=Mp hl h3;injection e with e1 _ e2;subst e1;subst e2;exact⟨cs++[vc],by simp,AB.app (l2:=[c]) (m2:=[vc]) ⟨h4,trivial⟩ h5⟩
  ·cases h
theorem Ku(hr:Rl g ρ ⟨sl,bl⟩ own fr):∀{l:List Operand}{m:List SV},evL sl l=some m->∃vs,l.map (evS fr)=vs.map some/\AB (RealS g ρ bl) m vs
 | [],m,h=>by injection h with h;subst h;exact⟨[],rfl,trivial⟩
 |x::l,m,h=>by
  unfold evL at h;split at h
  ·rename_i u k h1 h2;injection h with h;subst h;obtain⟨w,h3,h4⟩:=Aa hr h1;obtain⟨vs,h5,h6⟩:=Ku hr h2;exact⟨w::vs,by rw[cD,cD,h3,h5],h4,h6⟩
  ·cases h
theorem Mq:∀{svs:List SV}{vs:List Value}{i t:Nat}{s:SV},AB (RealS g ρ bl) svs vs->getH (argH i svs) t=some s->∃v,getS (argS i vs) t=some v/\RealS g ρ bl s v
 | [],_,_,_,_,_,h=>by cases h
 |s0::svs,v0::vs,i,t,s,hr,h=>by
  simp only[argH,getH]at h;simp only[argS,getS];cases hb:aD i t with
  |true=>rw[hb]at h;injection h with h;subst h;exact⟨v0,rfl,hr.1⟩
  |false=>rw[hb]at h;exact Mq hr.2 h
 |_::_,[],_,_,_,hr,_=>hr.elim
theorem OC:∀(i:Nat)(l:List SV),(argH i l).length=l.length
 |_,[]=>rfl
 |i,x::l=>by simp[argH,OC (i+1) l]
end
section
variable{v:SV}
theorem Wk {fn:FuncId} {op:Op} {post:Value->Psi->Own->Prop} (hrun:∀ (o:Oper) (a:Act) (w:World),o.op=op->Fr n a fr->(execOp a.eval o).run P w = .ok (.enter fn us.toArray) w)
  (hn:(is.filterMap id).Nodup) (hc:∀g',g.r.le g'.r->g'.b=g.b->(∀k,some k∈dropIds 0 (is.filterMap id) own->g'.r.m k.g=some k.obj)->Ctr P fn us g' (pickP is own) post):
  Eff P n g own fr op ty (λv g' own'=>∃sel',own'=sel'++dropIds 0 (is.filterMap id) own/\post v g'.b sel'):=by
 intro o a w Q K h1 h2 hf hs h;have hs':=hs.part hn;obtain⟨gl,er,eb,hst0,hl⟩:=hs'.lend;unfold Oper.wp;rw[hrun o a w h1 hf];simp only[Oper.upon];have hnd:(Own.ids (dropIds 0 (is.filterMap id) own)).Nodup:=by have hn:=hs'.nodup;rw[show Own.ids (pickP is own++dropIds 0 (is.filterMap id) own)=Own.ids (pickP is own)++Own.ids (dropIds 0 (is.filterMap id) own)from List.filterMap_append]at hn;exact(List.nodup_append.1 hn).2.1
 refine(hc gl hl eb (λk hk=>by rw[er];exact FL hnd hk) w hst0).mono λe w' hp=>?_;obtain⟨v,g1,sel',rfl,hle,hst,hpost⟩:=hp;obtain⟨g2,e2,hle2,hst2⟩:=hs'.unlend er eb hle hst hl;exact h v g2 _ w' hle2 hst2 ⟨sel',rfl,by rw[e2];exact hpost⟩
theorem Kv{asl:List (Nat×SV)}{blm:List BV}{c:Cand}:∀{l:List FSp},firstC asl blm l=some c->∃S∈l,candOf asl blm S=some c
 | [],h=>by cases h
 |S::l,h=>by
  unfold firstC at h;split at h
  ·rename_i c' hc;injection h with h;subst h;exact⟨S,aJ ..,hc⟩
  ·obtain⟨S',h1,h2⟩:=Kv h;exact⟨S',aH _ h1,h2⟩
theorem Fg:∀{l:List Nat}{k:Tr}{bl:List BV},Told f (frzAll l k) bl bl' v->∃bl1,FrzTo bl bl1/\Told f k bl1 bl' v
 | [],k,bl,h=>⟨bl,.refl,h⟩
 |b::l,k,bl,h=>by
  obtain⟨bv,fv,e1,e2,h⟩:=h;cases bv<;>first|(cases e2;done)|skip
  ·injection e2 with e2;subst e2;obtain⟨bl1,h1,h2⟩:=Fg h;exact⟨bl1,.step e1 h1,h2⟩
  ·injection e2 with e2;subst e2;obtain⟨bl1,h1,h2⟩:=Fg h;exact⟨bl1,.frzT e1 h1,h2⟩
theorem UU{blm:List BV}{S:FSp}{c:Cand}(h:candOf asl blm S=some c):c.S=S/\c.S.ps.sl.length=asl.length/\absSt true c.S.ps (nones c.S.ps.bl.length) ⟨asl,blm⟩=some c.s/\conSt id c.S.ps c.s.ds=some c.st0/\absChk c.s c.st0.bl=true/\conT c.S.ps c.t=some c.st0:=by
 unfold candOf at h;split at h
 ·rename_i s h1 hs;split at h
  ·rename_i st0 hc;split at h
   ·rename_i t hk hp;injection h with h;subst h;simp only[aC]at h1 hk;exact⟨rfl,aA h1.1,hs,hc,hk.1,by unfold conT;rw[MN _ hp];exact hc⟩
   ·cases h
  ·cases h
 ·cases h
theorem Jb{l:List BV}(h:(ownIds σ 0 l)[j]? =some (some b)):∃y,l[j]? =some y/\y.owned=true/\sigAt σ j=some b:=by
 have hlt:j<l.length:=by rw[<-CN σ 0 l];exact Am h
 have:=DM σ l 0 j (aF hlt);rw[h,aK]at this;injection this with this;cases hy:l[j].owned with
 |true=>rw[hy]at this;exact⟨_,aF hlt,hy,this.symm⟩
 |false=>rw[hy]at this;cases this
theorem Ix{l:List BV}{y:BV}(h:l[j]? =some y)(hy:y.owned=true)(hs:sigAt σ j=some b):(ownIds σ 0 l)[j]? =some (some b):=by have:=DM σ l 0 j h;rw[aK,hy,hs]at this;exact this
theorem mem_ids:natMem b (is.filterMap id)=true↔∃j:Nat,is[j]? =some (some b):=by rw[CO];simp only[List.mem_filterMap,id_eq,exists_eq_right];exact⟨λhb=>aN hb,λ⟨i,hi⟩=>aG hi⟩
theorem Ho{rn:Nat->Nat}{σ:List (Option Nat)}:∀{l m:List BV}{k:Nat}{p:Nat×BV},p∈updL rn σ k l m->∃j b0 b,l[j]? =some b0/\m[j]? =some b/\b0.owned=true/\sigAt σ (k+j)=some p.1/\p.2=renB rn b
 | [],_,_,_,h=>by cases h
 |_::_,[],_,_,h=>by cases h
 |b0::l,b::m,k,p,h=>by
  unfold updL at h;split at h
  ·rename_i i ho hs;rcases aP.1 h with rfl|h
   ·exact⟨0,b0,b,rfl,rfl,ho,hs,rfl⟩
   ·obtain⟨j,c0,c,h1,h2,h3,h4,h5⟩:=Ho h;exact⟨j+1,c0,c,by simpa using h1,by simpa using h2,h3,by rwa [show k+(j+1)=k+1+j by omega],h5⟩
  ·obtain⟨j,c0,c,h1,h2,h3,h4,h5⟩:=Ho h;exact⟨j+1,c0,c,by simpa using h1,by simpa using h2,h3,by rwa [show k+(j+1)=k+1+j by omega],h5⟩
theorem SK{rn:Nat->Nat}{σ:List (Option Nat)}:∀{l m:List BV}{k j i:Nat}{b0 b:BV},l[j]? =some b0->m[j]? =some b->b0.owned=true->sigAt σ (k+j)=some i->(i,renB rn b)∈updL rn σ k l m
 | [],_,_,_,_,_,_,h,_,_,_=>by simp at h
 |_::_,[],_,_,_,_,_,_,h,_,_=>by simp at h
 |c0::l,c::m,k,0,i,b0,b,h1,h2,h3,h4=>by simp at h1 h2;subst h1;subst h2;unfold updL;rw[bN]at h4;rw[h3,h4];exact aJ ..
 |c0::l,c::m,k,j+1,i,b0,b,h1,h2,h3,h4=>by
  have:=SK (rn:=rn) (σ:=σ) (k:=k+1) (j:=j) (by simpa using h1) (by simpa using h2) h3 (by rwa [show k+1+j=k+(j+1) by omega]);unfold updL;split
  ·exact aH _ this
  ·exact this
theorem Kw{rn:Nat->Nat}{σ:List (Option Nat)}:∀{l m:List BV}{k:Nat},(∀a b i,k<=a->k<=b->(∃y,l[a-k]? =some y/\y.owned=true)->(∃y,l[b-k]? =some y/\y.owned=true)->sigAt σ a=some i->sigAt σ b=some i->a=b)->((updL rn σ k l m).map bY).Nodup
 | [],_,_,_=>bF
 |_::_,[],_,_=>bF
 |b0::l,b::m,k,h=>by
  have ih:=Kw (rn:=rn) (σ:=σ) (l:=l) (m:=m) (k:=k+1) λa c i ha hc h1 h2 h3 h4=>by
   refine h a c i (by omega) (by omega) ?_ ?_ h3 h4
   ·obtain⟨y,e1,e2⟩:=h1;exact⟨y,by rw[show a-k=(a-(k+1))+1 by omega];simpa using e1,e2⟩
   ·obtain⟨y,e1,e2⟩:=h2;exact⟨y,by rw[show c-k=(c-(k+1))+1 by omega];simpa using e1,e2⟩
  unfold updL;split
  ·rename_i i ho hs;refine bE.2 ⟨λhm=>?_,ih⟩;obtain⟨p,hp,e⟩:=List.mem_map.1 hm;obtain⟨j,c0,c,h1,h2,h3,h4,_⟩:=Ho hp;have e:p.1=i:=e;rw[e]at h4;have:=h k (k+1+j) i (aR _) (by omega) ⟨b0,by rw[Nat.sub_self];rfl,ho⟩ ⟨c0,by rw[show k+1+j-k=j+1 by omega];simpa using h1,h3⟩ hs h4;omega
  ·exact ih
theorem OD:Ext ρ bl ρ (maskB 0 ids bl):=λb bv e h=>by
 have hlt:b<(maskB 0 ids bl).length:=by rw[Mk];exact Am e
 obtain⟨bv0,h1,h2⟩:=Iu (aF hlt);rw[e]at h1;injection h1 with h1;subst h1;refine⟨rfl,_,aF hlt,?_,λm hm=>?_⟩
 ·rcases h2 with⟨_,h2⟩|h2<;>rw[h2]
  ·exact h
  ·rfl
 ·rcases h2 with⟨_,h2⟩|h2<;>rw[h2]at hm
  ·exact hm
  ·cases hm
theorem BP(h:(maskB 0 ids bl)[b]? =some bv)(hn:bv≠.no:=by simp):bl[b]? =some bv:=by
 obtain⟨bv0,h1,h2⟩:=Iu h;rcases h2 with⟨_,h2⟩|h2
 ·rw[h2];exact h1
 ·exact absurd h2 hn
theorem Mr{l:List BV}(h:absChk s l=true):((ownIds s.σ 0 l).filterMap id).Nodup/\rowsB s.bl s.σ 0 l=true/\(∀b,b∈s.lt->natMem b ((ownIds s.σ 0 l).filterMap id)=false)/\s.σ.length=l.length:=by
 unfold absChk at h;simp only[aC]at h;obtain⟨h1,h2,h3,h4⟩:=h;refine⟨FY h1,h2,λb hb=>?_,aA h4⟩
 cases hm:natMem b ((ownIds s.σ 0 l).filterMap id)with
 |false=>rfl
 |true=>
  have:=List.all_eq_true.1 h3 b (CO.1 hm);rw[CO.2 hb]at this;cases this
theorem Wl {idl:List Nat} (hr:Rl g ρ ⟨sl,bl⟩ own fr) (hra:∀ t sv,getH asl t=some sv->∃ v,getS (argS 0 us) t=some v/\RealS g ρ bl sv v)
  (hab:absSt true sc (nones m) ⟨asl,maskB 0 idl bl⟩=some s) (hsame:s.bl=maskB 0 idl bl) (hcon:conSt id sc s.ds=some st0) (hchk:absChk s st0.bl=true) (hgr:g.r.le g'.r) (hgb:g'.b=g.b)
  (hlent:∀k,some k∈dropIds 0 ((ownIds s.σ 0 st0.bl).filterMap id) own->g'.r.m k.g=some k.obj):Rl g' (envOf s.σ ρ) st0 (pickP (ownIds s.σ 0 st0.bl) own) (argS 0 us):=by
 obtain⟨st2,e1,_,_,hsl,hbl⟩:=Fa hab;rw[hcon]at e1;injection e1 with e1;subst e1;rw[hsame]at hsl hbl;obtain⟨hnd,hrows,hlt,hlen⟩:=Mr hchk;rw[hsame]at hrows;have hkeep:∀b k,b∈s.lt->own[b]? =some (some k)->g'.r.m k.g=some k.obj:=λb k hb hk=>hlent k (by have:=De (i:=0) (ids:=(ownIds s.σ 0 st0.bl).filterMap id) hk;rw[aK,hlt b hb]at this;exact aG this)
 have hctx:Ctx s.lt (maskB 0 idl bl).length s.σ (maskB 0 idl bl) ρ g st0.bl (envOf s.σ ρ) g':=by
  refine⟨hgr,by rw[hgb];exact .refl _,λj b e=>FZ hbl hlen j b e,λb bv hn e=>absurd (Am e) (by omega),λb c xs e=>?_,λb c et xs hb e=>?_⟩
  ·obtain⟨k0,h1,h2⟩:=hr.own_at (BP e);exact h2.2
  ·obtain⟨k0,h1,h2⟩:=hr.own_at (BP e);exact Oc h2 hgb λb' hb'=>hkeep b b' hb (by rw[h1,hb'])
 refine⟨by simp[pickP,CN],λi bv k0 e1 e2=>?_,λt sv e=>?_,by rw[hgb];exact hr.gi⟩
 ·have e3:(pickP (ownIds s.σ 0 st0.bl) own)[i]? = some (match cond bv.owned (sigAt s.σ i) none with | none=>none | some b=>(own[b]?).join):=by unfold pickP;rw[bI,DM s.σ st0.bl 0 i e1,aK];rfl
  rw[e3]at e2;injection e2 with e2;have hB:=hbl.get e1;rw[aK]at hB;rcases hB with rfl|⟨b,hb1,hb2⟩
  ·exact e2.symm
  ·have henv:envOf s.σ ρ i=ρ b:=by unfold envOf;rw[hb1]
   rw[henv];rw[hb1]at e2;have hcs:∀{l:List CV}{m:List CV}{cs:List Value},AB (SimC s.lt (maskB 0 idl bl).length s.σ (maskB 0 idl bl)) l m->AB (RealC g ρ bl) l cs->AB (RealC g' (envOf s.σ ρ) st0.bl) m cs:=
    λh1 h2=>Io hctx h1 (h2.mono λ_ _=>RealC.ext (.refl g) OD)
   cases hb2 with
   |no=>exact e2.symm
   |cells h hs=>
    obtain⟨k1,h1,b0,cs,rfl,h3,h4⟩:=hr.own_at (BP h);have e2:(own[b]?).join=k0:=e2;rw[h1]at e2;exact⟨b0,cs,e2.symm,h3,hcs hs h4⟩
   |@row _ c et xs h=>
    obtain⟨b',c',et',xs',h3,h4⟩:=Ip hrows e1;rw[aK,hb1]at h3;injection h3 with h3;subst h3;obtain⟨bv,h5,h6⟩:=h;rw[h4]at h5;injection h5 with h5;subst h5;rcases h6 with h6|h6
    ·rw[h6]at h4;obtain⟨k1,h1,h2⟩:=hr.own_at (BP h4);have e2:(own[b]?).join=k0:=e2;rw[h1]at e2;have e2:k1=k0:=e2;subst e2;show Buf g'.b c.ty et _ _ _;rw[hgb];exact h2
    ·cases h6
   |lent h hs=>
    obtain⟨k1,h1,h2,ad,cs,h3,h4,h5⟩:=hr.own_at (BP h);exact⟨e2.symm,ad,cs,h3,h4.mono hgr,hcs hs h5⟩
   |lend hl h hs=>
    obtain⟨k1,h1,b0,cs,rfl,h3,h4⟩:=hr.own_at (BP h);exact⟨e2.symm,_,cs,h3,Rb (k:=⟨b0,_,cs⟩) 0 cs (hkeep b _ hl h1) (by simp),hcs hs h4⟩
   |map h=>
    obtain⟨k1,h1,b0,cs,rfl,h3,h4⟩:=hr.own_at (BP h);have e2:(own[b]?).join=k0:=e2;rw[h1]at e2;exact⟨b0,cs,e2.symm,h3,by rw[hgb];exact h4⟩
   |@tree _ t et xs h=>
    obtain⟨b',t',et',xs',h3,h4⟩:=Iq hrows e1;rw[aK,hb1]at h3;injection h3 with h3;subst h3;obtain⟨bv,h5,h6⟩:=h;rw[h4]at h5;injection h5 with h5;subst h5;rcases h6 with h6|h6
    ·rw[h6]at h4;obtain⟨k1,h1,h2⟩:=hr.own_at (BP h4);have e2:(own[b]?).join=k0:=e2;rw[h1]at e2;have e2:k1=k0:=e2;subst e2;show RowB _ (TRep g'.b t) _ et _ _ _;rw[hgb];exact h2
    ·cases h6
 ·obtain⟨y,h1,h2⟩:=hsl (t,sv) (Hl e);obtain⟨v,h3,h4⟩:=hra t y h1;exact⟨v,h3,SimS.real hctx h2 (h4.ext (.refl g) OD)⟩
end
end Go.Proofs.YtpglaekodahcoaaGreatDoor
