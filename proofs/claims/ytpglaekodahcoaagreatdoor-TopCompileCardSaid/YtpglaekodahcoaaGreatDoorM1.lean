/-
The engine,part 1:what a world holds (a ghost),the blocks of one's own,the frame as a short list of slots,and the rules of code. Conditions:none.
-/
import Derived.WalkKit
import Derived.Orders
import Derived.Deep.LoopGhost
import Derived.Maps.AppendAt
import Derived.Laws.BytesArg
import Derived.ArgAppend
import Derived.OrdersHeld
import Derived.ProofKit
import Derived.OpenShut
import Derived.Handy
import Derived.ChangeSame
import Derived.Deep.Slices
import Derived.IntWalk
import Derived.SizedLaws
import Derived.Test.YtpglaekodahcoaaGreatDoorRows
import Derived.Lib.AppendZeros
import Derived.Laws.StructEq
import Derived.ChangeKeysEq
import Derived.LoopN
import Derived.Lib.Bytealg
import Derived.MapKept
import Derived.Test.YtpglaekodahcoaaGreatDoorProg
import Derived.Lib.LaidTab
import Derived.Lib.ItoaNum
namespace Go.Proofs.YtpglaekodahcoaaGreatDoor
set_option linter.unusedVariables false
set_option linter.unusedSimpArgs false
open Go.RowKit
open _root_.List renaming mem_cons->aA,getElem?_set->aB,length_append->aC,getElem?_eq_none->aD,append_assoc->aE,mem_cons_of_mem->aF,length_set->aG,mem_of_getElem?->aH,mem_cons_self->aI,getElem?_eq_some_iff->aJ,getElem?_eq_getElem->aK,mem_append->aN,nodup_append->aO,nodup_cons->aP,length_drop->aQ,getElem?_append_left->aR,mem_append_right->aS,length_take->aT,flatMap_cons->aX,length_cons->bB,ext_getElem?->bC,mem_map->bF,map_cons->bG,getD_eq_getElem?_getD->bJ,filterMap_cons->bL,drop->bO,nodup_nil->bP,filterMap_append->bR,cons_append->bS,mem_append_left->bW,length->bY,drop_append_of_le_length->bZ,take_append_of_le_length->cB,nil_append->cD,toList_toArray->cG,getElem?_range->cJ,mem_filterMap->cL,set_cons_succ->cM,find?_eq_none->cN,drop_drop->cO,replicate->cQ,perm_append_left_iff->cT,all_eq_true->cW,flatMap->cZ,append_nil->dA,set_append_right->dB,take_append_drop->dC,eraseIdx_set_eq->dE,mem_map_of_mem->dI,length_pos_iff->dJ,range'->dK
open _root_.Nat renaming eq_of_beq_eq_true->aL,le_of_mul_le_mul_right->aM,lt_or_ge->aU,succ_mul->aV,le_of_ble_eq_true->aW,beq->bD,ble->bN,add_comm->bQ,le_refl->bV,mul_le_mul_right->bX,zero_add->cK,add_assoc->cV,zero_mul->cX,zero_le->dD
open _root_.Array renaming getElem?_eq_none->aY,getD_eq_getD_getElem?->aZ,getElem?_modify->bH,getElem?_eq_some_iff->bI,getElem?_eq_getElem->bK,length_toList->cE
open _root_.Option renaming map_eq_some_iff->bA,map_some->bM,isSome_iff_exists->cU
open _root_.BitVec renaming ofInt->bE
open _root_.Bool renaming and_eq_true->bU
open _root_.Int renaming ofNat_eq_natCast->cC,tmod_eq_emod_of_nonneg->cS
open Go.IntKind renaming signed->cR,bits->cY,min->dG,max->dH
variable{A:Option Addr}{t:TypeId}{P:Program}{w:World}{x:Operand}{v:Value}{et:TypeId}{cs:List Value}{Q:Exit->Act->World->Prop}{i:Nat}{α:Type}{c:Nat}{ops:Array Oper}{op:Op}{off b:Nat}{rs:List ResultVar}{y:Operand}{a:Addr}{bytes:Nat}{e:Option Addr×Nat}{m:Nat}{news:List Value}{K:Act->World->Prop}{ys:List α}{js:List Nat}{u:TypeId}{lds fin:List Nat}{args:Array Value}{sz:Nat}{w':World}{s:ChangeSpec}{j:Nat}{C:Code}{N:Nat}{xs:List α}
abbrev Bt:=List UInt8
abbrev I3:=Int×Int×Int
abbrev I2:=Int×Int
abbrev I4:=Int×Bool×Bt
abbrev B2:=Bool×Bool
structure Psi where
 m:Nat->Option Obj
 os:Os
 tape:Nat->Question->Nat
 out:Array (Nat×ByteArray)
variable{p q:Psi}
structure Psi.le(p q:Psi):Prop where
 os:q.os=p.os
 tape:q.tape=p.tape
 out:q.out=p.out
 m:∀b o,p.m b=some o->q.m b=some o
structure Psi.In(p:Psi)(w:World):Prop where
 os:w.os=p.os
 tape:w.tape=p.tape
 out:w.output=p.out
 m:∀b o,p.m b=some o->w.heap[b]? =some o
theorem Psi.le.refl(p:Psi):p.le p:=⟨rfl,rfl,rfl,λ_ _ h=>h⟩
theorem Psi.le.trans{p q r:Psi}(h:p.le q)(k:q.le r):p.le r:=⟨k.os.trans h.os,k.tape.trans h.tape,k.out.trans h.out,λb o e=>k.m b o (h.m b o e)⟩
theorem Psi.In.mono(h:q.In w)(k:p.le q):p.In w:=⟨h.os.trans k.os,h.tape.trans k.tape,h.out.trans k.out,λb o e=>h.m b o (k.m b o e)⟩
structure Gh where
 r:Psi
 b:Psi
 br:b.le r
variable{g g':Gh}
structure Gh.le(g h:Gh):Prop where
 r:g.r.le h.r
 b:g.b.le h.b
 apart:∀k,h.b.m k≠none->g.b.m k≠none\/g.r.m k=none
theorem Gh.le.refl(g:Gh):g.le g:=⟨.refl _,.refl _,λ_ h=> .inl h⟩
theorem Psi.le.none_(h:p.le q){k:Nat}(hk:q.m k=none):p.m k=none:=by
 cases e:p.m k with
 |none=>rfl
 |some o=>rw[h.m k o e]at hk;cases hk
theorem Gh.le.trans{f g h:Gh}(p:f.le g)(q:g.le h):f.le h:=
 ⟨p.r.trans q.r,p.b.trans q.b,λk hk=>(q.apart k hk).elim (λh1=>p.apart k h1) λh1=> .inr (p.r.none_ h1)⟩
inductive BkT where
 |ty (t:TypeId)
 |mp (es:Array MapEntry) (clock:Nat)
 |ms (t:TypeId)
 |tr (t:TypeId) (ext:List (Nat×Obj))
def BkT.sat:BkT->List (Nat×Obj)
 | .tr _ e=>e
 |_=>[]
instance instOfNatBkT(n:Nat):OfNat BkT n:=⟨.ty n⟩
instance instCoeBkT:Coe Nat BkT:=⟨.ty⟩
structure Bk where
 g:Nat
 t:BkT
 cs:List Value
variable{k:Option Bk}{kb:Bk}
def Bk.obj(k:Bk):Obj:=match k.t,k.cs with
 | .ty t,cs=> .cells cs.toArray t (0,0)
 | .mp es n,[]=> .map es n
 | .mp _ _,v::l=> .cells (v::l).toArray 0 (0,0)
 | .ms t,cs=> .cells cs.toArray t (cs.length,cs.length+1)
 | .tr t _,cs=> .cells cs.toArray t (0,0)
def Bk.sat(k:Bk):List (Nat×Obj):=k.t.sat
theorem Bk.obj_ty(g:Nat)(t:TypeId)(cs:List Value):(Bk.mk g (.ty t) cs).obj= .cells cs.toArray t (0,0):=rfl
abbrev Own:=List (Option Bk)
variable{rest own' o:Own}
def Own.ids(o:Own):List Nat:=o.filterMap (·.map (·.g))
theorem Own.mem_ids{k:Bk}(h:some k∈o):k.g∈o.ids:=cL.2 ⟨_,h,rfl⟩
theorem Own.of_ids(h:i∈o.ids):∃k,some k∈o/\k.g=i:=by
 obtain⟨a,ha,e⟩:=cL.1 h;cases a with
 |none=>cases e
 |some k=>exact⟨k,ha,by simpa using e⟩
def Has(w:World)(own:Own):Prop:=∀k,some k∈own->w.heap[k.g]? =some k.obj
structure Sat(w:World)(g:Gh)(own:Own):Prop where
 has:∀k,some k∈own->∀p∈k.sat,w.heap[p.1]? =some p.2/\g.r.m p.1=none/\p.1∉own.ids
 each:∀k,some k∈own->(k.sat.map (·.1)).Nodup
 apart:∀k j,some k∈own->some j∈own->k.g≠j.g->∀p∈k.sat,∀q∈j.sat,p.1≠q.1
structure St(w:World)(g:Gh)(own:Own):Prop where
 r:g.r.In w
 nodup:own.ids.Nodup
 has:Has w own
 free:∀k,some k∈own->g.r.m k.g=none
 sat:Sat w g own
theorem Own.ids_of{o':Own}(h:∀k,some k∈o'->some k∈o)(hi:i∈o'.ids):i∈o.ids:=by obtain⟨k,hk,e⟩:=Own.of_ids hi;exact e▸Own.mem_ids (h k hk)
theorem Sat.fewer{own:Own}(h:Sat w g own)(hs:∀k,some k∈own'->some k∈own):Sat w g own':=
 ⟨λk hk p hp=>let⟨a,b,c⟩:=h.has k (hs k hk) p hp;⟨a,b,λhm=>c (Own.ids_of hs hm)⟩,λk hk=>h.each k (hs k hk),λk j hk hj=>h.apart k j (hs k hk) (hs j hj)⟩
theorem Sat.nil(w:World)(g:Gh):Sat w g []:=⟨λk hk=>(by cases hk),λk hk=>(by cases hk),λk j hk=>(by cases hk)⟩
theorem Ie{o:Obj}(h:w.heap[b]? =some o):b<w.heap.size:=(bI.1 h).1
theorem Sat.set {w w':World} {g:Gh} {own:Own} {i:Nat} {x:Option Bk} (h:Sat w g own) (hi:own[i]? = some x) (k':Option Bk)
  (hb:∀k,some k∈own->∀p∈k.sat,w'.heap[p.1]? =w.heap[p.1]?)
  (ho:∀k,some k∈own.set i k'->k'=some k\/(some k∈own/\∀k0,x=some k0->k.g≠k0.g))
  (hk:∀k,k'=some k->(k.sat=[]\/∃k0,x=some k0/\k.sat=k0.sat)/\∀j,some j∈own->∀p∈j.sat,p.1≠k.g):Sat w' g (own.set i k'):=by
 have hx:∀k0,x=some k0->some k0∈own:=λk0 e=>aH (e▸hi);have hnot:∀j,some j∈own->∀p∈j.sat,p.1∉Own.ids (own.set i k'):=λj hj p hp hm=>by
  obtain⟨k,hk1,e⟩:=Own.of_ids hm;rcases ho k hk1 with e1|⟨e1,_⟩
  ·exact(hk k e1).2 j hj p hp e.symm
  ·exact(h.has j hj p hp).2.2 (e▸Own.mem_ids e1)
 have hsrc:∀k,some k∈own.set i k'->∀p∈k.sat,∃j,some j∈own/\p∈j.sat/\k.sat=j.sat/\(k'=some k/\x=some j\/k=j/\∀k0,x=some k0->k.g≠k0.g):=λk hk1 p hp=>by
  rcases ho k hk1 with e1|⟨e1,e2⟩
  ·rcases(hk k e1).1 with e|⟨k0,e,e3⟩
   ·rw[e]at hp;cases hp
   ·exact⟨k0,hx k0 e,e3▸hp,e3,.inl ⟨e1,e⟩⟩
  ·exact⟨k,e1,hp,rfl,.inr ⟨rfl,e2⟩⟩
 refine⟨λk hk1 p hp=>?_,λk hk1=>?_,λk j hk1 hj1 hne p hp q hq=>?_⟩
 ·obtain⟨j,hj,hpj,_⟩:=hsrc k hk1 p hp;obtain⟨a,b,_⟩:=h.has j hj p hpj;exact⟨(hb j hj p hpj).trans a,b,hnot j hj p hpj⟩
 ·cases hs:k.sat with
  |nil=>exact bP
  |cons p l=>
   obtain⟨j,hj,_,e,_⟩:=hsrc k hk1 p (by rw[hs];exact aI ..);rw[<-hs,e];exact h.each j hj
 ·obtain⟨k2,hk2,hp2,_,e2⟩:=hsrc k hk1 p hp;obtain⟨j2,hj2,hq2,_,e3⟩:=hsrc j hj1 q hq;refine h.apart k2 j2 hk2 hj2 ?_ p hp2 q hq2;rcases e2 with⟨a,b⟩|⟨rfl,a⟩
  ·rcases e3 with⟨c,d⟩|⟨rfl,c⟩
   ·rw[a]at c;injection c with c;exact absurd (by rw[c]) hne
   ·exact(c k2 b).symm
  ·rcases e3 with⟨c,d⟩|⟨rfl,c⟩
   ·exact a j2 d
   ·exact hne
theorem Sat.new{own:Own}(h:Sat w g own)(k:Bk)(hk:k.sat=[])(hg:w.heap.size<=k.g)(hb:∀b,b<w.heap.size->w'.heap[b]? =w.heap[b]?):Sat w' g (some k::own):=by
 have hc:∀j,some j∈some k::own->∀p∈j.sat,some j∈own:=λj hj p hp=>by
  rcases aA.1 hj with e|e
  ·injection e with e;subst e;rw[hk]at hp;cases hp
  ·exact e
 refine⟨λj hj p hp=>?_,λj hj=>?_,λj l hj hl hne p hp q hq=>h.apart j l (hc j hj p hp) (hc l hl q hq) hne p hp q hq⟩
 ·obtain⟨a,b,c⟩:=h.has j (hc j hj p hp) p hp;have hlt:=Ie a;refine⟨(hb _ hlt).trans a,b,λhm=>?_⟩
  obtain⟨l,hl,e⟩:=Own.of_ids hm;rcases aA.1 hl with e2|e2
  ·injection e2 with e2;subst e2;omega
  ·exact c (e▸Own.mem_ids e2)
 ·rcases aA.1 hj with e|e
  ·injection e with e;subst e;rw[hk];exact bP
  ·exact h.each j e
theorem Sat.gh{own:Own}(h:Sat w g own)(hg:∀k,some k∈own->∀p∈k.sat,g'.r.m p.1=none):Sat w g' own:=
 ⟨λk hk p hp=>⟨(h.has k hk p hp).1,hg k hk p hp,(h.has k hk p hp).2.2⟩,h.each,h.apart⟩
theorem Own.uniq{own:Own}(hn:own.ids.Nodup){k j:Bk}(hk:some k∈own)(hj:some j∈own)(e:k.g=j.g):k=j:=by
 induction own with
 |nil=>cases hk
 |cons x l ih=>
  have hn':(match x with|some k=>[k.g]|none=>[])++Own.ids l=Own.ids (x::l):=by cases x<;>simp[Own.ids,bL]
  rw[<-hn']at hn;cases x with
  |none=>
   rcases aA.1 hk with a|a
   ·cases a
   rcases aA.1 hj with b|b
   ·cases b
   exact ih (by simpa using hn) a b
  |some y=>
   simp only[bS,cD,aP]at hn;rcases aA.1 hk with a|a
   ·injection a with a;rcases aA.1 hj with b|b
    ·injection b with b;rw[a,b]
    ·subst a;exact absurd (e▸Own.mem_ids b) hn.1
   ·rcases aA.1 hj with b|b
    ·injection b with b;subst b;exact absurd (e▸Own.mem_ids a) hn.1
    ·exact ih hn.2 a b
theorem Psi.In.lt(h:p.In w)(hb:w.heap.size<=b):p.m b=none:=by
 cases e:p.m b with
 |none=>rfl
 |some o=>
  have:=h.m b o e;rw[aY hb]at this;cases this
theorem Has.lt{own:Own}(h:Has w own){k:Bk}(hk:some k∈own):k.g<w.heap.size:=by
 rcases aU k.g w.heap.size with h1|h1
 ·exact h1
 ·have:=h k hk;rw[aY h1]at this;cases this
theorem Has.cell{own:Own}(h:Has w own){k:Bk}(hk:some k∈own)(off:Nat):w.cell? ⟨k.g,off,none⟩=k.cs[off]?:=by
 obtain⟨g,t,cs⟩:=k;have:=h _ hk;cases t with
 |ty t=>simp[World.cell?,this,Bk.obj]
 |ms t=>simp[World.cell?,this,Bk.obj]
 |mp es n=>cases cs<;>simp[World.cell?,this,Bk.obj]
 |tr t e=>simp[World.cell?,this,Bk.obj]
theorem Has.frozen{own:Own}(h:Has w own){k:Bk}(hk:some k∈own)(off:Nat)(ho:off<k.cs.length):w.frozen? ⟨k.g,off,none⟩=false:=by
 obtain⟨g,t,cs⟩:=k;have:=h _ hk;cases t with
 |ty t=>simp[World.frozen?,this,Bk.obj]
 |ms t=>
  have ho:off<cs.length:=ho;simp[World.frozen?,this,Bk.obj];omega
 |mp es n=>cases cs<;>simp[World.frozen?,this,Bk.obj]
 |tr t e=>simp[World.frozen?,this,Bk.obj]
theorem St.drew{w:World}{g:Gh}{own:Own}(h:St w g own):St w.drew g own:=⟨⟨h.r.os,h.r.tape,h.r.out,h.r.m⟩,h.nodup,h.has,h.free,⟨h.sat.has,h.sat.each,h.sat.apart⟩⟩
theorem St.alloc{w:World}{g:Gh}{own:Own}(h:St w g own)(t:TypeId)(cs:List Value):St (w.alloc (.cells cs.toArray t)) g (some ⟨w.heap.size,t,cs⟩::own):=by
 refine⟨⟨h.r.os,h.r.tape,h.r.out,λb o e=>?_⟩,?_,?_,?_,h.sat.new _ rfl (bV _) λb hb=>Below.heap_alloc _ _ _ hb⟩
 ·have h1:=h.r.m b o e;have hlt:b<w.heap.size:=by
   rcases aU b w.heap.size with h2|h2
   ·exact h2
   ·rw[aY h2]at h1;cases h1
  rw[Below.heap_alloc _ _ _ hlt];exact h1
 ·simp only[Own.ids,bL,bM,aP];refine⟨λhm=>?_,h.nodup⟩
  obtain⟨k,hk,e⟩:=Own.of_ids hm;have:=h.has.lt hk;omega
 ·intro k hk;rcases aA.1 hk with e|hk
  ·injection e with e;subst e;show(w.heap.push _)[w.heap.size]? =_;simp[Bk.obj]
  ·rw[Below.heap_alloc _ _ _ (h.has.lt hk)];exact h.has k hk
 ·intro k hk;rcases aA.1 hk with e|hk
  ·injection e with e;subst e;exact h.r.lt (bV _)
  ·exact h.free k hk
theorem Own.get_mem{own:Own}{k:Bk}(h:own[i]? =some (some k)):some k∈own:=aH h
theorem Own.ids_cons(x:Option Bk)(l:Own):Own.ids (x::l)=(match x with|some k=>[k.g]|none=>[])++Own.ids l:=by cases x<;>simp[Own.ids,bL]
theorem Own.set_ids{own:Own}{k k':Bk}(h:own[i]? =some (some k))(hg:k'.g=k.g):Own.ids (own.set i (some k'))=own.ids:=by
 induction own generalizing i with
 |nil=>simp at h
 |cons x l ih=>
  cases i with
  |zero=>simp at h;subst h;simp[Own.ids_cons,hg]
  |succ i=>simp at h;simp[Own.ids_cons,ih h]
theorem Own.other{own:Own}{k k':Bk}(hn:own.ids.Nodup)(h:own[i]? =some (some k)){v:Option Bk}(hk:some k'∈own.set i v):(v=some k')\/(some k'∈own/\k'.g≠k.g):=by
 induction own generalizing i with
 |nil=>simp at h
 |cons x l ih=>
  cases i with
  |zero=>
   simp at h;subst h;simp only[List.set_cons_zero]at hk;rcases aA.1 hk with e|e
   ·exact .inl e.symm
   ·refine .inr ⟨aF _ e,λeq=>?_⟩;rw[Own.ids_cons]at hn;simp at hn;exact hn.1 (eq▸Own.mem_ids e)
  |succ i=>
   simp at h;simp only[cM]at hk;rw[Own.ids_cons]at hn;rcases aA.1 hk with e|e
   ·refine .inr ⟨e▸aI ..,λeq=>?_⟩;subst e;simp at hn;exact hn.1 (eq▸Own.mem_ids (aH h))
   ·have hn':(Own.ids l).Nodup:=(aO.1 hn).2.1;rcases ih hn' h e with e|⟨e,e2⟩
    ·exact .inl e
    ·exact .inr ⟨aF _ e,e2⟩
theorem St.put {own:Own} (h:St w g own) {k k':Bk} (hi:own[i]? = some (some k)) (hg:k'.g=k.g)
  (hos:w'.os=w.os) (htape:w'.tape=w.tape) (hout:w'.output=w.output) (hb:∀b,b≠k.g->w'.heap[b]? =w.heap[b]?) (hk:w'.heap[k.g]? =some k'.obj) (he:k'.sat=[]\/k'.sat=k.sat:=by first|exact .inr rfl|exact .inl rfl):
  St w' g (own.set i (some k')):=by
 have hm:=Own.get_mem hi;have hf:=h.free k hm;refine⟨⟨hos.trans h.r.os,htape.trans h.r.tape,hout.trans h.r.out,λb o e=>?_⟩,by rw[Own.set_ids hi hg];exact h.nodup,?_,?_,?_⟩
 ·rw[hb b (λeq=>by rw[eq,hf]at e;cases e)];exact h.r.m b o e
 ·intro j hj;rcases Own.other h.nodup hi hj with e|⟨e,e2⟩
  ·injection e with e;subst e;rw[hg];exact hk
  ·rw[hb _ e2];exact h.has j e
 ·intro j hj;rcases Own.other h.nodup hi hj with e|⟨e,e2⟩
  ·injection e with e;subst e;rw[hg];exact hf
  ·exact h.free j e
 ·refine h.sat.set hi (some k') (λj hj p hp=>hb _ λe=>(h.sat.has j hj p hp).2.2 (e▸Own.mem_ids hm)) (λj hj=>?_) λj e=>?_
  ·rcases Own.other h.nodup hi hj with e|⟨e,e2⟩
   ·exact .inl e
   ·exact .inr ⟨e,λk0 e0=>by injection e0 with e0;subst e0;exact e2⟩
  ·injection e with e;subst e;exact⟨he.imp id λe=>⟨k,rfl,e⟩,λj hj p hp e=>(h.sat.has j hj p hp).2.2 (by rw[e,hg];exact Own.mem_ids hm)⟩
theorem St.store {own:Own} (h:St w g own) {k:Bk} (hi:own[i]? = some (some k)) (off:Nat) (v:Value) :
  St (w.setCell ⟨k.g,off,none⟩ v) g (own.set i (some ⟨k.g,k.t,k.cs.set off v⟩)):=by
 refine h.put hi rfl rfl rfl rfl (λb hb=>Below.heap_setCell _ _ _ _ hb) ?_;have:=h.has k (Own.get_mem hi);show(w.heap.modify k.g _)[k.g]? =_;obtain⟨g,t,cs⟩:=k;cases t with
 |ty t=>simp[bH,this,Bk.obj]
 |ms t=>simp[bH,this,Bk.obj]
 |mp es n=>cases cs<;>cases off<;>simp[bH,this,Bk.obj]
 |tr t e=>simp[bH,this,Bk.obj]
def Psi.add(p:Psi)(k:Bk):Psi:={ p with m:=λb=>if b=k.g then some k.obj else p.m b }
theorem Psi.le_add{k:Bk}(h:p.m k.g=none):p.le (p.add k):=⟨rfl,rfl,rfl,λb o e=>by show(if b=k.g then _ else _)=_;rw[if_neg (λeq=>by rw[eq,h]at e;cases e)];exact e⟩
def Gh.add(g:Gh)(k:Bk):Gh:=⟨g.r.add k,g.b.add k,⟨g.br.os,g.br.tape,g.br.out,λb o e=>by
 by_cases eq:b=k.g
 ·have h1:(g.b.add k).m b=some k.obj:=if_pos eq;have h2:(g.r.add k).m b=some k.obj:=if_pos eq;rw[h2,<-e,h1]
 ·have h1:(g.b.add k).m b=g.b.m b:=if_neg eq;have h2:(g.r.add k).m b=g.r.m b:=if_neg eq;rw[h1]at e;rw[h2];exact g.br.m b o e⟩⟩
theorem St.publish{own:Own}(h:St w g own){k:Bk}(hi:own[i]? =some (some k)):g.le (g.add k)/\St w (g.add k) (own.set i none):=by
 have hm:=Own.get_mem hi;have hf:=h.free k hm;have hfb:=g.br.none_ hf;refine⟨⟨Psi.le_add hf,Psi.le_add hfb,λb hb=>?_⟩,⟨⟨h.r.os,h.r.tape,h.r.out,λb o e=>?_⟩,?_,?_,?_,?_⟩⟩
 ·by_cases e:b=k.g
  ·subst e;exact .inr hf
  ·refine .inl ?_;have:(g.add k).b.m b=g.b.m b:=if_neg e
   rwa [this]at hb
 ·by_cases eq:b=k.g
  ·subst eq;have h1:(g.add k).r.m k.g=some k.obj:=if_pos rfl;rw[h1]at e;rw[<-e];exact h.has k hm
  ·have h1:(g.add k).r.m b=g.r.m b:=if_neg eq;rw[h1]at e;exact h.r.m b o e
 ·have hs:List.Sublist (Own.ids (own.set i none)) own.ids:=by
   clear hm hf hfb;have hi':=hi;clear hi h;induction own generalizing i with
   |nil=>simp at hi'
   |cons x l ih=>
    cases i with
    |zero=>simp[Own.ids_cons]
    |succ i=>simp at hi';simp only[cM,Own.ids_cons];exact(List.append_sublist_append_left _).2 (ih hi')
  exact h.nodup.sublist hs
 ·intro j hj;rcases Own.other h.nodup hi hj with e|⟨e,e2⟩
  ·cases e
  ·exact h.has j e
 ·intro j hj;rcases Own.other h.nodup hi hj with e|⟨e,e2⟩
  ·cases e
  ·show(if j.g=k.g then _ else _)=_;rw[if_neg e2];exact h.free j e
 ·have hs:∀ j,some j∈own.set i none->some j∈own:=λj hj=>by
   rcases Own.other h.nodup hi hj with e|⟨e,_⟩
   ·cases e
   ·exact e
  refine(h.sat.fewer hs).gh λj hj p hp=>?_;obtain⟨_,a,b⟩:=h.sat.has j (hs j hj) p hp;have hne:p.1≠k.g:=λe=>b (e▸Own.mem_ids hm);show(if p.1=k.g then _ else _)=_;rw[if_neg hne];exact a
theorem St.fewer{w:World}{g:Gh}{own own':Own}(h:St w g own)(hn:own'.ids.Nodup)(hs:∀k,some k∈own'->some k∈own):St w g own':=
 ⟨h.r,hn,λk hk=>h.has k (hs k hk),λk hk=>h.free k (hs k hk),h.sat.fewer hs⟩
abbrev Sl:=List (Nat×Value)
variable{sl fr:Sl}
def getS:Sl->Nat->Option Value
 | [],_=>none
 |(k,v)::l,t=>cond (bD k t) (some v) (getS l t)
structure Fr(n:Nat)(a:Act)(sl:Sl):Prop where
 size:a.tmps.size=n
 defers:a.defers=[]
 at_:∀t v,getS sl t=some v->a.tmps[t]? =some v
theorem Fr.put{n:Nat}{a:Act}{sl:Sl}(h:Fr n a sl){d:Nat}(hd:d<n)(v:Value):Fr n (a.put (some d) v) ((d,v)::sl):=by
 refine⟨by simp[Act.put,h.size],h.defers,λt u hu=>?_⟩
 simp only[getS]at hu;simp only[Act.put];cases hb:bD d t with
 |true=>
  rw[hb]at hu;have e:=aL hb;subst e;have hu:v=u:=by simpa using hu
  subst hu;simp[h.size,hd]
 |false=>
  rw[hb]at hu;have hne:d≠t:=λe=>by subst e;simp at hb
  rw[Array.getElem?_setIfInBounds_ne hne];exact h.at_ t u (by simpa using hu)
def evS(sl:Sl):Operand->Option Value
 | .tmp t=>getS sl t
 | .const v=>some v
 | .global g=>some (.pointer (some ⟨g,0,none⟩))
 | .func f=>some (.func (.func f) #[] #[])
theorem Fr.ev{n:Nat}{a:Act}(h:Fr n a sl)(hx:evS sl x=some v):a.eval x=v:=by
 cases x with
 |tmp t=>simp only[evS]at hx;simp[Act.eval,aZ,h.at_ t v hx]
 |const c=>simpa[evS,Act.eval]using hx
 |global c=>simpa[evS,Act.eval]using hx
 |func c=>simpa[evS,Act.eval]using hx
theorem Fr.evs{n:Nat}{a:Act}{sl:Sl}(h:Fr n a sl):∀{xs:List Operand}{vs:List Value},xs.map (evS sl)=vs.map some->xs.map a.eval=vs
 | [],[],_=>rfl
 |x::xs,v::vs,e=>by simp only[bG,List.cons.injEq]at e;rw[bG,h.ev e.1,h.evs e.2]
 | [],_::_,e=>by simp at e
 |_::_,[],e=>by simp at e
theorem Fr.sub{n:Nat}{a:Act}{sl':Sl}(h:Fr n a sl)(hs:sl'.map (λp=>getS sl p.1)=sl'.map (λp=>some p.2)):Fr n a sl':=by
 refine⟨h.size,h.defers,λt v hv=>?_⟩
 have:∀l:Sl,l.map (λp=>getS sl p.1)=l.map (λp=>some p.2)->∀t v,getS l t=some v->getS sl t=some v:=by
  intro l;induction l with
  |nil=>intro _ t v h;cases h
  |cons p l ih=>
   intro e t v h;simp only[bG,List.cons.injEq]at e;obtain⟨k,u⟩:=p;simp only[getS]at h;cases hb:bD k t with
   |true=>
    rw[hb]at h;have e':=aL hb;subst e';have:u=v:=by simpa using h
    subst this;exact e.1
   |false=>rw[hb]at h;exact ih e.2 t v (by simpa using h)
 exact h.at_ t v (this sl' hs t v hv)
def sub:Code->List Nat->Code
 |c,[]=>c
 | .seq a _,0::p=>sub a p
 | .seq _ b,_::p=>sub b p
 | .cond _ a _,0::p=>sub a p
 | .cond _ _ b,_::p=>sub b p
 | .block _ c,_::p=>sub c p
 | .loop c,_::p=>sub c p
 | .scope c,_::p=>sub c p
 |_,_=> .skip
def opAt(ops:Array Oper)(i:Nat):Option (Option Tmp×Op×TypeId×Option (Nat×Bool)):=ops[i]?.map λo=>(o.dst,o.op,o.type,o.guard)
structure Runs(ops:Array Oper)(i:Nat)(sl:Sl)(dst:Option Tmp)(op:Op)(ty:TypeId):Prop where
 out:∃o,ops[i]? =some o/\o.dst=dst/\o.op=op/\o.type=ty/\∀n a,Fr n a sl->Region.wanted o (yielded ops a.tmps)=true
theorem UA{x:Option Tmp×Op×TypeId×Option (Nat×Bool)}(h:opAt ops i=some x):∃o,ops[i]? =some o/\o.dst=x.1/\o.op=x.2.1/\o.type=x.2.2.1/\o.guard=x.2.2.2:=by
 unfold opAt at h;cases e:ops[i]? with
 |none=>rw[e]at h;cases h
 |some o=>rw[e]at h;simp at h;subst h;exact⟨o,rfl,rfl,rfl,rfl,rfl⟩
theorem Runs.plain{dst:Option Tmp}{ty:TypeId}(h:opAt ops i=some (dst,op,ty,none)):Runs ops i sl dst op ty:=by obtain⟨o,h1,h2,h3,h4,h5⟩:=UA h;exact⟨o,h1,h2,h3,h4,λn a _=>by simp only at h5;simp[Region.wanted,h5]⟩
def dstAt(ops:Array Oper)(j:Nat):Option Tmp:=(ops[j]?).bind (·.dst)
theorem QQ{n:Nat}{a:Act}(h:Fr n a sl){t:Nat}{b:Bool}(hj:dstAt ops j=some t)(hb:getS sl t=some (.bool b)):yielded ops a.tmps j=some b:=by
 have h1:=h.at_ t _ hb;unfold dstAt at hj;cases e:ops[j]? with
 |none=>rw[e]at hj;cases hj
 |some o=>
  rw[e]at hj;have hj:o.dst=some t:=hj;simp[yielded,e,hj,h1]
structure Skips(ops:Array Oper)(i:Nat)(sl:Sl)(dst:Option Tmp):Prop where
 out:∃o,ops[i]? =some o/\o.dst=dst/\∀n a,Fr n a sl->Region.wanted o (yielded ops a.tmps)=false
section
variable{n:Nat}
def WPq(K:Act->World->Prop)(n:Nat)(g:Gh)(own:Own)(sl:Sl):Prop:=∀a w,Fr n a sl->St w g own->K a w
abbrev WPr(P:Program)(ops:Array Oper)(Q:Exit->Act->World->Prop)(n i:Nat)(g:Gh)(own:Own)(sl:Sl):Prop:=WPq (wpOps P ops Q (dK i (ops.size-i))) n g own sl
abbrev WPc(P:Program)(c:Code)(Q:Exit->Act->World->Prop)(n:Nat)(g:Gh)(own:Own)(sl:Sl):Prop:=WPq (Code.wp P c Q) n g own sl
theorem JS{o:Oper}(h:ops[i]? =some o):dK i (ops.size-i)=i::dK (i+1) (ops.size-(i+1)):=by have hlt:i<ops.size:=(bI.1 h).1;rw[show ops.size-i=(ops.size-(i+1))+1 by omega,List.range'_succ]
structure Rdw(w:World)(p:Psi)(own:Own):Prop where
 r:p.In w
 has:Has w own
theorem St.rdw{own:Own}(h:St w g own):Rdw w g.r own:=⟨h.r,h.has⟩
def Yld(P:Program)(n:Nat)(p:Psi)(own:Own)(sl:Sl)(op:Op)(ty:TypeId)(v:Value):Prop:=
 ∀(o:Oper) a w,o.op=op->o.type=ty->Fr n a sl->Rdw w p own->(execOp a.eval o).run P w= .ok (.value v) w
def Eff(P:Program)(n:Nat)(g:Gh)(own:Own)(sl:Sl)(op:Op)(ty:TypeId)(R:Value->Gh->Own->Prop):Prop:=
 ∀(o:Oper) a w(Q:Exit->Act->World->Prop)(K:Act->World->Prop),o.op=op->o.type=ty->Fr n a sl->St w g own->
  (∀v g' own' w',g.le g'->St w' g' own'->R v g' own'->K (a.put o.dst v) w')->Oper.wp P o a w K Q
theorem Vx{own:Own}(t:Nat)(v':Value)(ht:getS sl t=some v)(e:v=v')(k:WPq K n g own ((t,v')::sl)):WPq K n g own sl:=by
 subst e;refine λa w hf hs=>k a w ⟨hf.size,hf.defers,λs u hu=>?_⟩ hs;simp only[getS]at hu;cases hb:bD t s with
 |true=>
  rw[hb]at hu;have e:=aL hb;subst e;exact hf.at_ _ _ (by rw[ht];simpa using hu)
 |false=>rw[hb]at hu;exact hf.at_ _ _ (by simpa using hu)
theorem UB{own:Own}(t:Nat){b:Bool}(ht:getS sl t=some (.bool b))(h1:b=true->WPq K n g own ((t,.bool true)::sl))(h0:b=false->WPq K n g own ((t,.bool false)::sl)):WPq K n g own sl:=by
 cases hb:b with
 |true=>exact Vx t (.bool true) (by rw[ht,hb]) rfl (h1 hb)
 |false=>exact Vx t (.bool false) (by rw[ht,hb]) rfl (h0 hb)
theorem QR{c:Code}{id:Nat}{own:Own}(h:c= .region id ops false)(k:WPr P ops Q n 0 g own sl):WPc P c Q n g own sl:=by
 subst h;intro a w hf hs;refine wp_region ?_;have:=k a w hf hs
 rwa [Nat.sub_zero,<-List.range_eq_range']at this
theorem Abi{c x y:Code}{own:Own}(h:c= .seq x y)(k:WPc P x (Exit.then (λa w=>y.wp P Q a w) Q) n g own sl):WPc P c Q n g own sl:=by subst h;exact λa w hf hs=>wp_seq (k a w hf hs)
theorem Vy{c:Code}{own:Own}(h:c= .skip)(k:WPq (Q .normal) n g own sl):WPc P c Q n g own sl:=by subst h;exact λa w hf hs=>wp_skip (k a w hf hs)
theorem Vz{c:Code}{id:Nat}{own:Own}(h:c= .exit id)(k:WPq (Q (.exit id)) n g own sl):WPc P c Q n g own sl:=by subst h;exact λa w hf hs=>wp_exit (k a w hf hs)
theorem UC{c x:Code}{id:Nat}{own:Own}(h:c= .block id x)(k:WPc P x (Exit.inBlock id Q) n g own sl):WPc P c Q n g own sl:=by subst h;exact λa w hf hs=>wp_block (k a w hf hs)
theorem El{c x y:Code}{o:Operand}{b:Bool}{own:Own}(h:c= .cond o x y)(hb:evS sl o=some (.bool b))(k1:b=true->WPc P x Q n g own sl)(k0:b=false->WPc P y Q n g own sl):WPc P c Q n g own sl:=by subst h;exact λa w hf hs=>wp_cond_split (hf.ev hb) (λe=>k1 e a w hf hs) (λe=>k0 e a w hf hs)
theorem QS{id:Nat}{own:Own}(k:WPq (Q .normal) n g own sl):WPq (Exit.inBlock id Q (.exit id)) n g own sl:=by
 intro a w hf hs;show if id=id then _ else _
 rw[if_pos rfl];exact k a w hf hs
theorem QT{id id':Nat}{own:Own}(hne:bD id' id=false)(k:WPq (Q (.exit id')) n g own sl):WPq (Exit.inBlock id Q (.exit id')) n g own sl:=by
 intro a w hf hs;have:id'≠id:=λe=>by subst e;simp at hne
 show if id'=id then _ else _
 rw[if_neg this];exact k a w hf hs
theorem VA {c x:Code} {own:Own} (h:c = .loop x) (I:Gh->Own->Sl->Nat->Prop) (m0:Nat) (h0:I g own sl m0)
  (round:∀g1 own1 sl1 m,g.le g1->I g1 own1 sl1 m->∀Qr:Act->World->Prop,(∀g2 own2 sl2 m',g1.le g2->m'<m->I g2 own2 sl2 m'->WPq Qr n g2 own2 sl2)->WPc P x (Exit.then Qr Q) n g1 own1 sl1):WPc P c Q n g own sl:=by
 subst h;intro a w hf hs;refine wp_loop_ghost (λm a w=>∃g2 own2 sl2,g.le g2/\I g2 own2 sl2 m/\Fr n a sl2/\St w g2 own2) m0 ⟨g,own,sl,.refl g,h0,hf,hs⟩ ?_;rintro m a w ⟨g1,own1,sl1,hle,hI,hf,hs⟩;exact round g1 own1 sl1 m hle hI _ (λg2 own2 sl2 m' hle' hlt hI' a w hf hs=>⟨m',hlt,g2,own2,sl2,hle.trans hle',hI',hf,hs⟩) a w hf hs
end
def rhoS(sl:Sl)(x:Operand):Value:=(evS sl x).getD undef
def bareO (op:Op) (ty:TypeId):Oper:=⟨none,op,ty, "", #[],none⟩
def notSel:Op->Bool
 | .select ..=>false
 |_=>true
def defd(sl:Sl)(op:Op):Bool:=notSel op&&op.operands.toList.all λx=>(evS sl x).isSome
section
variable{n:Nat}{own:Own}{ty:TypeId}
theorem UD(o:Oper)(h1:o.op=op)(h2:o.type=ty)(ρ:Operand->Value):execOp ρ o=execOp ρ (bareO op ty):=by subst h1;subst h2;rfl
theorem UE(h:notSel op=true)(cs:Array SelectCase)(b:Bool):op≠.select cs b:=by intro e;subst e;cases h
theorem VB{a:Act}(hd:defd sl op=true)(hf:Fr n a sl):execOp a.eval (bareO op ty)=execOp (rhoS sl) (bareO op ty):=by simp only[defd,bU,cW]at hd;refine execOp_congr _ (UE hd.1) λx hx=>?_;have:=hd.2 x (by simpa[bareO]using hx);obtain⟨v,hv⟩:=cU.1 this;rw[hf.ev hv];simp[rhoS,hv]
theorem QU(hd:defd sl op=true)(h:∀w,Rdw w p own->(execOp (rhoS sl) (bareO op ty)).run P w= .ok (.value v) w):Yld P n p own sl op ty v:=by intro o a w h1 h2 hf hr;rw[UD o h1 h2,VB hd hf];exact h w hr
theorem Em{op:BinOp}{vx vy:Value}(hx:evS sl x=some vx)(hy:evS sl y=some vy):defd sl (.binOp op t x y u)=true:=by simp[defd,notSel,Op.operands,hx,hy]
def inK(k:IntKind)(z:Int):Prop:=k.min<=z/\z<=k.max
theorem AgC {k:IntKind} {a b c:Int} (hx:evS sl x=some (.int k a)) (hy:evS sl y=some (.int k b)) (h0:b≠0) (h:k.wrap (a.tdiv b)=c) :
  Yld P n p own sl (.binOp .quo t x y u) ty (.int k c):=by
 refine QU (Em hx hy) λw _=>?_;simp[execOp,bareO,rhoS,hx,hy,eqGuard,binOp,Op.intDiv,h0,h]
theorem AgD {k:IntKind} {a b c:Int} (hx:evS sl x=some (.int k a)) (hy:evS sl y=some (.int k b)) (h0:b≠0) (h:a.tmod b=c) :
  Yld P n p own sl (.binOp .rem t x y u) ty (.int k c):=by
 refine QU (Em hx hy) λw _=>?_;simp[execOp,bareO,rhoS,hx,hy,eqGuard,binOp,Op.intDiv,h0,h]
theorem AgE {k k2:IntKind} {a b c:Int} (hx:evS sl x=some (.int k a)) (hy:evS sl y=some (.int k2 b)) (h0:0<=b) (h:k.wrap (a*2 ^ (min b.toNat k.bits))=c) :
  Yld P n p own sl (.binOp .shl t x y u) ty (.int k c):=by
 refine QU (Em hx hy) λw _=>?_;have h1:¬b<0:=by omega
 simp[execOp,bareO,rhoS,hx,hy,eqGuard,binOp,Op.shift,h1,<-h]
theorem AgF {k k2:IntKind} {a b c:Int} (hx:evS sl x=some (.int k a)) (hy:evS sl y=some (.int k2 b)) (h0:0<=b) (h:a.fdiv (2 ^ (min b.toNat k.bits))=c) :
  Yld P n p own sl (.binOp .shr t x y u) ty (.int k c):=by
 refine QU (Em hx hy) λw _=>?_;have h1:¬b<0:=by omega
 simp[execOp,bareO,rhoS,hx,hy,eqGuard,binOp,Op.shift,h1,<-h]
theorem AdU {src dst:TypeId} {k k2:IntKind} {a c:Int} (hx:evS sl x=some (.int k a)) (h1:(P.underlying src).isSome=true) (h2:P.underlying dst=some (.int k2)) (h:k2.wrap a=c) :
  Yld P n p own sl (.convert src dst x) ty (.int k2 c):=by
 refine QU (by simp[defd,notSel,Op.operands,hx]) λw _=>?_;obtain⟨d,hd⟩:=cU.1 h1;simp[execOp,bareO,rhoS,hx,convert,run_underlying hd,run_underlying h2,Conv.intToInt,h]
theorem Abj {c:Operand} (hc:evS sl c=some (.bool true)) (hx:evS sl x=some v) :
  Yld P n p own sl (.pick c x y) ty v:=by
 intro o a w h1 h2 hf hr;simp[execOp,h1,hf.ev hc,hf.ev hx,asBool]
theorem Abk {c:Operand} (hc:evS sl c=some (.bool false)) (hy:evS sl y=some v) :
  Yld P n p own sl (.pick c x y) ty v:=by
 intro o a w h1 h2 hf hr;simp[execOp,h1,hf.ev hc,hf.ev hy,asBool]
theorem AdV(hx:evS sl x=some v):Yld P n p own sl (.move x) ty v:=by intro o a w h1 h2 hf hr;simp[execOp,h1,hf.ev hx]
theorem VC(hx:evS sl x=some v):Yld P n p own sl (.assign x) ty v:=by intro o a w h1 h2 hf hr;simp[execOp,h1,hf.ev hx]
def aggOf(P:Program)(t:TypeId):Option Nat:=
 match P.underlying t,P.info? t with
 |some (.struct _),some i=>some i.size
 |some (.array _ _),some i=>some i.size
 |_,_=>none
def flatOf(P:Program)(t:TypeId):Bool:=
 match P.underlying t,P.info? t with
 |some (.struct _),_=>false
 |some (.array _ _),_=>false
 |some _,some i=>i.size==1
 |_,_=>false
theorem EJ(h:aggOf P t=some m)(w:World):(isAgg t).run P w= .ok true w/\(sizeOf t).run P w= .ok m w:=by
 unfold aggOf at h;split at h<;>(try cases h)
 ·rename_i fs i h1 h2;have h3:=run_underlying (w:=w) h1;constructor
  ·simp[isAgg,h3]
  ·simp[sizeOf,typeInfo,program,Sem.run,bind,Sem.bind,h2,pure]
 ·rename_i fs e i h1 h2;have h3:=run_underlying (w:=w) h1;constructor
  ·simp[isAgg,h3]
  ·simp[sizeOf,typeInfo,program,Sem.run,bind,Sem.bind,h2,pure]
theorem DI(h:flatOf P t=true)(w:World):(isAgg t).run P w= .ok false w/\(sizeOf t).run P w= .ok 1 w:=by
 unfold flatOf at h;split at h<;>(try cases h)
 rename_i d i hs ha h1 h2;have h3:=run_underlying (w:=w) h1;constructor
 ·cases d<;>first|(exact absurd rfl (ha _ _))|(exact absurd rfl (hs _))|simp[isAgg,h3]
 ·have h:i.size=1:=by simpa using h
  simp[sizeOf,typeInfo,program,Sem.run,bind,Sem.bind,h2,pure,h]
theorem GY {w:World} {a:Addr}:∀ {cs:List Value} (i:Nat) (acc:Array Value),(∀ j v,cs[j]? = some v->w.cell? (a.add (i+j))=some v) ->
  (loadCellsFrom a i cs.length acc).run P w= .ok (acc++cs.toArray) w
 | [],i,acc,_=>by simp[loadCellsFrom]
 |c::cs,i,acc,h=>by
  have h0:=h 0 c rfl;rw[Nat.add_zero]at h0;have ih:=GY (w:=w) (a:=a) (cs:=cs) (i+1) (acc.push c) (λj v hj=>by
   have:=h (j+1) v (by simpa using hj)
   rwa [show i+(j+1)=i+1+j by omega]at this)
  simp only[bB,loadCellsFrom,load];simp only[bind,Sem.bind,Sem.run,h0,pure];refine ih.trans ?_;simp
theorem En(h:∀j v,cs[j]? =some v->w.cell? (a.add j)=some v):(loadCells a cs.length).run P w= .ok cs.toArray w:=by have:=GY (P:=P) (w:=w) (a:=a) (cs:=cs) 0 #[] (λj v hj=>by rw[cK];exact h j v hj);simpa[loadCells]using this
theorem Ds(ht:aggOf P t=some cs.length)(h:∀j v,cs[j]? =some v->w.cell? (a.add j)=some v):(loadVar t a).run P w= .ok (.agg cs.toArray) w:=by obtain⟨h1,h2⟩:=EJ ht w;simp[loadVar,h1,h2,En h]
theorem CK(ht:flatOf P t=true)(h:w.cell? a=some v):(loadVar t a).run P w= .ok v w:=by obtain⟨h1,h2⟩:=DI ht w;simp[loadVar,h1,load,Sem.run,h]
theorem AF(g off j:Nat):(⟨g,off,none⟩:Addr).add j=⟨g,off+j,none⟩:=by
 unfold Addr.add;split
 ·rename_i h;subst h;rfl
 ·rfl
theorem Bu{l:List α}{v:α}(h:((l.drop off).take m)[j]? =some v):l[off+j]? =some v:=by
 rw[List.getElem?_take]at h;split at h
 ·rwa [List.getElem?_drop]at h
 ·cases h
theorem MJ {g:Nat} {k:Bk} (hx:evS sl x=some (.pointer (some ⟨g,off,none⟩))) (hi:own[i]? = some (some k)) (hg:k.g=g) (ht:flatOf P t=true) (hv:k.cs[off]? = some v) :
  Yld P n p own sl (.load t x) ty v:=by
 intro o a w h1 h2 hf hr;subst hg;simp[execOp,h1,hf.ev hx,Instr.loadAt,Instr.sureAddr,CK ht ((hr.has.cell (Own.get_mem hi) off).trans hv)]
theorem Sq {g:Nat} {k:Bk} (hx:evS sl x=some (.pointer (some ⟨g,off,none⟩))) (hi:own[i]? = some (some k)) (hg:k.g=g) (ht:aggOf P t=some cs.length) (hv:(k.cs.drop off).take cs.length=cs) :
  Yld P n p own sl (.load t x) ty (.agg cs.toArray):=by
 intro o a w h1 h2 hf hr;subst hg;have:(loadVar t ⟨k.g,off,none⟩).run P w= .ok (.agg cs.toArray) w:=Ds ht λj v hj=>by rw[AF,hr.has.cell (Own.get_mem hi)];rw[<-hv]at hj;exact Bu hj
 simp[execOp,h1,hf.ev hx,Instr.loadAt,Instr.sureAddr,this]
end
section
variable{n:Nat}{own:Own}{ty:TypeId}
theorem Adx (hx:evS sl x=some v) (hc:v.cells=cs.toArray) :
  Eff P n g own sl (.box t x) ty (λv' g' own'=>∃b,v'= .pointer (some ⟨b,0,none⟩)/\g=g'/\own'=some ⟨b,t,cs⟩::own):=by
 intro o a w Q K h1 h2 hf hs h;have:(execOp a.eval o).run P w= .ok (.value (.pointer (some ⟨w.heap.size,0,none⟩))) (w.alloc (.cells cs.toArray t)):=by simp[execOp,h1,hf.ev hx,Instr.box,newVar,newRow,newObj,hc,Sem.run]
 unfold Oper.wp;rw[this];exact h _ _ _ _ (.refl g) (hs.alloc t cs) ⟨_,rfl,rfl,rfl⟩
def zeroOf(P:Program)(t:TypeId):Option (Array Value):=((P.info? t).bind (·.zero)).map Value.cells
theorem Sr (hz:zeroOf P t=some cs.toArray) :
  Eff P n g own sl (.alloc t) ty (λv' g' own'=>∃b,v'= .pointer (some ⟨b,0,none⟩)/\g=g'/\own'=some ⟨b,t,cs⟩::own):=by
 intro o a w Q K h1 h2 hf hs h;unfold zeroOf at hz;cases e:P.info? t with
 |none=>rw[e]at hz;cases hz
 |some i=>
  rw[e]at hz;cases e2:i.zero with
  |none=>simp[e2]at hz
  |some z=>
   have hz:z.cells=cs.toArray:=by simpa[e2]using hz
   have hzv:(zeroValue t).run P w= .ok z w:=by simp[zeroValue,typeInfo,program,Sem.run,bind,Sem.bind,e,e2,pure]
   have:(execOp a.eval o).run P w= .ok (.value (.pointer (some ⟨w.heap.size,0,none⟩))) (w.alloc (.cells cs.toArray t)):=by simp[execOp,h1,Instr.alloc,hzv,newVar,newRow,newObj,hz,Sem.run]
   unfold Oper.wp;rw[this];exact h _ _ _ _ (.refl g) (hs.alloc t cs) ⟨_,rfl,rfl,rfl⟩
def Ig:Value->Bool
 | .agg _=>false
 | .tuple _=>false
 |_=>true
def setRow(cs:List Value)(off:Nat):List Value->List Value
 | []=>cs
 |v::vs=>setRow (cs.set off v) (off+1) vs
theorem Ed(vs:List Value):∀(cs:List Value)(off:Nat),(setRow cs off vs).length=cs.length:=by
 induction vs with
 |nil=>intro cs off;rfl
 |cons v vs ih=>intro cs off;simp[setRow,ih]
theorem QV{c:Value}(h1:Ig v=true)(hc:w.cell? a=some c)(hz:w.frozen? a=false):(store a v).run P w= .ok () (w.setCell a v):=by cases v<;>first|(cases h1;done)|simp[store,Sem.run,hc,hz]
theorem Bj {i:Nat} {k:Bk}:∀ {vs:List Value} {w:World} {own:Own} {off:Nat} (cs:List Value) (s:Nat),St w g own->own[i]? = some (some ⟨k.g,k.t,cs⟩)->(∀ v∈vs,Ig v=true)->off+s+vs.length<=cs.length ->
  ∃w',(storeCells ⟨k.g,off,none⟩ vs s).run P w= .ok () w'/\St w' g (own.set i (some ⟨k.g,k.t,setRow cs (off+s) vs⟩))
 | [],w,own,off,cs,s,hs,hi,_,_=>by
  refine⟨w,by simp[storeCells],?_⟩
  have:own.set i (some ⟨k.g,k.t,setRow cs (off+s) []⟩)=own:=by
   apply bC;intro j;rw[aB];split
   ·rename_i e;subst e;split
    ·exact hi.symm
    ·rename_i hlt;rw[aD (by omega)]
   ·rfl
  rw[this];exact hs
 |v::vs,w,own,off,cs,s,hs,hi,h1,hl=>by
  simp only[bB]at hl;have hm:=Own.get_mem hi;have hcell:=hs.has.cell hm (off+s);have hlt:off+s<cs.length:=by omega
  obtain⟨c,hc⟩:∃c,cs[off+s]? =some c:=⟨_,aK hlt⟩
  have hst:=QV (P:=P) (w:=w) (a:=⟨k.g,off+s,none⟩) (v:=v) (h1 v (aI ..)) (hcell.trans hc) (hs.has.frozen hm _ hlt);have hs1:=hs.store hi (off+s) v;have hil:i<own.length:=by
   rcases aU i own.length with h2|h2
   ·exact h2
   ·rw[aD h2]at hi;cases hi
  obtain⟨w',e,hs'⟩:=Bj (i:=i) (k:=k) (vs:=vs) (own:=own.set i (some ⟨k.g,k.t,cs.set (off+s) v⟩)) (off:=off) (cs.set (off+s) v) (s+1) hs1 (by simp[aB,hil])
   (λu hu=>h1 u (aF _ hu)) (by simp;omega)
  refine⟨w',?_,?_⟩
  ·simp[storeCells,AF,hst,e]
  ·rw[List.set_set]at hs';rw[show off+(s+1)=off+s+1 by omega]at hs';exact hs'
theorem Ih {k:Bk} {vs:List Value} (hs:St w g own) (hi:own[i]? = some (some k)) (hz:(sizeOf t).run P w = .ok vs.length w) (hv:v.cells=vs.toArray) (h1:vs.all Ig=true) (hl:off+vs.length<=k.cs.length) :
  ∃w',(storeVar t ⟨k.g,off,none⟩ v).run P w= .ok () w'/\St w' g (own.set i (some ⟨k.g,k.t,setRow k.cs off vs⟩)):=by
 obtain⟨w',e,hs'⟩:=Bj (P:=P) (g:=g) (i:=i) (k:=k) (vs:=vs) (own:=own) (off:=off) k.cs 0 hs hi (by simpa using h1) (by omega);refine⟨w',?_,hs'⟩
 simp[storeVar,hz,hv,e]
def cellsOfT(P:Program)(t:TypeId):Option Nat:=(P.info? t).map (·.size)
theorem AE(h:cellsOfT P t=some m)(w:World):(sizeOf t).run P w= .ok m w:=by
 unfold cellsOfT at h;cases e:P.info? t with
 |none=>rw[e]at h;cases h
 |some i=>
  rw[e]at h;have h:i.size=m:=by simpa using h
  simp[sizeOf,typeInfo,program,Sem.run,bind,Sem.bind,e,pure,h]
theorem Jn {k:Bk} {vs cs':List Value} (hx:evS sl x=some (.pointer (some ⟨b,off,none⟩))) (hy:evS sl y=some v) (hi:own[i]? = some (some k)) (hg:k.g=b)
  (hv:v.cells=vs.toArray) (hz:cellsOfT P t=some vs.length) (h1:vs.all Ig=true) (hl:bN (off+vs.length) k.cs.length=true) (hc:setRow k.cs off vs=cs'):
  Eff P n g own sl (.store t x y) ty (λv' g' own'=>g=g'/\own'=own.set i (some ⟨b,k.t,cs'⟩)):=by
 intro o a w Q K e1 e2 hf hs h;subst hg;subst hc;obtain⟨w',e,hs'⟩:=Ih (P:=P) (t:=t) (off:=off) (v:=v) hs hi (AE hz w) hv h1 (by simpa using hl);have:(execOp a.eval o).run P w= .ok .skip w':=by simp[execOp,e1,hf.ev hx,hf.ev hy,Instr.storeAt,Instr.sureAddr,e]
 unfold Oper.wp;rw[this];exact h undef g _ _ (.refl g) hs' ⟨rfl,rfl⟩
end
def Ctr(P:Program)(f:FuncId)(args:List Value)(g:Gh)(own:Own)(post:Value->Psi->Own->Prop):Prop:=
 ∀w,St w g own->Calls P f args.toArray w λe w'=>∃v g' own',e= .returned v/\g.le g'/\St w' g' own'/\post v g'.b own'
theorem Ctr.mono{P:Program}{f:FuncId}{args:List Value}{g:Gh}{own:Own}{post post':Value->Psi->Own->Prop}(h:Ctr P f args g own post)(hp:∀v p o,g.b.le p->post v p o->post' v p o):Ctr P f args g own post':=
 λw hs=>(h w hs).mono λe w' ⟨v,g',own',he,hle,hs',h1⟩=>⟨v,g',own',he,hle,hs',hp _ _ _ hle.b h1⟩
theorem Own.ids_perm{a b:Own}(h:a.Perm b):(Own.ids a).Perm (Own.ids b):=h.filterMap _
theorem St.perm{own:Own}(h:St w g own)(hp:own.Perm own'):St w g own':=
 h.fewer ((Own.ids_perm hp).nodup_iff.1 h.nodup) λk hk=>hp.mem_iff.2 hk
def Own.sats(o:Own):List (Nat×Obj):=o.flatMap λx=>match x with|some k=>k.sat|none=>[]
theorem Own.mem_sats{q:Nat×Obj}:q∈o.sats↔∃k,some k∈o/\q∈k.sat:=by
 unfold Own.sats;rw[List.mem_flatMap];constructor
 ·rintro⟨x,hx,hq⟩;cases x with
  |none=>cases hq
  |some k=>exact⟨k,hx,hq⟩
 ·rintro⟨k,hk,hq⟩;exact⟨some k,hk,hq⟩
def Psi.addAll(p:Psi)(rest:Own):Psi:={ p with m:=λb=>match rest.find? (λx=>match x with|some k=>k.g==b|none=>false)with|some (some k)=>some k.obj|_=>(match rest.sats.find? (λq=>q.1==b)with|some q=>some q.2|none=>p.m b) }
theorem FL(hn:rest.ids.Nodup){k:Bk}(hk:some k∈rest):(p.addAll rest).m k.g=some k.obj:=by
 have:rest.find? (λx=>match x with|some j=>j.g==k.g|none=>false)=some (some k):=by
  induction rest with
  |nil=>cases hk
  |cons x l ih=>
   rw[Own.ids_cons]at hn;cases x with
   |none=>
    simp only[List.find?_cons];rcases aA.1 hk with e|e
    ·cases e
    ·exact ih (by simpa using hn) e
   |some j=>
    simp only[List.find?_cons];rcases aA.1 hk with e|e
    ·injection e with e;subst e;simp
    ·have hne:j.g≠k.g:=λeq=>by simp at hn;exact hn.1 (eq▸Own.mem_ids e)
     have:(j.g==k.g)=false:=by simpa using hne
     rw[this];exact ih (by simp at hn;exact hn.2) e
 simp[Psi.addAll,this]
theorem LW(h:∀k,some k∈rest->k.g≠b):rest.find? (λx=>match x with|some j=>j.g==b|none=>false)=none:=by
 rw[cN];intro x hx;cases x with
 |none=>simp
 |some k=>simpa using h k hx
theorem EK(h:∀k,some k∈rest->k.g≠b)(h2:∀k,some k∈rest->∀q∈k.sat,q.1≠b):(p.addAll rest).m b=p.m b:=by
 have h3:rest.sats.find? (λq=>q.1==b)=none:=by rw[cN];intro q hq;obtain⟨k,hk,hq⟩:=Own.mem_sats.1 hq;simpa using h2 k hk q hq
 simp[Psi.addAll,LW h,h3]
theorem Gx{own:Own}(hn:rest.ids.Nodup)(hs:Sat w g own)(hr:∀k,some k∈rest->some k∈own){k:Bk}(hk:some k∈rest){q:Nat×Obj}(hq:q∈k.sat):(p.addAll rest).m q.1=some q.2:=by
 have h1:rest.find? (λx=>match x with|some j=>j.g==q.1|none=>false)=none:=LW λj hj e=>(hs.has k (hr k hk) q hq).2.2 (e▸Own.mem_ids (hr j hj));have h3:rest.sats.find? (λx=>x.1==q.1)=some q:=by
  cases e:rest.sats.find? (λx=>x.1==q.1)with
  |none=>
   have:=cN.1 e q (Own.mem_sats.2 ⟨k,hk,hq⟩);simp at this
  |some q'=>
   have e1:(q'.1==q.1)=true:=List.find?_some (p:=λx:Nat×Obj=>x.1==q.1) e;have e1:q'.1=q.1:=by simpa using e1
   obtain⟨j,hj,hq'⟩:=Own.mem_sats.1 (List.mem_of_find?_eq_some e);by_cases hg:j.g=k.g
   ·have:=Own.uniq hn hj hk hg;subst this;have hnd:=hs.each j (hr j hj);have:q'=q:=by
     clear h1 e;generalize j.sat=l at hq hq' hnd;induction l with
     |nil=>cases hq
     |cons x l ih=>
      simp only[bG,aP]at hnd;rcases aA.1 hq with a|a
      ·rcases aA.1 hq' with b|b
       ·rw[a,b]
       ·subst a;exact absurd (e1▸dI (f:=(·.1)) b) hnd.1
      ·rcases aA.1 hq' with b|b
       ·subst b;exact absurd (e1▸dI (f:=(·.1)) a) hnd.1
       ·exact ih a b hnd.2
    rw[this]
   ·exact absurd e1 (hs.apart j k (hr j hj) (hr k hk) hg q' hq' q hq)
 simp[Psi.addAll,h1,h3]
theorem St.lend{sel:Own}(h:St w g (sel++rest)):∃gl:Gh,gl.r=g.r.addAll rest/\gl.b=g.b/\St w gl sel/\g.r.le gl.r:=by
 have hids:Own.ids (sel++rest)=Own.ids sel++Own.ids rest:=bR;have hn:=h.nodup;rw[hids,aO]at hn;obtain⟨n1,n2,n3⟩:=hn;have hR:∀k,some k∈rest->some k∈sel++rest:=λk hk=>aS _ hk;have hL:∀k,some k∈sel->some k∈sel++rest:=λk hk=>bW _ hk;have hle:g.r.le (g.r.addAll rest):=⟨rfl,rfl,rfl,λb o e=>by rw[EK (λk hk eq=>by have:=h.free k (hR k hk);rw[eq,e]at this;cases this) λk hk q hq eq=>by have:=(h.sat.has k (hR k hk) q hq).2.1;rw[eq,e]at this;cases this];exact e⟩
 refine⟨⟨g.r.addAll rest,g.b,g.br.trans hle⟩,rfl,rfl,⟨⟨h.r.os,h.r.tape,h.r.out,λb o e=>?_⟩,n1,λk hk=>h.has k (hL k hk),λk hk=>?_,(h.sat.fewer hL).gh λk hk q hq=>?_⟩,hle⟩
 ·by_cases hb:∃k,some k∈rest/\k.g=b
  ·obtain⟨k,hk,rfl⟩:=hb;have e:(g.r.addAll rest).m k.g=some o:=e;rw[FL n2 hk]at e;rw[<-e];exact h.has k (hR k hk)
  ·by_cases hb2:∃k,some k∈rest/\∃q∈k.sat,q.1=b
   ·obtain⟨k,hk,q,hq,rfl⟩:=hb2;have e:(g.r.addAll rest).m q.1=some o:=e;rw[Gx n2 h.sat hR hk hq]at e;rw[<-e];exact(h.sat.has k (hR k hk) q hq).1
   ·have e:(g.r.addAll rest).m b=some o:=e;rw[EK (λk hk eq=>hb ⟨k,hk,eq⟩) λk hk q hq eq=>hb2 ⟨k,hk,q,hq,eq⟩]at e;exact h.r.m b o e
 ·show(g.r.addAll rest).m k.g=none;rw[EK (λj hj eq=>n3 _ (Own.mem_ids hk) _ (Own.mem_ids hj) eq.symm) λj hj q hq eq=>(h.sat.has j (hR j hj) q hq).2.2 (by rw[eq];exact Own.mem_ids (hL k hk))];exact h.free k (hL k hk)
 ·show(g.r.addAll rest).m q.1=none;obtain⟨_,a,b⟩:=h.sat.has k (hL k hk) q hq;rw[EK (λj hj eq=>b (by rw[<-eq];exact Own.mem_ids (hR j hj))) λj hj q' hq' eq=>h.sat.apart k j (hL k hk) (hR j hj) (λeg=>n3 _ (Own.mem_ids hk) _ (Own.mem_ids hj) eg) q hq q' hq' eq.symm];exact a
def Psi.merge(p q:Psi):Psi:={ p with m:=λb=>match q.m b with|some o=>some o|none=>p.m b }
theorem St.unlend {gl g1:Gh} {sel sel':Own} (h:St w g (sel++rest)) (er:gl.r=g.r.addAll rest) (eb:gl.b=g.b) (hle:gl.le g1) (h':St w' g1 sel') (hl:g.r.le gl.r) :
  ∃g2:Gh,g2.b=g1.b/\g.le g2/\St w' g2 (sel'++rest):=by
 have hids:Own.ids (sel++rest)=Own.ids sel++Own.ids rest:=bR;have hids':Own.ids (sel'++rest)=Own.ids sel'++Own.ids rest:=bR;have hn:=h.nodup;rw[hids,aO]at hn;obtain⟨n1,n2,n3⟩:=hn;have hin:g.r.In w':=(h'.r.mono hle.r).mono hl;have hinb:g1.b.In w':=h'.r.mono g1.br;have hrest:∀k,some k∈rest->g1.r.m k.g=some k.obj:=λk hk=>hle.r.m _ _ (by rw[er];exact FL n2 hk);have hfree:∀k,some k∈rest->g1.b.m k.g=none:=λk hk=>by
  cases e:g1.b.m k.g with
  |none=>rfl
  |some o=>
   exfalso;rcases hle.apart k.g (by rw[e];simp)with h1|h1
   ·rw[eb]at h1;exact h1 (g.br.none_ (h.free k (aS _ hk)))
   ·rw[er,FL n2 hk]at h1;cases h1
 have hbr:g1.b.le (g.r.merge g1.b):=⟨hin.os.symm.trans hinb.os,hin.tape.symm.trans hinb.tape,hin.out.symm.trans hinb.out,λb o e=>by show(match g1.b.m b with|some o=>some o|none=>g.r.m b)=some o;rw[e]⟩
 have hle':g.le ⟨g.r.merge g1.b,g1.b,hbr⟩:=by
  refine⟨⟨rfl,rfl,rfl,λb o e=>?_⟩,eb▸hle.b,λk hk=>?_⟩
  ·show(match g1.b.m b with|some o=>some o|none=>g.r.m b)=some o;cases e2:g1.b.m b with
   |none=>exact e
   |some o2=>rw[<-hinb.m b o2 e2,hin.m b o e]
  ·rcases hle.apart k hk with h1|h1
   ·exact .inl (eb▸h1)
   ·exact .inr (hl.none_ h1)
 have hR:∀k,some k∈rest->some k∈sel++rest:=λk hk=>aS _ hk;have hsat:∀k,some k∈rest->∀q∈k.sat,g1.r.m q.1=some q.2:=λk hk q hq=>hle.r.m _ _ (by rw[er];exact Gx n2 h.sat hR hk hq);have hsfree:∀k,some k∈rest->∀q∈k.sat,g1.b.m q.1=none:=λk hk q hq=>by
  cases e:g1.b.m q.1 with
  |none=>rfl
  |some o=>
   exfalso;rcases hle.apart q.1 (by rw[e];simp)with h1|h1
   ·rw[eb]at h1;exact h1 (g.br.none_ (h.sat.has k (hR k hk) q hq).2.1)
   ·rw[er,Gx n2 h.sat hR hk hq]at h1;cases h1
 have hS:Sat w' ⟨g.r.merge g1.b,g1.b,hbr⟩ (sel'++rest):=by
  refine⟨λk hk q hq=>?_,λk hk=>?_,λk j hk hj hne p hp q hq=>?_⟩
  ·rcases aN.1 hk with e|e
   ·obtain⟨a,b,c⟩:=h'.sat.has k e q hq;refine⟨a,?_,λhm=>?_⟩
    ·show(match g1.b.m q.1 with|some o=>some o|none=>g.r.m q.1)=none;rw[g1.br.none_ b];exact(hl.trans hle.r).none_ b
    ·rw[hids']at hm;rcases aN.1 hm with e2|e2
     ·exact c e2
     ·obtain⟨j,hj,e3⟩:=Own.of_ids e2;rw[<-e3,hrest j hj]at b;cases b
   ·refine⟨h'.r.m _ _ (hsat k e q hq),?_,λhm=>?_⟩
    ·show(match g1.b.m q.1 with|some o=>some o|none=>g.r.m q.1)=none;rw[hsfree k e q hq];exact(h.sat.has k (hR k e) q hq).2.1
    ·rw[hids']at hm;rcases aN.1 hm with e2|e2
     ·obtain⟨j,hj,e3⟩:=Own.of_ids e2;have:=h'.free j hj;rw[e3,hsat k e q hq]at this;cases this
     ·exact(h.sat.has k (hR k e) q hq).2.2 (by rw[hids];exact aS _ e2)
  ·rcases aN.1 hk with e|e
   ·exact h'.sat.each k e
   ·exact h.sat.each k (hR k e)
  ·rcases aN.1 hk with e|e
   ·rcases aN.1 hj with e2|e2
    ·exact h'.sat.apart k j e e2 hne p hp q hq
    ·intro eq;have a:=(h'.sat.has k e p hp).2.1;rw[eq,hsat j e2 q hq]at a;cases a
   ·rcases aN.1 hj with e2|e2
    ·intro eq;have a:=(h'.sat.has j e2 q hq).2.1;rw[<-eq,hsat k e p hp]at a;cases a
    ·exact h.sat.apart k j (hR k e) (hR j e2) hne p hp q hq
 refine⟨⟨g.r.merge g1.b,g1.b,hbr⟩,rfl,hle',⟨⟨hin.os,hin.tape,hin.out,λb o e=>?_⟩,?_,λk hk=>?_,λk hk=>?_,hS⟩⟩
 ·have e:(match g1.b.m b with|some o=>some o|none=>g.r.m b)=some o:=e;cases e2:g1.b.m b with
  |none=>rw[e2]at e;exact hin.m b o e
  |some o2=>rw[e2]at e;rw[<-e];exact hinb.m b o2 e2
 ·rw[hids',aO];refine⟨h'.nodup,n2,λa ha b hb eq=>?_⟩
  obtain⟨k,hk,rfl⟩:=Own.of_ids ha;obtain⟨j,hj,rfl⟩:=Own.of_ids hb;have:=h'.free k hk;rw[eq,hrest j hj]at this;cases this
 ·rcases aN.1 hk with e|e
  ·exact h'.has k e
  ·exact h'.r.m _ _ (hrest k e)
 ·show(match g1.b.m k.g with|some o=>some o|none=>g.r.m k.g)=none;rcases aN.1 hk with e|e
  ·have h1:=h'.free k e;rw[g1.br.none_ h1];exact(hl.trans hle.r).none_ h1
  ·rw[hfree k e];exact h.free k (aS _ e)
section
variable{n:Nat}{own:Own}{ty:TypeId}
def enters(P:Program)(f:FuncId):Bool:=
 match P.funcs[f]? with
 | some fn=>fn.body.isSome&&!(fn.name == "runtime.NumGoroutine")
 |none=>false
theorem ET{f:FuncId}(h:enters P f=true)(args:Array Value)(w:World):(callFunc f args).run P w= .ok (.enter f args) w:=by
 unfold enters at h;cases e:P.funcs[f]? with
 |none=>rw[e]at h;cases h
 |some fn=>
  rw[e]at h;simp only[bU,Bool.not_eq_true']at h;have hb:fn.body.isNone=false:=by cases hb:fn.body<;>simp_all
  have h3:fn.name ≠ "runtime.NumGoroutine" := by simpa using h.2
  have h4:fn.body≠none:=by cases hb2:fn.body<;>simp_all
  simp[callFunc,program,bind,Sem.bind,Sem.run,e,pure];rw[if_neg h3,if_neg h4]
def Abl(P:Program)(f:FuncId)(args:List Value)(g:Gh)(post:Value->Psi->Prop):Prop:=Ctr P f args g [] (λv p o=>o=[]/\post v p)
theorem Abl.mono{f:FuncId}{args:List Value}{post post':Value->Psi->Prop}(h:Abl P f args g post)(hp:∀v p,g.b.le p->post v p->post' v p):Abl P f args g post':=
 Ctr.mono h λv p o hl ⟨h1,h2⟩=>⟨h1,hp v p hl h2⟩
def RetR(g:Gh)(post:Value->Psi->Own->Prop)(e:Ending)(w':World):Prop:=∃v g' own',e= .returned v/\g.le g'/\St w' g' own'/\post v g'.b own'
def Fin(P:Program)(fn:Func)(g:Gh)(post:Value->Psi->Own->Prop):Exit->Act->World->Prop:=bodyPost P fn (RetR g post)
def argS:Nat->List Value->Sl
 |_,[]=>[]
 |i,v::vs=>(i,v)::argS (i+1) vs
theorem VE{vs:List Value}:∀{i t:Nat}{v:Value},getS (argS i vs) t=some v->i<=t/\vs[t-i]? =some v:=by
 induction vs with
 |nil=>intro i t v h;cases h
 |cons u vs ih=>
  intro i t v h;simp only[argS,getS]at h;cases hb:bD i t with
  |true=>
   rw[hb]at h;have e:=aL hb;subst e;simpa using h
  |false=>
   rw[hb]at h;have hne:i≠t:=λe=>by subst e;simp at hb
   obtain⟨h1,h2⟩:=ih (i:=i+1) (t:=t) (v:=v) (by simpa using h);refine⟨by omega,?_⟩
   rw[show t-i=(t-(i+1))+1 by omega];simpa using h2
theorem AdW {f:FuncId} (fn:Func) (c:Code) (n:Nat) (vs:List Value) {post:Value->Psi->Own->Prop} (hf:P.funcs[f]? = some fn) (hb:fn.body=some c) (hn:fn.ntmps=n) (hl:bN vs.length n=true)
  (h:WPc P c (Fin P fn g post) n g own (argS 0 vs)):Ctr P f vs g own post:=by
 intro w hs;refine calls_of_wp hf hb ?_;refine h _ w ⟨?_,rfl,λt v hv=>?_⟩ hs
 ·have:vs.length<=n:=by simpa using hl
  simp[hn];omega
 ·obtain⟨_,h2⟩:=VE hv;have hlt:t<vs.length:=by
   rcases aU t vs.length with h3|h3
   ·exact h3
   ·rw[Nat.sub_zero,aD h3]at h2;cases h2
  rw[Array.getElem?_append_left (by simpa using hlt)];simpa using h2
def resRun(tmps:Array Value):ResultVar->Sem Value
 | .tmp t=>pure (tmps.getD t undef)
 | .cell x t=>do loadVar t (<-asAddr (tmps.getD x undef))
def ResOk(P:Program)(own:Own)(sl:Sl)(rs:List ResultVar)(vs:List Value):Prop:=
 ∀n a w,Fr n a sl->Has w own->(rs.mapM (resRun a.tmps)).run P w= .ok vs w
theorem Abm:ResOk P own sl [] []:=λn a w hf hh=>by simp
theorem JT{r:ResultVar}{vs:List Value}(h:∀n a w,Fr n a sl->Has w own->(resRun a.tmps r).run P w= .ok v w)(k:ResOk P own sl rs vs):ResOk P own sl (r::rs) (v::vs):=by intro n a w hf hh;simp only[List.mapM_cons];simp[h n a w hf hh,k n a w hf hh]
theorem Abn{t:Tmp}{vs:List Value}(h:getS sl t=some v)(k:ResOk P own sl rs vs):ResOk P own sl (.tmp t::rs) (v::vs):=
 JT (λn a w hf hh=>by simp[resRun,aZ,hf.at_ _ _ h]) k
theorem UF{x:Tmp}{vs:List Value}(h:getS sl x=some (.pointer (some ⟨b,off,none⟩)))(hi:own[i]? =some (some kb))(hg:kb.g=b)(ht:flatOf P t=true)(hv:kb.cs[off]? =some v)(k:ResOk P own sl rs vs):ResOk P own sl (.cell x t::rs) (v::vs):=
 JT (λn a w hf hh=>by subst hg;simp[resRun,aZ,hf.at_ _ _ h,asAddr,CK ht ((hh.cell (Own.get_mem hi) off).trans hv)]) k
theorem UG{x:Tmp}{vs:List Value}(h:getS sl x=some (.pointer (some ⟨b,off,none⟩)))(hi:own[i]? =some (some kb))(hg:kb.g=b)(ht:aggOf P t=some cs.length)(hv:(kb.cs.drop off).take cs.length=cs)(k:ResOk P own sl rs vs):ResOk P own sl (.cell x t::rs) (.agg cs.toArray::vs):=
 JT (λn a w hf hh=>by
  subst hg;have e:(loadVar t ⟨kb.g,off,none⟩).run P w= .ok (.agg cs.toArray) w:=Ds ht λj v hj=>by rw[AF,hh.cell (Own.get_mem hi)];rw[<-hv]at hj;exact Bu hj
  simp[resRun,aZ,hf.at_ _ _ h,asAddr,e]) k
def tupled:List Value->Value
 | [v]=>v
 |vs=> .tuple vs.toArray
theorem IW{fn:Func}{vs:List Value}(hr:fn.results=rs.toArray)(h:ResOk P own sl rs vs){a:Act}(hf:Fr n a sl)(hh:Has w own):(results fn a.tmps).run P w= .ok (tupled vs) w:=by
 have:=h n a w hf hh;have e:results fn a.tmps=(do let vs<-fn.results.mapM (resRun a.tmps);pure (if h:vs.size=1 then vs[0]else .tuple vs)):=rfl;rw[e,hr,List.mapM_toArray];simp[this];match vs with
 | []=>rfl
 | [v]=>rfl
 |_::_::_=>simp[tupled]
end
def Psi.cell?(p:Psi)(a:Addr):Option Value:=
 match p.m a.block with
 |some (.cells c _ _)=>if a.spot.isSome then none else c[a.off]?
 |_=>none
theorem Psi.In.cell(h:p.In w)(e:p.cell? a=some v):w.cell? a=some v:=by
 unfold Psi.cell? at e;split at e
 ·rename_i c t f hm;simp[World.cell?,h.m _ _ hm];simpa using e
 ·cases e
theorem Psi.le.cell(h:p.le q)(e:p.cell? a=some v):q.cell? a=some v:=by
 unfold Psi.cell? at e⊢;split at e
 ·rename_i c t f hm;rw[h.m _ _ hm];exact e
 ·cases e
def Cells(p:Psi)(a:Addr)(cs:List Value):Prop:=∀j v,cs[j]? =some v->p.cell? (a.add j)=some v
theorem Cells.mono(h:Cells p a cs)(k:p.le q):Cells q a cs:=λj v e=>k.cell (h j v e)
theorem FM(a:Addr)(i j:Nat):(a.add i).add j=a.add (i+j):=by
 unfold Addr.add;by_cases hi:i=0
 ·subst hi;simp
 ·by_cases hj:j=0
  ·subst hj;simp[hi]
  ·rw[if_neg hj,if_neg hi,if_neg (by omega)];simp[cV]
theorem Cells.part(h:Cells p a cs)(off m:Nat):Cells p (a.add off) ((cs.drop off).take m):=by intro j v e;rw[FM];exact h _ _ (Bu e)
structure Ty(α:Type) where
 n:Nat
 pos:0<n
 rep:Psi->List Value->α->Prop
 len:∀{p cs x},rep p cs x->cs.length=n
 one:∀{p cs x},rep p cs x->cs.all Ig=true
 mono:∀{p q cs x},p.le q->rep p cs x->rep q cs x
variable{T:Ty α}
def Ci:Ty UInt8:=⟨1,by decide,λ_ cs x=>cs=[.int .u8 (x.toNat:Int)],λh=>by subst h;rfl,λh=>by subst h;rfl,λ_ h=>h⟩
def tyB:Ty Bool:=⟨1,by decide,λ_ cs x=>cs=[.bool x],λh=>by subst h;rfl,λh=>by subst h;rfl,λ_ h=>h⟩
def mkS(l:Bt):ByteArray:=⟨l.toArray⟩
def Reps{α:Type}(T:Ty α)(p:Psi):List Value->List α->Prop
 |cs,[]=>cs=[]
 |cs,x::xs=>∃c1 c2,cs=c1++c2/\T.rep p c1 x/\Reps T p c2 xs
section
theorem Reps.len:∀{xs:List α}{cs:List Value},Reps T p cs xs->cs.length=xs.length*T.n
 | [],cs,h=>by cases h;simp
 |x::xs,cs,⟨c1,c2,e,h1,h2⟩=>by subst e;rw[aC,T.len h1,h2.len,bB,aV,bQ]
theorem Reps.mono(hl:p.le q):∀{xs:List α}{cs:List Value},Reps T p cs xs->Reps T q cs xs
 | [],cs,h=>h
 |x::xs,cs,⟨c1,c2,e,h1,h2⟩=>⟨c1,c2,e,T.mono hl h1,h2.mono hl⟩
theorem Reps.one:∀{xs:List α}{cs:List Value},Reps T p cs xs->cs.all Ig=true
 | [],cs,h=>by cases h;rfl
 |x::xs,cs,⟨c1,c2,e,h1,h2⟩=>by subst e;rw[List.all_append,T.one h1,h2.one];rfl
theorem Reps.append{ys:List α}{ds:List Value}:∀{xs:List α}{cs:List Value},Reps T p cs xs->Reps T p ds ys->Reps T p (cs++ds) (xs++ys)
 | [],cs,h,hd=>by cases h;simpa using hd
 |x::xs,cs,⟨c1,c2,e,h1,h2⟩,hd=>by subst e;exact⟨c1,c2++ds,by simp,h1,Reps.append h2 hd⟩
theorem Reps.drop:∀{xs:List α}{cs:List Value}(i:Nat),Reps T p cs xs->Reps T p (cs.drop (i*T.n)) (xs.drop i)
 |xs,cs,0,h=>by simpa using h
 | [],cs,i+1,h=>by cases h;simp;rfl
 |x::xs,cs,i+1,⟨c1,c2,e,h1,h2⟩=>by subst e;have:=h2.drop i;rw[List.drop_succ_cons,aV,bQ,<-cO];rw[show bO T.n (c1++c2)=c2 by rw[<-T.len h1];simp];exact this
theorem Reps.take:∀{xs:List α}{cs:List Value}(i:Nat),Reps T p cs xs->Reps T p (cs.take (i*T.n)) (xs.take i)
 |xs,cs,0,h=>by simp;rfl
 | [],cs,i+1,h=>by cases h;simp;rfl
 |x::xs,cs,i+1,⟨c1,c2,e,h1,h2⟩=>by
  subst e;have:=h2.take i;refine⟨c1,c2.take (i*T.n),?_,h1,this⟩
  rw[aV,bQ,<-T.len h1,List.take_length_add_append]
theorem Reps.at_:∀{xs:List α}{cs:List Value}{i:Nat}{x:α},Reps T p cs xs->xs[i]? =some x->T.rep p ((cs.drop (i*T.n)).take T.n) x
 | [],cs,i,x,h,e=>by simp at e
 |y::xs,cs,0,x,⟨c1,c2,e1,h1,h2⟩,e=>by
  subst e1;have e:y=x:=by simpa using e
  subst e;have:(bO (0*T.n) (c1++c2)).take T.n=c1:=by rw[cX,List.drop_zero,<-T.len h1];simp
  rw[this];exact h1
 |y::xs,cs,i+1,x,⟨c1,c2,e1,h1,h2⟩,e=>by subst e1;have:=h2.at_ (i:=i) (x:=x) (by simpa using e);rw[aV,bQ,<-cO];rw[show bO T.n (c1++c2)=c2 by rw[<-T.len h1];simp];exact this
theorem Reps.set:∀{xs:List α}{cs:List Value}{i:Nat}{c:List Value}{x:α},Reps T p cs xs->T.rep p c x->i<xs.length->Reps T p (setRow cs (i*T.n) c) (xs.set i x)
 | [],cs,i,c,x,h,hx,hi=>by simp at hi
 |y::xs,cs,0,c,x,⟨c1,c2,e1,h1,h2⟩,hx,hi=>by
  subst e1;have key:∀(c c1:List Value)(off:Nat)(pre:List Value),c.length=c1.length->pre.length=off->setRow (pre++(c1++c2)) off c=pre++(c++c2):=by
   intro c;induction c with
   |nil=>intro c1 off pre hl hp;cases c1 with|nil=>rfl|cons _ _=>simp at hl
   |cons u c ih=>
    intro c1 off pre hl hp;cases c1 with
    |nil=>simp at hl
    |cons v c1=>
     simp only[setRow];rw[show(pre++(v::c1++c2)).set off u=(pre++[u])++(c1++c2) by subst hp;simp];rw[ih c1 (off+1) (pre++[u]) (by simpa using hl) (by simp[hp])];simp
  have:=key c c1 0 [] (by rw[T.len hx,T.len h1]) rfl;simp only[cD,cX]at this⊢;rw[this];exact⟨c,c2,rfl,hx,h2⟩
 |y::xs,cs,i+1,c,x,⟨c1,c2,e1,h1,h2⟩,hx,hi=>by
  subst e1;have ih:=h2.set (i:=i) (c:=c) hx (by simpa using hi);have key:∀(c:List Value)(c2:List Value)(off:Nat),setRow (c1++c2) (c1.length+off) c=c1++setRow c2 off c:=by
   intro c;induction c with
   |nil=>intro c2 off;rfl
   |cons u c ih=>
    intro c2 off;simp only[setRow];rw[show(c1++c2).set (c1.length+off) u=c1++c2.set off u by rw[dB _ _ (by omega)];simp];rw[cV,ih]
  rw[aV,bQ,<-T.len h1,key];rw[T.len h1];exact⟨c1,_,rfl,h1,ih⟩
structure Arr(p:Psi)(T:Ty α)(A:Option Addr)(c:Nat)(xs:List α):Prop where
 cap:xs.length<=c
 len:xs.length<=140737488355328
 row:∃cs,Reps T p cs xs/\(0<xs.length->∃ad,A=some ad/\Cells p ad cs)
theorem Arr.mono{A:Option Addr}{c:Nat}{xs:List α}(h:Arr p T A c xs)(k:p.le q):Arr q T A c xs:=by obtain⟨h1,h0,cs,h2,h3⟩:=h;exact⟨h1,h0,cs,h2.mono k,λhn=>by obtain⟨ad,e,hc⟩:=h3 hn;exact⟨ad,e,hc.mono k⟩⟩
theorem Arr.nil:Arr p T A c []:=⟨dD _,by simp,[],rfl,λh=>absurd h (by simp)⟩
theorem Arr.at_{A:Option Addr}{c:Nat}{xs:List α}(h:Arr p T A c xs){i:Nat}{x:α}(hi:xs[i]? =some x):∃ad cs,A=some ad/\T.rep p cs x/\Cells p (ad.add (i*T.n)) cs:=by
 obtain⟨_,_,cs,h2,h3⟩:=h;have hlt:i<xs.length:=by
  rcases aU i xs.length with h|h
  ·exact h
  ·rw[aD h]at hi;cases hi
 obtain⟨ad,e,hc⟩:=h3 (by omega);exact⟨ad,_,e,h2.at_ hi,hc.part _ _⟩
def tyArr(T:Ty α):Ty (List α):=⟨1,by decide,λp cs xs=>∃A c,cs=[.slice A xs.length c]/\Arr p T A c xs,
 λ⟨_,_,e,_⟩=>by subst e;rfl,λ⟨_,_,e,_⟩=>by subst e;rfl,λk ⟨A,c,e,h⟩=>⟨A,c,e,h.mono k⟩⟩
def RowK(k:Option Bk)(g:Nat)(et:TypeId)(cs:List Value):Prop:=k=some ⟨g,.ty et,cs⟩\/k=some ⟨g,.ms et,cs⟩
theorem RowK.obj{k:Bk}{g:Nat}{et:TypeId}{cs:List Value}(h:RowK (some k) g et cs):k.g=g/\k.cs=cs/\∃fz,k.obj= .cells cs.toArray et fz:=by
 rcases h with h|h<;>injection h with h<;>subst h
 ·exact⟨rfl,rfl,_,rfl⟩
 ·exact⟨rfl,rfl,_,rfl⟩
theorem RowK.some_{g:Nat}(h:RowK k g et cs):∃kb,k=some kb/\kb.g=g/\kb.cs=cs/\RowK (some kb) g et cs/\∃fz,kb.obj= .cells cs.toArray et fz:=by
 rcases h with rfl|rfl
 ·exact⟨_,rfl,rfl,rfl,.inl rfl,_,rfl⟩
 ·exact⟨_,rfl,rfl,rfl,.inr rfl,_,rfl⟩
def Buf(p:Psi)(T:Ty α)(et:TypeId)(v:Value)(k:Option Bk)(xs:List α):Prop:=
 xs.length<=140737488355328/\((v= .slice none 0 0/\xs=[]/\k=none)\/
 ∃g cap cs sp,v= .slice (some ⟨g,0,none⟩) xs.length cap/\RowK k g et (cs++sp)/\Reps T p cs xs/\(cs++sp).length=cap*T.n/\cap<=maxLen)
theorem Buf.mono{et:TypeId}{v:Value}{k:Option Bk}{xs:List α}(h:Buf p T et v k xs)(hl:p.le q):Buf q T et v k xs:=by
 rcases h with⟨h0,h|⟨g,cap,cs,sp,h1,h2,h3,h4,h5⟩⟩
 ·exact⟨h0,.inl h⟩
 ·exact⟨h0,.inr ⟨g,cap,cs,sp,h1,h2,h3.mono hl,h4,h5⟩⟩
theorem Buf.nil:Buf p T et (.slice none 0 0) none ([]:List α):=⟨by simp,.inl ⟨rfl,rfl,rfl⟩⟩
theorem Buf.len(h:Buf p T et v k xs):xs.length<=140737488355328:=h.1
theorem Buf.val(h:Buf p T et v k xs):∃A c,v= .slice A xs.length c/\xs.length<=c:=by
 rcases h.2 with⟨rfl,rfl,_⟩|⟨g,cap,cs,sp,h1,h2,h3,h4,h5⟩
 ·exact⟨none,0,rfl,bV _⟩
 ·refine⟨_,cap,h1,?_⟩
  rw[aC,h3.len]at h4;have:xs.length*T.n<=cap*T.n:=by omega
  exact aM this T.pos
theorem UH(h:Ig v=true):v.oneCell'=true:=by cases v<;>first|(cases h;done)|rfl
theorem VF(h:cs.all Ig=true):∀u∈cs,u.oneCell'=true:=λu hu=>UH (cW.1 h u hu)
theorem Cm{β:Type}:∀{l:List β}{i:Nat}{x:β},l[i]? =some x->l.Perm (x::l.eraseIdx i)
 | [],i,x,h=>by simp at h
 |y::l,0,x,h=>by have h:y=x:=(by simpa using h);subst h;exact List.Perm.refl _
 |y::l,i+1,x,h=>by have h1:=Cm (l:=l) (i:=i) (x:=x) (by simpa using h);rw[List.eraseIdx_cons_succ];exact(h1.cons y).trans (List.Perm.swap x y _)
theorem St.swap {own:Own} (h:St w g own) {x:Option Bk} (hi:own[i]? = some x) (k':Option Bk)
  (hos:w'.os=w.os) (htape:w'.tape=w.tape) (hout:w'.output=w.output) (hb:∀b,b<w.heap.size->(∀k,x=some k->b≠k.g)->w'.heap[b]? =w.heap[b]?)
  (hk:∀k,k'=some k->w'.heap[k.g]? =some k.obj/\((∃k0,x=some k0/\k0.g=k.g)\/w.heap.size<=k.g)) (hsat:∀k,k'=some k->k.sat=[]\/∃k0,x=some k0/\k.sat=k0.sat:=by exact λk hk=>(by first|(cases hk;exact .inl rfl)|(cases hk;exact .inr ⟨_,rfl,rfl⟩)|(cases hk))):St w' g (own.set i k'):=by
 have hx:∀k0,x=some k0->some k0∈own:=λk0 e=>aH (e▸hi);have hother:∀k,some k∈own.set i k'->k'=some k\/(some k∈own/\∀k0,x=some k0->k.g≠k0.g):=by
  intro k hk1;cases x with
  |some k0=>
   rcases Own.other h.nodup hi hk1 with e|⟨e,e2⟩
   ·exact .inl e
   ·exact .inr ⟨e,λk1 hk1=>by injection hk1 with hk1;subst hk1;exact e2⟩
  |none=>
   rcases List.mem_or_eq_of_mem_set hk1 with e|e
   ·exact .inr ⟨e,λk0 hk0=>by cases hk0⟩
   ·exact .inl e.symm
 have hS:Sat w' g (own.set i k'):=by
  refine h.sat.set hi k' (λj hj p hp=>?_) hother λk e=>⟨hsat k e,λj hj p hp eq=>?_⟩
  ·obtain⟨a,_,b⟩:=h.sat.has j hj p hp;exact hb _ (Ie a) λk0 e0 eq=>b (eq▸Own.mem_ids (hx k0 e0))
  ·obtain⟨a,_,b⟩:=h.sat.has j hj p hp;have:=Ie a;rcases(hk k e).2 with⟨k0,e0,e1⟩|hge
   ·exact b (by rw[eq,<-e1];exact Own.mem_ids (hx k0 e0))
   ·omega
 refine⟨⟨hos.trans h.r.os,htape.trans h.r.tape,hout.trans h.r.out,λb o e=>?_⟩,?_,?_,?_,hS⟩
 ·have h1:=h.r.m b o e;have hlt:b<w.heap.size:=by
   rcases aU b w.heap.size with h2|h2
   ·exact h2
   ·rw[aY h2]at h1;cases h1
  rw[hb b hlt λk0 e0 eq=>by rw[eq,h.free k0 (hx k0 e0)]at e;cases e];exact h1
 ·
  have hlt:i<own.length:=(aJ.1 hi).1;have hperm:(own.set i k').Perm (k'::own.eraseIdx i):=by
   have h2:=Cm (l:=own.set i k') (i:=i) (x:=k') (by simp[aB,hlt])
   rwa [dE]at h2
  have hperm0:own.Perm (x::own.eraseIdx i):=Cm hi;have hn0:=(Own.ids_perm hperm0).nodup_iff.1 h.nodup;refine(Own.ids_perm hperm).nodup_iff.2 ?_;cases k' with
  |none=>
   rw[Own.ids_cons]at hn0⊢;cases x<;>simp_all
  |some k=>
   have hn1:(Own.ids (own.eraseIdx i)).Nodup:=by rw[Own.ids_cons]at hn0;exact(aO.1 hn0).2.1
   rw[Own.ids_cons];simp only[bS,cD,aP];refine⟨λhm=>?_,hn1⟩
   obtain⟨j,hj,e⟩:=Own.of_ids hm;have hjo:some j∈own:=hperm0.mem_iff.2 (aF _ hj);rcases(hk k rfl).2 with⟨k0,e0,e1⟩|hge
   ·subst e0;rw[Own.ids_cons]at hn0;simp at hn0;exact hn0.1 (by rw[e1,<-e];exact Own.mem_ids hj)
   ·have:=h.has.lt hjo;omega
 ·intro k hk1;rcases hother k hk1 with e|⟨e,e2⟩
  ·exact(hk k e).1
  ·rw[hb k.g (h.has.lt e) (λk0 e0=>e2 k0 e0)];exact h.has k e
 ·intro k hk1;rcases hother k hk1 with e|⟨e,e2⟩
  ·rcases(hk k e).2 with⟨k0,e0,e1⟩|hge
   ·rw[<-e1];exact h.free k0 (hx k0 e0)
   ·exact h.r.lt hge
  ·exact h.free k e
end
section
variable{n:Nat}{own:Own}{ty:TypeId}
theorem JU {e:TypeId} {idx len:Nat} {A:Addr} {k:IntKind} (hlt:idx < len) (ht:P.underlying t=some (.slice e)) (hs:cellsOfT P e=some sz) :
  (Instr.indexAt t (.slice (some A) len c) (.int k (idx:Int))).run P w= .ok (.pointer (some (A.add (idx*sz)))) w:=by
 have h0:(0:Int)<=(idx:Int)/\(idx:Int)<(len:Int):=⟨by omega,by omega⟩
 simp only[Instr.indexAt,asIntOf,run_underlying ht,Sem.run_bind,Sem.run_pure,Result.andThen_ok];split<;>simp[h0,AE hs,hlt]
theorem GZ {e:TypeId} {i:Operand} {A:Addr} {len:Nat} {k:IntKind} (idx:Nat) (hx:evS sl x=some (.slice (some A) len c)) (hi:evS sl i=some (.int k (idx:Int))) (hlt:idx < len) (ht:P.underlying t=some (.slice e)) (hs:cellsOfT P e=some sz) :
  Yld P n p own sl (.indexAddr t x i) ty (.pointer (some (A.add (idx*sz)))):=by
 intro o a w h1 h2 hf hr;simp[execOp,h1,hf.ev hx,hf.ev hi,JU hlt ht hs]
theorem Ha {e:TypeId} {i:Operand} {A:Addr} {k:IntKind} (idx:Nat) (hx:evS sl x=some (.pointer (some A))) (hi:evS sl i=some (.int k (idx:Int))) (ht:P.underlying t=some (.array m e)) (hlt:idx < m) (hs:cellsOfT P e=some sz) :
  Yld P n p own sl (.indexAddr t x i) ty (.pointer (some (A.add (idx*sz)))):=by
 intro o a w h1 h2 hf hr;have h0:(0:Int)<=(idx:Int)/\(idx:Int)<(m:Int):=⟨by omega,by omega⟩
 have:(Instr.indexAt t (.pointer (some A)) (.int k (idx:Int))).run P w= .ok (.pointer (some (A.add (idx*sz)))) w:=by simp only[Instr.indexAt,asIntOf,run_underlying ht,Sem.run_bind,Sem.run_pure,Result.andThen_ok,Instr.sureAddr];split<;>simp[h0,AE hs,hlt]
 simp[execOp,h1,hf.ev hx,hf.ev hi,this]
theorem VG {A:Addr} (off:Nat) (hx:evS sl x=some (.pointer (some (A.add off)))) (hc:Cells p A cs) (ht:flatOf P t=true) (hv:cs[off]? = some v) :
  Yld P n p own sl (.load t x) ty v:=by
 intro o a w h1 h2 hf hr;simp[execOp,h1,hf.ev hx,Instr.loadAt,Instr.sureAddr,CK ht (hr.r.cell (hc off v hv))]
theorem VH {A:Addr} {vs:List Value} (off:Nat) (hx:evS sl x=some (.pointer (some (A.add off)))) (hc:Cells p A cs) (ht:aggOf P t=some vs.length) (hv:(cs.drop off).take vs.length=vs) :
  Yld P n p own sl (.load t x) ty (.agg vs.toArray):=by
 intro o a w h1 h2 hf hr;have:(loadVar t (A.add off)).run P w= .ok (.agg vs.toArray) w:=Ds ht λj v hj=>by rw[FM];rw[<-hv]at hj;exact hr.r.cell (hc _ v (Bu hj))
 simp[execOp,h1,hf.ev hx,Instr.loadAt,Instr.sureAddr,this]
def offA(A:Option Addr)(c l sz:Nat):Option Addr:=if c=l then A else A.map (·.add (l*sz))
theorem MK {e:TypeId} {len l h:Nat} {lo hi:Option Value} (ht:P.underlying t=some (.slice e)) (hs:cellsOfT P e=some sz)
  (hlo:(lo=none/\l=0)\/∃k,lo=some (.int k (l:Int))) (hhi:(hi=none/\h=len)\/∃k,hi=some (.int k (h:Int))) (h1:l<=h) (h2:h<=c):
  (Instr.sliceAt t (.slice A len c) lo hi none).run P w= .ok (.slice (offA A c l sz) (h-l) (c-l)) w:=by
 have hb:(Instr.sliceBounds true len c lo hi none).run P w= .ok (l,h,c) w:=by
  have e1:(0:Int)<=(l:Int)/\(l:Int)<=(h:Int):=⟨by omega,by omega⟩
  have e2:(0:Int)<=(h:Int)/\(h:Int)<=(c:Int):=⟨by omega,by omega⟩
  rcases hlo with⟨rfl,rfl⟩|⟨k,rfl⟩<;>rcases hhi with⟨rfl,rfl⟩|⟨k2,rfl⟩<;>simp[Instr.sliceBounds,Instr.sliceBound,asIntOf,e1,e2,h1,h2]
 simp[Instr.sliceAt,Instr.slice,run_underlying ht,hb,AE hs,offA]
theorem Abo {e:TypeId} {lo hi:Option Operand} {len:Nat} (l h:Nat) (m:Nat) (hx:evS sl x=some (.slice A len c)) (ht:P.underlying t=some (.slice e)) (hs:cellsOfT P e=some sz)
  (hlo:(lo=none/\l=0)\/∃k y,lo=some y/\evS sl y=some (.int k (l:Int))) (hhi:(hi=none/\h=len)\/∃k y,hi=some y/\evS sl y=some (.int k (h:Int))) (h1:l<=h) (h2:h<=c) (hm:h-l=m):
  Yld P n p own sl (.slice t x lo hi none) ty (.slice (offA A c l sz) m (c-l)):=by
 intro o a w e1 e2 hf hr;subst hm;have:=MK (P:=P) (w:=w) (A:=A) (lo:=lo.map a.eval) (hi:=hi.map a.eval) ht hs
  (hlo.imp (λ⟨e,z⟩=>⟨by rw[e];rfl,z⟩) (λ⟨k,y,e,hy⟩=>⟨k,by rw[e];simp[hf.ev hy]⟩))
  (hhi.imp (λ⟨e,z⟩=>⟨by rw[e];rfl,z⟩) (λ⟨k,y,e,hy⟩=>⟨k,by rw[e];simp[hf.ev hy]⟩)) h1 h2
 simp[execOp,e1,hf.ev hx,this]
theorem Arr.cut(h:Arr p T A c xs)(l m:Nat)(h1:l<=m)(h2:m<=xs.length):Arr p T (offA A c l T.n) (c-l) ((xs.drop l).take (m-l)):=by
 obtain⟨hc,hl0,cs,hr,hrow⟩:=h;refine⟨by rw[aT,aQ];omega,by rw[aT,aQ];omega,(cs.drop (l*T.n)).take ((m-l)*T.n),(hr.drop l).take _,λhn=>?_⟩
 rw[aT,aQ]at hn;obtain⟨ad,e,hcells⟩:=hrow (by omega);subst e;refine⟨ad.add (l*T.n),?_,hcells.part _ _⟩
 unfold offA;rw[if_neg (by omega)];rfl
theorem Arr.cut_from(h:Arr p T A c xs)(l:Nat)(h1:l<=xs.length):Arr p T (offA A c l T.n) (c-l) (xs.drop l):=by
 have:=h.cut l xs.length h1 (bV _)
 rwa [List.take_of_length_le (by simp)]at this
theorem Bv(l:Bt):(mkS l).toList=l:=by
 have:∀(b:ByteArray)(i:Nat)(r:Bt),ByteArray.toList.loop b i r=r.reverse++b.data.toList.drop i:=by
  intro b;have key:∀(k i:Nat)(r:Bt),b.size-i=k->ByteArray.toList.loop b i r=r.reverse++b.data.toList.drop i:=by
   intro k;induction k with
   |zero=>
    intro i r hk;rw[ByteArray.toList.loop.eq_1,if_neg (by omega),List.drop_of_length_le (by rw[cE];have:b.size=b.data.size:=rfl;omega)];simp
   |succ k ih=>
    intro i r hk;have hlt:i<b.size:=by omega
    rw[ByteArray.toList.loop.eq_1,if_pos hlt,ih (i+1) _ (by omega)];have hlt':i<b.data.toList.length:=by rw[cE];exact hlt
    rw[List.drop_eq_getElem_cons hlt'];have hg:b.get! i=b.data.toList[i]:=by simp only[ByteArray.get!];rw[getElem!_pos b.data i (by rw[cE]at hlt';exact hlt')];rw[Array.getElem_toList]
    rw[hg,List.reverse_cons,aE];rfl
  exact λi r=>key _ i r rfl
 have:=this (mkS l) 0 [];unfold ByteArray.toList;rw[this];simp[mkS]
theorem Eo(l:Bt):(mkS l).size=l.length:=by show l.toArray.size=_;simp
theorem UI:∀{l:Bt},Reps Ci p cs l->cs=l.map λx=> .int .u8 (x.toNat:Int)
 |l,h=>by
  induction l generalizing cs with
  |nil=>exact h
  |cons x l ih=>
   obtain⟨c1,c2,e,h1,h2⟩:=h;have h1:c1=[.int .u8 (x.toNat:Int)]:=h1;subst e;subst h1;rw[ih h2];rfl
theorem FN:∀{l:Bt},Reps Ci p (l.map λx=> .int .u8 (x.toNat:Int)) l
 | []=>rfl
 |x::l=>⟨[.int .u8 (x.toNat:Int)],_,rfl,rfl,FN⟩
theorem QW {src dst e:TypeId} {l:Bt} (hr:p.In w) (h:Arr p Ci A c l) (hs:P.underlying src=some (.slice e)) (he:P.underlying e=some (.int .u8)) (hd:P.underlying dst=some .string) :
  (convert src dst (.slice A l.length c)).run P w= .ok (.string (mkS l)) w:=by
 rw[run_convert_bytes_string w src dst e _ _ _ hs he hd];obtain⟨hc,hl0,cs,hrep,hrow⟩:=h;have hcs:=UI hrep;subst hcs;by_cases hn:0<l.length
 ·obtain⟨ad,rfl,hcells⟩:=hrow hn;have hl:(loadCells ad l.length).run P w= .ok ((l.map λx=>(x.toNat:Int)).map (Value.int .u8)).toArray w:=by have:=En (P:=P) (w:=w) (a:=ad) (cs:=l.map λx=>Value.int .u8 (x.toNat:Int)) (λj v hj=>hr.cell (hcells j v hj));rw[List.length_map]at this;rw[this,List.map_map];rfl
  rw[run_bytesToString w ad _ c _ hl,foldl_push_bytes];simp[mkS,ByteArray.empty,ByteArray.emptyWithCapacity,Function.comp_def];rfl
 ·have:l=[]:=List.eq_nil_of_length_eq_zero (by omega);subst this;cases A with
  |none=>simp[Conv.bytesToString];rfl
  |some ad=>simp[Conv.bytesToString,loadCells,loadCellsFrom];rfl
theorem Ady {src dst e:TypeId} {l:Bt} (hx:evS sl x=some (.slice A l.length c)) (h:Arr p Ci A c l) (hs:P.underlying src=some (.slice e)) (he:P.underlying e=some (.int .u8)) (hd:P.underlying dst=some .string) :
  Yld P n p own sl (.convert src dst x) ty (.string (mkS l)):=by
 intro o a w h1 h2 hf hr;simp[execOp,h1,hf.ev hx,QW hr.r h hs he hd]
theorem AgG{a b:Bt}(hx:evS sl x=some (.string (mkS a)))(hy:evS sl y=some (.string (mkS b))):Yld P n p own sl (.binOp .eql t x y u) ty (.bool (a==b)):=by refine QU (Em hx hy) λw _=>?_;simp[execOp,bareO,rhoS,hx,hy,eqGuard,binOp,Op.stringOp,Bv]
theorem AgH{a b:Bt}(hx:evS sl x=some (.string (mkS a)))(hy:evS sl y=some (.string (mkS b))):Yld P n p own sl (.binOp .neq t x y u) ty (.bool (!(a==b))):=by refine QU (Em hx hy) λw _=>?_;simp[execOp,bareO,rhoS,hx,hy,eqGuard,binOp,Op.stringOp,Bv]
end
section
variable{n:Nat}{own:Own}{ty:TypeId}
def Src(w:World)(A:Option Addr)(m:Nat)(news:List Value):Prop:=0<m->∃ad,A=some ad/\∀j u,news[j]? =some u->w.cell? (ad.add j)=some u
theorem Arr.src(h:Arr p T A c xs):∃news,Reps T p news xs/\∀w,p.In w->Src w A xs.length news:=by obtain⟨hc,hl0,cs,hrep,hrow⟩:=h;exact⟨cs,hrep,λw hw hn=>by obtain⟨ad,e,hcells⟩:=hrow hn;exact⟨ad,e,λj u hu=>hw.cell (hcells j u hu)⟩⟩
theorem Buf.src(h:Buf p T et (.slice A xs.length c) k xs):∃news,Reps T p news xs/\∀w,(∀b,k=some b->w.heap[b.g]? =some b.obj)->Src w A xs.length news:=by
 rcases h.2 with⟨h1,h2,h3⟩|⟨b,cap,cs,sp,h1,h2,h3,h4,h5⟩
 ·subst h2;exact⟨[],rfl,λw _ hn=>absurd hn (by simp)⟩
 ·refine⟨cs,h3,λw hw hn=>?_⟩
  injection h1 with hA _ _;subst hA;refine⟨_,rfl,λj u hu=>?_⟩
  rw[AF];have hcell:w.cell? ⟨b,0+j,none⟩=(cs++sp)[j]?:=by
   rcases h2 with h2|h2
   ·have:=hw _ h2;simp[World.cell?,this,Bk.obj]
   ·have:=hw _ h2;simp[World.cell?,this,Bk.obj]
  rw[hcell,aR (by rcases aU j cs.length with h|h;exact h;rw[aD h]at hu;cases hu)];exact hu
structure AppT(P:Program)(t et:TypeId)(sz bytes:Nat):Prop where
 out:∃i z,P.underlying t=some (.slice et)/\P.info? et=some i/\i.zero=some z/\i.size=sz/\i.bytes=bytes/\z.cells.size=sz
def appT(P:Program)(t et:TypeId):Option (Nat×Nat):=
 match P.underlying t,P.info? et with
 |some (.slice e),some i=>match i.zero with
  |some z=>if e=et/\z.cells.size=i.size then some (i.size,i.bytes)else none
  |none=>none
 |_,_=>none
theorem AppT.of(h:appT P t et=some (sz,bytes)):AppT P t et sz bytes:=by
 unfold appT at h;split at h
 ·rename_i e i h1 h2;split at h
  ·rename_i z hz;split at h
   ·rename_i hc;simp only[Option.some.injEq,Prod.mk.injEq]at h;exact⟨i,z,by rw[h1,hc.1],h2,hz,h.1,h.2,hc.2.trans h.1⟩
   ·cases h
  ·cases h
 ·cases h
theorem Dt {ty' e:TypeId} (ht:P.underlying t=some (.slice e)) (hs:cellsOfT P e=some sz) {l c2:Nat} (hlc:l<=c) :
  (Builtin.append_ #[t,t] ty' #[.slice A l c,.slice none 0 c2]).run P w= .ok (.slice A l c) w:=by
 cases A<;>simp[Builtin.append_,run_underlying ht,AE hs,Builtin.lenOf,hlc,Builtin.firstCells,storeCells]
def Jl(p:Psi)(T:Ty α)(et:TypeId)(v:Value)(k:Option Bk)(xs:List α):Prop:=
 xs.length<=140737488355328/\((v= .slice none 0 0/\xs=[]/\k=none)\/
 ∃g cap cs sp,v= .slice (some ⟨g,0,none⟩) xs.length cap/\k=some ⟨g,et,cs++sp⟩/\Reps T p cs xs/\(cs++sp).length=cap*T.n/\cap<=maxLen)
theorem Jl.toBuf(h:Jl p T et v k xs):Buf p T et v k xs:=by
 rcases h with⟨h0,h|⟨g,cap,cs,sp,h1,h2,h3⟩⟩
 ·exact⟨h0,.inl h⟩
 ·exact⟨h0,.inr ⟨g,cap,cs,sp,h1,.inl h2,h3⟩⟩
theorem Jl.val{et:TypeId}{v:Value}{k:Option Bk}{xs:List α}(h:Jl p T et v k xs):∃A c,v= .slice A xs.length c/\xs.length<=c:=h.toBuf.val
theorem CY:∀(vs l:List Value)(o:Nat),o+vs.length<=l.length->setRow l o vs=l.take o++vs++l.drop (o+vs.length)
 | [],l,o,_=>by simp[setRow]
 |v::vs,l,o,h=>by
  simp only[bB]at h;have ih:=CY vs (l.set o v) (o+1) (by rw[aG];omega);show setRow (l.set o v) (o+1) vs=_;rw[ih];have e1:(l.set o v).take (o+1)=l.take o++[v]:=by rw[List.take_succ_eq_append_getElem (by rw[aG];omega)];simp[List.take_set_of_le]
  have e2:(l.set o v).drop (o+1+vs.length)=l.drop (o+(v::vs).length):=by rw[List.drop_set_of_lt (by omega),bB];congr 1;omega
  rw[e1,e2];simp
theorem DJ{own:Own}{ty':TypeId}(ha:AppT P t et T.n bytes)(hs:St w g own)(hi:own[i]? =some k)(hb:Jl p T et v k xs)
 (hm:m=ys.length) (hsrc:Src w A m news) (hrep:Reps T p news ys) (hbytes:(xs.length+ys.length)*bytes<=140737488355328) (hlen:xs.length+ys.length<=140737488355328):
  ∃v' k' w',(Builtin.append_ #[t,t] ty' #[v,.slice A m c]).run P w= .ok v' w'/\Jl p T et v' k' (xs++ys)/\St w' g (own.set i k'):=by
 obtain⟨inf,z,ht,hinf,hz,hsz,hby,hzs⟩:=ha.out;have hcell:cellsOfT P et=some T.n:=by simp[cellsOfT,hinf,hsz]
 subst hm;by_cases hy:ys=[]
 ·subst hy;have hnews:news=[]:=hrep;obtain⟨A1,c1,rfl,hc1⟩:=hb.val;have same:own.set i k=own:=by
   apply bC;intro j;rw[aB];split
   ·rename_i e;subst e;split
    ·exact hi.symm
    ·rename_i hlt;rw[aD (by omega)]
   ·rfl
  refine⟨.slice A1 xs.length c1,k,w,?_,by simpa using hb,by rw[same];exact hs⟩
  cases A with
  |none=>exact Dt ht hcell hc1
  |some ad=>cases A1<;>simp[Builtin.append_,run_underlying ht,AE hcell,Builtin.lenOf,hc1,Builtin.firstCells,loadCells,loadCellsFrom,storeCells]
 ·have hpos:0<ys.length:=dJ.2 hy;obtain⟨ad,rfl,hnews⟩:=hsrc hpos;have hown:∃cs,Reps T p cs xs/\w.ownsRow 0 et T.n v xs.length cs/\(∀b,v.ownBlock=some b->∃kb,k=some kb/\kb.g=b):=by
   rcases hb.2 with⟨rfl,rfl,rfl⟩|⟨b,cap,cs,sp,rfl,rfl,h3,h4,h5⟩
   ·exact⟨[],rfl,World.ownsRow_nil w 0 et T.n,λb hb=>by simp[Value.ownBlock]at hb⟩
   ·refine⟨cs,h3,⟨h3.len,.inr ⟨b,cap,_,rfl,dD _,hs.has _ (aH hi),?_,h5,by simpa using h4,?_⟩⟩,λb' hb=>⟨_,rfl,by simpa[Value.ownBlock]using hb⟩⟩
    ·rw[aC,h3.len]at h4;exact aM (by omega:xs.length*T.n<=cap*T.n) T.pos
    ·simp[<-h3.len]
  obtain⟨cs,hrx,how,hblk⟩:=hown;obtain⟨v',w',hrun,how',hgrow,_,hat⟩:=run_append_own_at (P:=P) w 0 t ty' et inf z T.n bytes ht hinf hz hsz hby hzs T.pos v xs.length cs how ad ys.length c news hrep.len hnews (VF hrep.one) (by simp only[maxLen];omega) hbytes (dD _);have hlenpos:0<xs.length+ys.length:=by omega
  rcases how'.2 with⟨rfl,hz0⟩|⟨b',cap,cur,rfl,_,hheap,hnc,hcm,hcs,htake⟩
  ·omega
  ·refine⟨_,some ⟨b',et,cur.toList⟩,w',hrun,?_,?_⟩
   ·have hc2:cur.toList=(cs++news)++cur.toList.drop ((xs.length+ys.length)*T.n):=by rw[<-htake,dC]
    refine⟨by rw[aC];exact hlen,.inr ⟨b',cap,cs++news,cur.toList.drop ((xs.length+ys.length)*T.n),by rw[aC],by rw[<-hc2],hrx.append hrep,?_,hcm⟩⟩
    rw[<-hc2];simpa using hcs
   ·refine hs.swap hi _ hgrow.os hgrow.tape hgrow.output (λb hb hne=>hgrow.block b hb λe=>?_) λk' hk'=>?_
    ·obtain⟨kb,e1,e2⟩:=hblk b e.symm;exact hne kb e1 e2.symm
    ·injection hk' with hk';subst hk';refine⟨by simpa[Bk.obj_ty]using hheap,?_⟩
     rcases hat with h1|h1
     ·left;obtain⟨kb,e1,e2⟩:=hblk b' (by rw[<-h1];rfl);exact⟨kb,e1,e2⟩
     ·right;have:b'=w.heap.size:=by simpa[Value.ownBlock]using h1
      exact Nat.le_of_eq this.symm
theorem LO{own:Own}{ty':TypeId}(ha:AppT P t et T.n bytes)(hs:St w g own){cap:Nat}{sp:List Value}(hi:own[i]? =some (some ⟨b,.ms et,cs++sp⟩))(h3:Reps T p cs xs)(h4:(cs++sp).length=cap*T.n)(h5:cap<=maxLen)(h0:xs.length<=140737488355328)
 (hm:m=ys.length) (hsrc:Src w A m news) (hrep:Reps T p news ys) (hbytes:(xs.length+ys.length)*bytes<=140737488355328) (hlen:xs.length+ys.length<=140737488355328):
  ∃v' k' w',(Builtin.append_ #[t,t] ty' #[.slice (some ⟨b,0,none⟩) xs.length cap,.slice A m c]).run P w= .ok v' w'/\Buf p T et v' k' (xs++ys)/\St w' g (own.set i k'):=by
 obtain⟨inf,z,ht,hinf,hz,hsz,hby,hzs⟩:=ha.out;have hcell:cellsOfT P et=some T.n:=by simp[cellsOfT,hinf,hsz]
 subst hm;have hcx:cs.length=xs.length*T.n:=h3.len;have hle:xs.length<=cap:=by
  have:xs.length*T.n<=cap*T.n:=by rw[<-h4,<-hcx,aC];omega
  exact aM this T.pos
 by_cases hy:ys=[]
 ·subst hy;have hnews:news=[]:=hrep;have same:own.set i (some ⟨b,.ms et,cs++sp⟩)=own:=by
   apply bC;intro j;rw[aB];split
   ·rename_i e;subst e;split
    ·exact hi.symm
    ·rename_i hlt;rw[aD (by omega)]
   ·rfl
  refine⟨.slice (some ⟨b,0,none⟩) xs.length cap,some ⟨b,.ms et,cs++sp⟩,w,?_,by rw[dA];exact⟨h0,.inr ⟨b,cap,cs,sp,rfl,.inr rfl,h3,h4,h5⟩⟩,by rw[same];exact hs⟩
  cases A with
  |none=>exact Dt ht hcell hle
  |some ad=>simp[Builtin.append_,run_underlying ht,AE hcell,Builtin.lenOf,hle,Builtin.firstCells,loadCells,loadCellsFrom,storeCells]
 ·have hpos:0<ys.length:=dJ.2 hy;obtain⟨ad,rfl,hnews⟩:=hsrc hpos;have hnl:news.length=ys.length*T.n:=hrep.len;by_cases hroom:xs.length+ys.length<=cap
  ·have hfit:xs.length*T.n+news.length<=(cs++sp).length:=by rw[hnl,h4,<-Nat.add_mul];exact bX _ hroom
   obtain⟨w',hst,hs'⟩:=Bj (P:=P) (g:=g) (i:=i) (k:=⟨b,.ms et,cs++sp⟩) (vs:=news) (own:=own) (off:=xs.length*T.n) (cs++sp) 0 hs hi (λv hv=>cW.1 hrep.one v hv) (by simpa using hfit);have hf:=run_firstCells_some (P:=P) w T.n ys.length ad ys.length c news hnl hnews;refine⟨.slice (some ⟨b,0,none⟩) (xs.length+ys.length) cap,some ⟨b,.ms et,setRow (cs++sp) (xs.length*T.n+0) news⟩,w',?_,?_,hs'⟩
   ·have hst:(storeCells ⟨b,xs.length*T.n,none⟩ news).run P w= .ok () w':=hst;simp[Builtin.append_,run_underlying ht,AE hcell,Builtin.lenOf,hroom,hf,Addr.add_lit,hst]
   ·rw[Nat.add_zero,CY _ _ _ hfit,<-hcx,List.take_left,List.drop_append,<-aC];refine⟨by rw[aC];exact hlen,.inr ⟨b,cap,cs++news,_,by rw[aC],.inr rfl,h3.append hrep,?_,h5⟩⟩
    have e:=congrArg bY (CY news (cs++sp) (xs.length*T.n) hfit);rw[Ed,h4,<-hcx,List.take_left,List.drop_append]at e;rw[e]
  ·have holds:∀ j u,cs[j]? = some u->w.cell? ((⟨b,0,none⟩:Addr).add j)=some u:=λj u hu=>by have hk:=hs.has _ (aH hi);rw[AF];simp[World.cell?,hk,Bk.obj];rw[aR (by rcases aU j cs.length with h|h;exact h;rw[aD h]at hu;cases hu)];exact hu
   obtain⟨v',w',hrun,how',hgrow⟩:=run_append_arg_grows (P:=P) w t ty' et inf z T.n bytes ht hinf hz hsz hby hzs T.pos ⟨b,0,none⟩ xs.length cap cs hcx holds ad ys.length c news hnl hnews (by omega) (by simp only[maxLen];omega) hbytes;rcases how'.2 with⟨rfl,hz0⟩|⟨b',cap',cur,rfl,hge,hheap,hnc,hcm,hcs,htake⟩
   ·omega
   ·refine⟨_,some ⟨b',et,cur.toList⟩,w',hrun,?_,?_⟩
    ·have hc2:cur.toList=(cs++news)++cur.toList.drop ((xs.length+ys.length)*T.n):=by rw[<-htake,dC]
     refine⟨by rw[aC];exact hlen,.inr ⟨b',cap',cs++news,cur.toList.drop ((xs.length+ys.length)*T.n),by rw[aC],.inl (by rw[<-hc2]),h3.append hrep,?_,hcm⟩⟩
     rw[<-hc2];simpa using hcs
    ·refine hs.swap hi _ hgrow.os hgrow.tape hgrow.output (λb hb hne=>hgrow.block b hb λe=>by cases e) λk' hk'=>?_;injection hk' with hk'
     subst hk';exact⟨by simpa[Bk.obj_ty]using hheap,.inr hge⟩
theorem LP{own:Own}{ty':TypeId}(ha:AppT P t et T.n bytes)(hs:St w g own)(hi:own[i]? =some k)(hb:Buf p T et v k xs)
 (hm:m=ys.length) (hsrc:Src w A m news) (hrep:Reps T p news ys) (hbytes:(xs.length+ys.length)*bytes<=140737488355328) (hlen:xs.length+ys.length<=140737488355328):
  ∃v' k' w',(Builtin.append_ #[t,t] ty' #[v,.slice A m c]).run P w= .ok v' w'/\Buf p T et v' k' (xs++ys)/\St w' g (own.set i k'):=by
 rcases hb with⟨h0,h|⟨b,cap,cs,sp,rfl,h2|rfl,h3,h4,h5⟩⟩
 ·obtain⟨v',k',w',h1,h2,h3⟩:=DJ ha hs hi ⟨h0,.inl h⟩ hm hsrc hrep hbytes hlen;exact⟨v',k',w',h1,h2.toBuf,h3⟩
 ·obtain⟨v',k',w',h1,h2,h3⟩:=DJ ha hs hi ⟨h0,.inr ⟨b,cap,cs,sp,rfl,h2,h3,h4,h5⟩⟩ hm hsrc hrep hbytes hlen;exact⟨v',k',w',h1,h2.toBuf,h3⟩
 ·exact LO ha hs hi h3 h4 h5 h0 hm hsrc hrep hbytes hlen
theorem JV {s:Operand} (i:Nat) (p:Psi) (news:List Value) (ha:appT P t et=some (T.n,bytes)) (hs:evS sl s=some v) (hx:evS sl x=some (.slice A m c)) (hi:own[i]? = some k) (hb:Buf p T et v k xs)
  (hm:m=ys.length) (hsrc:∀w,St w g own->Src w A m news) (hrep:Reps T p news ys) (hlen:xs.length+ys.length<=140737488355328) (hbytes:(xs.length+ys.length)*bytes<=140737488355328):
  Eff P n g own sl (.call { callee:= .builtin .append,args:=#[s,x],argTypes:=#[t,t] }) ty (λv' g' own'=>∃A' c' k',v'= .slice A' (xs++ys).length c'/\g=g'/\own'=own.set i k'/\Buf p T et (.slice A' (xs++ys).length c') k' (xs++ys)):=by
 intro o a w Q K h1 h2 hf hst h;obtain⟨v',k',w',hrun,hb',hst'⟩:=LP (P:=P) (ty':=o.type) (AppT.of ha) hst hi hb (c:=c) hm (hsrc w hst) hrep hbytes hlen;obtain⟨A',c',rfl,_⟩:=hb'.val;have:(execOp a.eval o).run P w= .ok (.value (.slice A' (xs++ys).length c')) w':=by simp[execOp,h1,resolve,invoke,builtin,hf.ev hs,hf.ev hx,hrun]
 unfold Oper.wp;rw[this];exact h _ _ _ _ (.refl g) hst' ⟨A',c',k',rfl,rfl,rfl,hb'⟩
theorem LX {s:Operand} (i:Nat) (p:Psi) (news:List Value) (ha:appT P t et=some (T.n,bytes)) (hs:evS sl s=some v) (hx:evS sl x=some (.slice A m c)) (hi:own[i]? = some k) (hb:Jl p T et v k xs)
  (hm:m=ys.length) (hsrc:∀w,St w g own->Src w A m news) (hrep:Reps T p news ys) (hlen:xs.length+ys.length<=140737488355328) (hbytes:(xs.length+ys.length)*bytes<=140737488355328):
  Eff P n g own sl (.call { callee:= .builtin .append,args:=#[s,x],argTypes:=#[t,t] }) ty (λv' g' own'=>∃A' c' k',v'= .slice A' (xs++ys).length c'/\g=g'/\own'=own.set i k'/\Jl p T et (.slice A' (xs++ys).length c') k' (xs++ys)):=by
 intro o a w Q K h1 h2 hf hst h;obtain⟨v',k',w',hrun,hb',hst'⟩:=DJ (P:=P) (ty':=o.type) (AppT.of ha) hst hi hb (c:=c) hm (hsrc w hst) hrep hbytes hlen;obtain⟨A',c',rfl,_⟩:=hb'.val;have:(execOp a.eval o).run P w= .ok (.value (.slice A' (xs++ys).length c')) w':=by simp[execOp,h1,resolve,invoke,builtin,hf.ev hs,hf.ev hx,hrun]
 unfold Oper.wp;rw[this];exact h _ _ _ _ (.refl g) hst' ⟨A',c',k',rfl,rfl,rfl,hb'⟩
def buildRow(P:Program)(t:TypeId)(len:Nat)(pv:List (Nat×Value)):Option (TypeId×Array Value):=
 match P.underlying t with
 |some (.slice elem)=>
  match P.info? elem with
  |some i=>
   if len*i.size>2^24 then none else
   match(if len*i.size=0 then some #[]else i.zero.map Value.cells)with
   |some zero=>(Instr.fill (λj=>some (j*i.size,i.size)) ((Array.range (len*i.size)).map (zero[·%zero.size]!)) pv).map λc=>(elem,c)
   |none=>none
  |none=>none
 |_=>none
theorem Hb {len:Nat} {pv:List (Nat×Value)} (h:buildRow P t len pv=some (et,cs.toArray)) :
  (Instr.buildSlice t len pv.toArray).run P w= .ok (.slice (some ⟨w.heap.size,0,none⟩) len len) (w.alloc (.cells cs.toArray et)):=by
 unfold buildRow at h;split at h
 ·rename_i elem hu;split at h
  ·rename_i inf hinf;have hsz:(sizeOf elem).run P w= .ok inf.size w:=AE (by simp[cellsOfT,hinf]) w;by_cases hbig:len*inf.size>2^24
   ·rw[if_pos hbig]at h;cases h
   ·rw[if_neg hbig]at h;by_cases h0:len*inf.size=0
    ·rw[if_pos h0]at h;simp only[bA]at h;obtain⟨c,hc,e⟩:=h;simp only[Prod.mk.injEq]at e;obtain⟨rfl,rfl⟩:=e;unfold Instr.buildSlice;simp only[run_underlying hu,Sem.run_bind,Result.andThen_ok,hsz,if_neg hbig,if_pos h0,Sem.run_pure,cG,hc];simp[newRow,newObj,Sem.run]
    ·rw[if_neg h0]at h;cases hz:inf.zero with
     |none=>rw[hz]at h;cases h
     |some z=>
      rw[hz]at h;simp only[bM,bA]at h;obtain⟨c,hc,e⟩:=h;simp only[Prod.mk.injEq]at e;obtain⟨rfl,rfl⟩:=e;have hzv:(zeroValue elem).run P w= .ok z w:=by simp[zeroValue,typeInfo,program,Sem.run,bind,Sem.bind,hinf,hz,pure]
      unfold Instr.buildSlice;simp only[run_underlying hu,Sem.run_bind,Result.andThen_ok,hsz,if_neg hbig,if_neg h0,Sem.run_pure,cG,hzv,hc];simp[newRow,newObj,Sem.run]
  ·cases h
 ·cases h
theorem EL {len:Nat} {parts:Array (Nat×Operand)} (pv:List (Nat×Value)) (cs:List Value) (hp:parts.toList.map (λq=>(evS sl q.2).map λv=>(q.1,v))=pv.map some) (h:buildRow P t len pv=some (et,cs.toArray)) :
  Eff P n g own sl (.buildSlice t len parts) ty (λv' g' own'=>∃b,v'= .slice (some ⟨b,0,none⟩) len len/\g=g'/\own'=some ⟨b,et,cs⟩::own):=by
 intro o a w Q K h1 h2 hf hs hk;have hpv:parts.map (λq=>(q.1,a.eval q.2))=pv.toArray:=by
  apply Array.toList_inj.1;rw[Array.toList_map,cG];have:∀(l:List (Nat×Operand))(pv:List (Nat×Value)),l.map (λq=>(evS sl q.2).map λv=>(q.1,v))=pv.map some->l.map (λq=>(q.1,a.eval q.2))=pv:=by
   intro l;induction l with
   |nil=>intro pv h;cases pv with|nil=>rfl|cons _ _=>simp at h
   |cons q l ih=>
    intro pv h;cases pv with
    |nil=>simp at h
    |cons u pv=>
     simp only[bG,List.cons.injEq,bA]at h;obtain⟨⟨v,hv,e⟩,h3⟩:=h;rw[bG,ih pv h3,hf.ev hv,e]
  exact this _ _ hp
 have:(execOp a.eval o).run P w= .ok (.value (.slice (some ⟨w.heap.size,0,none⟩) len len)) (w.alloc (.cells cs.toArray et)):=by have e:=Hb (w:=w) h;simp only[execOp,h1];rw[show(parts.map λx=>match x with|(i,x)=>(i,a.eval x))=pv.toArray from hpv];simp[e]
 unfold Oper.wp;rw[this];exact hk _ _ _ _ (.refl g) (hs.alloc et cs) ⟨_,rfl,rfl,rfl⟩
theorem Ss{len:Nat}(h:Reps T p cs xs)(hl:xs.length=len)(hm:len<=140737488355328):Buf p T et (.slice (some ⟨b,0,none⟩) len len) (some ⟨b,et,cs⟩) xs:=by subst hl;exact⟨hm,.inr ⟨b,xs.length,cs,[],rfl,.inl (by simp),h,by simpa using h.len,by simp only[maxLen];omega⟩⟩
theorem Su(hi:own[i]? =some (some kb))(hn:∀(j:Nat)(u:Value),news[j]? =some u->kb.cs[j]? =some u)(w:World)(hs:St w g own):Src w (some ⟨kb.g,0,none⟩) m news:=by
 intro _;refine⟨_,rfl,λj u hu=>?_⟩
 rw[AF,cK,hs.has.cell (Own.get_mem hi)];exact hn j u hu
theorem Buf.arr{k:Bk}(h:Buf p T et (.slice A xs.length c) (some k) xs):Arr (p.add k) T A c xs\/p.m k.g≠none:=by
 rcases h.2 with⟨_,_,h3⟩|⟨b,cap,cs,sp,h1,h2,h3,h4,h5⟩
 ·cases h3
 ·obtain⟨hg,hcs,fz,ho⟩:=h2.obj;injection h1 with hA _ hc;subst hA;subst hc;subst hg;by_cases hp:p.m k.g=none
  ·left;refine⟨?_,h.1,cs,h3.mono (Psi.le_add hp),λ_=>⟨_,rfl,λj v hj=>?_⟩⟩
   ·rw[aC,h3.len]at h4;exact aM (by omega:xs.length*T.n<=c*T.n) T.pos
   ·rw[AF];have hm:(p.add k).m k.g=some (.cells (cs++sp).toArray et fz):=(if_pos rfl).trans (by rw[ho]);simp only[Psi.cell?,hm];simp;rw[aR (by rcases aU j cs.length with h|h;exact h;rw[aD h]at hj;cases hj)];exact hj
  ·exact .inr hp
theorem Gy (i:Nat) (hi:own[i]? = some k) (hb:Buf g.b T et (.slice A xs.length c) k xs)
  (h:∀g',g.le g'->Arr g'.b T A c xs->WPq K n g' (own.set i none) sl):WPq K n g own sl:=by
 intro a w hf hs;cases k with
 |none=>
  rcases hb.2 with⟨h1,rfl,_⟩|⟨b,cap,cs,sp,h1,h2,_⟩
  ·have same:own.set i none=own:=by
    apply bC;intro j;rw[aB];split
    ·rename_i e;subst e;split
     ·exact hi.symm
     ·rename_i hlt;rw[aD (by omega)]
    ·rfl
   have:=h g (.refl g) Arr.nil;rw[same]at this;exact this a w hf hs
  ·rcases h2 with h2|h2<;>cases h2
 |some kb=>
  obtain⟨hle,hs'⟩:=hs.publish hi;have hfree:=g.br.none_ (hs.free kb (Own.get_mem hi));rcases hb.arr with h1|h1
  ·exact h _ hle h1 a w hf hs'
  ·exact absurd hfree h1
theorem AdX {kx ky:IntKind} (m:Nat) {zs:List Value} {z:α} (ha:appT P t et=some (T.n,bytes)) (hx:evS sl x=some (.int kx (m:Int))) (hy:evS sl y=some (.int ky (m:Int))) (hz:zeroOf P et=some zs.toArray) (hr:T.rep p zs z) (hbytes:bytes*m<=281474976710656) (hm:m<=140737488355328) :
  Eff P n g own sl (.makeSlice t x y) ty (λv' g' own'=>∃b cs,v'= .slice (some ⟨b,0,none⟩) m m/\g=g'/\own'=some ⟨b,et,cs⟩::own/\Reps T p cs (cQ m z)/\Buf p T et (.slice (some ⟨b,0,none⟩) m m) (some ⟨b,et,cs⟩) (cQ m z)):=by
 intro o a w Q K h1 h2 hf hs h;obtain⟨inf,z0,ht,hinf,hz0,hsz,hby,hzs⟩:=(AppT.of ha).out;have hzc:z0.cells=zs.toArray:=by unfold zeroOf at hz;rw[hinf]at hz;simpa[hz0]using hz
 have hc:∀m:Nat,Reps T p (madeCells z0.cells (m*T.n)).toList (cQ m z):=by
  intro m;induction m with
  |zero=>simp[madeCells];rfl
  |succ m ih=>
   have e:(madeCells z0.cells ((m+1)*T.n)).toList=zs++(madeCells z0.cells (m*T.n)).toList:=by
    rw[hzc];have hzl:zs.length=T.n:=T.len hr;apply bC;intro j;rw[List.getElem?_append];simp only[madeCells,Array.toList_map,Array.toList_range,List.getElem?_map];by_cases hj:j<zs.length
    ·rw[if_pos hj];have hj2:j<(m+1)*T.n:=by rw[aV];omega
     rw[cJ hj2];simp only[bM,List.size_toArray,Nat.mod_eq_of_lt hj];rw[aK hj];simp[hj]
    ·rw[if_neg hj];by_cases hj2:j<(m+1)*T.n
     ·have hj3:j-zs.length<m*T.n:=by rw[aV]at hj2;omega
      rw[cJ hj2,cJ hj3];simp only[bM,List.size_toArray];congr 2;exact(Nat.mod_eq_sub_mod (by omega))
     ·have hj3:¬j-zs.length<m*T.n:=by rw[aV]at hj2;omega
      rw[aD (by simpa using hj2),aD (by simpa using hj3)]
   rw[e,List.replicate_succ];exact⟨zs,_,rfl,hr,ih⟩
 have hrep:=hc m;have hb:Buf p T et (.slice (some ⟨w.heap.size,0,none⟩) m m) (some ⟨w.heap.size,et,(madeCells z0.cells (m*T.n)).toList⟩) (cQ m z):=Ss hrep List.length_replicate hm;have hrun:=run_make (P:=P) w t et inf z0 ht hinf hz0 kx ky (m:Int) (m:Int) (by omega) (by omega) (by rw[hby];have h9:((bytes*m:Nat):Int)<=281474976710656:=Int.ofNat_le.2 hbytes;rw[Int.natCast_mul]at h9;exact h9) (by omega);have:(execOp a.eval o).run P w= .ok (.value (.slice (some ⟨w.heap.size,0,none⟩) m m)) (w.alloc (.cells (madeCells z0.cells (m*T.n)) et)):=by simp only[Int.toNat_natCast,hsz]at hrun;simp[execOp,h1,hf.ev hx,hf.ev hy,hrun]
 unfold Oper.wp;rw[this];have hal:=hs.alloc et (madeCells z0.cells (m*T.n)).toList;rw[Array.toArray_toList]at hal;exact h _ _ _ _ (.refl g) hal ⟨_,_,rfl,rfl,rfl,hrep,hb⟩
end
def finOk(ops:Array Oper)(lds fin:List Nat):Bool:=fin.all λk=>match ops[k]? with
 |some o=>lds.all λi=>o.after.any λe=>Region.binds .any e&&e.on==i
 |none=>true
section
variable{S:World->Prop}
end
section
variable{n:Nat}{K:Own}
structure RegOk(P:Program)(ops:Array Oper)(Q:Exit->Act->World->Prop)(lds fin:List Nat):Prop where
 fin:finOk ops lds fin=true
 sel:Region.noSelect ops=true
 panic:∀c(a:Act)(d:Tmp)(v:Value) w,Q (.panic c) (a.put (some d) v) w->Q (.panic c) a w
def keepK(K own:Own):Prop:=∀k,some k∈K->some k∈own
end
section
variable{n:Nat}{own:Own}{ty:TypeId}
end
theorem Ac{x:Int}(h: -9223372036854775808<=x/\x<=9223372036854775807:=by omega):IntKind.i64.wrap x=x:=IntWalk.i64_in x h
theorem QX{x:Int}(h:0<=x/\x<=18446744073709551615:=by omega):IntKind.u64.wrap x=x:=by rw[IntKind.wrap_u64];omega
def maxI(a b:Int):Int:=if b>a then b else a
def minI(a b:Int):Int:=if b<a then b else a
def landK(k:IntKind)(a b:Int):Int:=k.wrap (bE k.bits a&&&bE k.bits b).toNat
def lorK(k:IntKind)(a b:Int):Int:=k.wrap (bE k.bits a|||bE k.bits b).toNat
def lxorK(k:IntKind)(a b:Int):Int:=k.wrap (bE k.bits a^^^bE k.bits b).toNat
def shlK(k:IntKind)(a b:Int):Int:=k.wrap (a*2^(min b.toNat k.bits))
def shrK(k:IntKind)(a b:Int):Int:=a.fdiv (2^(min b.toNat k.bits))
section
variable{n:Nat}{own:Own}{ty:TypeId}
theorem Du(d:Nat){e:TypeId}{l l2 c2:Nat}(ht:P.underlying t=some (.slice e)):(Op.equalIn (d+1) t (.slice A l c) (.slice none l2 c2)).run P w= .ok A.isNone w:=by cases A<;>simp[Op.equalIn,run_underlying ht]
end
section
variable{n:Nat}{own:Own}{ty:TypeId}
theorem Arr.srcB(h:Arr g.b T A c xs):∃news,Reps T g.b news xs/\∀w own,St w g own->Src w A xs.length news:=by obtain⟨news,h1,h2⟩:=h.src;exact⟨news,h1,λw own hs=>h2 w (hs.r.mono g.br)⟩
def u8(z:Int):UInt8:=UInt8.ofNat z.toNat
theorem AdY{z:Int}(h:0<=z/\z<=255):Ci.rep p [.int .u8 z] (u8 z):=by
 show[Value.int .u8 z]=[Value.int .u8 ((u8 z).toNat:Int)]
 have:((u8 z).toNat:Int)=z:=by unfold u8;rw[UInt8.toNat_ofNat'];omega
 rw[this]
theorem QY(x:Int):0<=IntKind.u8.wrap x/\IntKind.u8.wrap x<=255:=by rw[IntKind.wrap_u8];omega
end
section
variable{n:Nat}{own:Own}{ty:TypeId}
theorem lent{k:Bk}(i:Nat)(h:rest[i]? =some (some k)):some k∈rest:=aH h
end
open Go.RowKit Go.WideShapes Go.ChangeShapes Go.Deep
def psiOf(w:World):Psi:=⟨λb=>w.heap[b]?,w.os,w.tape,w.output⟩
def gh0(w:World):Gh:=⟨psiOf w,psiOf w,.refl _⟩
theorem st0(w:World):St w (gh0 w) []:=⟨⟨rfl,rfl,rfl,λb o h=>h⟩,bP,λk h=>(by cases h),λk h=>(by cases h),.nil ..⟩
theorem VI(h:(gh0 w).le g)(hs:St w' g []):Below w.heap.size w w':=by
 have hin:=hs.r.mono h.r;have hb:∀b,b<w.heap.size->w'.heap[b]? =w.heap[b]?:=λb hb=>by rw[bK hb];exact hin.m b _ (bK hb)
 refine⟨hin.os,hin.tape,hin.out,?_,hb⟩
 rcases Nat.eq_zero_or_pos w.heap.size with h0|h0
 ·omega
 ·have h1:=hb (w.heap.size-1) (by omega);have hlt:w.heap.size-1<w.heap.size:=by omega
  rw[bK hlt]at h1;have:=(bI.1 h1).1;omega
theorem QZ{f:FuncId}{args:List Value}(h:Abl P f args (gh0 w) (λv ψ=>v=Value.bool true)):Calls P f args.toArray w λe w'=>e= .returned (.bool true)/\Below w.heap.size w w':=
 (h w (st0 w)).mono λe w' ⟨v,g',own',he,hle,hs,ho,hv⟩=>by subst ho;subst hv;exact⟨he,VI hle hs⟩
section
variable{e:TypeId}{ok:α->Prop}
end
section
variable{H:Type}{enc:TypeId×Value->H}
theorem Gv (hl:laidOutB P=true) {W W':World} {sp':Nat->Bool}:∀ {ts:List TypeId} {vs:List Value} {ds:List (DataW H)} {ps:List MemPlace},
  (∀t∈ts,P.readableRec t=true/\t<P.types.size)->DataW.TrodAll enc P W 0 (λ_=>true) true ts vs ds ps->(∀p∈ps,W.sameAt W' p)->(∀p∈ps,sp' p.block=true)->
  DataW.TrodAll enc P W' 0 sp' true ts vs ds ps
 | [],vs,ds,ps,_,h,_,_=>by obtain⟨rfl,rfl,rfl⟩:=trodAll_nil h;exact trodAll_mk0
 |t::ts,vs,ds,ps,hr,h,hs,hp=>by
  obtain⟨v,vs1,d,ds1,a,b,rfl,rfl,rfl,h1,h2⟩:=trodAll_cons h;refine⟨a,b,WideElems.Trod_stays hl (hr t (by simp)).1 (hr t (by simp)).2 h1 (λp hp'=>hs p (by simp[hp'])) (λp hp'=>hp p (by simp[hp'])),?_,rfl⟩
  exact Gv hl (λt' ht'=>hr t' (by simp[ht'])) h2 (λp hp'=>hs p (by simp[hp'])) (λp hp'=>hp p (by simp[hp']))

theorem LQ {f:Func} {apart fresh handsOn again:Bool} {W W':World} {ds gs:List (DataW H)} {before pa pv:List MemPlace}
  (hW:DataW.Whole enc P f.params.toList s.vars apart W args.toList ds gs before)
  (hres:∀(b:Nat)(sp:Nat->Bool)(hd:Bool),DataW.TrodAll enc P W' b sp hd f.resultTypes.toList (v.resultList f.resultTypes.size) (s.fn H (ds++gs)).results [])
  (hargs:∀sp:Nat->Bool,(∀p∈before,sp p.block=true)->DataW.TrodAll enc P W' 0 sp true f.params.toList args.toList (s.fn H (ds++gs)).args pa)
  (hvars:∀sp:Nat->Bool,(∀p∈before,sp p.block=true)->DataW.TrodVars enc P W' sp s.vars (s.fn H (ds++gs)).vars pv)
  (hps:before=pa++pv) (hb:Below W.heap.size W W')
  (hok:∀(j:Nat)(t:TypeId)(r:Value),f.resultTypes[j]? =some t->(v.resultList f.resultTypes.size)[j]? =some r->Value.okWide P W' .any 0 t r):
  s.post enc P f apart fresh handsOn again W args v W':=by
 have hlt:∀p∈before,p.block<W.heap.size:=λp hp=>hW.lt p hp;have hold:∀p∈before,(λb=>decide (b<W.heap.size)) p.block=true:=λp hp=>by simpa using hlt p hp
 refine⟨ds,gs,before,[],pa,pv,hW,hres _ _ _,hargs _ hold,hvars _ hold,World.keptBut_mono (λp hp=>⟨hp,?_⟩) (hb.frame (·∈before)),λ_=>?_⟩
 ·rw[hps,aN]at hp;exact Or.inr hp
 ·obtain⟨_,_,_,_,_,hz,hn⟩:=hW;refine⟨hok,_,_,([]++pa)++pv,⟨[]++pa,pv,trodAll_append (hargs _ (λ_ _=>rfl)) (hres _ _ _),hvars _ (λ_ _=>rfl),rfl,?_,?_⟩,?_⟩
  ·intro b off hp;have hin:MemPlace.cell b off∈before:=by rw[hps];simpa using hp
   rw[hb.frozen (hlt _ hin)];exact hz b off hin
  ·intro ha;have:=hn ha;rw[hps]at this;simpa using this
  ·intro p hp _;rw[hps];simpa using hp
theorem VJ {b:TypeId} (hl:laidOutB P=true) {f:Func} {apart fresh handsOn again:Bool} {W W':World} {ds:List (DataW H)} {before:List MemPlace}
  (hr:∀t∈f.params.toList,P.readableRec t=true/\t<P.types.size) (hv:s.vars=[]) (hbool:f.resultTypes=#[b]) (hb4:P.underlying b=some .bool)
  (hfn:s.fn H (ds++[])={ results:=[.lit (.bool true)],args:=ds })
  (hW:DataW.Whole enc P f.params.toList s.vars apart W args.toList ds [] before)
  (hA:DataW.TrodAll enc P W 0 (λ_=>true) true f.params.toList args.toList ds before)
  (hb:Below W.heap.size W W'):s.post enc P f apart fresh handsOn again W args (.bool true) W':=by
 have hlt:∀p∈before,p.block<W.heap.size:=λp hp=>hW.lt p hp;refine LQ (ds:=ds) (gs:=[]) (pa:=before) (pv:=[]) hW ?_ ?_ ?_ (by simp) hb ?_
 ·intro b' sp hd;rw[hfn,hbool];exact trodAll_mk1 (shut_bool hb4 _)
 ·intro sp hsp;rw[hfn];exact Gv hl hr hA (λp hp=>hb.same (hlt p hp)) hsp
 ·intro sp _;rw[hfn,hv];rfl
 ·intro j t r hj hrj;rw[hbool]at hj hrj;exact ok_one (f:=f) hbool rfl (okWide_bool_mk hb4 _) j t r (by rw[hbool];exact hj) (by rw[hbool];exact hrj)
end
theorem Tryz.own:ownKnob Tryz.prog.godebug=none:=by kernel_rfl
variable{own:Own}
theorem Tryz.laidOut:laidOutB Tryz.prog=true:=by kernel_rfl
def pickP(is:List (Option Nat))(own:Own):Own:=is.map λ|none=>none|some i=>(own[i]?).join
theorem Hc:∀{own:Own}{i j:Nat}{k k':Bk},own.ids.Nodup->own[i]? =some (some k)->own[j]? =some (some k')->k.g=k'.g->i=j
 | [],i,j,k,k',_,h,_,_=>by simp at h
 |x::l,0,0,k,k',_,_,_,_=>rfl
 |x::l,0,j+1,k,k',hn,h1,h2,e=>by simp at h1 h2;subst h1;rw[Own.ids_cons]at hn;simp at hn;exact absurd (e▸Own.mem_ids (aH h2)) hn.1
 |x::l,i+1,0,k,k',hn,h1,h2,e=>by simp at h1 h2;subst h2;rw[Own.ids_cons]at hn;simp at hn;exact absurd (e▸Own.mem_ids (aH h1)) hn.1
 |x::l,i+1,j+1,k,k',hn,h1,h2,e=>by rw[Own.ids_cons]at hn;have hn2:Own.ids l|>.Nodup:=(aO.1 hn).2.1;have:=Hc (i:=i) (j:=j) (k:=k) (k':=k') hn2 (by simpa using h1) (by simpa using h2) e;omega
theorem Ii{is:List (Option Nat)}{k:Bk}(h:some k∈pickP is own):∃i,some i∈is/\own[i]? =some (some k):=by
 obtain⟨a,ha,e⟩:=bF.1 h;cases a with
 |none=>cases e
 |some i=>
  refine⟨i,ha,?_⟩
  have e:(own[i]?).join=some k:=e;cases h2:own[i]? with
  |none=>rw[h2]at e;cases e
  |some x=>rw[h2]at e;rw[show x=some k from e]
theorem EW{own:Own}(hn:own.ids.Nodup):∀{is:List (Option Nat)},(is.filterMap id).Nodup->(pickP is own).ids.Nodup
 | [],_=>by simp[pickP,Own.ids]
 |none::is,h=>by have ih:=EW hn (is:=is) (by simpa using h);show(Own.ids (none::pickP is own)).Nodup;rw[Own.ids_cons];simpa using ih
 |some i::is,h=>by
  have h2:i∉is.filterMap id/\(is.filterMap id).Nodup:=by simpa using h
  have ih:=EW hn h2.2;show(Own.ids ((own[i]?).join::pickP is own)).Nodup;rw[Own.ids_cons];cases e:(own[i]?).join with
  |none=>simpa using ih
  |some k=>
   have hk:own[i]? =some (some k):=by
    cases h3:own[i]? with
    |none=>rw[h3]at e;cases e
    |some x=>rw[h3]at e;rw[show x=some k from e]
   refine aP.2 ⟨λhm=>?_,ih⟩;obtain⟨k',hk',e2⟩:=Own.of_ids hm;obtain⟨j,hj,hj2⟩:=Ii hk';have:i=j:=Hc hn hk hj2 e2.symm;subst this;exact h2.1 (cL.2 ⟨_,hj,rfl⟩)
theorem keepP(is:List (Option Nat))(hn:decide (is.filterMap id).Nodup=true)(e:pickP is own=own')(w:World)(h:St w g own):St w g own':=by
 subst e;exact h.fewer (EW h.nodup (of_decide_eq_true hn)) λk hk=>by obtain⟨i,_,h2⟩:=Ii hk;exact aH h2
section
variable{n:Nat}{ty:TypeId}
theorem Ob(hi:own[i]? =some k):own.set i k=own:=by
 apply bC;intro j;rw[aB];split
 ·rename_i e;subst e;split
  ·exact hi.symm
  ·rename_i hlt;rw[aD (by omega)]
 ·rfl
theorem Ra{r:Psi}(h:Buf p T et (.slice A xs.length c) k xs)(hl:p.le r)(hk:∀b,k=some b->r.m b.g=some b.obj):Arr r T A c xs:=by
 have h:=h.mono hl;rcases h.2 with⟨h1,rfl,_⟩|⟨b,cap,cs,sp,h1,h2,h3,h4,h5⟩
 ·exact Arr.nil
 ·injection h1 with e1 e2 e3;subst e1;subst e3;obtain⟨kb,hkb,rfl,_,_,fz,hob⟩:=h2.some_;have hm:=hk _ hkb;refine⟨?_,h.1,cs,h3,λ_=>⟨_,rfl,λj v hj=>?_⟩⟩
  ·rw[aC,h3.len]at h4;exact aM (by omega:xs.length*T.n<=c*T.n) T.pos
  ·rw[AF];have:(cs++sp)[j]? =some v:=by have hlt:j<cs.length:=(aJ.1 hj).1;rw[aR hlt];exact hj
   simp only[Psi.cell?,hm,hob];simpa using this
theorem Buf.open_ {l:Nat} (h:Buf p T et (.slice A l c) k xs) (hi:i < xs.length) (d:α) :
  ∃kb cs,A=some ⟨kb.g,0,none⟩/\k=some kb/\T.rep p cs (xs.getD i d)/\(kb.cs.drop (i*T.n)).take T.n=cs:=by
 rcases h.2 with⟨_,rfl,_⟩|⟨b,cap,cs,sp,h1,h2,h3,h4,h5⟩
 ·simp at hi
 ·injection h1 with e1 e2 e3;have hx:xs[i]? =some (xs.getD i d):=by rw[bJ,aK hi];rfl
  obtain⟨kb,hkb,rfl,hkc,_⟩:=h2.some_;refine⟨kb,_,e1,hkb,h3.at_ hx,?_⟩
  rw[hkc];have hle:i*T.n+T.n<=cs.length:=by rw[h3.len,<-aV];exact bX _ hi
  show(bO (i*T.n) (cs++sp)).take T.n=(bO (i*T.n) cs).take T.n;rw[bZ (by omega),cB (by rw[aQ];omega)]
theorem rowAt(h:(kb.cs.drop (i*m)).take m=cs)(hv:cs[off]? =some v):kb.cs[i*m+off]? =some v:=by subst h;exact Bu hv
theorem JW:∀(vs cs:List Value)(o:Nat),(setRow cs o vs).length=cs.length
 | [],cs,o=>rfl
 |v::vs,cs,o=>by rw[setRow,JW vs];simp
theorem Gz:∀(vs:List Value)(a b:List Value)(o:Nat),o+vs.length<=a.length->setRow (a++b) o vs=setRow a o vs++b
 | [],a,b,o,h=>rfl
 |v::vs,a,b,o,h=>by rw[setRow,setRow,List.set_append_left _ _ (by simp at h;omega)];exact Gz vs _ b (o+1) (by simp at h⊢;omega)
theorem EM:∀(vs:List Value)(a b:List Value)(o:Nat),setRow (a++b) (a.length+o) vs=a++setRow b o vs
 | [],a,b,o=>rfl
 |v::vs,a,b,o=>by rw[setRow,setRow,dB _ _ (by omega),show a.length+o-a.length=o by omega,cV];exact EM vs a _ (o+1)
theorem Reps.setPart:∀ {xs:List α} {cs:List Value} {i off:Nat} {vs:List Value} {x:α} {c:List Value},Reps T p cs xs->(cs.drop (i*T.n)).take T.n=c->T.rep p (setRow c off vs) x->off+vs.length<=T.n->i < xs.length ->
  Reps T p (setRow cs (i*T.n+off) vs) (xs.set i x)
 | [],cs,i,off,vs,x,c,h,hc,hx,ho,hi=>by simp at hi
 |y::xs,cs,0,off,vs,x,c,⟨c1,c2,e1,h1,h2⟩,hc,hx,ho,hi=>by
  subst e1;have e:c1=c:=by rw[<-hc,cX,List.drop_zero,<-T.len h1];simp
  subst e;rw[cX,cK,Gz _ _ _ _ (by rw[T.len h1];exact ho)];exact⟨_,c2,rfl,hx,h2⟩
 |y::xs,cs,i+1,off,vs,x,c,⟨c1,c2,e1,h1,h2⟩,hc,hx,ho,hi=>by
  subst e1;have hd:(c2.drop (i*T.n)).take T.n=c:=by rw[<-hc,aV,bQ,<-cO];rw[show bO T.n (c1++c2)=c2 by rw[<-T.len h1];simp]
  have ih:=h2.setPart hd hx ho (by simpa using hi);rw[aV,show i*T.n+T.n+off=c1.length+(i*T.n+off) by rw[T.len h1];omega,EM];exact⟨c1,_,rfl,h1,ih⟩
theorem VK (i m off io:Nat) (v:Value) (vs:List Value) {l:Nat} (xs:List α) (u:α) (hx:evS sl x=some (.pointer (some ⟨kb.g,i*m+off,none⟩))) (hy:evS sl y=some v) (hi:own[io]? = some (some kb))
  (hv:v.cells=vs.toArray) (hz:cellsOfT P t=some vs.length) (h1:vs.all Ig=true) (hb:Buf p T et (.slice A l c) (some kb) xs) (hm:m=T.n) (hr:(kb.cs.drop (i*m)).take m=cs) (hu:T.rep p (setRow cs off vs) u) (ho:bN (off+vs.length) T.n=true) (hlt:i<xs.length):
  Eff P n g own sl (.store t x y) ty (λv' g' own'=>∃k',g=g'/\own'=own.set io k'/\Buf p T et (.slice A l c) k' (xs.set i u)):=by
 subst hm;intro o a w Q K e1 e2 hf hs h;have ho':off+vs.length<=T.n:=by simpa using ho
 rcases hb.2 with⟨_,rfl,_⟩|⟨b,cap,cs0,sp,q1,q2,q3,q4,q5⟩
 ·simp at hlt
 ·have q2':=q2;obtain⟨hbg,q2c,_⟩:=q2.obj;subst hbg;have hl0:i*T.n+T.n<=cs0.length:=by rw[q3.len,<-aV];exact bX _ hlt
  have hcs:(cs0.drop (i*T.n)).take T.n=cs:=by rw[<-hr,q2c];show _=(bO (i*T.n) (cs0++sp)).take T.n;rw[bZ (by omega),cB (by rw[aQ];omega)]
  have hl:i*T.n+off+vs.length<=kb.cs.length:=by rw[q2c];simp;omega
  refine Jn (k:=kb) hx hy hi rfl hv hz h1 (by simpa using hl) rfl o a w Q K e1 e2 hf hs λv' g' own' w' hg hs' ⟨h2,h3⟩=>h v' g' own' w' hg hs' ⟨_,h2,h3,?_⟩;refine⟨by rw[aG];exact hb.1,.inr ⟨kb.g,cap,setRow cs0 (i*T.n+off) vs,sp,by rw[aG];exact q1,?_,q3.setPart hcs hu ho' hlt,by rw[aC,JW,<-aC];exact q4,q5⟩⟩
  rw[q2c,<-Gz _ _ _ _ (by omega)];rcases q2' with q|q<;>injection q with q
  ·exact .inl (by rw[show kb.t= .ty et by rw[q]])
  ·exact .inr (by rw[show kb.t= .ms et by rw[q]])
theorem AdZ(h:m*bytes<=140737488355328):m*bytes<=281474976710656:=Nat.le_trans h (by decide)
theorem Abp{K:Own}(is:List (Option Nat))(h:pickP is own=K):keepK K own:=by
 subst h;exact λk hk=>by obtain⟨i,_,h2⟩:=Ii hk;exact aH h2
theorem Rb{k:Bk}(off:Nat)(cs:List Value)(h:p.m k.g=some k.obj)(e:(k.cs.drop off).take cs.length=cs):Cells p ⟨k.g,off,none⟩ cs:=by
 intro j v hj;rw[AF];simp only[Psi.cell?,h];rw[<-e]at hj;have:=Bu hj;obtain⟨g,t,ks⟩:=k;cases t with
 |ty t=>simpa[Bk.obj]using this
 |ms t=>simpa[Bk.obj]using this
 |tr t e=>simpa[Bk.obj]using this
 |mp es n=>
  cases ks with
  |nil=>simp at this
  |cons c l=>simpa[Bk.obj]using this
theorem Buf.srcO(h:Buf p T et (.slice A xs.length c) k xs):∃news,Reps T p news xs/\∀(i:Nat) w(own:Own),St w g own->own[i]? =some k->Src w A xs.length news:=by obtain⟨news,h1,h2⟩:=h.src;exact⟨news,h1,λi w own hs hi=>h2 w λb hb=>by subst hb;exact hs.has b (aH hi)⟩
structure ArrM(r b:Psi)(T:Ty α)(A:Option Addr)(c:Nat)(xs:List α):Prop where
 cap:xs.length<=c
 len:xs.length<=140737488355328
 row:∃cs,Reps T b cs xs/\(0<xs.length->∃ad,A=some ad/\Cells r ad cs)
theorem ArrM.mono{r b r' b':Psi}{A:Option Addr}{c:Nat}{xs:List α}(h:ArrM r b T A c xs)(k:r.le r')(l:b.le b'):ArrM r' b' T A c xs:=by obtain⟨h1,h0,cs,h2,h3⟩:=h;exact⟨h1,h0,cs,h2.mono l,λhn=>by obtain⟨ad,e,hc⟩:=h3 hn;exact⟨ad,e,hc.mono k⟩⟩
theorem ArrM.toArr{r b:Psi}(h:ArrM r b T A c xs)(l:b.le r):Arr r T A c xs:=by obtain⟨h1,h0,cs,h2,h3⟩:=h;exact⟨h1,h0,cs,h2.mono l,h3⟩
theorem Arr.toM{r b:Psi}(h:Arr b T A c xs)(l:b.le r):ArrM r b T A c xs:=by obtain⟨h1,h0,cs,h2,h3⟩:=h;exact⟨h1,h0,cs,h2,λhn=>by obtain⟨ad,e,hc⟩:=h3 hn;exact⟨ad,e,hc.mono l⟩⟩
theorem ArrM.lent(h:ArrM g.r g.b T A c xs)(k:g.r.le g'.r)(e:g'.b=g.b):ArrM g'.r g'.b T A c xs:=by rw[e];exact h.mono k (.refl _)
theorem ArrM.nil{r b:Psi}:ArrM r b T A c []:=⟨dD _,by simp,[],rfl,λh=>absurd h (by simp)⟩
theorem ArrM.at_{r b:Psi}{A:Option Addr}{c:Nat}{xs:List α}(h:ArrM r b T A c xs){i:Nat}{x:α}(hi:xs[i]? =some x):∃ad cs,A=some ad/\T.rep b cs x/\Cells r (ad.add (i*T.n)) cs:=by
 obtain⟨_,_,cs,h2,h3⟩:=h;have hlt:i<xs.length:=by
  rcases aU i xs.length with h|h
  ·exact h
  ·rw[aD h]at hi;cases hi
 obtain⟨ad,e,hc⟩:=h3 (by omega);exact⟨ad,_,e,h2.at_ hi,hc.part _ _⟩
theorem ArrM.srcM(h:ArrM g.r g.b T A c xs):∃news,Reps T g.b news xs/\∀w own,St w g own->Src w A xs.length news:=by
 obtain⟨_,_,cs,h2,h3⟩:=h;refine⟨cs,h2,λw own hs hn=>?_⟩
 obtain⟨ad,e,hc⟩:=h3 hn;exact⟨ad,e,λj u hj=>hs.r.cell (hc j u hj)⟩
theorem Oc(h:Buf g.b T et (.slice A xs.length c) k xs)(e:g'.b=g.b)(hk:∀b,k=some b->g'.r.m b.g=some b.obj):ArrM g'.r g'.b T A c xs:=by
 rw[e];rcases h.2 with⟨h1,rfl,_⟩|⟨b,cap,cs,sp,h1,h2,h3,h4,h5⟩
 ·exact ArrM.nil
 ·injection h1 with e1 e2 e3;subst e1;subst e3;obtain⟨kb,hkb,rfl,_,_,fz,hob⟩:=h2.some_;have hm:=hk _ hkb;refine⟨?_,h.1,cs,h3,λ_=>⟨_,rfl,λj v hj=>?_⟩⟩
  ·rw[aC,h3.len]at h4;exact aM (by omega:xs.length*T.n<=c*T.n) T.pos
  ·rw[AF];have:(cs++sp)[j]? =some v:=by have hlt:j<cs.length:=(aJ.1 hj).1;rw[aR hlt];exact hj
   simp only[Psi.cell?,hm,hob];simpa using this
end
section
variable{n:Nat}{K:Own}{fuel:Nat}{listed:List Bool}
end
section
variable{n:Nat}{ty:TypeId}
end
section
variable{n:Nat}{ty:TypeId}
def partOf(P:Program)(t:TypeId)(xs:Array Value)(off:Nat):Option Value:=
 match aggOf P t with
 |some m=>some (.agg (xs.extract off (off+m)))
 |none=>if flatOf P t then xs[off]? else none
theorem EN{xs:Array Value}(h:partOf P t xs off=some v)(w:World):(part t xs off).run P w= .ok v w:=by
 unfold partOf at h;split at h
 ·rename_i m hm;injection h with h;obtain⟨h1,h2⟩:=EJ hm w;subst h;simp[part,h1,h2]
 ·split at h
  ·rename_i hf;have h1:=DI hf w;simp[part,h1,h]
  ·cases h
def joinB(c:Bool):Option Bool->Option Bool
 |none=>some c
 |some r=>some (c&&r)
def strEq(x y:Bt):Bool:=(mkS x).toList==(mkS y).toList
theorem CZ(x y:Bt):strEq x y=(x==y):=by unfold strEq;rw[Bv,Bv]
def eqOf(P:Program):Nat->TypeId->Value->Value->Option Bool
 |0,_,_,_=>none
 |d+1,t,x,y=>
  match P.underlying t,x,y with
  |some .bool,.bool a,.bool b=>some (a==b)
  |some .string,.string a,.string b=>some (a.toList==b.toList)
  |some (.int _),.int k a,.int k' b=>if k=k' then some (a==b)else none
  |some (.struct _),.agg xs,.agg ys=>
   if P.stoodInHeld t then none else
   match(P.fieldsOf t).toList.foldr (λf r=>match r with
    |none=>none
    | some r=>if f.name = "_" then some r else
     match partOf P f.type xs f.offset,partOf P f.type ys f.offset with
     |some a,some b=>match eqOf P d f.type a b with
      |some c=>some (joinB c r)
      |none=>none
     |_,_=>none) (some none)with
   |some (some b)=>some b
   |_=>none
  |some (.array m e),.agg xs,.agg ys=>
   match P.info? e with
   |none=>none
   | some _=>match (List.range m).foldr (λi r=>match r with
     |none=>none
     |some r=>match partOf P e xs (i*P.cellsOf e),partOf P e ys (i*P.cellsOf e)with
      |some a,some b=>match eqOf P d e a b with
       |some c=>some (joinB c r)
       |none=>none
      |_,_=>none) (some none)with
    |some (some b)=>some b
    |_=>none
  |_,_,_=>none
theorem Od {d D:Nat} {w:World} {e:TypeId} {k:Nat} {xs ys:Array Value} (ih:∀ t x y b,eqOf P d t x y=some b->(Op.equalIn (d+D) t x y).run P w = .ok b w):∀ (is:List Nat) (r:Option Bool),
  is.foldr (λi r=>match r with
     |none=>none
     |some r=>match partOf P e xs (i*k),partOf P e ys (i*k)with
      |some a,some b=>match eqOf P d e a b with
       |some c=>some (joinB c r)
       |none=>none
      |_,_=>none) (some none)=some r->(Op.eqItems (d+D) e k xs ys is).run P w= .ok (r.getD true) w
 | [],r,h=>by injection h with h;subst h;simp[Op.eqItems]
 |i::is,r,h=>by
  rw[List.foldr_cons]at h;split at h
  ·cases h
  ·rename_i r1 hr1;have ih2:=Od ih is r1 hr1;split at h
   ·rename_i a b ha hb;split at h
    ·rename_i c hc;injection h with h;have e:=ih _ _ _ _ hc;subst h;simp only[Op.eqItems,Sem.run_bind,EN ha,EN hb,Result.andThen_ok,e];cases c with
     |false=>cases r1<;>simp[joinB]
     |true=>cases r1<;>simp[joinB,ih2]
    ·cases h
   ·cases h
theorem Oe {d D:Nat} {w:World} {xs ys:Array Value} (ih:∀ t x y b,eqOf P d t x y=some b->(Op.equalIn (d+D) t x y).run P w = .ok b w):∀ (fs:List Field) (r:Option Bool),
  fs.foldr (λf r=>match r with
    |none=>none
    | some r=>if f.name = "_" then some r else
     match partOf P f.type xs f.offset,partOf P f.type ys f.offset with
     |some a,some b=>match eqOf P d f.type a b with
      |some c=>some (joinB c r)
      |none=>none
     |_,_=>none) (some none)=some r->(Op.eqFields (d+D) xs ys fs).run P w= .ok (r.getD true) w
 | [],r,h=>by injection h with h;subst h;simp[Op.eqFields]
 |f::fs,r,h=>by
  rw[List.foldr_cons]at h;split at h
  ·cases h
  ·rename_i r1 hr1;have ih2:=Oe ih fs r1 hr1;split at h
   ·rename_i hn;injection h with h;subst h;simp[Op.eqFields,hn,ih2]
   ·rename_i hn;split at h
    ·rename_i a b ha hb;split at h
     ·rename_i c hc;injection h with h;have e:=ih _ _ _ _ hc;subst h;simp only[Op.eqFields,hn,ne_eq,not_false_eq_true,if_true,Sem.run_bind,EN ha,EN hb,Result.andThen_ok,e];cases c with
      |false=>cases r1<;>simp[joinB]
      |true=>cases r1<;>simp[joinB,ih2]
     ·cases h
    ·cases h
theorem Hd{w:World}:∀(d D:Nat)(t:TypeId)(x y:Value)(b:Bool),eqOf P d t x y=some b->(Op.equalIn (d+D) t x y).run P w= .ok b w
 |0,D,t,x,y,b,h=>by cases h
 |d+1,D,t,x,y,b,h=>by
  rw[show d+1+D=(d+D)+1 by omega];unfold eqOf at h;split at h
  ·rename_i a b' ht;injection h with h;subst h;exact run_equalIn_bool' w _ t a b' ht
  ·rename_i a b' ht;injection h with h;subst h;exact run_equalIn_string w _ t a b' ht
  ·rename_i k0 k a k' b' ht;split at h
   ·rename_i hk;injection h with h;subst h;subst hk;exact run_equalIn_int w _ t k k0 a b' ht
   ·cases h
  ·rename_i fs xs ys ht;split at h
   ·cases h
   ·rename_i hst;split at h
    ·rename_i b' hf;injection h with h;subst h;have hfs:P.underlying t=some (.struct (P.fieldsOf t)):=by simp[Program.fieldsOf,ht]
     rw[run_equalIn_struct w _ t xs ys hfs (by simpa using hst)];exact Oe (λt x y b h=>Hd d D t x y b h) _ _ hf
    ·cases h
  ·rename_i m e xs ys ht;split at h
   ·cases h
   ·rename_i i hi;split at h
    ·rename_i b' hf;injection h with h;subst h;rw[run_equalIn_array w _ xs ys ht hi];exact Od (λt x y b h=>Hd d D t x y b h) _ _ hf
    ·cases h
  ·cases h
theorem AgI{xs ys:Array Value}{b:Bool}(hx:evS sl x=some (.agg xs))(hy:evS sl y=some (.agg ys))(hg:P.eqGuardType P.depth t=false)(h:eqOf P 9 t (.agg xs) (.agg ys)=some b):Yld P n p own sl (.binOp .eql t x y u) ty (.bool b):=by intro o a w h1 h2 hf hr;have e:=Hd (P:=P) (w:=w) 9 9991 t _ _ b h;have e2:=run_eql_struct (P:=P) w t xs ys;rw[e]at e2;simp[execOp,h1,hf.ev hx,hf.ev hy,run_eqGuard_agg (P:=P) w .eql t x y xs ys hg,e2]
theorem AgJ{xs ys:Array Value}{b:Bool}(hx:evS sl x=some (.agg xs))(hy:evS sl y=some (.agg ys))(hg:P.eqGuardType P.depth t=false)(h:eqOf P 9 t (.agg xs) (.agg ys)=some b):Yld P n p own sl (.binOp .neq t x y u) ty (.bool (!b)):=by intro o a w h1 h2 hf hr;have e:=Hd (P:=P) (w:=w) 9 9991 t _ _ b h;have e2:=run_neq_struct (P:=P) w t xs ys;rw[e]at e2;simp[execOp,h1,hf.ev hx,hf.ev hy,run_eqGuard_agg (P:=P) w .neq t x y xs ys hg,e2]
end
abbrev vi(x:Int):Value:= .int .i64 x
abbrev vy(x:Int):Value:= .int .u8 x
abbrev vb(b:Bool):Value:= .bool b
abbrev vs{α:Type}(A:Option Addr)(xs:List α)(c:Nat):Value:= .slice A xs.length c
inductive Ctl(σ ρ:Type) where
 |go (s:σ)
 |done (r:ρ)
def grd{ρ:Type}(b:Bool)(x:Option ρ):Option ρ:=cond b x none
def bindO{τ ρ:Type}(x:Option τ)(k:τ->Option ρ):Option ρ:=match x with|some t=>k t|none=>none
def joinO{τ ρ:Type}(x:Option (Ctl τ ρ))(k:τ->Option ρ):Option ρ:=match x with|some (.go t)=>k t|some (.done r)=>some r|none=>none
def loopO{σ ρ:Type}(n:Nat)(f:σ->Option (Ctl σ ρ))(s:σ):Option ρ:=Nat.rec (motive:=λ_=>σ->Option ρ) (λ_=>none) (λ_ ih s=>joinO (f s) ih) n s
def fuelN:Nat:=18446744073709551616
theorem Adz{ρ:Type}{b:Bool}{A:Option ρ}{r:ρ}(hS:grd b A=some r):b=true/\A=some r:=by
 cases b with
 |true=>exact⟨rfl,hS⟩
 |false=>cases hS
theorem He{τ ρ:Type}{x:Option τ}{k:τ->Option ρ}{r:ρ}(hS:bindO x k=some r):∃t,x=some t/\k t=some r:=by
 cases x with
 |none=>cases hS
 |some t=>exact⟨t,rfl,hS⟩
theorem Sv{τ ρ:Type}{x:Option (Ctl τ ρ)}{k:τ->Option ρ}{r:ρ}(hS:joinO x k=some r):∃c,x=some c/\(∀t,c= .go t->k t=some r)/\∀v,c= .done v->v=r:=by
 cases x with
 |none=>cases hS
 |some c=>
  refine⟨c,rfl,λt e=>?_,λv e=>?_⟩
  ·subst e;exact hS
  ·subst e;exact Option.some.inj hS
theorem Sw{σ ρ:Type}{n:Nat}{f:σ->Option (Ctl σ ρ)}{s:σ}{r:ρ}(hS:loopO n f s=some r):∃m c,n=m+1/\f s=some c/\(∀t,c= .go t->loopO m f t=some r)/\∀v,c= .done v->v=r:=by
 cases n with
 |zero=>cases hS
 |succ m=>
  obtain⟨c,h1,h2,h3⟩:=Sv (x:=f s) (k:=loopO m f) hS;exact⟨m,c,rfl,h1,h2,h3⟩
section
variable{n:Nat}{p:List Nat}
end
section
variable{n:Nat}
end
section
variable{n:Nat}
variable{K:Own}
theorem kk{G:Prop}(m:List (Option Nat))(k:G)(h:pickP m own'=K:=by kernel_rfl):(fin.contains i=true\/keepK K own')/\G:=⟨.inr (Abp m h),k⟩
end
section
variable{n:Nat}{ty:TypeId}
def bnd(o:Option Int)(d:Nat)(l:Nat):Prop:=match o with|none=>d=l|some z=>z=(l:Int)
end
section
variable{n:Nat}{ty:TypeId}
def boxC(P:Program)(sl:Sl)(op:Op):Option (TypeId×List Value):=match op with
 | .box t x=>(evS sl x).map λv=>(t,v.cells.toList)
 | .alloc t=>(zeroOf P t).map λz=>(t,z.toList)
 |_=>none
theorem eBox(hc:boxC P sl op=some (t,cs)):Eff P n g own sl op ty (λv' g' own'=>∃b,v'= .pointer (some ⟨b,0,none⟩)/\g=g'/\own'=some ⟨b,t,cs⟩::own):=by
 unfold boxC at hc;split at hc
 ·simp only[bA,Prod.mk.injEq]at hc;obtain⟨v,h1,rfl,rfl⟩:=hc;exact Adx h1 (by simp)
 ·simp only[bA,Prod.mk.injEq]at hc;obtain⟨z,h1,rfl,rfl⟩:=hc;exact Sr (by simpa using h1)
 ·cases hc
theorem eB(hc:boxC P sl op=some (((boxC P sl op).map Prod.fst).getD 0,((boxC P sl op).map Prod.snd).getD []):=by kernel_rfl):Eff P n g own sl op ty (λv' g' own'=>∃b,v'= .pointer (some ⟨b,0,none⟩)/\g=g'/\own'=some ⟨b,((boxC P sl op).map Prod.fst).getD 0,((boxC P sl op).map Prod.snd).getD []⟩::own):=eBox hc
def Row(p:Psi)(T:Ty α)(et:TypeId)(b:Nat)(N:Nat)(k:Option Bk)(xs:List α):Prop:=∃cs,k=some ⟨b,et,cs⟩/\Reps T p cs xs/\xs.length=N
theorem Row.mono{et:TypeId}{b N:Nat}{k:Option Bk}{xs:List α}{q:Psi}(h:Row p T et b N k xs)(hl:p.le q):Row q T et b N k xs:=by obtain⟨cs,h1,h2,h3⟩:=h;exact⟨cs,h1,h2.mono hl,h3⟩
theorem Row.open_(h:Row p T et b N k xs)(hi:i<N)(d:α):∃kb cs,b=kb.g/\k=some kb/\i<xs.length/\T.rep p cs (xs.getD i d)/\(kb.cs.drop (i*T.n)).take T.n=cs:=by
 obtain⟨cs,h1,h2,h3⟩:=h;have hx:xs[i]? =some (xs.getD i d):=by rw[bJ,aK (by omega)];rfl
 exact⟨_,_,rfl,h1,by omega,h2.at_ hx,rfl⟩
end
section
variable{n:Nat}{g0:Gh}{pth:List Nat}
end
section
variable{n:Nat}{c:Code}{p:List Nat}
end
section
variable{n:Nat}
end
section
variable{n:Nat}{ty:TypeId}
end
section
variable{n:Nat}{ty:TypeId}
end
section
variable{n:Nat}{K:Own}
end
theorem Aea{x:Int}(h:0<=x/\x<=4294967295):IntKind.u32.wrap x=x:=IntWalk.u32_in x h
section
variable{n:Nat}{ty:TypeId}
theorem JX(d:Nat){e:TypeId}(ht:P.underlying t=some (.pointer e)):(Op.equalIn (d+1) t (.pointer A) (.pointer none)).run P w= .ok A.isNone w:=by cases A<;>simp[Op.equalIn,run_underlying ht]
end
theorem JY{σ ρ:Type}{f:σ->Option (Ctl σ ρ)}{s s':σ}(h:f s=some (.go s')):loopO (N+1) f s=loopO N f s':=by show joinO (f s) (loopO N f)=_;rw[h];rfl
theorem GA{σ ρ:Type}{f:σ->Option (Ctl σ ρ)}{s:σ}{r:ρ}(h:f s=some (.done r)):loopO (N+1) f s=some r:=by show joinO (f s) (loopO N f)=_;rw[h];rfl
section
variable{n:Nat}{ty:TypeId}
def cvC(P:Program)(sl:Sl)(op:Op):Option (Option Addr×Nat×Nat):=match op with
 | .convert s d x=>match evS sl x,P.underlying s,P.underlying d with
  |some (.slice A l c),some (.slice _),some (.slice e)=>match s==d,P.underlying e with
   |true,some (.int .u8)=>some (A,l,c)
   |_,_=>none
  |_,_,_=>none
 |_=>none
end
open Go.RowKit
def landnK(k:IntKind)(a b:Int):Int:=k.wrap (bE k.bits a&&&~~~ bE k.bits b).toNat
section
variable{n:Nat}{ty:TypeId}
end
section
variable{n:Nat}{ty:TypeId}
end
section
variable{n:Nat}{ty:TypeId}
end
open Go.RowKit Go.WideShapes Go.ChangeShapes Go.Deep
def mapEnts:List Value->Nat->List MapEntry
 |k::v::l,i=>⟨k,v,i⟩::mapEnts l (i+1)
 |_,_=>[]
def mapB(cs:List Value):BkT:= .mp (mapEnts cs 0).toArray (cs.length/2)
section
def ElS(T:Ty α)(p:Psi)(v:Value)(y:List α):Prop:=∃A c,v= .slice A y.length c/\Arr p T A c y
def MReps(T:Ty α)(p:Psi):List Value->List (Int×List α)->Prop
 | [],[]=>True
 |k::v::cs,x::xs=>k= .int .u8 x.1/\ElS T p v x.2/\MReps T p cs xs
 |_,_=>False
theorem ElS.mono{v:Value}{y:List α}(h:ElS T p v y)(hl:p.le q):ElS T q v y:=by obtain⟨A,c,e,f⟩:=h;exact⟨A,c,e,f.mono hl⟩
theorem MReps.mono(hl:p.le q):∀{cs:List Value}{xs:List (Int×List α)},MReps T p cs xs->MReps T q cs xs
 | [],[],_=>trivial
 | [],_::_,h=>h.elim
 | [_],_,h=>h.elim
 |k::v::cs,[],h=>h.elim
 |k::v::cs,x::xs,h=>⟨h.1,h.2.1.mono hl,MReps.mono hl h.2.2⟩
def MBuf(p:Psi)(T:Ty α)(v:Value)(k:Option Bk)(xs:List (Int×List α)):Prop:=∃b cs,v= .map (some b)/\k=some ⟨b,mapB cs,[]⟩/\MReps T p cs xs
theorem MBuf.mono{v:Value}{k:Option Bk}{xs:List (Int×List α)}(h:MBuf p T v k xs)(hl:p.le q):MBuf q T v k xs:=by obtain⟨b,cs,h1,h2,h3⟩:=h;exact⟨b,cs,h1,h2,h3.mono hl⟩
end
theorem St.allocK(h:St w g own)(k:Bk)(hk0:k.g=w.heap.size)(hsat:k.sat=[]:=by rfl):St (w.alloc k.obj) g (some k::own):=by
 refine⟨⟨h.r.os,h.r.tape,h.r.out,λb o e=>?_⟩,?_,?_,?_,h.sat.new k hsat (by omega) λb hb=>Below.heap_alloc _ _ _ hb⟩
 ·have h1:=h.r.m b o e;have hlt:b<w.heap.size:=by
   rcases aU b w.heap.size with h2|h2
   ·exact h2
   ·rw[aY h2]at h1;cases h1
  rw[Below.heap_alloc _ _ _ hlt];exact h1
 ·simp only[Own.ids,bL,bM,aP];refine⟨λhm=>?_,h.nodup⟩
  obtain⟨k',hk,e⟩:=Own.of_ids hm;have:=h.has.lt hk;omega
 ·intro k' hk;rcases aA.1 hk with e|hk
  ·injection e with e;subst e;rw[hk0];show(w.heap.push _)[w.heap.size]? =_;simp
  ·rw[Below.heap_alloc _ _ _ (h.has.lt hk)];exact h.has k' hk
 ·intro k' hk;rcases aA.1 hk with e|hk
  ·injection e with e;subst e;rw[hk0];exact h.r.lt (bV _)
  ·exact h.free k' hk
section
variable{n:Nat}{ty:TypeId}
end
inductive Cd where
 |i (k:IntKind)
 |y
 |b
 |s
 |a (c:Cd)
 |p (c d:Cd)
def Cd.den:Cd->Type
 | .i _=>Int
 | .y=>UInt8
 | .b=>Bool
 | .s=>Bt
 | .a c=>List c.den
 | .p c d=>c.den×d.den
def Cd.n:Cd->Nat
 | .p c d=>c.n+d.n
 |_=>1
variable{n:Nat}
def Cd.dflt:(c:Cd)->c.den
 | .i _=>(0:Int)
 | .y=>(0:UInt8)
 | .b=>false
 | .s=>([]:Bt)
 | .a c=>([]:List c.den)
 | .p c d=>(c.dflt,d.dflt)
def sameK:(j k:IntKind)->Option (PLift (j=k))
 | .i8,.i8=>some ⟨rfl⟩| .i16,.i16=>some ⟨rfl⟩| .i32,.i32=>some ⟨rfl⟩| .i64,.i64=>some ⟨rfl⟩
 | .u8,.u8=>some ⟨rfl⟩| .u16,.u16=>some ⟨rfl⟩| .u32,.u32=>some ⟨rfl⟩| .u64,.u64=>some ⟨rfl⟩
 |_,_=>none
def Cd.same:(c d:Cd)->Option (PLift (c=d))
 | .i j,.i k=>match sameK j k with|some ⟨h⟩=>some ⟨by rw[h]⟩|none=>none
 | .y,.y=>some ⟨rfl⟩
 | .b,.b=>some ⟨rfl⟩
 | .s,.s=>some ⟨rfl⟩
 | .a c,.a d=>match c.same d with|some ⟨h⟩=>some ⟨by rw[h]⟩|none=>none
 | .p c d,.p e f=>match c.same e,d.same f with|some ⟨h⟩,some ⟨k⟩=>some ⟨by rw[h,k]⟩|_,_=>none
 |_,_=>none
theorem EX(k:IntKind):inK k 0:=by cases k<;>simp[inK,dG,dH,cR,cY]
theorem DK(k:IntKind)(x:Int):inK k (k.wrap x):=by have h:k.wrap x=k.wrap x:=rfl;cases k<;>simp[inK,dG,dH,cR,cY,IntKind.wrap]<;>omega
def tyIR(k:IntKind):Ty Int:=⟨1,by decide,λ_ cs x=>cs=[.int k x]/\inK k x,λh=>by rw[h.1];rfl,λh=>by rw[h.1];rfl,λ_ h=>h⟩
def tySR:Ty (Bt):=⟨1,by decide,λ_ cs x=>cs=[.string (mkS x)]/\x.length<=1125899906842624,λh=>by rw[h.1];rfl,λh=>by rw[h.1];rfl,λ_ h=>h⟩
def tyPr{α β:Type}(T:Ty α)(U:Ty β):Ty (α×β):=⟨T.n+U.n,Nat.add_pos_left T.pos _,λp cs x=>∃c1 c2,cs=c1++c2/\T.rep p c1 x.1/\U.rep p c2 x.2,
 λ⟨c1,c2,e,h1,h2⟩=>by rw[e,aC,T.len h1,U.len h2],λ⟨c1,c2,e,h1,h2⟩=>by rw[e,List.all_append,T.one h1,U.one h2];rfl,λk ⟨c1,c2,e,h1,h2⟩=>⟨c1,c2,e,T.mono k h1,U.mono k h2⟩⟩
def Cd.ty:(c:Cd)->Ty c.den
 | .i k=>tyIR k
 | .y=>Ci
 | .b=>tyB
 | .s=>tySR
 | .a c=>tyArr c.ty
 | .p c d=>tyPr c.ty d.ty
variable{ty:TypeId}
theorem Cd.ty_n:∀(c:Cd),c.ty.n=c.n
 | .i _=>rfl
 | .y=>rfl
 | .b=>rfl
 | .s=>rfl
 | .a _=>rfl
 | .p c d=>by show c.ty.n+d.ty.n=c.n+d.n;rw[Cd.ty_n c,Cd.ty_n d]
def leI:Int->Int->Bool
 | .ofNat a,.ofNat b=>bN a b
 | .negSucc _,.ofNat _=>true
 | .ofNat _,.negSucc _=>false
 | .negSucc a,.negSucc b=>bN b a
theorem VL{a b:Int}(h:leI a b=true):a<=b:=by
 cases a<;>cases b<;>simp only[leI]at h
 ·have:=aW h;rw[cC,cC];omega
 ·cases h
 ·rw[cC];omega
 ·have:=aW h;omega
def kMin:IntKind->Int
 | .i8=> .negSucc 127| .i16=> .negSucc 32767| .i32=> .negSucc 2147483647| .i64=> .negSucc 9223372036854775807|_=>0
def kMax:IntKind->Int
 | .i8=>127| .i16=>32767| .i32=>2147483647| .i64=>9223372036854775807| .u8=>255| .u16=>65535| .u32=>4294967295| .u64=>18446744073709551615
def inKb(k:IntKind)(x:Int):Bool:=leI (kMin k) x&&leI x (kMax k)
theorem Sx{k:IntKind}{x:Int}(h:inKb k x=true):inK k x:=by
 simp only[inKb,bU]at h;have h1:=VL h.1;have h2:=VL h.2;have e1:k.min=kMin k:=by cases k<;>rfl
 have e2:k.max=kMax k:=by cases k<;>rfl
 exact⟨by rw[e1];exact h1,by rw[e2];exact h2⟩
def encV:(c:Cd)->c.den->Option (List Value)
 | .i k,x=>cond (inKb k x) (some [.int k x]) none
 | .y,x=>some [.int .u8 ((UInt8.toNat x:Nat):Int)]
 | .b,x=>some [.bool x]
 | .s,x=>cond (bN (bY (α:=UInt8) x) 1125899906842624) (some [.string (mkS x)]) none
 | .a _,_=>none
 | .p c d,x=>match encV c x.1,encV d x.2 with|some l,some m=>some (l++m)|_,_=>none
theorem JZ{p:Psi}:∀(c:Cd){x:c.den}{cs:List Value},encV c x=some cs->c.ty.rep p cs x
 | .i k,x,cs,h=>by
  have h:cond (inKb k x) (some [Value.int k x]) none=some cs:=h;cases e:inKb k x with
  |true=>rw[e]at h;injection h with h;subst h;exact⟨rfl,Sx e⟩
  |false=>rw[e]at h;cases h
 | .y,x,cs,h=>by injection h with h;subst h;rfl
 | .b,x,cs,h=>by injection h with h;subst h;rfl
 | .s,x,cs,h=>by
  have h:cond (bN (bY (α:=UInt8) x) 1125899906842624) (some [Value.string (mkS x)]) none=some cs:=h;cases e:bN (bY (α:=UInt8) x) 1125899906842624 with
  |true=>rw[e]at h;injection h with h;subst h;exact⟨rfl,aW e⟩
  |false=>rw[e]at h;cases h
 | .a _,_,_,h=>by cases h
 | .p c d,x,cs,h=>by
  unfold encV at h;split at h
  ·rename_i l m h1 h2;injection h with h;subst h;exact⟨l,m,rfl,JZ c h1,JZ d h2⟩
  ·cases h
structure GDV where
 c:Cd
 x:c.den
def getG:List (Nat×GDV)->Nat->Option GDV
 | [],_=>none
 |(k,d)::l,t=>cond (bD k t) (some d) (getG l t)
inductive TD where
 |c (x:Cd)
 |p (a b:TD)
 |o (et:TypeId) (a:TD)
def TD.cd:TD->Cd
 | .c x=>x
 | .p a b=> .p a.cd b.cd
 | .o _ a=> .a a.cd
def GW (w:World):Prop:=Lib.TabIs Tryz.prog w "internal/strconv.uint64pow10" .u64 Lib.pow10Tab
def gv0:Int×Int×Int×Int×Int×Int×Int×Int×Int×Int×Int×Int×Int×Int×Int×Int×Int×Int:=(0,1,9,25,9,71,71,16,50,16,146,17,49,17,53,53,53,53)
def gl0:List Int:=[0,1,9,25,9,71,71,16,50,16,146,17,49,17,53,53,53,53]
def gv1:Bt×Bt×Bt×Bt×Bt×Bt×Bt×Bt×Bt×Bt×Bt×Bt×Bt×Bt×Bt×Bt×Bt×Bt:=([],[73,70],[84,70],[67,70],[68,70],[82,70],[65,70],[67,65],[67,68],[67,73],[67,82],[70,65],[70,67],[70,77],[72,65],[72,70],[72,77],[80,73])
def gl1:List Bt:=[[],[73,70],[84,70],[67,70],[68,70],[82,70],[65,70],[67,65],[67,68],[67,73],[67,82],[70,65],[70,67],[70,77],[72,65],[72,70],[72,77],[80,73]]
def AlG:Int×Int×Int×Int×Int×Int×Int×Int×Int×Int×Int×Int×Int×Int×Int×Int×Int×Int×Int×Int×Int×Int×Int×Int×Int×Int×Int×Int×Int×Int×Int×Int:=(0,1,28,2,29,14,24,3,30,22,20,15,25,17,4,8,31,27,13,23,21,19,16,7,26,12,18,6,11,5,10,9)
def AlH:Int×Int×Int×Int×Int×Int×Int×Int×Int×Int×Int×Int×Int×Int×Int×Int×Int×Int×Int×Int×Int×Int×Int×Int×Int×Int×Int×Int×Int×Int×Int×Int×Int×Int×Int×Int×Int×Int×Int×Int×Int×Int×Int×Int×Int×Int×Int×Int×Int×Int×Int×Int×Int×Int×Int×Int×Int×Int×Int×Int×Int×Int×Int×Int:=(0,1,56,2,57,49,28,3,61,58,42,50,38,29,17,4,62,47,59,36,45,43,51,22,53,39,33,30,24,18,12,5,63,55,48,27,60,41,37,16,46,35,44,21,52,32,23,11,54,26,40,15,34,20,31,10,25,14,19,9,13,8,7,6)
def GD:List (Nat×GDV):=[(0,⟨(.p (.i .u16) (.p (.i .u16) (.p (.i .u16) (.p (.i .u16) (.p (.i .u16) (.p (.i .u16) (.p (.i .u16) (.p (.i .u16) (.p (.i .u16) (.p (.i .u16) (.p (.i .u16) (.p (.i .u16) (.p (.i .u16) (.p (.i .u16) (.p (.i .u16) (.p (.i .u16) (.p (.i .u16) (.i .u16)))))))))))))))))),gv0⟩),(1,⟨(.p .s (.p .s (.p .s (.p .s (.p .s (.p .s (.p .s (.p .s (.p .s (.p .s (.p .s (.p .s (.p .s (.p .s (.p .s (.p .s (.p .s .s))))))))))))))))),gv1⟩),(10,⟨(.p (.i .u8) (.p (.i .u8) (.p (.i .u8) (.p (.i .u8) (.p (.i .u8) (.p (.i .u8) (.p (.i .u8) (.p (.i .u8) (.p (.i .u8) (.p (.i .u8) (.p (.i .u8) (.p (.i .u8) (.p (.i .u8) (.p (.i .u8) (.p (.i .u8) (.p (.i .u8) (.p (.i .u8) (.p (.i .u8) (.p (.i .u8) (.p (.i .u8) (.p (.i .u8) (.p (.i .u8) (.p (.i .u8) (.p (.i .u8) (.p (.i .u8) (.p (.i .u8) (.p (.i .u8) (.p (.i .u8) (.p (.i .u8) (.p (.i .u8) (.p (.i .u8) (.i .u8)))))))))))))))))))))))))))))))),AlG⟩),(11,⟨(.p (.i .u8) (.p (.i .u8) (.p (.i .u8) (.p (.i .u8) (.p (.i .u8) (.p (.i .u8) (.p (.i .u8) (.p (.i .u8) (.p (.i .u8) (.p (.i .u8) (.p (.i .u8) (.p (.i .u8) (.p (.i .u8) (.p (.i .u8) (.p (.i .u8) (.p (.i .u8) (.p (.i .u8) (.p (.i .u8) (.p (.i .u8) (.p (.i .u8) (.p (.i .u8) (.p (.i .u8) (.p (.i .u8) (.p (.i .u8) (.p (.i .u8) (.p (.i .u8) (.p (.i .u8) (.p (.i .u8) (.p (.i .u8) (.p (.i .u8) (.p (.i .u8) (.p (.i .u8) (.p (.i .u8) (.p (.i .u8) (.p (.i .u8) (.p (.i .u8) (.p (.i .u8) (.p (.i .u8) (.p (.i .u8) (.p (.i .u8) (.p (.i .u8) (.p (.i .u8) (.p (.i .u8) (.p (.i .u8) (.p (.i .u8) (.p (.i .u8) (.p (.i .u8) (.p (.i .u8) (.p (.i .u8) (.p (.i .u8) (.p (.i .u8) (.p (.i .u8) (.p (.i .u8) (.p (.i .u8) (.p (.i .u8) (.p (.i .u8) (.p (.i .u8) (.p (.i .u8) (.p (.i .u8) (.p (.i .u8) (.p (.i .u8) (.p (.i .u8) (.p (.i .u8) (.i .u8)))))))))))))))))))))))))))))))))))))))))))))))))))))))))))))))),AlH⟩)]
def VM:TD:=(.o 120 (.c (.p (.i .i64) (.a (.p .s (.i .i64))))))
def AgK:TD:=(.p (.c (.i .u8)) (.p (.c .s) (.o 96 (.c (.p (.i .u8) (.p .s (.p .s (.p (.i .u8) (.p .b (.p (.i .i64) (.p (.i .i64) (.p (.i .i64) (.p (.i .i64) (.p (.p (.i .i64) (.i .i64)) (.p (.i .i64) (.i .i64))))))))))))))))
def Bf:TD:=(.p (.c (.i .u8)) (.p (.c (.p (.i .i64) (.a (.p .s (.i .i64))))) (.p (.c (.p .s (.p .s (.p (.i .u8) (.p (.p (.i .i64) (.i .i64)) (.p (.i .i64) (.i .i64))))))) (.p (.c (.p .s (.a (.p .s (.p (.p (.i .i64) (.i .i64)) (.i .u8)))))) (.p (.c (.a (.p (.i .i64) (.a (.p .s (.i .i64)))))) (.p (.p (.c .s) (.p (.c .s) (.p (.c (.i .u8)) (.o 93 AgK)))) (.p VM (.o 108 VM))))))))
def TDT:List (TypeId×TD):=[(123,Bf),(93,AgK),(108,VM)]
def MRS(c:Cd)(p:Psi):List Value->List (Bt×c.den)->Prop
 | [],[]=>True
 |k::v::cs,x::xs=>(k= .string (mkS x.1)/\x.1.length<=1125899906842624)/\c.ty.rep p [v] x.2/\MRS c p cs xs
 |_,_=>False
theorem MRS.mono{c:Cd}{p q:Psi}(hl:p.le q):∀{cs:List Value}{xs:List (Bt×c.den)},MRS c p cs xs->MRS c q cs xs
 | [],[],_=>trivial
 | [],_::_,h=>h.elim
 | [_],_,h=>h.elim
 |k::v::cs,[],h=>h.elim
 |k::v::cs,x::xs,h=>⟨h.1,c.ty.mono hl h.2.1,MRS.mono hl h.2.2⟩
def RowE{α:Type}(R:List Value->α->List (Nat×Obj)->Prop):List Value->List α->List (Nat×Obj)->Prop
 |cs,[],e=>cs=[]/\e=[]
 |cs,x::xs,e=>∃c1 c2 e1 e2,cs=c1++c2/\e=e1++e2/\R c1 x e1/\RowE R c2 xs e2
theorem RowE.mono{α:Type}{R S:List Value->α->List (Nat×Obj)->Prop}(h:∀c x e,R c x e->S c x e):∀{xs:List α}{cs:List Value}{e:List (Nat×Obj)},RowE R cs xs e->RowE S cs xs e
 | [],_,_,k=>k
 |_::_,_,_,⟨c1,c2,e1,e2,h1,h2,h3,h4⟩=>⟨c1,c2,e1,e2,h1,h2,h _ _ _ h3,RowE.mono h h4⟩
def satOf:Option Bk->List (Nat×Obj)
 |none=>[]
 |some k=>(k.g,k.obj)::k.sat
def RowT(ms:Bool)(k:Option Bk)(b:Nat)(et:TypeId)(e:List (Nat×Obj))(cs:List Value):Prop:=k=some ⟨b,.tr et e,cs⟩\/(ms=true/\e=[]/\k=some ⟨b,.ms et,cs⟩)
def TD.isC:TD->Bool
 | .c _=>true
 |_=>false
def RowB{α:Type}(ms:Bool)(R:List Value->α->List (Nat×Obj)->Prop)(n:Nat)(et:TypeId)(v:Value)(k:Option Bk)(xs:List α):Prop:=
 xs.length<=140737488355328/\((v= .slice none 0 0/\xs=[]/\k=none)\/
 ∃b cap cs sp e,v= .slice (some ⟨b,0,none⟩) xs.length cap/\RowT ms k b et e (cs++sp)/\RowE R cs xs e/\(cs++sp).length=cap*n/\cap<=maxLen)
theorem RowB.mono{α:Type}{R S:List Value->α->List (Nat×Obj)->Prop}(h:∀c x e,R c x e->S c x e){ms:Bool}{n:Nat}{et:TypeId}{v:Value}{k:Option Bk}{xs:List α}(hr:RowB ms R n et v k xs):RowB ms S n et v k xs:=
 ⟨hr.1,hr.2.imp id λ⟨b,cap,cs,sp,e,h1,h2,h3,h4⟩=>⟨b,cap,cs,sp,e,h1,h2,h3.mono h,h4⟩⟩
def TRep(p:Psi):(t:TD)->List Value->t.cd.den->List (Nat×Obj)->Prop
 | .c x,cs,d,e=>x.ty.rep p cs d/\e=[]
 | .p a b,cs,d,e=>∃c1 c2 e1 e2,cs=c1++c2/\e=e1++e2/\TRep p a c1 d.1 e1/\TRep p b c2 d.2 e2
 | .o et a,cs,d,e=>∃v k,cs=[v]/\RowB a.isC (TRep p a) a.cd.n et v k (d:List a.cd.den)/\e=satOf k
theorem TRep.mono{p q:Psi}(hl:p.le q):∀{t:TD}{cs:List Value}{d:t.cd.den}{e:List (Nat×Obj)},TRep p t cs d e->TRep q t cs d e
 | .c x,_,_,_,⟨h1,h2⟩=>⟨x.ty.mono hl h1,h2⟩
 | .p a b,_,_,_,⟨c1,c2,e1,e2,h1,h2,h3,h4⟩=>⟨c1,c2,e1,e2,h1,h2,TRep.mono hl h3,TRep.mono hl h4⟩
 | .o et a,_,_,_,⟨v,k,h1,h2,h3⟩=>⟨v,k,h1,h2.mono λ_ _ _ h=>TRep.mono hl h,h3⟩
def TD.same:(a b:TD)->Option (PLift (a=b))
 | .c x,.c z=>match x.same z with|some ⟨h⟩=>some ⟨by rw[h]⟩|none=>none
 | .p t u,.p t' u'=>match t.same t',u.same u' with|some ⟨h⟩,some ⟨k⟩=>some ⟨by rw[h,k]⟩|_,_=>none
 | .o e t,.o f u=>match hb:bD e f,t.same u with|true,some ⟨h⟩=>some ⟨by rw[aL hb,h]⟩|_,_=>none
 |_,_=>none
def TD.no:TD->Nat
 | .c _=>0
 | .p a b=>a.no+b.no
 | .o _ _=>1
def TD.ownAt:TD->Nat->Option Nat
 | .c _,_=>none
 | .p a b,off=>match Nat.blt off a.cd.n with
  |true=>a.ownAt off
  |false=>match b.ownAt (off-a.cd.n)with|some m=>some (a.no+m)|none=>none
 | .o _ _,off=>cond (bD off 0) (some 0) none
inductive CV where
 |int (k:IntKind) (x:Int)
 |bool (b:Bool)
 |str (l:Bt)
 |k (v:Value)
 |ptr (b off:Nat)
 |own (b:Nat)
 |ro (c:Cd) (xs:List c.den) (m:Bool)
 |el (c:Cd) (x:c.den) (off:Nat)
 |eo (b:Nat) (c:Cd) (i off:Nat)
 |vw (b:Nat) (c:Cd) (l h:Nat)
 |fn (f:FuncId)
 |cap (f c:CV)
 |ifc (t:TypeId) (c:CV)
 |nb (e neg:Bool)
 |mp (b:Nat)
 |sc (b n:Nat)
 |bnd (f:FuncId) (c:CV)
variable{l:List CV}
inductive V1 where
 |c (x:CV)
 |agg (l:List CV)
inductive SV where
 |v (x:V1)
 |tup (l:List V1)
 |und
 |any
inductive BV where
 |hole
 |no
 |cells (t:TypeId) (l:List CV)
 |row (c:Cd) (et:TypeId) (xs:List c.den)
 |fz (c:Cd) (xs:List c.den)
 |lent (l:List CV)
 |map (c:Cd) (xs:List (Bt×c.den))
 |tree (t:TD) (et:TypeId) (xs:List t.cd.den)
 |treeX (t:TD) (et:TypeId) (xs:List t.cd.den) (i:Nat) (js:List Nat)
variable{bl:List BV}{bv:BV}{bl':List BV}
structure HSt where
 sl:List (Nat×SV)
 bl:List BV
abbrev Env:=Nat->Option Addr×Nat
variable{ρ:Env}
def BV.len:BV->Option Nat
 | .row _ _ xs=>some xs.length
 | .fz _ xs=>some xs.length
 | .tree _ _ xs=>some xs.length
 | .treeX _ _ xs _ _=>some xs.length
 |_=>none
def BV.isHole:BV->Bool
 | .hole=>true
 |_=>false
def Known(bl:List BV)(b:Nat):Prop:=∃bv,bl[b]? =some bv/\bv.isHole=false
def constant:Value->Bool
 | .pointer none=>true
 | .slice none 0 0=>true
 | .nilFunc=>true
 | .map none=>true
 | .nilIface=>true
 |_=>false
def RealC(g:Gh)(ρ:Env)(bl:List BV):CV->Value->Prop
 | .int k x,v=>v= .int k x/\inK k x
 | .bool b,v=>v= .bool b
 | .str l,v=>v= .string (mkS l)/\l.length<=1125899906842624
 | .k c,v=>v=c/\constant c=true
 | .ptr b off,v=>Known bl b/\∃a,(ρ b).1=some a/\v= .pointer (some (a.add off))
 | .own b,v=>Known bl b/\∃n,v= .slice (ρ b).1 n (ρ b).2/\∀bv m,bl[b]? =some bv->bv.len=some m->n=m
 | .ro c xs m,v=>∃A cap,v= .slice A xs.length cap/\(match m with|true=>Arr g.b c.ty A cap xs|false=>ArrM g.r g.b c.ty A cap xs)
 | .el c x off,v=>∃a cs,v= .pointer (some (a.add off))/\Cells g.r a cs/\c.ty.rep g.b cs x
 | .eo b c i off,v=>Known bl b/\∃a,(ρ b).1=some a/\v= .pointer (some (a.add (i*c.n+off)))/\∀bv m,bl[b]? =some bv->bv.len=some m->i<m
 | .vw b c l h,v=>Known bl b/\v= .slice (offA (ρ b).1 (ρ b).2 l c.n) (h-l) ((ρ b).2-l)/\∀bv m,bl[b]? =some bv->bv.len=some m->l<=h/\h<=m
 | .fn f,v=>v= .func (.func f) #[] #[]
 | .cap f c,v=>∃fn caps vc,RealC g ρ bl f (.func fn #[] caps)/\RealC g ρ bl c vc/\v= .func fn #[] (caps.push vc)
 | .ifc t c,v=>∃u,RealC g ρ bl c u/\v= .iface t u
 | .nb e neg,v=>∃b:Bool,v= .bool (cond neg (!b) b)/\(b=true->e=true)
 | .mp b,v=>Known bl b/\∃k,(ρ b).1=some ⟨k,0,none⟩/\v= .map (some k)
 | .sc b n,v=>Known bl b/\n<=1000/\∃k,(ρ b).1=some ⟨k,0,none⟩/\v= .slice (some ⟨k,0,none⟩) n n
 | .bnd f c,v=>∃vc,RealC g ρ bl c vc/\v= .func (.func f) #[vc] #[]
def AB{α β:Type}(R:α->β->Prop):List α->List β->Prop
 | [],[]=>True
 |x::l,y::m=>R x y/\AB R l m
 |_,_=>False
theorem AB.len{α β:Type}{R:α->β->Prop}:∀{l:List α}{m:List β},AB R l m->l.length=m.length
 | [],[],_=>rfl
 |_::l,_::m,h=>by rw[bB,bB,h.2.len]
 | [],_::_,h=>h.elim
 |_::_,[],h=>h.elim
theorem AB.get{α β:Type}{R:α->β->Prop}:∀{l:List α}{m:List β}{i:Nat}{x:α},AB R l m->l[i]? =some x->∃y,m[i]? =some y/\R x y
 |x::l,y::m,0,z,h,e=>by simp at e;subst e;exact⟨y,rfl,h.1⟩
 |x::l,y::m,i+1,z,h,e=>by simpa using AB.get (i:=i) h.2 (by simpa using e)
 | [],[],_,_,_,e=>by simp at e
 | [],_::_,_,_,h,_=>h.elim
 |_::_,[],_,_,h,_=>h.elim
theorem AB.mono{α β:Type}{R S:α->β->Prop}(hi:∀x y,R x y->S x y):∀{l:List α}{m:List β},AB R l m->AB S l m
 | [],[],_=>trivial
 |_::_,_::_,h=>⟨hi _ _ h.1,h.2.mono hi⟩
 | [],_::_,h=>h.elim
 |_::_,[],h=>h.elim
theorem AB.app{α β:Type}{R:α->β->Prop}{l2:List α}{m2:List β}(h2:AB R l2 m2):∀{l:List α}{m:List β},AB R l m->AB R (l++l2) (m++m2)
 | [],[],_=>h2
 |_::_,_::_,h=>⟨h.1,h2.app h.2⟩
 | [],_::_,h=>h.elim
 |_::_,[],h=>h.elim
theorem AB.take{α β:Type}{R:α->β->Prop}:∀(n:Nat){l:List α}{m:List β},AB R l m->AB R (l.take n) (m.take n)
 |0,_,_,_=>trivial
 |_+1,[],[],_=>trivial
 |n+1,_::_,_::_,h=>⟨h.1,h.2.take n⟩
 |_+1,[],_::_,h=>h.elim
 |_+1,_::_,[],h=>h.elim
theorem AB.drop{α β:Type}{R:α->β->Prop}:∀(n:Nat){l:List α}{m:List β},AB R l m->AB R (l.drop n) (m.drop n)
 |0,_,_,h=>h
 |_+1,[],[],_=>trivial
 |n+1,_::_,_::_,h=>h.2.drop n
 |_+1,[],_::_,h=>h.elim
 |_+1,_::_,[],h=>h.elim
theorem AB.set{α β:Type}{R:α->β->Prop}{x:α}{y:β}(h1:R x y):∀(n:Nat){l:List α}{m:List β},AB R l m->AB R (l.set n x) (m.set n y)
 |_,[],[],_=>trivial
 |0,_::_,_::_,h=>⟨h1,h.2⟩
 |n+1,_::_,_::_,h=>⟨h.1,h.2.set h1 n⟩
 |_,[],_::_,h=>h.elim
 |_,_::_,[],h=>h.elim
def BO(g:Gh)(ρ:Env)(bl:List BV):V1->Value->Prop
 | .c x,v=>RealC g ρ bl x v
 | .agg l,v=>∃cs,v= .agg cs.toArray/\AB (RealC g ρ bl) l cs
def RealS(g:Gh)(ρ:Env)(bl:List BV):SV->Value->Prop
 | .v x,v=>BO g ρ bl x v
 | .tup l,v=>∃vs,v= .tuple vs.toArray/\AB (BO g ρ bl) l vs
 | .und,v=>v=undef
 | .any,_=>True
def TRepX(g:Gh)(ρ:Env)(bl:List BV):(t:TD)->List Value->t.cd.den->List Nat->Prop
 | .c x,cs,d,js=>x.ty.rep g.b cs d/\js=[]
 | .p a b,cs,d,js=>∃c1 c2 j1 j2,cs=c1++c2/\js=j1++j2/\TRepX g ρ bl a c1 d.1 j1/\TRepX g ρ bl b c2 d.2 j2
 | .o _ _,cs,_,js=>∃v j,cs=[v]/\js=[j]/\RealC g ρ bl (.own j) v
def BlkR(g:Gh)(ρ:Env)(bl:List BV)(k:Option Bk)(e:Option Addr×Nat):BV->Prop
 | .hole=>k=none
 | .no=>k=none
 | .cells t l=>∃b cs,k=some ⟨b,t,cs⟩/\e.1=some ⟨b,0,none⟩/\AB (RealC g ρ bl) l cs
 | .row c et xs=>Buf g.b c.ty et (.slice e.1 xs.length e.2) k xs
 | .fz c xs=>k=none/\Arr g.b c.ty e.1 e.2 xs
 | .lent l=>k=none/\∃a cs,e.1=some a/\Cells g.r a cs/\AB (RealC g ρ bl) l cs
 | .map c xs=>∃b cs,k=some ⟨b,mapB cs,[]⟩/\e.1=some ⟨b,0,none⟩/\MRS c g.b cs xs
 | .tree t et xs=>RowB t.isC (TRep g.b t) t.cd.n et (.slice e.1 xs.length e.2) k xs
 | .treeX t et xs i js=>xs.length<=140737488355328/\i<xs.length/\∃b cap c1 c c2 sp e1 e2,e=(some ⟨b,0,none⟩,cap)/\k=some ⟨b,.tr et (e1++e2),(c1++(c++c2))++sp⟩/\((c1++(c++c2))++sp).length=cap*t.cd.n/\cap<=maxLen/\
  RowE (TRep g.b t) c1 (xs.take i) e1/\TRepX g ρ bl t c (xs.getD i t.cd.dflt) js/\RowE (TRep g.b t) c2 (xs.drop (i+1)) e2
def getH:List (Nat×SV)->Nat->Option SV
 | [],_=>none
 |(k,v)::l,t=>cond (bD k t) (some v) (getH l t)
def GP(p:Psi):Prop:=∀k d cs,getG GD k=some d->encV d.c d.x=some cs->Cells p ⟨k,0,none⟩ cs
def GI(p:Psi):Prop:=(∀w,p.In w->GW w)/\GP p
theorem Psi.In.of_le(h:p.le q)(k:q.In w):p.In w:=⟨k.os.trans h.os,k.tape.trans h.tape,k.out.trans h.out,λb o e=>k.m b o (h.m b o e)⟩
theorem GI.mono{p q:Psi}(h:p.le q)(k:GI p):GI q:=⟨λw hw=>k.1 w (hw.of_le h),λk1 d cs e1 e2=>(k.2 k1 d cs e1 e2).mono h⟩
structure Rl(g:Gh)(ρ:Env)(st:HSt)(own:Own)(sl:Sl):Prop where
 len:own.length=st.bl.length
 blk:∀i bv k,st.bl[i]? =some bv->own[i]? =some k->BlkR g ρ st.bl k (ρ i) bv
 slot:∀t sv,getH st.sl t=some sv->∃v,getS sl t=some v/\RealS g ρ st.bl sv v
 gi:GI g.b
def Ext(ρ:Env)(bl:List BV)(ρ':Env)(bl':List BV):Prop:=
 ∀(b:Nat)(bv:BV),bl[b]? =some bv->bv.isHole=false->ρ' b=ρ b/\∃bv':BV,bl'[b]? =some bv'/\bv'.isHole=false/\∀m,bv'.len=some m->bv.len=some m
theorem Ext.refl:Ext ρ bl ρ bl:=λb bv h1 h2=>⟨rfl,bv,h1,h2,λm h=>h⟩
theorem Ext.trans{ρ ρ1 ρ2:Env}{bl bl1 bl2:List BV}(h:Ext ρ bl ρ1 bl1)(k:Ext ρ1 bl1 ρ2 bl2):Ext ρ bl ρ2 bl2:=λb bv h1 h2=>by obtain⟨e,bv1,h3,h4,h5⟩:=h b bv h1 h2;obtain⟨e2,bv2,h6,h7,h8⟩:=k b bv1 h3 h4;exact⟨e2.trans e,bv2,h6,h7,λm hm=>h5 m (h8 m hm)⟩
theorem Ext.known{ρ1:Env}{bl1:List BV}(h:Ext ρ bl ρ1 bl1)(k:Known bl b):Known bl1 b/\ρ1 b=ρ b:=by obtain⟨bv,h1,h2⟩:=k;obtain⟨e,bv',h3,h4,_⟩:=h b bv h1 h2;exact⟨⟨bv',h3,h4⟩,e⟩
theorem RealC.ext{g g':Gh}{ρ ρ':Env}{bl bl':List BV}(hg:g.le g')(h:Ext ρ bl ρ' bl'):∀{x:CV}{v:Value},RealC g ρ bl x v->RealC g' ρ' bl' x v
 | .int _ _,_,hr=>hr
 | .bool _,_,hr=>hr
 | .str _,_,hr=>hr
 | .k _,_,hr=>hr
 | .ptr b off,v,⟨hk,a,e,hv⟩=>by obtain⟨h1,h2⟩:=h.known hk;exact⟨h1,a,by rw[h2];exact e,hv⟩
 | .own b,v,⟨hk,n,hv,hl⟩=>by
  obtain⟨h1,h2⟩:=h.known hk;refine⟨h1,n,by rw[h2];exact hv,λbv m e1 e2=>?_⟩
  obtain⟨bv0,h3,h4⟩:=hk;obtain⟨_,bv',h5,_,h6⟩:=h b bv0 h3 h4;rw[h5]at e1;injection e1 with e1;subst e1;exact hl bv0 m h3 (h6 m e2)
 | .ro c xs true,v,⟨A,cap,hv,ha⟩=>⟨A,cap,hv,Arr.mono ha hg.b⟩
 | .ro c xs false,v,⟨A,cap,hv,ha⟩=>⟨A,cap,hv,ArrM.mono ha hg.r hg.b⟩
 | .el c x off,v,⟨a,cs,hv,hc,hr⟩=>⟨a,cs,hv,hc.mono hg.r,c.ty.mono hg.b hr⟩
 | .eo b c i off,v,⟨hk,a,e,hv,hl⟩=>by
  obtain⟨h1,h2⟩:=h.known hk;refine⟨h1,a,by rw[h2];exact e,hv,λbv m e1 e2=>?_⟩
  obtain⟨bv0,h3,h4⟩:=hk;obtain⟨_,bv',h5,_,h6⟩:=h b bv0 h3 h4;rw[h5]at e1;injection e1 with e1;subst e1;exact hl bv0 m h3 (h6 m e2)
 | .vw b c l r,v,⟨hk,hv,hl⟩=>by
  obtain⟨h1,h2⟩:=h.known hk;refine⟨h1,by rw[h2];exact hv,λbv m e1 e2=>?_⟩
  obtain⟨bv0,h3,h4⟩:=hk;obtain⟨_,bv',h5,_,h6⟩:=h b bv0 h3 h4;rw[h5]at e1;injection e1 with e1;subst e1;exact hl bv0 m h3 (h6 m e2)
 | .fn f,_,hr=>hr
 | .nb _ _,_,hr=>hr
 | .mp b,v,⟨hk,k,e,hv⟩=>by obtain⟨h1,h2⟩:=h.known hk;exact⟨h1,k,by rw[h2];exact e,hv⟩
 | .sc b n,v,⟨hk,hn,k,e,hv⟩=>by obtain⟨h1,h2⟩:=h.known hk;exact⟨h1,hn,k,by rw[h2];exact e,hv⟩
 | .cap f c,v,⟨fn,caps,vc,h1,h2,h3⟩=>⟨fn,caps,vc,RealC.ext hg h h1,RealC.ext hg h h2,h3⟩
 | .ifc t c,v,⟨u,h1,h2⟩=>⟨u,RealC.ext hg h h1,h2⟩
 | .bnd f c,v,⟨u,h1,h2⟩=>⟨u,RealC.ext hg h h1,h2⟩
section
variable{ρ':Env}
theorem BO.ext(hg:g.le g')(h:Ext ρ bl ρ' bl'):∀{x:V1}{v:Value},BO g ρ bl x v->BO g' ρ' bl' x v
 | .c _,_,hr=>RealC.ext hg h hr
 | .agg _,_,⟨cs,e,hr⟩=>⟨cs,e,hr.mono λ_ _=>RealC.ext hg h⟩
theorem RealS.ext(hg:g.le g')(h:Ext ρ bl ρ' bl'):∀{x:SV}{v:Value},RealS g ρ bl x v->RealS g' ρ' bl' x v
 | .v _,_,hr=>BO.ext hg h hr
 | .tup _,_,⟨vs,e,hr⟩=>⟨vs,e,hr.mono λ_ _=>BO.ext hg h⟩
 | .und,_,hr=>hr
 | .any,_,hr=>hr
theorem TRepX.ext(hg:g.le g')(h:Ext ρ bl ρ' bl'):∀{t:TD}{cs:List Value}{d:t.cd.den}{js:List Nat},TRepX g ρ bl t cs d js->TRepX g' ρ' bl' t cs d js
 | .c x,_,_,_,⟨h1,h2⟩=>⟨x.ty.mono hg.b h1,h2⟩
 | .p a b,_,_,_,⟨c1,c2,j1,j2,h1,h2,h3,h4⟩=>⟨c1,c2,j1,j2,h1,h2,TRepX.ext hg h h3,TRepX.ext hg h h4⟩
 | .o et a,_,_,_,⟨v,j,h1,h2,h3⟩=>⟨v,j,h1,h2,RealC.ext hg h h3⟩
theorem BlkR.ext(hg:g.le g')(h:Ext ρ bl ρ' bl'){k:Option Bk}{e:Option Addr×Nat}:∀{bv:BV},BlkR g ρ bl k e bv->BlkR g' ρ' bl' k e bv
 | .hole,hr=>hr
 | .no,hr=>hr
 | .cells t l,⟨b,cs,h1,h2,h3⟩=>⟨b,cs,h1,h2,h3.mono λ_ _=>RealC.ext hg h⟩
 | .row c et xs,hr=>Buf.mono hr hg.b
 | .fz c xs,⟨h1,h2⟩=>⟨h1,h2.mono hg.b⟩
 | .lent l,⟨h1,a,cs,h2,h3,h4⟩=>⟨h1,a,cs,h2,h3.mono hg.r,h4.mono λ_ _=>RealC.ext hg h⟩
 | .map c xs,⟨b,cs,h1,h2,h3⟩=>⟨b,cs,h1,h2,h3.mono hg.b⟩
 | .tree t et xs,hr=>RowB.mono (λ_ _ _ h=>TRep.mono hg.b h) hr
 | .treeX t et xs i js,⟨h0,h00,b,cap,c1,c,c2,sp,e1,e2,h1,h2,h3,h4,h5,h6,h7⟩=>⟨h0,h00,b,cap,c1,c,c2,sp,e1,e2,h1,h2,h3,h4,h5.mono λ_ _ _ h=>TRep.mono hg.b h,TRepX.ext hg h h6,h7.mono λ_ _ _ h=>TRep.mono hg.b h⟩
end
theorem ArrM.cut{r b:Psi}(h:ArrM r b T A c xs)(l m:Nat)(h1:l<=m)(h2:m<=xs.length):ArrM r b T (offA A c l T.n) (c-l) ((xs.drop l).take (m-l)):=by
 obtain⟨hc,hl0,cs,hr,hrow⟩:=h;refine⟨by rw[aT,aQ];omega,by rw[aT,aQ];omega,(cs.drop (l*T.n)).take ((m-l)*T.n),(hr.drop l).take _,λhn=>?_⟩
 rw[aT,aQ]at hn;obtain⟨ad,e,hcells⟩:=hrow (by omega);subst e;refine⟨ad.add (l*T.n),?_,hcells.part _ _⟩
 unfold offA;rw[if_neg (by omega)];rfl
def Cd.cv:(c:Cd)->c.den->List CV
 | .i k,x=>[.int k x]
 | .y,x=>[.int .u8 (x.toNat:Int)]
 | .b,x=>[.bool x]
 | .s,x=>[.str x]
 | .a c,x=>[.ro c x true]
 | .p c d,x=>c.cv x.1++d.cv x.2
theorem VN(x:UInt8):inK .u8 (x.toNat:Int):=by have:=x.toNat_lt;simp[inK,dG,dH,cR,cY];omega
theorem Cd.cv_real{g:Gh}{ρ:Env}{bl:List BV}:∀(c:Cd){x:c.den}{cs:List Value},c.ty.rep g.b cs x->AB (RealC g ρ bl) (c.cv x) cs
 | .i k,x,cs,h=>by obtain⟨e,h2⟩:cs=[.int k x]/\inK k x:=h;subst e;exact⟨⟨rfl,h2⟩,trivial⟩
 | .y,x,cs,h=>by have e:cs=[.int .u8 (UInt8.toNat x:Int)]:=h;subst e;exact⟨⟨rfl,VN x⟩,trivial⟩
 | .b,x,cs,h=>by have e:cs=[.bool x]:=h;subst e;exact⟨rfl,trivial⟩
 | .s,x,cs,h=>by obtain⟨e,h2⟩:cs=[.string (mkS x)]/\bY (α:=UInt8) x<=1125899906842624:=h;subst e;exact⟨⟨rfl,h2⟩,trivial⟩
 | .a c,x,cs,h=>by obtain⟨A,cap,e,h2⟩:∃A cap,cs=[.slice A (bY (α:=c.den) x) cap]/\Arr g.b c.ty A cap x:=h;subst e;exact⟨⟨A,cap,rfl,h2⟩,trivial⟩
 | .p c d,x,cs,h=>by obtain⟨c1,c2,e,h1,h2⟩:∃c1 c2,cs=c1++c2/\c.ty.rep g.b c1 x.1/\d.ty.rep g.b c2 x.2:=h;subst e;exact AB.app (Cd.cv_real d h2) (Cd.cv_real c h1)
def cnd{α:Type}(c:Bool)(x y:α):α:=(λ_:Nat->Option Unit=>match c with|true=>x|false=>y) λn=>loopO n (λ_=>none) ()
def gd{α:Type}(c:Bool)(x:Option α):Option α:=(λ_:Nat->Option Unit=>match c with|true=>x|false=>none) λn=>loopO n (λ_=>none) ()
def bd{α β:Type}(x:Option α)(k:α->Option β):Option β:=(λ_:Nat->Option Unit=>match x with|some t=>k t|none=>none) λn=>loopO n (λ_=>none) ()
def jd{α β:Type}(x:Option (Ctl α β))(k:α->Option β):Option β:=(λ_:Nat->Option Unit=>match x with|some (.go t)=>k t|some (.done r)=>some r|none=>none) λn=>loopO n (λ_=>none) ()
def dnO{α β:Type}(x:Option β):Option (Ctl α β):=(λ_:Nat->Option Unit=>match x with|some r=>some (.done r)|none=>none) λn=>loopO n (λ_=>none) ()
def sm{α β ρ:Type}(x:α ⊕ β)(f:α->ρ)(g:β->ρ):ρ:=(λ_:Nat->Option Unit=>match x with| .inl a=>f a| .inr b=>g b) λn=>loopO n (λ_=>none) ()
noncomputable def bothO{α:Type}(x y:Option α):Option α:=(λ_:Nat->Option Unit=>@ite _ (x=y) (Classical.propDecidable _) x none) λn=>loopO n (λ_=>none) ()
noncomputable def nlO{α:Type}(e:Bool)(x y:Option α):Option α:=(λ_:Nat->Option Unit=>match e with|true=>bothO x y|false=>y) λn=>loopO n (λ_=>none) ()
theorem Rc{x y:Option α}{r:α}(h:bothO x y=some r):x=some r/\y=some r:=by
 unfold bothO at h;by_cases e:x=y
 ·simp only[e,if_true]at h⊢;exact⟨h,h⟩
 ·simp only[e,if_false]at h;cases h
theorem Of{e:Bool}{x y:Option α}{r:α}(h:nlO e x y=some r):y=some r/\(e=true->x=some r):=by
 cases e with
 |true=>have:=Rc (h:bothO x y=some r);exact⟨this.2,λ_=>this.1⟩
 |false=>exact⟨h,λe=>by cases e⟩
theorem Rd{e:Bool}{x y:Option α}(h:e=true->x=y):nlO e x y=y:=by
 cases e with
 |true=>
  show bothO x y=y;unfold bothO;simp[h rfl]
 |false=>rfl
theorem Og{β:Type}{x:Option β}{c:Ctl α β}(h:dnO x=some c):∃r,x=some r/\c= .done r:=by
 cases x with
 |none=>cases h
 |some r=>injection (show some (Ctl.done r)=some c from h)with h;exact⟨r,rfl,h.symm⟩
theorem VO(c:Bool)(x:Option α):gd c x=grd c x:=by cases c<;>rfl
theorem Ka{β:Type}(x:Option α)(k:α->Option β):bd x k=bindO x k:=by cases x<;>rfl
theorem Aeb{β:Type}(x:Option (Ctl α β))(k:α->Option β):jd x k=joinO x k:=by
 cases x with
 |none=>rfl
 |some c=>cases c<;>rfl
structure HE where
 val:SV
 upd:List (Nat×BV)
 new:List BV
def natMem(x:Nat):List Nat->Bool
 | []=>false
 |y::l=>cond (bD x y) true (natMem x l)
def maskB:Nat->List Nat->List BV->List BV
 |_,_,[]=>[]
 |i,ids,bv::l=>cond (natMem i ids) bv .no::maskB (i+1) ids l
inductive Tr:Type 1 where
 |no
 |done (e:HE)
 |need (b:Nat) (k:BV->Tr)
 |frz (b:Nat) (k:Tr)
 |grd (c:Bool) (k:Tr)
 |bnd {τ:Type} (x:Option τ) (k:τ->Tr)
 |sub (ids:List BV->List Nat) (k:List BV->Tr)
 |alt {α β:Type} (x:α ⊕ β) (k1:α->Tr) (k2:β->Tr)
def setNew:List BV->Nat->List BV->List BV
 |bl,_,[]=>bl
 |bl,f,v::l=>setNew (bl.set f v) (f+1) l
def setUpd:List BV->List (Nat×BV)->List BV
 |bl,[]=>bl
 |bl,(b,v)::l=>setUpd (bl.set b v) l
def applyE(bl:List BV)(f:Nat)(e:HE):List BV:=setNew (setUpd bl e.upd) f e.new
def frzB:BV->Option BV
 | .row c _ xs=>some (.fz c xs)
 | .tree t _ xs=>some (.fz t.cd xs)
 |_=>none
def Told(f:Nat):Tr->List BV->List BV->SV->Prop
 | .no,_,_,_=>False
 | .done e,bl,bl',v=>bl'=applyE bl f e/\v=e.val
 | .need b k,bl,bl',v=>∃bv,bl[b]? =some bv/\Told f (k bv) bl bl' v
 | .frz b k,bl,bl',v=>∃bv fv,bl[b]? =some bv/\frzB bv=some fv/\Told f k (bl.set b fv) bl' v
 | .grd c k,bl,bl',v=>c=true/\Told f k bl bl' v
 | .bnd x k,bl,bl',v=>∃t,x=some t/\Told f (k t) bl bl' v
 | .sub _ k,bl,bl',v=>∃idl,Told f (k (maskB 0 idl bl)) bl bl' v
 | .alt x k1 k2,bl,bl',v=>(∃a,x= .inl a/\Told f (k1 a) bl bl' v)\/∃b,x= .inr b/\Told f (k2 b) bl bl' v
def runT{ρ:Type}(f:Nat):Tr->List BV->(List BV->SV->Option ρ)->Option ρ
 | .no,_,_=>none
 | .done e,bl,K=>K (applyE bl f e) e.val
 | .need b k,bl,K=>match bl[b]? with|some bv=>runT f (k bv) bl K|none=>none
 | .frz b k,bl,K=>match bl[b]? with|some bv=>(match frzB bv with|some fv=>runT f k (bl.set b fv) K|none=>none)|none=>none
 | .grd c k,bl,K=>gd c (runT f k bl K)
 | .bnd x k,bl,K=>bd x λt=>runT f (k t) bl K
 | .sub ids k,bl,K=>runT f (k (maskB 0 (ids bl) bl)) bl K
 | .alt x k1 k2,bl,K=>sm x (λa=>runT f (k1 a) bl K) (λb=>runT f (k2 b) bl K)
theorem Co{ρ:Type}{f:Nat}{K:List BV->SV->Option ρ}{r:ρ}:∀{t:Tr}{bl:List BV},runT f t bl K=some r->∃bl' v,Told f t bl bl' v/\K bl' v=some r
 | .no,bl,h=>by cases h
 | .done e,bl,h=>⟨_,_,⟨rfl,rfl⟩,h⟩
 | .need b k,bl,h=>by
  unfold runT at h;split at h
  ·rename_i bv e;obtain⟨bl',v,h1,h2⟩:=Co h;exact⟨bl',v,⟨bv,e,h1⟩,h2⟩
  ·cases h
 | .frz b k,bl,h=>by
  unfold runT at h;split at h
  ·rename_i bv e;split at h
   ·rename_i fv e2;obtain⟨bl',v,h1,h2⟩:=Co h;exact⟨bl',v,⟨bv,fv,e,e2,h1⟩,h2⟩
   ·cases h
  ·cases h
 | .grd c k,bl,h=>by obtain⟨hc,h⟩:=Adz ((VO _ _).symm.trans h);obtain⟨bl',v,h1,h2⟩:=Co h;exact⟨bl',v,⟨hc,h1⟩,h2⟩
 | .bnd x k,bl,h=>by obtain⟨t,hx,h⟩:=He ((Ka _ _).symm.trans h);obtain⟨bl',v,h1,h2⟩:=Co h;exact⟨bl',v,⟨t,hx,h1⟩,h2⟩
 | .sub ids k,bl,h=>by unfold runT at h;obtain⟨bl',v,h1,h2⟩:=Co h;exact⟨bl',v,⟨_,h1⟩,h2⟩
 | .alt x k1 k2,bl,h=>by
  unfold runT at h;cases x with
  |inl a=>
   obtain⟨bl',v,h1,h2⟩:=Co h;exact⟨bl',v,.inl ⟨a,rfl,h1⟩,h2⟩
  |inr b=>
   obtain⟨bl',v,h1,h2⟩:=Co h;exact⟨bl',v,.inr ⟨b,rfl,h1⟩,h2⟩
def EffH(P:Program)(n:Nat)(op:Op)(ty:TypeId)(sl:List (Nat×SV))(bl bl':List BV)(val:SV):Prop:=
 ∀(o:Oper)(a:Act)(w:World)(Q:Exit->Act->World->Prop)(K:Act->World->Prop)(g:Gh)(ρ:Env)(own:Own)(fr:Sl),
  o.op=op->o.type=ty->Rl g ρ ⟨sl,bl⟩ own fr->Fr n a fr->St w g own->
  (∀v g' ρ' own' w',g.le g'->Ext ρ bl ρ' bl'->St w' g' own'->Rl g' ρ' ⟨sl,bl'⟩ own' fr->RealS g' ρ' bl' val v->K (a.put o.dst v) w')->Oper.wp P o a w K Q
theorem Rl.turn {ρ':Env} {sl:List (Nat×SV)} (h:Rl g ρ ⟨sl,bl⟩ own fr) (hg:g.le g') (he:Ext ρ bl ρ' bl') (hl:own'.length=bl'.length)
  (hb:∀i bv k,bl'[i]? =some bv->own'[i]? =some k->BlkR g' ρ' bl' k (ρ' i) bv):Rl g' ρ' ⟨sl,bl'⟩ own' fr:=
 ⟨hl,hb,λt sv e=>by obtain⟨v,h1,h2⟩:=h.slot t sv e;exact⟨v,h1,h2.ext hg he⟩,h.gi.mono hg.b⟩
theorem EffH.of_yld {sl:List (Nat×SV)} {val:SV}
  (h:∀g ρ own fr,Rl g ρ ⟨sl,bl⟩ own fr->∃v,RealS g ρ bl val v/\Yld P n g.r own fr op ty v):EffH P n op ty sl bl bl val:=by
 intro o a w Q K g ρ own fr h1 h2 hr hf hs hk;obtain⟨v,hv,hy⟩:=h g ρ own fr hr;simp only[Oper.wp,hy o a w h1 h2 hf hs.rdw,Oper.upon];exact hk v g ρ own w (.refl g) .refl hs hr hv
def constC(v:Value):Option CV:=match v with
 | .int k x=>cond (inKb k x) (some (.int k x)) none
 | .bool b=>some (.bool b)
 | .string b=>cond (bN b.data.toList.length 1125899906842624) (some (.str b.data.toList)) none
 |v=>cond (constant v) (some (.k v)) none
def constL:List Value->Option (List CV)
 | []=>some []
 |v::l=>match constC v,constL l with|some c,some m=>some (c::m)|_,_=>none
def constS:Value->Option SV
 | .agg cs=>match constL cs.toList with|some l=>some (.v (.agg l))|none=>none
 |v=>match constC v with|some c=>some (.v (.c c))|none=>none
def evH(sl:List (Nat×SV)):Operand->Option SV
 | .tmp t=>getH sl t
 | .const v=>constS v
 | .func f=>some (.v (.c (.fn f)))
 | .global k=>match getG GD k with|some d=>(match encV d.c d.x with|some _=>some (.v (.c (.el d.c d.x 0)))|none=>none)|none=>none
section
theorem IX{c:CV}(h:constC v=some c):RealC g ρ bl c v:=by
 unfold constC at h;split at h
 ·rename_i k x;cases e:inKb k x with
  |true=>rw[e]at h;injection h with h;subst h;exact⟨rfl,Sx e⟩
  |false=>rw[e]at h;cases h
 ·injection h with h;subst h;rfl
 ·rename_i b;cases e:bN b.data.toList.length 1125899906842624 with
  |true=>rw[e]at h;injection h with h;subst h;exact⟨rfl,aW e⟩
  |false=>rw[e]at h;cases h
 ·rename_i u _ _ _;cases e:constant v with
  |true=>rw[e]at h;injection h with h;subst h;exact⟨rfl,e⟩
  |false=>rw[e]at h;cases h
theorem BE:∀{l:List Value}{m:List CV},constL l=some m->AB (RealC g ρ bl) m l
 | [],m,h=>by injection h with h;subst h;trivial
 |v::l,m,h=>by
  unfold constL at h;split at h
  ·rename_i c m' h1 h2;injection h with h;subst h;exact⟨IX h1,BE h2⟩
  ·cases h
theorem Oh{s:SV}(h:constS v=some s):RealS g ρ bl s v:=by
 unfold constS at h;split at h
 ·rename_i cs;split at h
  ·rename_i l e;injection h with h;subst h;exact⟨cs.toList,by simp,BE e⟩
  ·cases h
 ·split at h
  ·rename_i c e;injection h with h;subst h;exact IX e
  ·cases h
theorem Aa{sl:List (Nat×SV)}(h:Rl g ρ ⟨sl,bl⟩ own fr){s:SV}(e:evH sl x=some s):∃v,evS fr x=some v/\RealS g ρ bl s v:=by
 cases x with
 |tmp t=>exact h.slot t s e
 |const v=>exact⟨v,rfl,Oh e⟩
 |func f=>injection e with e;subst e;exact⟨_,rfl,rfl⟩
 |global k=>
  have e:(match getG GD k with|some d=>(match encV d.c d.x with|some _=>some (SV.v (.c (.el d.c d.x 0)))|none=>none)|none=>none)=some s:=e;split at e
  ·rename_i d h1;split at e
   ·rename_i cs h2;injection e with e;subst e;refine⟨_,rfl,⟨k,0,none⟩,cs,rfl,(h.gi.2 k d cs h1 h2).mono g.br,JZ d.c h2⟩
   ·cases e
  ·cases e
end
abbrev vC(c:CV):SV:= .v (.c c)
def retT(v:SV):Tr:= .done ⟨v,[],[]⟩
def tMove(sl:List (Nat×SV))(x:Operand):Tr:=match evH sl x with|some v=>retT v|none=> .no
def asI(sl:List (Nat×SV))(x:Operand)(k:IntKind->Int->Tr):Tr:=match evH sl x with|some (.v (.c (.int j z)))=>k j z|_=> .no
def asB(sl:List (Nat×SV))(x:Operand)(k:Bool->Tr):Tr:=match evH sl x with|some (.v (.c (.bool b)))=>k b|_=> .no
def pickS(c:Bool):SV->SV->SV
 | .v (.c (.int k x)),.v (.c (.int j y))=>match sameK k j with|some _=>vC (.int k (cond c x y))|none=>cond c (vC (.int k x)) (vC (.int j y))
 | .v (.c (.bool x)),.v (.c (.bool y))=>vC (.bool (cond c x y))
 |u,v=>cond c u v
def tPick(sl:List (Nat×SV))(c x y:Operand):Tr:=asB sl c λb=>match evH sl x,evH sl y with|some u,some v=>retT (pickS b u v)|_,_=> .no
section
variable{sl:List (Nat×SV)}{v:SV}{f:Nat}
theorem Al{u:SV}(h:Told f (retT u) bl bl' v):bl'=bl/\v=u:=h
theorem BI{k:IntKind->Int->Tr}(h:Told f (asI sl x k) bl bl' v):∃j z,evH sl x=some (vC (.int j z))/\Told f (k j z) bl bl' v:=by
 unfold asI at h;split at h
 ·rename_i j z e;exact⟨j,z,e,h⟩
 ·exact h.elim
theorem VP{k:Bool->Tr}(h:Told f (asB sl x k) bl bl' v):∃b,evH sl x=some (vC (.bool b))/\Told f (k b) bl bl' v:=by
 unfold asB at h;split at h
 ·rename_i b e;exact⟨b,e,h⟩
 ·exact h.elim
theorem Oi(h:Told f (tMove sl x) bl bl' v):EffH P n (.move x) ty sl bl bl' v/\EffH P n (.assign x) ty sl bl bl' v:=by
 unfold tMove at h;split at h
 ·rename_i u e;obtain⟨rfl,rfl⟩:=Al h;exact⟨.of_yld λg ρ own fr hr=>by obtain⟨w,h1,h2⟩:=Aa hr e;exact⟨w,h2,AdV h1⟩,.of_yld λg ρ own fr hr=>by obtain⟨w,h1,h2⟩:=Aa hr e;exact⟨w,h2,VC h1⟩⟩
 ·exact h.elim
theorem Re{c:Bool}{x y:SV}{vx vy:Value}(hx:RealS g ρ bl x vx)(hy:RealS g ρ bl y vy):RealS g ρ bl (pickS c x y) (cond c vx vy):=by
 unfold pickS;split
 ·rename_i k x j y;split
  ·rename_i h _;obtain⟨h⟩:=h;subst h;obtain⟨rfl,h1⟩:=hx;obtain⟨rfl,h2⟩:=hy;cases c
   ·exact⟨rfl,h2⟩
   ·exact⟨rfl,h1⟩
  ·cases c
   ·exact hy
   ·exact hx
 ·have hx:vx=_:=hx;have hy:vy=_:=hy;subst hx;subst hy;cases c<;>rfl
 ·cases c
  ·exact hy
  ·exact hx
theorem VQ{c:Operand}(h:Told f (tPick sl c x y) bl bl' v):EffH P n (.pick c x y) ty sl bl bl' v:=by
 obtain⟨b,eb,h⟩:=VP h;split at h
 ·rename_i u w e1 e2;obtain⟨rfl,rfl⟩:=Al h;refine .of_yld λg ρ own fr hr=>?_;obtain⟨vb,hb1,hb2⟩:=Aa hr eb;obtain⟨vu,hu1,hu2⟩:=Aa hr e1;obtain⟨vw,hw1,hw2⟩:=Aa hr e2;have hb2:vb= .bool b:=hb2;subst hb2;refine⟨_,Re hu2 hw2,?_⟩
  cases b
  ·exact Abk hb1 hw1
  ·exact Abj hb1 hu1
 ·exact h.elim
def intOp(op:BinOp)(k:IntKind)(a b:Int):Option CV:=match op with
 | .add=>some (.int k (k.wrap (a+b)))
 | .sub=>some (.int k (k.wrap (a-b)))
 | .mul=>some (.int k (k.wrap (a*b)))
 | .and=>some (.int k (landK k a b))
 | .or=>some (.int k (lorK k a b))
 | .xor=>some (.int k (lxorK k a b))
 | .andNot=>some (.int k (landnK k a b))
 | .eql=>some (.bool (a==b))
 | .neq=>some (.bool (a !=b))
 | .lss=>some (.bool (decide (a<b)))
 | .leq=>some (.bool (decide (a<=b)))
 | .gtr=>some (.bool (decide (a>b)))
 | .geq=>some (.bool (decide (a>=b)))
 |_=>none
theorem VR{op:BinOp}{k:IntKind}{a b:Int}{c:CV}(h:intOp op k a b=some c):∃v,RealC g ρ bl c v/\∀(t:TypeId) w,(binOp op t (.int k a) (.int k b)).run P w= .ok v w:=by
 unfold intOp at h;cases op<;>simp only[Option.some.injEq,reduceCtorEq]at h<;>subst h<;>
  first
   |(refine⟨_,⟨rfl,DK _ _⟩,λt w=>?_⟩;simp[binOp,Op.intArith,Op.intBits,landK,lorK,lxorK,landnK];done)
   |(refine⟨_,rfl,λt w=>?_⟩;simp[binOp,Op.intCmp];done)
theorem Hf{a b:Int}(h:0<=a)(hb:0<b:=by omega):a%b<=a:=by have h1:=Int.emod_add_mul_ediv a b;have h2:=Int.mul_nonneg (Int.le_of_lt hb) (Int.ediv_nonneg h (Int.le_of_lt hb));omega
theorem VT{k:IntKind}{a b:Int}(h:inK k a):inK k (a.tmod b):=by
 obtain⟨h1,h2⟩:=h;have e0:k.min<=0:=(EX k).1;have e1:0<=k.max:=(EX k).2;rcases Int.le_total 0 a with h0|h0
 ·have:=Int.tmod_nonneg b h0;have h3:a.tmod b<=a:=by
   rw[cS h0];rcases Int.lt_trichotomy b 0 with hb|hb|hb
   ·have:=Int.emod_lt_of_neg a hb;have h4:a%b=a%(-b):=(Int.emod_neg a b).symm;rw[h4];exact Hf h0
   ·subst hb;simp
   ·exact Hf h0 hb
  exact⟨by omega,by omega⟩
 ·have e:a.tmod b= -((-a).tmod b):=by rw[Int.neg_tmod];omega
  have h0':0<=-a:=by omega
  have h4:=Int.tmod_nonneg b h0';have h3:(-a).tmod b<=-a:=by
   rw[cS h0'];rcases Int.lt_trichotomy b 0 with hb|hb|hb
   ·have h4:(-a)%b=(-a)%(-b):=(Int.emod_neg (-a) b).symm;rw[h4];exact Hf h0'
   ·subst hb;simp
   ·exact Hf h0' hb
  exact⟨by omega,by omega⟩
theorem Abq{k:IntKind}{a:Int}(m:Nat)(h:inK k a):inK k (a.fdiv (2^m)):=by
 obtain⟨h1,h2⟩:=h;have e0:k.min<=0:=(EX k).1;have e1:0<=k.max:=(EX k).2;have hp:(0:Int)<2^m:=Int.pow_pos (by decide);rw[Int.fdiv_eq_ediv_of_nonneg _ (by omega)];have hp1:(1:Int)<=2^m:=hp;rcases Int.le_total 0 a with h0|h0
 ·have h3:=Int.ediv_nonneg h0 (by omega:(0:Int)<=2^m);have h4:a/2^m<=a:=Int.ediv_le_self _ h0;exact⟨by omega,by omega⟩
 ·have h3:a / 2 ^ m<=0:=by have:=Int.ediv_le_ediv hp h0;simpa using this
  have h4:a<=a/2^m:=by rw[Int.le_ediv_iff_mul_le hp];have:a*2^m<=a*1:=Int.mul_le_mul_of_nonpos_left h0 hp1;omega
  exact⟨by omega,by omega⟩
end
def readL(P:Program)(t:TypeId)(l:List CV)(off:Nat):Option SV:=match flatOf P t with
 |true=>match l[off]? with|some c=>some (vC c)|none=>none
 |false=>match aggOf P t with
  |some m=>cond (bN (off+m) l.length) (some (.v (.agg ((l.drop off).take m)))) none
  |none=>none
def readT(P:Program)(t:TypeId)(l:List CV)(off:Nat):Tr:=match readL P t l off with|some v=>retT v|none=> .no
def readB(P:Program)(t:TypeId)(c:Cd)(x:c.den)(off:Nat):Tr:=match flatOf P t with
 |true=>readT P t (c.cv x) off
 |false=> .bnd (some x) λy=>readT P t (c.cv y) off
def tLoad(P:Program)(sl:List (Nat×SV))(t:TypeId)(x:Operand):Tr:=match evH sl x with
 |some (.v (.c (.ptr b off)))=> .need b λ| .cells _ l=>readT P t l off| .lent l=>readT P t l off|_=> .no
 |some (.v (.c (.el c x off)))=>readB P t c x off
 |some (.v (.c (.eo b c i off)))=> .need b fun
  | .row c' _ xs=>(match c'.same c with|some _=>readB P t c' (xs.getD i c'.dflt) off|none=> .no)
  | .fz c' xs=>(match c'.same c with|some _=>readB P t c' (xs.getD i c'.dflt) off|none=> .no)
  |_=> .no
 |_=> .no
section
variable{sl:List (Nat×SV)}{v:SV}{f:Nat}
theorem BQ(h:Told f (readT P t l off) bl bl' v):bl'=bl/\readL P t l off=some v:=by
 unfold readT at h;split at h
 ·rename_i u e;obtain⟨h1,rfl⟩:=Al h;exact⟨h1,e⟩
 ·exact h.elim
theorem EO{c:Cd}{x:c.den}(h:Told f (readB P t c x off) bl bl' v):Told f (readT P t (c.cv x) off) bl bl' v:=by
 unfold readB at h;split at h
 ·exact h
 ·obtain⟨y,e,h⟩:=h;injection e with e;subst e;exact h
theorem DL (h:readL P t l off=some v) (hl:AB (RealC g ρ bl) l cs) :
  (flatOf P t=true/\∃u,cs[off]? =some u/\RealS g ρ bl v u)\/∃vs,aggOf P t=some vs.length/\(cs.drop off).take vs.length=vs/\RealS g ρ bl v (.agg vs.toArray):=by
 unfold readL at h;split at h
 ·rename_i hf;split at h
  ·rename_i c e;injection h with h;subst h;obtain⟨u,h1,h2⟩:=hl.get e;exact .inl ⟨hf,u,h1,h2⟩
  ·cases h
 ·split at h
  ·rename_i m hm;cases e:bN (off+m) l.length with
   |false=>rw[e]at h;cases h
   |true=>
    rw[e]at h;injection h with h;subst h;have hle:=aW e;rw[hl.len]at hle;have hlen:((cs.drop off).take m).length=m:=by rw[aT,aQ];omega
    exact .inr ⟨(cs.drop off).take m,by rw[hlen];exact hm,by rw[hlen],_,rfl,(hl.drop off).take m⟩
  ·cases h
theorem VU {k:Bk} (hx:evS fr x=some (.pointer (some ⟨b,off,none⟩))) (hi:own[i]? = some (some k)) (hg:k.g=b) (h:readL P t l off=some v) (hl:AB (RealC g ρ bl) l k.cs) :
  ∃u,RealS g ρ bl v u/\Yld P n g.r own fr (.load t x) ty u:=by
 rcases DL h hl with⟨hf,u,h1,h2⟩|⟨vs,h1,h2,h3⟩
 ·exact⟨u,h2,MJ hx hi hg hf h1⟩
 ·exact⟨_,h3,Sq hx hi hg h1 h2⟩
theorem Oj {o:Nat} {k:Bk} (hx:evS fr x=some (.pointer (some ⟨b,o+off,none⟩))) (hi:own[i]? = some (some k)) (hg:k.g=b) (h:readL P t l off=some v) (hc:(k.cs.drop o).take m=cs) (hl:AB (RealC g ρ bl) l cs) :
  ∃u,RealS g ρ bl v u/\Yld P n g.r own fr (.load t x) ty u:=by
 rcases DL h hl with⟨hf,u,h1,h2⟩|⟨vs,h1,h2,h3⟩
 ·refine⟨u,h2,MJ hx hi hg hf ?_⟩
  rw[<-hc]at h1;exact Bu h1
 ·refine⟨_,h3,Sq hx hi hg h1 ?_⟩
  have hle:vs.length<=((cs.drop off).take vs.length).length:=by rw[h2];exact bV _
  subst hc;have e1:((List.take m (bO o k.cs)).drop off).take vs.length=(bO (o+off) k.cs).take (min vs.length (m-off)):=by rw[List.drop_take,List.take_take,cO]
  rw[aT,aQ,aT]at hle;have e2:min vs.length (m-off)=vs.length:=by omega
  rw[e1,e2]at h2;exact h2
theorem GB (hx:evS fr x=some (.pointer (some (a.add off)))) (hc:Cells g.r a cs) (h:readL P t l off=some v) (hl:AB (RealC g ρ bl) l cs) :
  ∃u,RealS g ρ bl v u/\Yld P n g.r own fr (.load t x) ty u:=by
 rcases DL h hl with⟨hf,u,h1,h2⟩|⟨vs,h1,h2,h3⟩
 ·exact⟨u,h2,VG off hx hc hf h1⟩
 ·exact⟨_,h3,VH off hx hc h1 h2⟩
theorem Rl.own_at(h:Rl g ρ ⟨sl,bl⟩ own fr)(hi:bl[i]? =some bv):∃k,own[i]? =some k/\BlkR g ρ bl k (ρ i) bv:=by
 have hlt:i<own.length:=by rw[h.len];exact(aJ.1 hi).1
 exact⟨own[i],aK hlt,h.blk i bv _ hi (aK hlt)⟩
theorem Ok(h:Told f (tLoad P sl t x) bl bl' v):EffH P n (.load t x) ty sl bl bl' v:=by
 unfold tLoad at h;split at h
 ·rename_i b off ex;obtain⟨bv,hb,h⟩:=h;dsimp only at h;split at h
  ·rename_i t0 l;obtain⟨rfl,e⟩:=BQ h;refine .of_yld λg ρ own fr hr=>?_;obtain⟨w,h1,h2⟩:=Aa hr ex;obtain⟨_,a,ha,rfl⟩:=h2;obtain⟨k,hk,b0,cs,rfl,h4,h5⟩:=hr.own_at hb;rw[ha]at h4;injection h4 with h4;subst h4
   rw[AF,cK]at h1;exact VU h1 hk rfl e h5
  ·rename_i l;obtain⟨rfl,e⟩:=BQ h;refine .of_yld λg ρ own fr hr=>?_;obtain⟨w,h1,h2⟩:=Aa hr ex;obtain⟨_,a,ha,rfl⟩:=h2;obtain⟨k,hk,rfl,a',cs,h4,h5,h6⟩:=hr.own_at hb;rw[ha]at h4;injection h4 with h4;subst h4
   exact GB h1 h5 e h6
  ·exact h.elim
 ·rename_i c x0 off ex;obtain⟨rfl,e⟩:=BQ (EO h);refine .of_yld λg ρ own fr hr=>?_;obtain⟨w,h1,a,cs,rfl,h3,h4⟩:=Aa hr ex;exact GB h1 h3 e (c.cv_real h4)
 ·rename_i b c i off ex;obtain⟨bv,hb,h⟩:=h;dsimp only at h;split at h
  ·rename_i c' et xs;split at h
   ·rename_i hs _;obtain⟨hs⟩:=hs;subst hs;obtain⟨rfl,e⟩:=BQ (EO h);refine .of_yld λg ρ own fr hr=>?_;obtain⟨w,h1,h2⟩:=Aa hr ex;obtain⟨_,a,ha,rfl,hlt⟩:=h2;have hlt:=hlt _ _ hb rfl;obtain⟨k,hk,hbuf⟩:=hr.own_at hb;obtain⟨kb,cs,h4,rfl,h5,h6⟩:=Buf.open_ hbuf hlt c'.dflt;rw[ha]at h4;injection h4 with h4;subst h4
    rw[AF,cK]at h1;rw[c'.ty_n]at h6;exact Oj h1 hk rfl e h6 (c'.cv_real h5)
   ·exact h.elim
  ·rename_i c' xs;split at h
   ·rename_i hs _;obtain⟨hs⟩:=hs;subst hs;obtain⟨rfl,e⟩:=BQ (EO h);refine .of_yld λg ρ own fr hr=>?_;obtain⟨w,h1,h2⟩:=Aa hr ex;obtain⟨_,a,ha,rfl,hlt⟩:=h2;have hlt:=hlt _ _ hb rfl;obtain⟨k,hk,rfl,harr⟩:=hr.own_at hb;have hx:xs[i]? =some (xs.getD i c'.dflt):=by rw[bJ,aK hlt];rfl
    obtain⟨ad,cs,h4,h5,h6⟩:=harr.at_ hx;rw[ha]at h4;injection h4 with h4;subst h4;rw[<-FM]at h1;rw[c'.ty_n]at h6;exact GB h1 (h6.mono g.br) e (c'.cv_real h5)
   ·exact h.elim
  ·exact h.elim
 ·exact h.elim
def fieldOff(P:Program)(t:TypeId)(i:Nat):Option Nat:=match P.underlying t with
 |some (.struct fs)=>match fs[i]? with
  |some fd=>match cellsOfT P fd.type with|some m=>cond (bD m 0) none (some fd.offset)|none=>none
  |none=>none
 |_=>none
theorem FO(a:Addr)(i j:Nat):(a.add i).add j=a.add (i+j):=FM a i j
theorem Kb{o:Nat}(hx:evS fr x=some (.pointer (some a)))(h:fieldOff P t i=some o):Yld P n p own fr (.fieldAddr t x i) ty (.pointer (some (a.add o))):=by
 intro op ac w h1 h2 hf hr;unfold fieldOff at h;split at h
 ·rename_i fs hu;split at h
  ·rename_i fd hfd;split at h
   ·rename_i m hm;cases e:bD m 0 with
    |true=>rw[e]at h;cases h
    |false=>
     rw[e]at h;injection h with h;subst h;have hm0:¬m=0:=λh0=>by subst h0;simp at e
     have:(Instr.fieldAt t (.pointer (some a)) i).run P w= .ok (.pointer (some (a.add fd.offset))) w:=by simp only[Instr.fieldAt,run_underlying hu,Sem.run_bind,Sem.run_pure,Result.andThen_ok,Instr.sureAddr,hfd,fieldPlace,AE hm,if_neg hm0]
     simp[execOp,h1,hf.ev hx,this]
   ·cases h
  ·cases h
 ·cases h
def tFieldA(P:Program)(sl:List (Nat×SV))(t:TypeId)(x:Operand)(i:Nat):Tr:=match fieldOff P t i with
 |some o=>(match evH sl x with
  |some (.v (.c (.ptr b off)))=>retT (vC (.ptr b (off+o)))
  |some (.v (.c (.el c x off)))=>retT (vC (.el c x (off+o)))
  |some (.v (.c (.eo b c i off)))=>retT (vC (.eo b c i (off+o)))
  |_=> .no)
 |none=> .no
theorem Rg(h:Told f (tFieldA P sl t x i) bl bl' v):EffH P n (.fieldAddr t x i) ty sl bl bl' v:=by
 unfold tFieldA at h;split at h
 ·rename_i o ho;split at h
  ·rename_i b off ex;obtain⟨rfl,rfl⟩:=Al h;refine .of_yld λg ρ own fr hr=>?_;obtain⟨w,h1,hk,a,ha,rfl⟩:=Aa hr ex;exact⟨_,⟨hk,a,ha,by rw[<-FO]⟩,Kb h1 ho⟩
  ·rename_i c x0 off ex;obtain⟨rfl,rfl⟩:=Al h;refine .of_yld λg ρ own fr hr=>?_;obtain⟨w,h1,a,cs,rfl,h3,h4⟩:=Aa hr ex;exact⟨_,⟨a,cs,by rw[<-FO],h3,h4⟩,Kb h1 ho⟩
  ·rename_i b c j off ex;obtain⟨rfl,rfl⟩:=Al h;refine .of_yld λg ρ own fr hr=>?_;obtain⟨w,h1,hk,a,ha,rfl,hl⟩:=Aa hr ex;exact⟨_,⟨hk,a,ha,by rw[FO,cV],hl⟩,Kb h1 ho⟩
  ·exact h.elim
 ·exact h.elim
end
def allO(o:Own):List (Nat×Obj):=o.flatMap satOf
theorem Cr{p:Nat×Obj}:p∈allO o↔∃k,some k∈o/\(p=(k.g,k.obj)\/p∈k.sat):=by
 unfold allO;rw[List.mem_flatMap];constructor
 ·rintro⟨x,hx,hp⟩;cases x with
  |none=>cases hp
  |some k=>exact⟨k,hx,aA.1 hp⟩
 ·rintro⟨k,hk,hp⟩;exact⟨some k,hk,aA.2 hp⟩
theorem Ol(h:i∈o.ids):∃p,p∈allO o/\p.1=i:=by obtain⟨k,hk,e⟩:=Own.of_ids h;exact⟨_,Cr.2 ⟨k,hk,.inl rfl⟩,e⟩
theorem St.all(h:St w g own):((allO own).map (·.1)).Nodup/\∀p∈allO own,w.heap[p.1]? =some p.2/\g.r.m p.1=none:=by
 refine⟨?_,λp hp=>?_⟩
 ·have hn:=h.nodup;have hs:=h.sat;clear h;induction own with
  |nil=>exact bP
  |cons x l ih=>
   have hs2:Sat w g l:=hs.fewer λk hk=>aF _ hk;have hn2:Own.ids l|>.Nodup:=by rw[Own.ids_cons]at hn;exact(aO.1 hn).2.1
   have e:(allO (x::l)).map (·.1)=(satOf x).map (·.1)++(allO l).map (·.1):=by simp[allO]
   rw[e];cases x with
   |none=>simpa[satOf]using ih hn2 hs2
   |some k=>
    have hk:some k∈some k::l:=aI ..;refine aO.2 ⟨aP.2 ⟨λhm=>?_,hs.each k hk⟩,ih hn2 hs2,λa ha b hb=>?_⟩
    ·obtain⟨p,hp,e⟩:=bF.1 hm;have e:p.1=k.g:=e;exact(hs.has k hk p hp).2.2 (e▸Own.mem_ids hk)
    ·obtain⟨p,hp,e1⟩:=bF.1 ha;obtain⟨q,hq,e2⟩:=bF.1 hb;subst e1;subst e2;obtain⟨j,hj,hq⟩:=Cr.1 hq;have hj':some j∈some k::l:=aF _ hj;have hne:k.g≠j.g:=by rw[Own.ids_cons]at hn;exact(aO.1 hn).2.2 k.g (by simp) j.g (Own.mem_ids hj)
     rcases aA.1 hp with rfl|hp
     ·rcases hq with rfl|hq
      ·exact hne
      ·exact λe=>(hs.has j hj' q hq).2.2 (e▸Own.mem_ids hk)
     ·rcases hq with rfl|hq
      ·exact λe=>(hs.has k hk p hp).2.2 (e▸Own.mem_ids hj')
      ·exact hs.apart k j hk hj' hne p hp q hq
 ·obtain⟨k,hk,hp⟩:=Cr.1 hp;rcases hp with rfl|hp
  ·exact⟨h.has k hk,h.free k hk⟩
  ·obtain⟨a,b,_⟩:=h.sat.has k hk p hp;exact⟨a,b⟩
theorem Hg:∀{own:Own},((allO own).map (·.1)).Nodup->own.ids.Nodup/\(∀k,some k∈own->∀p∈k.sat,p.1∉own.ids)/\(∀k,some k∈own->(k.sat.map (·.1)).Nodup)/\∀k j,some k∈own->some j∈own->k.g≠j.g->∀p∈k.sat,∀q∈j.sat,p.1≠q.1
 | [],_=>⟨bP,λk hk=>by(cases hk),λk hk=>by(cases hk),λk j hk=>by(cases hk)⟩
 |x::l,h=>by
  have e:(allO (x::l)).map (·.1)=(satOf x).map (·.1)++(allO l).map (·.1):=by simp[allO]
  rw[e]at h;obtain⟨h1,h2,h3⟩:=aO.1 h;obtain⟨a1,a2,a3,a4⟩:=Hg h2;cases x with
  |none=>
   have hm:∀k,some k∈none::l->some k∈l:=λk hk=>by
    rcases aA.1 hk with e|e
    ·cases e
    ·exact e
   have hi:Own.ids (none::l)=Own.ids l:=by rw[Own.ids_cons];rfl
   rw[hi];exact⟨a1,λk hk=>a2 k (hm k hk),λk hk=>a3 k (hm k hk),λk j hk hj=>a4 k j (hm k hk) (hm j hj)⟩
  |some k=>
   have hi:Own.ids (some k::l)=k.g::Own.ids l:=by rw[Own.ids_cons];rfl
   rw[hi];obtain⟨h4,h5⟩:=aP.1 h1;have hd:∀p,(p=(k.g,k.obj)\/p∈k.sat)->∀q∈allO l,p.1≠q.1:=λp hp q hq=>h3 p.1 (bF.2 ⟨p,aA.2 hp,rfl⟩) q.1 (bF.2 ⟨q,hq,rfl⟩);refine⟨aP.2 ⟨λhm=>?_,a1⟩,λj hj p hp hm=>?_,λj hj=>?_,λj i hj hi hne p hp q hq=>?_⟩
   ·obtain⟨q,hq,e⟩:=Ol hm;exact hd _ (.inl rfl) q hq e.symm
   ·rcases aA.1 hj with e|hj
    ·injection e with e;subst e;rcases aA.1 hm with e|hm
     ·exact h4 (bF.2 ⟨p,hp,e⟩)
     ·obtain⟨q,hq,e⟩:=Ol hm;exact hd _ (.inr hp) q hq e.symm
    ·rcases aA.1 hm with e|hm
     ·exact hd _ (.inl rfl) p (Cr.2 ⟨j,hj,.inr hp⟩) e.symm
     ·exact a2 j hj p hp hm
   ·rcases aA.1 hj with e|hj
    ·injection e with e;subst e;exact h5
    ·exact a3 j hj
   ·rcases aA.1 hj with e|hj
    ·injection e with e;subst e;rcases aA.1 hi with e|hi
     ·injection e with e;subst e;exact absurd rfl hne
     ·exact hd _ (.inr hp) q (Cr.2 ⟨i,hi,.inr hq⟩)
    ·have hj3:=hj;rcases aA.1 hi with e|hi
     ·injection e with e;subst e;exact λe=>hd _ (.inr hq) p (Cr.2 ⟨j,hj3,.inr hp⟩) e.symm
     ·exact a4 j i hj3 hi hne p hp q hq
theorem St.of_all(hr:g.r.In w)(hn:((allO own).map (·.1)).Nodup)(hp:∀p∈allO own,w.heap[p.1]? =some p.2/\g.r.m p.1=none):St w g own:=by
 obtain⟨a1,a2,a3,a4⟩:=Hg hn;refine⟨hr,a1,λk hk=>(hp (k.g,k.obj) (Cr.2 ⟨k,hk,.inl rfl⟩)).1,λk hk=>(hp (k.g,k.obj) (Cr.2 ⟨k,hk,.inl rfl⟩)).2,λk hk p hq=>?_,a3,a4⟩
 obtain⟨b1,b2⟩:=hp p (Cr.2 ⟨k,hk,.inr hq⟩);exact⟨b1,b2,a2 k hk p hq⟩
theorem St.regroup(h:St w g own)(hn:(allO own').Perm (allO own)):St w g own':=by obtain⟨h1,h2⟩:=h.all;exact .of_all h.r ((hn.map _).nodup_iff.2 h1) λp hp=>h2 p (hn.mem_iff.1 hp)
theorem Bl:∀{own:Own}{i:Nat}{x:Option Bk}(y:Option Bk),own[i]? =some x->(satOf x++allO (own.set i y)).Perm (satOf y++allO own)
 |a::l,0,x,y,h=>by
  have h:a=x:=by simpa using h
  subst h;simp only[List.set_cons_zero,allO,aX,<-aE];exact List.perm_append_comm.append_right _
 |a::l,i+1,x,y,h=>by
  have ih:=Bl (own:=l) (i:=i) (x:=x) y (by simpa using h);simp only[cM,allO,aX]at ih⊢;have e1:(satOf x++(satOf a++cZ satOf (l.set i y))).Perm (satOf a++(satOf x++cZ satOf (l.set i y))):=by rw[<-aE,<-aE];exact List.perm_append_comm.append_right _
  have e2:(satOf y++(satOf a++cZ satOf l)).Perm (satOf a++(satOf y++cZ satOf l)):=by rw[<-aE,<-aE];exact List.perm_append_comm.append_right _
  exact e1.trans ((ih.append_left _).trans e2.symm)
theorem UJ{x y x' y':Option Bk}(hne:i≠j)(hi:own[i]? =some x)(hj:own[j]? =some y)(hp:(satOf x'++satOf y').Perm (satOf x++satOf y)):(allO ((own.set i x').set j y')).Perm (allO own):=by
 have h1:=Bl x' hi;have hj2:(own.set i x')[j]? =some y:=by rw[aB,if_neg hne];exact hj
 have h2:=Bl y' hj2;have h3:((satOf x++satOf y)++allO ((own.set i x').set j y')).Perm ((satOf x++satOf y)++allO own):=by
  rw[aE];refine(h2.append_left (satOf x)).trans ?_;have e1:(satOf x++(satOf y'++allO (own.set i x'))).Perm (satOf y'++(satOf x++allO (own.set i x'))):=by rw[<-aE,<-aE];exact List.perm_append_comm.append_right _
  refine e1.trans ((h1.append_left _).trans ?_);rw[<-aE];exact(List.perm_append_comm.trans hp).append_right _
 exact(cT _).1 h3
theorem St.two{x y x' y':Option Bk}(h:St w g own)(hne:i≠j)(hi:own[i]? =some x)(hj:own[j]? =some y)(hp:(satOf x'++satOf y').Perm (satOf x++satOf y)):St w g ((own.set i x').set j y'):=
 h.regroup (UJ hne hi hj hp)
def Psi.addP(p:Psi)(x:Nat×Obj):Psi:={ p with m:=λb=>if b=x.1 then some x.2 else p.m b }
theorem Psi.le_addP{x:Nat×Obj}(h:p.m x.1=none):p.le (p.addP x):=⟨rfl,rfl,rfl,λb o e=>by show(if b=x.1 then _ else _)=_;rw[if_neg (λeq=>by rw[eq,h]at e;cases e)];exact e⟩
def Gh.addP(g:Gh)(x:Nat×Obj):Gh:=⟨g.r.addP x,g.b.addP x,⟨g.br.os,g.br.tape,g.br.out,λb o e=>by
 by_cases eq:b=x.1
 ·have e:(if b=x.1 then some x.2 else g.b.m b)=some o:=e;show(if b=x.1 then some x.2 else g.r.m b)=some o;rw[if_pos eq]at e⊢;exact e
 ·have e:(if b=x.1 then some x.2 else g.b.m b)=some o:=e;show(if b=x.1 then some x.2 else g.r.m b)=some o;rw[if_neg eq]at e⊢;exact g.br.m b o e⟩⟩
theorem Gh.le_addP{g:Gh}{x:Nat×Obj}(h:g.r.m x.1=none):g.le (g.addP x):=⟨Psi.le_addP h,Psi.le_addP (g.br.none_ h),λk hk=>by
 by_cases e:k=x.1
 ·subst e;exact .inr h
 ·left;have hk:(if k=x.1 then some x.2 else g.b.m k)≠none:=hk;rw[if_neg e]at hk;exact hk⟩
theorem St.pub:∀{S:List (Nat×Obj)}{w:World}{g:Gh}{own own':Own},St w g own->(allO own).Perm (S++allO own')->∃g',g.le g'/\St w g' own'/\∀p∈S,g'.b.m p.1=some p.2
 |S,w,g,own,own',h,hp=>by
  have key:∀(S:List (Nat×Obj))(g:Gh),g.r.In w->((S++allO own').map (·.1)).Nodup->(∀p∈S++allO own',w.heap[p.1]? =some p.2/\g.r.m p.1=none)->∃g',g.le g'/\St w g' own'/\∀p∈S,g'.b.m p.1=some p.2:=by
   intro S;induction S with
   |nil=>exact λg hr hn hp=>⟨g,.refl g,.of_all hr hn hp,λp hp=>by cases hp⟩
   |cons x S ih=>
    intro g hr hn hp;have hx:=hp x (aI ..);rw[bS,bG]at hn;obtain⟨hn1,hn2⟩:=aP.1 hn;have hle:=Gh.le_addP hx.2;obtain⟨g',h1,h2,h3⟩:=ih (g.addP x) ⟨hr.os,hr.tape,hr.out,λb o e=>by
     have e:(if b=x.1 then some x.2 else g.r.m b)=some o:=e;by_cases eq:b=x.1
     ·rw[if_pos eq]at e;injection e with e;subst e;subst eq;exact hx.1
     ·rw[if_neg eq]at e;exact hr.m b o e⟩ hn2 λp hq=>by
      obtain⟨a,b⟩:=hp p (aF _ hq);refine⟨a,?_⟩
      show(if p.1=x.1 then some x.2 else g.r.m p.1)=none;rw[if_neg λe=>hn1 (bF.2 ⟨p,hq,e⟩)];exact b
    refine⟨g',hle.trans h1,h2,λp hq=>?_⟩
    rcases aA.1 hq with rfl|hq
    ·exact h1.b.m _ _ (if_pos rfl)
    ·exact h3 p hq
  obtain⟨h1,h2⟩:=h.all;exact key S g h.r ((hp.map _).nodup_iff.1 h1) λp hq=>h2 p (hp.mem_iff.2 hq)
def mkT:(t:TD)->TypeId->List t.cd.den->BV
 | .c c,et,xs=> .row c et xs
 | .p a b,et,xs=> .tree (.p a b) et xs
 | .o e a,et,xs=> .tree (.o e a) et xs
theorem Kc{c:Cd}{p:Psi}:∀{xs:List c.den}{cs:List Value}{e:List (Nat×Obj)},RowE (TRep p (.c c)) cs xs e↔Reps c.ty p cs xs/\e=[]
 | [],cs,e=>Iff.rfl
 |x::xs,cs,e=>by
  constructor
  ·rintro⟨c1,c2,e1,e2,h1,h2,⟨h3,h4⟩,h5⟩;obtain⟨h6,h7⟩:=Kc.1 h5;exact⟨⟨c1,c2,h1,h3,h6⟩,by rw[h2,h4,h7];rfl⟩
  ·rintro⟨⟨c1,c2,h1,h3,h6⟩,rfl⟩;exact⟨c1,c2,[],[],h1,rfl,⟨h3,rfl⟩,Kc.2 ⟨h6,rfl⟩⟩
theorem Aec{c:Cd}{xs:List c.den}(h:Buf p c.ty et v k xs):∃k',satOf k'=satOf k/\RowB true (TRep p (.c c)) c.n et v k' xs:=by
 rcases h with⟨h0,⟨h1,h2,h3⟩|⟨b,cap,cs,sp,h1,h2|h2,h3,h4,h5⟩⟩
 ·exact⟨none,by rw[h3],h0,.inl ⟨h1,h2,rfl⟩⟩
 ·exact⟨some ⟨b,.tr et [],cs++sp⟩,by rw[h2];rfl,h0,.inr ⟨b,cap,cs,sp,[],h1,.inl rfl,Kc.2 ⟨h3,rfl⟩,by rw[h4,Cd.ty_n],h5⟩⟩
 ·exact⟨some ⟨b,.ms et,cs++sp⟩,by rw[h2],h0,.inr ⟨b,cap,cs,sp,[],h1,.inr ⟨rfl,rfl,rfl⟩,Kc.2 ⟨h3,rfl⟩,by rw[h4,Cd.ty_n],h5⟩⟩
theorem AgL{c:Cd}{xs:List c.den}(h:RowB true (TRep p (.c c)) c.n et v k xs):∃k',satOf k'=satOf k/\Buf p c.ty et v k' xs:=by
 rcases h with⟨h0,⟨h1,h2,h3⟩|⟨b,cap,cs,sp,e,h1,h2,h3,h4,h5⟩⟩
 ·exact⟨none,by rw[h3],h0,.inl ⟨h1,h2,rfl⟩⟩
 ·obtain⟨h6,rfl⟩:=Kc.1 h3;clear h3;rcases h2 with h2|⟨_,_,h2⟩
  ·exact⟨some ⟨b,.ty et,cs++sp⟩,by rw[h2];rfl,h0,.inr ⟨b,cap,cs,sp,h1,.inl rfl,h6,by rw[h4,Cd.ty_n],h5⟩⟩
  ·exact⟨some ⟨b,.ms et,cs++sp⟩,by rw[h2],h0,.inr ⟨b,cap,cs,sp,h1,.inr rfl,h6,by rw[h4,Cd.ty_n],h5⟩⟩
section
theorem Aed{t:TD}{xs:List t.cd.den}(h:BlkR g ρ bl k e (mkT t et xs)):∃k',satOf k'=satOf k/\RowB t.isC (TRep g.b t) t.cd.n et (.slice e.1 xs.length e.2) k' xs:=by
 cases t with
 |c c=>exact Aec h
 |p a b=>exact⟨k,rfl,h⟩
 |o e a=>exact⟨k,rfl,h⟩
end
theorem Sy{t:TD}{xs:List t.cd.den}:(mkT t et xs).len=some xs.length:=by cases t<;>rfl
theorem Om{t:TD}{xs:List t.cd.den}:(mkT t et xs).isHole=false:=by cases t<;>rfl
def asT(a:TD)(et:TypeId):BV->Option (List a.cd.den)
 | .row c e xs=>match(TD.c c).same a,bD e et with|some h,true=>some (h.down▸(xs:List (TD.c c).cd.den))|_,_=>none
 | .tree (.c _) _ _=>none
 | .tree (.p t u) e xs=>match(TD.p t u).same a,bD e et with|some h,true=>some (h.down▸xs)|_,_=>none
 | .tree (.o f u) e xs=>match(TD.o f u).same a,bD e et with|some h,true=>some (h.down▸xs)|_,_=>none
 |_=>none
theorem VV{a:TD}{ys:List a.cd.den}(h:asT a et bv=some ys):bv=mkT a et ys:=by
 unfold asT at h;split at h
 ·split at h
  ·rename_i h1 _ h2;obtain⟨h1⟩:=h1;subst h1;have h2:=aL h2;subst h2;injection h with h;subst h;rfl
  ·cases h
 ·cases h
 ·split at h
  ·rename_i h1 _ h2;obtain⟨h1⟩:=h1;subst h1;have h2:=aL h2;subst h2;injection h with h;subst h;rfl
  ·cases h
 ·split at h
  ·rename_i h1 _ h2;obtain⟨h1⟩:=h1;subst h1;have h2:=aL h2;subst h2;injection h with h;subst h;rfl
  ·cases h
 ·cases h
def TD.fill(bl:List BV):(t:TD)->t.cd.den->List Nat->Option (t.cd.den×List Nat)
 | .c _,d,js=>some (d,js)
 | .p a b,d,js=>match a.fill bl d.1 js with
  |some (x,js1)=>(match b.fill bl d.2 js1 with|some (y,js2)=>some ((x,y),js2)|none=>none)
  |none=>none
 | .o _ _,_,[]=>none
 | .o et a,_,j::js=>match bl[j]? with
  |some bv=>(match asT a et bv with|some ys=>some (ys,js)|none=>none)
  |none=>none
def noAll:List Nat->List BV->List BV
 | [],l=>l
 |j::js,l=>noAll js (l.set j .no)
def noOwn:List Nat->Own->Own
 | [],o=>o
 |j::js,o=>noOwn js (o.set j none)
theorem DC:∀{js:List Nat}{l:List BV},(noAll js l).length=l.length
 | [],_=>rfl
 |j::js,l=>by rw[noAll,DC,aG]
theorem LY:∀{js:List Nat}{l:Own},(noOwn js l).length=l.length
 | [],_=>rfl
 |j::js,l=>by rw[noOwn,LY,aG]
theorem BM:∀{js:List Nat}{l:List BV}{i:Nat},(i∉js->(noAll js l)[i]? =l[i]?)/\(i∈js->i<l.length->(noAll js l)[i]? =some .no)
 | [],l,i=>⟨λ_=>rfl,λh=>by cases h⟩
 |j::js,l,i=>by
  obtain⟨h1,h2⟩:=BM (js:=js) (l:=l.set j .no) (i:=i);refine⟨λh=>?_,λh hl=>?_⟩
  ·rw[noAll,h1 λe=>h (aF _ e),aB,if_neg λe=>h (by rw[e];exact aI ..)]
  ·by_cases e:i∈js
   ·exact h2 e (by rw[aG];exact hl)
   ·rcases aA.1 h with rfl|h
    ·rw[noAll,h1 e,aB,if_pos rfl,if_pos hl]
    ·exact absurd h e
theorem Ij:∀{js:List Nat}{l:Own}{i:Nat},(i∉js->(noOwn js l)[i]? =l[i]?)/\(i∈js->i<l.length->(noOwn js l)[i]? =some none)
 | [],l,i=>⟨λ_=>rfl,λh=>by cases h⟩
 |j::js,l,i=>by
  obtain⟨h1,h2⟩:=Ij (js:=js) (l:=l.set j none) (i:=i);refine⟨λh=>?_,λh hl=>?_⟩
  ·rw[noOwn,h1 λe=>h (aF _ e),aB,if_neg λe=>h (by rw[e];exact aI ..)]
  ·by_cases e:i∈js
   ·exact h2 e (by rw[aG];exact hl)
   ·rcases aA.1 h with rfl|h
    ·rw[noOwn,h1 e,aB,if_pos rfl,if_pos hl]
    ·exact absurd h e
theorem Ik{bl:List BV}:∀{t:TD}{d x:t.cd.den}{js rest:List Nat},t.fill bl d js=some (x,rest)->∃used,js=used++rest/\∀j∈used,∃(a:TD)(et:TypeId)(ys:List a.cd.den),bl[j]? =some (mkT a et ys)
 | .c c,d,x,js,rest,h=>by injection h with h;injection h with h3 h4;exact⟨[],h4,λj hj=>by cases hj⟩
 | .p a b,d,x,js,rest,h=>by
  unfold TD.fill at h;split at h
  ·rename_i y js1 e1;obtain⟨u1,rfl,h5⟩:=Ik e1;split at h
   ·rename_i z js2 e2;injection h with h;injection h with h8 h9;subst h9;obtain⟨u2,rfl,h6⟩:=Ik e2;refine⟨u1++u2,by rw[aE],λj hj=>?_⟩
    rcases aN.1 hj with hj|hj
    ·exact h5 j hj
    ·exact h6 j hj
   ·cases h
  ·cases h
 | .o et a,d,x,[],rest,h=>by cases h
 | .o et a,d,x,j::js,rest,h=>by
  unfold TD.fill at h;split at h
  ·rename_i bv hb;split at h
   ·rename_i ys hy;injection h with h;injection h with h4 h5;have hbv:=VV hy;subst hbv;exact⟨[j],by rw[h5];rfl,λi hi=>by
     have:i=j:=by simpa using hi
     subst this;exact⟨_,_,_,hb⟩⟩
   ·cases h
  ·cases h
def satsAt(own:Own)(js:List Nat):List (Nat×Obj):=js.flatMap λj=>satOf (own[j]?).join
theorem Sz:∀{js:List Nat}{own:Own},js.Nodup->(∀j∈js,j<own.length)->(allO own).Perm (satsAt own js++allO (noOwn js own))
 | [],own,_,_=>List.Perm.refl _
 |j::js,own,hn,hl=>by
  obtain⟨h1,h2⟩:=aP.1 hn;obtain⟨x0,hj⟩:∃x,own[j]? =some x:=⟨_,aK (hl j (aI ..))⟩
  have ih:=Sz (js:=js) (own:=own.set j none) h2 λi hi=>by rw[aG];exact hl i (aF _ hi)
  have e:satsAt (own.set j none) js=satsAt own js:=by
   unfold satsAt;have:∀l:List Nat,j∉l->l.flatMap (λj_1=>satOf ((own.set j none)[j_1]?).join)=l.flatMap λj=>satOf (own[j]?).join:=by
    intro l;induction l with
    |nil=>exact λ_=>rfl
    |cons x l ih=>
     intro hx;rw[aX,aX,ih λe=>hx (aF _ e),aB,if_neg λe=>hx (by rw[e];exact aI ..)]
   exact this js h1
  rw[e]at ih;have h3:=(Bl none hj).symm;have h4:(allO own).Perm (satOf x0++allO (own.set j none)):=h3;refine h4.trans ?_;unfold satsAt;rw[aX,hj,aE];exact ih.append_left _
theorem ML {g:Gh} {ρ:Env} {sl:List (Nat×SV)} {bl:List BV} {own:Own} {fr:Sl} (hr:Rl g ρ ⟨sl,bl⟩ own fr):∀ {t:TD} {cs:List Value} {d x:t.cd.den} {js rest rest':List Nat},TRepX g ρ bl t cs d js->t.fill bl d (js++rest)=some (x,rest') ->
  rest'=rest/\(∃e,TRep g.b t cs x e/\e.Perm (satsAt own js))/\∀j∈js,∃(a:TD)(et:TypeId)(ys:List a.cd.den),bl[j]? =some (mkT a et ys)
 | .c c,cs,d,x,js,rest,rest',⟨h1,h2⟩,h=>by subst h2;injection h with h;injection h with h3 h4;subst h3;subst h4;exact⟨rfl,⟨[],⟨h1,rfl⟩,List.Perm.refl _⟩,λj hj=>by cases hj⟩
 | .p a b,cs,d,x,js,rest,rest',⟨c1,c2,j1,j2,h1,h2,h3,h4⟩,h=>by
  subst h2;unfold TD.fill at h;rw[aE]at h;split at h
  ·rename_i y js1 e1;obtain⟨rfl,⟨e,h5,h6⟩,h7⟩:=ML hr h3 e1;split at h
   ·rename_i z js2 e2;injection h with h;injection h with h8 h9;subst h8;subst h9;obtain⟨rfl,⟨f,h10,h11⟩,h12⟩:=ML hr h4 e2;refine⟨rfl,⟨e++f,⟨c1,c2,e,f,h1,rfl,h5,h10⟩,?_⟩,λj hj=>?_⟩
    ·unfold satsAt;rw[List.flatMap_append];exact h6.append h11
    ·rcases aN.1 hj with hj|hj
     ·exact h7 j hj
     ·exact h12 j hj
   ·cases h
  ·cases h
 | .o et a,cs,d,x,js,rest,rest',⟨v,j,h1,h2,h3⟩,h=>by
  subst h2;unfold TD.fill at h;simp only[bS,cD]at h;split at h
  ·rename_i bv hb;split at h
   ·rename_i ys hy;injection h with h;injection h with h4 h5;have hbv:=VV hy;subst hbv;obtain⟨k,hk,hB⟩:=hr.own_at hb;obtain⟨k',h6,h7⟩:=Aed hB;obtain⟨_,n,hv,hl⟩:=h3;have:=hl _ _ hb Sy;subst this;rw[hv]at h1;subst h4;refine⟨h5.symm,⟨satOf k',⟨_,k',h1,h7,rfl⟩,?_⟩,λi hi=>?_⟩
    ·rw[h6];simp[satsAt,hk]
    ·have:i=j:=by simpa using hi
     subst this;exact⟨_,_,_,hb⟩
   ·cases h
  ·cases h
theorem On{R:List Value->α->List (Nat×Obj)->Prop}(hR:∀cs d e,R cs d e->(∀p∈e,q.m p.1=some p.2)->T.rep q cs d){ms:Bool}(hn:T.n=n)(h:RowB ms R n et (.slice A m c) k xs)(hS:∀p∈satOf k,q.m p.1=some p.2):m=xs.length/\Arr q T A c xs:=by
 have hrow:∀{xs:List α}{cs:List Value}{e:List (Nat×Obj)},RowE R cs xs e->(∀p∈e,q.m p.1=some p.2)->Reps T q cs xs:=by
  intro xs;induction xs with
  |nil=>exact λh _=>h.1
  |cons x xs ih=>
   rintro cs e ⟨c1,c2,e1,e2,h1,h2,h3,h4⟩ hp;subst h2;exact⟨c1,c2,h1,hR _ _ _ h3 λp hm=>hp p (bW _ hm),ih h4 λp hm=>hp p (aS _ hm)⟩
 rcases h with⟨h0,⟨h1,h2,h3⟩|⟨b,cap,cs,sp,e,h1,h2,h3,h4,h5⟩⟩
 ·injection h1 with h1 h6 h7;subst h2;exact⟨by simpa using h6,.nil⟩
 ·injection h1 with h1 h6 h7;subst h1;subst h7;have hk:(∃fz,q.m b=some (.cells (cs++sp).toArray et fz))/\∀p∈e,q.m p.1=some p.2:=by
   rcases h2 with rfl|⟨_,rfl,rfl⟩
   ·exact⟨⟨_,hS _ (aI ..)⟩,λp hp=>hS p (aF _ hp)⟩
   ·exact⟨⟨_,hS _ (aI ..)⟩,λp hp=>by cases hp⟩
  obtain⟨⟨fz,hm⟩,hp⟩:=hk;have hrep:=hrow h3 hp;refine⟨h6,?_,h0,cs,hrep,λ_=>⟨_,rfl,λj v hj=>?_⟩⟩
  ·rw[aC,hrep.len,hn]at h4;exact aM (by omega:xs.length*n<=c*n) (hn▸T.pos)
  ·rw[AF];simp only[Psi.cell?,hm];simp;rw[aR (by rcases aU j cs.length with h|h;exact h;rw[aD h]at hj;cases hj)];exact hj
theorem Hh{q:Psi}:∀{t:TD}{cs:List Value}{d:t.cd.den}{e:List (Nat×Obj)},TRep q t cs d e->(∀p∈e,q.m p.1=some p.2)->t.cd.ty.rep q cs d
 | .c c,cs,d,e,h,hS=>h.1
 | .p a b,cs,d,e,⟨c1,c2,e1,e2,h1,h2,h3,h4⟩,hS=>by subst h2;exact⟨c1,c2,h1,Hh h3 λp hm=>hS p (bW _ hm),Hh h4 λp hm=>hS p (aS _ hm)⟩
 | .o et a,cs,d,e,⟨v,k,h1,h2,h3⟩,hS=>by
  subst h3;have hv:∃A m c,v= .slice A m c:=by
   rcases h2 with⟨_,⟨h,_⟩|⟨_,_,_,_,_,h,_⟩⟩
   ·exact⟨_,_,_,h⟩
   ·exact⟨_,_,_,h⟩
  obtain⟨A,m,c,rfl⟩:=hv;obtain⟨h4,h5⟩:=On (T:=a.cd.ty) (λcs d e h hp=>Hh h hp) (Cd.ty_n a.cd) h2 hS;exact⟨A,c,by rw[h1,h4],h5⟩
theorem St.fill{k:Bk}(h:St w g (some k::own))(hi:own[i]? =some none):St w g (own.set i (some k)):=by
 have hp:(own.set i (some k)).Perm (some k::own.eraseIdx i):=by
  have hlt:i<own.length:=(aJ.1 hi).1;have h2:=Cm (l:=own.set i (some k)) (i:=i) (x:=some k) (by simp[aB,hlt])
  rwa [dE]at h2
 have hp0:own.Perm (none::own.eraseIdx i):=Cm hi;have hi0:(Own.ids own).Perm (Own.ids (own.eraseIdx i)):=by
  have:=Own.ids_perm hp0
  rwa [Own.ids_cons]at this
 refine h.fewer ((Own.ids_perm hp).nodup_iff.2 ?_) λk' hk'=>?_
 ·have hn:=h.nodup;rw[Own.ids_cons]at hn⊢;exact((hi0.append_left _).nodup_iff).1 hn
 ·rcases aA.1 (hp.mem_iff.1 hk')with e|e
  ·rw[e];exact aI ..
  ·exact aF _ (List.mem_of_mem_eraseIdx e)
def setρ(ρ:Env)(i:Nat)(e:Option Addr×Nat):Env:=λj=>if j=i then e else ρ j
theorem Bn(ρ:Env)(i:Nat)(e:Option Addr×Nat):setρ ρ i e i=e:=if_pos rfl
theorem FP(h:j≠i:=by omega):setρ ρ i e j=ρ j:=if_neg h
section
variable{sl:List (Nat×SV)}{v:SV}{f:Nat}
theorem BF{l:List α}{x y:α}(h:(l.set i x)[j]? =some y):(j=i/\y=x/\i<l.length)\/(j≠i/\l[j]? =some y):=by
 rw[aB]at h;split at h
 ·rename_i e;subst e;split at h
  ·rename_i hl;injection h with h;exact .inl ⟨rfl,h.symm,hl⟩
  ·cases h
 ·rename_i e;exact .inr ⟨λe2=>e e2.symm,h⟩
theorem Ext.set_hole(h:bl[f]? =some .hole):Ext ρ bl (setρ ρ f e) (bl.set f bv):=by
 intro b bv0 h1 h2;have hne:b≠f:=λe=>by subst e;rw[h]at h1;injection h1 with h1;subst h1;cases h2
 exact⟨FP hne,bv0,by rw[aB,if_neg (Ne.symm hne)];exact h1,h2,λm h=>h⟩
theorem Ext.set_at{bv1:BV}(h:bl[b]? =some bv)(hh:bv1.isHole=false)(hm:∀m,bv1.len=some m->bv.len=some m):Ext ρ bl ρ (bl.set b bv1):=by
 intro i bv0 h1 h2;refine⟨rfl,?_⟩
 by_cases e:i=b
 ·subst e;have hlt:i<bl.length:=(aJ.1 h).1;refine⟨bv1,by simp[aB,hlt],hh,λm hk=>?_⟩
  rw[h]at h1;injection h1 with h1;subst h1;exact hm m hk
 ·exact⟨bv0,by rw[aB,if_neg (Ne.symm e)];exact h1,h2,λm h=>h⟩
theorem Rl.lay(h:Rl g ρ ⟨sl,bl⟩ own fr)(hg:g.le g')(hf:bl[f]? =some .hole)(hb:BlkR g' (setρ ρ f e) (bl.set f bv) k e bv):Rl g' (setρ ρ f e) ⟨sl,bl.set f bv⟩ (own.set f k) fr:=by
 have hx:Ext ρ bl (setρ ρ f e) (bl.set f bv):=Ext.set_hole hf;refine h.turn hg hx (by rw[aG,aG];exact h.len) λi bv1 k1 h1 h2=>?_;rcases BF h1 with⟨rfl,rfl,_⟩|⟨h3,h4⟩
 ·rcases BF h2 with⟨_,rfl,_⟩|⟨h5,_⟩
  ·rw[Bn];exact hb
  ·exact absurd rfl h5
 ·rcases BF h2 with⟨h5,_⟩|⟨_,h6⟩
  ·exact absurd h5 h3
  ·rw[FP h3];exact(h.blk i bv1 k1 h4 h6).ext hg hx
theorem Rl.setB{bv1:BV}(h:Rl g ρ ⟨sl,bl⟩ own fr)(hg:g.le g')(hb0:bl[b]? =some bv)(hh:bv1.isHole=false)(hm:∀m,bv1.len=some m->bv.len=some m)(hb:BlkR g' ρ (bl.set b bv1) k (ρ b) bv1):Rl g' ρ ⟨sl,bl.set b bv1⟩ (own.set b k) fr:=by
 have hx:Ext ρ bl ρ (bl.set b bv1):=Ext.set_at hb0 hh hm;refine h.turn hg hx (by rw[aG,aG];exact h.len) λi bv2 k1 h1 h2=>?_;rcases BF h1 with⟨rfl,rfl,_⟩|⟨h3,h4⟩
 ·rcases BF h2 with⟨_,rfl,_⟩|⟨h5,_⟩
  ·exact hb
  ·exact absurd rfl h5
 ·rcases BF h2 with⟨h5,_⟩|⟨_,h6⟩
  ·exact absurd h5 h3
  ·exact(h.blk i bv2 k1 h4 h6).ext hg hx
theorem Rl.hole_none(h:Rl g ρ ⟨sl,bl⟩ own fr)(hi:bl[i]? =some .hole):own[i]? =some none:=by obtain⟨k,h1,h2⟩:=h.own_at hi;have h2:k=none:=h2;rw[h1,h2]
def cellsS:SV->Option (List CV)
 | .v (.c x)=>some [x]
 | .v (.agg l)=>some l
 |_=>none
theorem FQ{x:CV}{v:Value}(h:RealC g ρ bl x v):Ig v=true/\v.cells=#[v]:=by
 cases x with
 |int k x=>obtain⟨rfl,_⟩:=h;exact⟨rfl,rfl⟩
 |bool b=>have h:v=_:=h;subst h;exact⟨rfl,rfl⟩
 |str l=>obtain⟨rfl,_⟩:=h;exact⟨rfl,rfl⟩
 |k c=>
  obtain⟨rfl,h⟩:=h;cases v<;>first|(exact⟨rfl,rfl⟩)|(cases h;done)|skip
 |ptr b off=>obtain⟨_,a,_,rfl⟩:=h;exact⟨rfl,rfl⟩
 |own b=>obtain⟨_,m,rfl,_⟩:=h;exact⟨rfl,rfl⟩
 |ro c xs m=>obtain⟨A,cap,rfl,_⟩:=h;exact⟨rfl,rfl⟩
 |el c x off=>obtain⟨a,cs,rfl,_⟩:=h;exact⟨rfl,rfl⟩
 |eo b c i off=>obtain⟨_,a,_,rfl,_⟩:=h;exact⟨rfl,rfl⟩
 |vw b c l r=>obtain⟨_,rfl,_⟩:=h;exact⟨rfl,rfl⟩
 |fn f=>have h:v=_:=h;subst h;exact⟨rfl,rfl⟩
 |nb e neg=>obtain⟨b,rfl,_⟩:=h;exact⟨rfl,rfl⟩
 |mp b=>obtain⟨_,k,_,rfl⟩:=h;exact⟨rfl,rfl⟩
 |sc b n=>obtain⟨_,_,k,_,rfl⟩:=h;exact⟨rfl,rfl⟩
 |cap f c=>obtain⟨fn,caps,vc,_,_,rfl⟩:=h;exact⟨rfl,rfl⟩
 |ifc t c=>obtain⟨u,_,rfl⟩:=h;exact⟨rfl,rfl⟩
 |bnd f c=>obtain⟨u,_,rfl⟩:=h;exact⟨rfl,rfl⟩
theorem Hi:∀{l:List CV}{cs:List Value},AB (RealC g ρ bl) l cs->cs.all Ig=true
 | [],[],_=>rfl
 |x::l,c::cs,h=>by rw[List.all_cons,(FQ h.1).1,Hi h.2];rfl
 | [],_::_,h=>h.elim
 |_::_,[],h=>h.elim
theorem Da{s:SV}{v:Value}(h:cellsS s=some l)(hr:RealS g ρ bl s v):∃cs,v.cells=cs.toArray/\AB (RealC g ρ bl) l cs:=by
 unfold cellsS at h;split at h
 ·injection h with h;subst h;have hr:RealC g ρ bl _ v:=hr;exact⟨[v],(FQ hr).2,hr,trivial⟩
 ·injection h with h;subst h;obtain⟨cs,rfl,h2⟩:=hr;exact⟨cs,rfl,h2⟩
 ·cases h
def tAlloc(P:Program)(f:Nat)(t:TypeId):Tr:=match zeroOf P t with
 |some z=>(match constL z.toList with|some l=> .done ⟨vC (.ptr f 0),[],[.cells t l]⟩|none=> .no)
 |none=> .no
def tBox(sl:List (Nat×SV))(f:Nat)(t:TypeId)(x:Operand):Tr:=match evH sl x with
 |some s=>(match cellsS s with|some l=> .done ⟨vC (.ptr f 0),[],[.cells t l]⟩|none=> .no)
 |none=> .no
theorem Bo(h:b<bl.length)(hh:bv.isHole=false):Known (bl.set b bv) b:=⟨bv,by simp[aB,h],hh⟩
theorem Am{l:List α}{x:α}(h:l[i]? =some x):i<l.length:=(aJ.1 h).1
theorem Oo (hf:bl[f]? = some .hole)
  (h:∀g ρ own fr,Rl g ρ ⟨sl,bl⟩ own fr->∃cs,AB (RealC g ρ bl) l cs/\Eff P n g own fr op ty (λv' g' own'=>∃b,v'= .pointer (some ⟨b,0,none⟩)/\g=g'/\own'=some ⟨b,t,cs⟩::own)):
  EffH P n op ty sl bl (bl.set f (.cells t l)) (vC (.ptr f 0)):=by
 intro o a w Q K g ρ own fr h1 h2 hr hfr hs hk;obtain⟨cs,hcs,he⟩:=h g ρ own fr hr;refine he o a w Q K h1 h2 hfr hs λv g' own' w' hg hs' ⟨b,e1,e2,e3⟩=>?_;subst e1;subst e2;subst e3;have hx:Ext ρ bl (setρ ρ f (some ⟨b,0,none⟩,0)) (bl.set f (.cells t l)):=Ext.set_hole hf;refine hk _ g (setρ ρ f (some ⟨b,0,none⟩,0)) _ w' (.refl g) hx (hs'.fill (hr.hole_none hf)) (hr.lay (.refl g) hf ⟨b,cs,rfl,rfl,hcs.mono λ_ _=>RealC.ext (.refl g) hx⟩) ⟨Bo (Am hf) rfl,⟨b,0,none⟩,by rw[Bn],rfl⟩
theorem UK(hf:bl[f]? =some .hole)(h:Told f (tAlloc P f t) bl bl' v):EffH P n (.alloc t) ty sl bl bl' v:=by
 unfold tAlloc at h;split at h
 ·rename_i z hz;split at h
  ·rename_i l hl;obtain⟨rfl,rfl⟩:=h;exact Oo hf λg ρ own fr hr=>⟨z.toList,BE hl,Sr (by rw[hz])⟩
  ·exact h.elim
 ·exact h.elim
theorem Abr(hf:bl[f]? =some .hole)(h:Told f (tBox sl f t x) bl bl' v):EffH P n (.box t x) ty sl bl bl' v:=by
 unfold tBox at h;split at h
 ·rename_i s hs;split at h
  ·rename_i l hl;obtain⟨rfl,rfl⟩:=h;refine Oo hf λg ρ own fr hr=>?_;obtain⟨u,h1,h2⟩:=Aa hr hs;obtain⟨cs,h3,h4⟩:=Da hl h2;exact⟨cs,h4,Adx h1 h3⟩
  ·exact h.elim
 ·exact h.elim
def setRowC(cs:List CV)(off:Nat):List CV->List CV
 | []=>cs
 |v::vs=>setRowC (cs.set off v) (off+1) vs
theorem Cs:∀{vs:List CV}{us:List Value}{l:List CV}{cs:List Value}(off:Nat),AB (RealC g ρ bl) vs us->AB (RealC g ρ bl) l cs->AB (RealC g ρ bl) (setRowC l off vs) (setRow cs off us)
 | [],[],l,cs,off,_,h=>h
 |v::vs,u::us,l,cs,off,h1,h=>Cs (off+1) h1.2 (h.set h1.1 off)
 | [],_::_,_,_,_,h,_=>h.elim
 |_::_,[],_,_,_,h,_=>h.elim
def fitsT(P:Program)(t:TypeId)(m off l:Nat):Bool:=match cellsOfT P t with
 |some z=>bD z m&&bN (off+m) l
 |none=>false
theorem Hj{l:Nat}(h:fitsT P t m off l=true):cellsOfT P t=some m/\off+m<=l:=by
 unfold fitsT at h;split at h
 ·rename_i z hz;simp only[bU]at h;have:=aL h.1;subst this;exact⟨hz,aW h.2⟩
 ·cases h
def headC(l:List CV)(K:CV->List CV->Tr):Tr:=match l with|x::r=>K x r| []=> .no
def encA(c:Cd)(x:CV)(K:List c.den->Tr):Tr:=match x with
 | .ro d xs true=>(match d.same c with|some h=>K (h.down▸xs)|none=> .no)
 | .k (.slice none 0 0)=>K ([]:List c.den)
 | .own b=> .need b fun
  | .row d _ xs=>(match d.same c with|some h=> .frz b (K (h.down▸xs))|none=> .no)
  | .fz d xs=>(match d.same c with|some h=>K (h.down▸xs)|none=> .no)
  |_=> .no
 |_=> .no
def encC:(c:Cd)->List CV->(c.den->List CV->Tr)->Tr
 | .i k,l,K=>headC l λx r=>match x with| .int j x=>(match sameK j k with|some _=>K x r|none=> .no)|_=> .no
 | .y,l,K=>headC l λx r=>match x with| .int j x=>(match sameK j .u8 with|some _=>K (u8 x) r|none=> .no)|_=> .no
 | .b,l,K=>headC l λx r=>match x with| .bool x=>K x r|_=> .no
 | .s,l,K=>headC l λx r=>match x with| .str x=>K x r|_=> .no
 | .a c,l,K=>headC l λx r=>encA c x λxs=>K xs r
 | .p c d,l,K=>encC c l λx r=>encC d r λy r=>K (x,y) r
def EncD(bl:List BV):(c:Cd)->List CV->c.den->List CV->Prop
 | .i k,l,x,r=>l= .int k x::r
 | .y,l,x,r=>∃z,l= .int .u8 z::r/\x=u8 z
 | .b,l,x,r=>l= .bool x::r
 | .s,l,x,r=>l= .str x::r
 | .a c,l,x,r=>l= .ro c x true::r\/(l= .k (.slice none 0 0)::r/\x=([]:List c.den))\/∃b,l= .own b::r/\bl[b]? =some (.fz c x)
 | .p c d,l,x,r=>∃m,EncD bl c l x.1 m/\EncD bl d m x.2 r
inductive FrzTo:List BV->List BV->Prop where
 |refl {l:List BV}:FrzTo l l
 |step {l l2:List BV} {b:Nat} {c:Cd} {et:TypeId} {xs:List c.den} (h:l[b]? =some (.row c et xs)) (k:FrzTo (l.set b (.fz c xs)) l2):FrzTo l l2
 |frzT {l l2:List BV} {b:Nat} {t:TD} {et:TypeId} {xs:List t.cd.den} (h:l[b]? =some (.tree t et xs)) (k:FrzTo (l.set b (.fz t.cd xs)) l2):FrzTo l l2
 |close {l l2:List BV} {i i0:Nat} {t:TD} {et:TypeId} {xs:List t.cd.den} {js:List Nat} {x:t.cd.den} (h1:l[i]? =some (.treeX t et xs i0 js)) (h2:t.fill l (xs.getD i0 t.cd.dflt) js=some (x,[])) (h3:js.Nodup) (k:FrzTo (noAll js (l.set i (.tree t et (xs.set i0 x)))) l2):FrzTo l l2
theorem FrzTo.trans{a b c:List BV}(h:FrzTo a b)(k:FrzTo b c):FrzTo a c:=by
 induction h with
 |refl=>exact k
 |step h _ ih=>exact .step h (ih k)
 |frzT h _ ih=>exact .frzT h (ih k)
 |close h1 h2 h3 _ ih=>exact .close h1 h2 h3 (ih k)
theorem VW{t t2:TD}{et2:TypeId}{xs:List t.cd.den}{ys:List t2.cd.den}(h:BV.treeX t et xs i js=mkT t2 et2 ys):False:=by cases t2<;>cases h
theorem EY{l:List BV}{x y z:BV}(e:l[i]? =some x)(h:l[b]? =some y)(hne:x≠y):(l.set b z)[i]? =some x:=by
 rw[aB];split
 ·rename_i e2;subst e2;rw[e]at h;injection h with h;exact absurd h hne
 ·exact e
theorem Kd{l:List BV}{x z:BV}(e:(l.set b z)[i]? =some x)(hne:z≠x):l[i]? =some x:=by
 rw[aB]at e;split at e
 ·split at e
  ·injection e with e;exact absurd e hne
  ·cases e
 ·exact e
theorem VX{t:TD}{xs:List t.cd.den}{x:BV}(h:(∃c xs,x= .fz c xs)\/x= .hole):x≠mkT t et xs:=by rcases h with⟨c,ys,rfl⟩|rfl<;>cases t<;>exact λe=>by cases e
theorem Ke{l:List BV}{i1:Nat}{x z:BV}(h1:l[i]? =some z)(hjs:∀j∈js,∃(a:TD)(et:TypeId)(ys:List a.cd.den),l[j]? =some (mkT a et ys))(e:l[i1]? =some x)(hz:x≠z)(hx:∀(a:TD)(et:TypeId)(ys:List a.cd.den),x≠mkT a et ys):(noAll js (l.set i bv))[i1]? =some x:=by
 rw[BM.1 λhm=>by obtain⟨a,et,ys,h⟩:=hjs i1 hm;rw[e]at h;injection h with h;exact hx _ _ _ h]
 exact EY e h1 hz
theorem Rh{l:List BV}{i1:Nat}{x:BV}(e:(noAll js (l.set i bv))[i1]? =some x)(hz:bv≠x)(hn:BV.no≠x):l[i1]? =some x:=by
 by_cases hm:i1∈js
 ·have hlt:=Am e;rw[DC]at hlt;rw[BM.2 hm hlt]at e;injection e with e;exact absurd e hn
 ·rw[BM.1 hm]at e;exact Kd e hz
theorem Kf{t:TD}{d x:t.cd.den}(h:t.fill bl d js=some (x,[])):∀j∈js,∃(a:TD)(et:TypeId)(ys:List a.cd.den),bl[j]? =some (mkT a et ys):=by obtain⟨u,e,h1⟩:=Ik h;rw[dA]at e;subst e;exact h1
theorem FrzTo.row_back{a b:List BV}(h:FrzTo a b){c:Cd}{xs:List c.den}(e:b[i]? =some (.row c et xs)):a[i]? =some (.row c et xs):=by
 induction h with
 |refl=>exact e
 |step h _ ih=>exact Kd (ih e) (λe=>by cases e)
 |frzT h _ ih=>exact Kd (ih e) (λe=>by cases e)
 |close h1 h2 h3 _ ih=>exact Rh (ih e) (λe=>by cases e) (λe=>by cases e)
theorem FrzTo.fz{a b:List BV}(h:FrzTo a b){i:Nat}{c:Cd}{xs:List c.den}(e:a[i]? =some (.fz c xs)):b[i]? =some (.fz c xs):=by
 induction h with
 |refl=>exact e
 |step h _ ih=>exact ih (EY e h λe=>by cases e)
 |frzT h _ ih=>exact ih (EY e h λe=>by cases e)
 |close h1 h2 h3 _ ih=>exact ih (Ke h1 (Kf h2) e (λe=>by cases e) λ_ _ _=>VX (.inl ⟨_,_,rfl⟩))
theorem FrzTo.hole{a b:List BV}(h:FrzTo a b){i:Nat}(e:a[i]? =some .hole):b[i]? =some .hole:=by
 induction h with
 |refl=>exact e
 |step h _ ih=>exact ih (EY e h λe=>by cases e)
 |frzT h _ ih=>exact ih (EY e h λe=>by cases e)
 |close h1 h2 h3 _ ih=>exact ih (Ke h1 (Kf h2) e (λe=>by cases e) λ_ _ _=>VX (.inr rfl))
theorem EncD.frz{a b:List BV}(h:FrzTo a b):∀(c:Cd){l r:List CV}{x:c.den},EncD a c l x r->EncD b c l x r
 | .i _,_,_,_,e=>e
 | .y,_,_,_,e=>e
 | .b,_,_,_,e=>e
 | .s,_,_,_,e=>e
 | .a c,_,_,_,.inl e=> .inl e
 | .a c,_,_,_,.inr (.inl e)=> .inr (.inl e)
 | .a c,_,_,_,.inr (.inr ⟨i,e1,e2⟩)=> .inr (.inr ⟨i,e1,h.fz e2⟩)
 | .p c d,_,_,_,⟨m,h1,h2⟩=>⟨m,EncD.frz h c h1,EncD.frz h d h2⟩
theorem CL{K:CV->List CV->Tr}(h:Told f (headC l K) bl bl' v):∃x r,l=x::r/\Told f (K x r) bl bl' v:=by
 cases l with
 |nil=>exact h.elim
 |cons x r=>exact⟨x,r,rfl,h⟩
theorem UL{c:Cd}{x:CV}{K:List c.den->Tr}(h:Told f (encA c x K) bl bl' v):∃xs bl1,Told f (K xs) bl1 bl' v/\FrzTo bl bl1/\(x= .ro c xs true\/(x= .k (.slice none 0 0)/\xs=[])\/∃b,x= .own b/\bl1[b]? =some (.fz c xs)):=by
 unfold encA at h;split at h
 ·split at h
  ·rename_i hk _;obtain⟨hk⟩:=hk;subst hk;exact⟨_,bl,h,.refl,.inl rfl⟩
  ·exact h.elim
 ·exact⟨_,bl,h,.refl,.inr (.inl ⟨rfl,rfl⟩)⟩
 ·rename_i b;obtain⟨bv,e,h⟩:=h;dsimp only at h;split at h
  ·split at h
   ·rename_i hk _;obtain⟨hk⟩:=hk;subst hk;obtain⟨bv,fv,e1,e2,h⟩:=h;rw[e]at e1;injection e1 with e1;subst e1;injection e2 with e2;subst e2;refine⟨_,_,h,.step e .refl,.inr (.inr ⟨b,rfl,?_⟩)⟩
    simp[aB,(aJ.1 e).1]
   ·exact h.elim
  ·split at h
   ·rename_i hk _;obtain⟨hk⟩:=hk;subst hk;exact⟨_,bl,h,.refl,.inr (.inr ⟨b,rfl,e⟩)⟩
   ·exact h.elim
  ·exact h.elim
 ·exact h.elim
theorem CM:∀(c:Cd){l:List CV}{K:c.den->List CV->Tr}{bl:List BV},Told f (encC c l K) bl bl' v->∃x r bl1,Told f (K x r) bl1 bl' v/\FrzTo bl bl1/\EncD bl1 c l x r
 | .i k,l,K,bl,h=>by
  obtain⟨x,r,rfl,h2⟩:=CL h;clear h;split at h2
  ·split at h2
   ·rename_i hk _;obtain⟨hk⟩:=hk;subst hk;exact⟨_,_,bl,h2,.refl,rfl⟩
   ·exact h2.elim
  ·exact h2.elim
 | .y,l,K,bl,h=>by
  obtain⟨x,r,rfl,h2⟩:=CL h;clear h;split at h2
  ·split at h2
   ·rename_i hk _;obtain⟨hk⟩:=hk;subst hk;exact⟨_,_,bl,h2,.refl,_,rfl,rfl⟩
   ·exact h2.elim
  ·exact h2.elim
 | .b,l,K,bl,h=>by
  obtain⟨x,r,rfl,h2⟩:=CL h;clear h;split at h2
  ·exact⟨_,_,bl,h2,.refl,rfl⟩
  ·exact h2.elim
 | .s,l,K,bl,h=>by
  obtain⟨x,r,rfl,h2⟩:=CL h;clear h;split at h2
  ·exact⟨_,_,bl,h2,.refl,rfl⟩
  ·exact h2.elim
 | .a c,l,K,bl,h=>by
  obtain⟨x,r,rfl,h2⟩:=CL h;clear h;obtain⟨xs,bl1,h3,h1,h4⟩:=UL h2;clear h2;refine⟨xs,r,bl1,h3,h1,?_⟩
  rcases h4 with rfl|⟨rfl,rfl⟩|⟨b,rfl,h2⟩
  ·exact .inl rfl
  ·exact .inr (.inl ⟨rfl,rfl⟩)
  ·exact .inr (.inr ⟨b,rfl,h2⟩)
 | .p c d,l,K,bl,h=>by unfold encC at h;obtain⟨x,m,bl1,h,h1,h2⟩:=CM c h;obtain⟨y,r,bl2,h,h3,h4⟩:=CM d h;exact⟨_,_,bl2,h,h1.trans h3,m,h2.frz h3,h4⟩
theorem EncD.real(hr:Rl g ρ ⟨sl,bl⟩ own fr):∀(c:Cd){l r:List CV}{x:c.den}{cs:List Value},EncD bl c l x r->AB (RealC g ρ bl) l cs->∃c1 c2,cs=c1++c2/\c.ty.rep g.b c1 x/\AB (RealC g ρ bl) r c2
 | .i k,l,r,x,u::cs,e,h=>by have e:l=_:=e;subst e;exact⟨[u],cs,rfl,⟨by rw[h.1.1],h.1.2⟩,h.2⟩
 | .y,l,r,x,u::cs,e,h=>by obtain⟨z,e,rfl⟩:=e;subst e;obtain⟨⟨rfl,h1⟩,h2⟩:=h;exact⟨[_],cs,rfl,AdY (by simpa[inK,dG,dH,cR,cY]using h1),h2⟩
 | .b,l,r,x,u::cs,e,h=>by have e:l=_:=e;subst e;have h1:u=_:=h.1;exact⟨[u],cs,rfl,by rw[h1];rfl,h.2⟩
 | .s,l,r,x,u::cs,e,h=>by have e:l=_:=e;subst e;exact⟨[u],cs,rfl,⟨by rw[h.1.1],h.1.2⟩,h.2⟩
 | .a c,l,r,x,u::cs,e,h=>by
  rcases e with e|⟨e,e2⟩|⟨b,e,e2⟩
  ·subst e;obtain⟨⟨A,cap,hv,ha⟩,h2⟩:=h;exact⟨[u],cs,rfl,⟨A,cap,by rw[hv],ha⟩,h2⟩
  ·subst e;subst e2;obtain⟨⟨hv,_⟩,h2⟩:=h;exact⟨[u],cs,rfl,⟨none,0,by rw[hv];rfl,Arr.nil⟩,h2⟩
  ·subst e;obtain⟨⟨_,m,hv,hl⟩,h2⟩:=h;obtain⟨k,hk,_,ha⟩:=hr.own_at e2;have:=hl _ _ e2 rfl;subst this;exact⟨[u],cs,rfl,⟨_,_,by rw[hv],ha⟩,h2⟩
 | .p c d,l,r,x,cs,e,h=>by obtain⟨m,h1,h2⟩:=e;obtain⟨c1,c2,rfl,h3,h4⟩:=EncD.real hr c h1 h;obtain⟨c3,c4,rfl,h5,h6⟩:=EncD.real hr d h2 h4;exact⟨c1++c3,c4,by rw[aE],⟨c1,c3,rfl,h3,h5⟩,h6⟩
 | .i _,_,_,_,[],e,h=>by have e:_=_:=e;subst e;exact h.elim
 | .y,_,_,_,[],e,h=>by obtain⟨z,e,_⟩:=e;subst e;exact h.elim
 | .b,_,_,_,[],e,h=>by have e:_=_:=e;subst e;exact h.elim
 | .s,_,_,_,[],e,h=>by have e:_=_:=e;subst e;exact h.elim
 | .a _,_,_,_,[],e,h=>by rcases e with e|⟨e,_⟩|⟨b,e,_⟩<;>subst e<;>exact h.elim
theorem FrzTo.do_{bl2:List BV}(h:FrzTo bl bl2):∀{g:Gh}{own:Own},Rl g ρ ⟨sl,bl⟩ own fr->St w g own->∃g' own',g.le g'/\St w g' own'/\Ext ρ bl ρ bl2/\Rl g' ρ ⟨sl,bl2⟩ own' fr:=by
 induction h with
 |refl=>exact λhr hs=>⟨_,_,.refl _,hs,.refl,hr⟩
 |@step bl bl2 b c et xs hb _ ih=>
  intro g own hr hs;obtain⟨k,hk,hbuf⟩:=hr.own_at hb;have hbuf:Buf g.b c.ty et (.slice (ρ b).1 xs.length (ρ b).2) k xs:=hbuf;have key:∃g',g.le g'/\St w g' (own.set b none)/\Arr g'.b c.ty (ρ b).1 (ρ b).2 xs:=
   Gy (K:=λ_ w'=>∃g',g.le g'/\St w' g' (own.set b none)/\Arr g'.b c.ty (ρ b).1 (ρ b).2 xs) (n:=0) (sl:=[]) b hk hbuf (λg' h1 h2 a w' _ h3=>⟨g',h1,h3,h2⟩) ⟨#[],[]⟩ w ⟨rfl,rfl,λ_ _ h=>by cases h⟩ hs
  obtain⟨g',hg,hs',ha⟩:=key;have hx:Ext ρ bl ρ (bl.set b (.fz c xs)):=Ext.set_at hb rfl λm hm=>hm;obtain⟨g2,own2,h1,h2,h3,h4⟩:=ih (hr.setB hg hb rfl (λm hm=>hm) ⟨rfl,ha⟩) hs';exact⟨g2,own2,hg.trans h1,h2,hx.trans h3,h4⟩
 |@frzT bl bl2 b t et xs hb _ ih=>
  intro g own hr hs;obtain⟨k,hk,hrow⟩:=hr.own_at hb;have hrow:RowB t.isC (TRep g.b t) t.cd.n et (.slice (ρ b).1 xs.length (ρ b).2) k xs:=hrow;obtain⟨g',hg,hs',hpub⟩:=hs.pub (S:=satOf k) (own':=own.set b none) (by have:=Bl none hk;exact this.symm)
  obtain⟨_,ha⟩:=On (T:=t.cd.ty) (q:=g'.b) (λcs d e h hp=>Hh (TRep.mono hg.b h) hp) (Cd.ty_n t.cd) hrow hpub;have hx:Ext ρ bl ρ (bl.set b (.fz t.cd xs)):=Ext.set_at hb rfl λm hm=>hm;obtain⟨g2,own2,h1,h2,h3,h4⟩:=ih (hr.setB hg hb rfl (λm hm=>hm) ⟨rfl,ha⟩) hs';exact⟨g2,own2,hg.trans h1,h2,hx.trans h3,h4⟩
 |@close bl bl2 i i0 t et xs js x h1 h2 h3 _ ih=>
  intro g own hr hs;obtain⟨k,hk,hX⟩:=hr.own_at h1;obtain⟨h0,h00,b,cap,c1,c,c2,sp,e1,e2,q1,q2,q3,q4,q5,q6,q7⟩:=hX;obtain⟨_,⟨e,q8,q9⟩,hjs⟩:=ML hr (rest:=[]) q6 (by rw[dA];exact h2);have hni:i∉js:=λhm=>by obtain⟨a,et2,ys,hb⟩:=hjs i hm;rw[h1]at hb;injection hb with hb;exact VW hb
  have hlen:=hr.len;have hlen:own.length=bl.length:=hlen;have hil:i<own.length:=by rw[hlen];exact Am h1
  have hxl:(xs.set i0 x).length=xs.length:=aG ..;have hrow:RowE (TRep g.b t) (c1++(c++c2)) (xs.set i0 x) (e1++(e++e2)):=by
   have key:∀{us:List t.cd.den}{m:Nat}{c1:List Value}{e1:List (Nat×Obj)},m<us.length->RowE (TRep g.b t) c1 (us.take m) e1->RowE (TRep g.b t) c2 (us.drop (m+1)) e2->RowE (TRep g.b t) (c1++(c++c2)) (us.set m x) (e1++(e++e2)):=by
    intro us;induction us with
    |nil=>exact λh=>by cases h
    |cons u us ih2=>
     intro m c1 e1 hm ha hb;cases m with
     |zero=>
      obtain⟨rfl,rfl⟩:=(ha:c1=[]/\e1=[])
      exact⟨c,c2,e,e2,rfl,rfl,q8,hb⟩
     |succ m=>
      obtain⟨d1,d2,f1,f2,r1,r2,r3,r4⟩:=ha;subst r1;subst r2;exact⟨d1,d2++(c++c2),f1,f2++(e++e2),by rw[aE],by rw[aE],r3,ih2 (by simpa using hm) r4 (by simpa using hb)⟩
   exact key h00 q5 q7
  have hs':St _ g (noOwn js (own.set i (some ⟨b,.tr et (e1++(e++e2)),(c1++(c++c2))++sp⟩))):=hs.regroup (by
   have a1:=Bl (some ⟨b,.tr et (e1++(e++e2)),(c1++(c++c2))++sp⟩) hk;have a2:=Sz (js:=js) (own:=own.set i (some ⟨b,.tr et (e1++(e++e2)),(c1++(c++c2))++sp⟩)) h3 λj hj=>by obtain⟨_,_,_,hb⟩:=hjs j hj;rw[aG,hlen];exact Am hb
   have a3:satsAt (own.set i (some ⟨b,.tr et (e1++(e++e2)),(c1++(c++c2))++sp⟩)) js=satsAt own js:=by
    have:∀l:List Nat,i∉l->satsAt (own.set i (some ⟨b,.tr et (e1++(e++e2)),(c1++(c++c2))++sp⟩)) l=satsAt own l:=by
     intro l;induction l with
     |nil=>exact λ_=>rfl
     |cons y l ihl=>
      intro hy;unfold satsAt at ihl⊢;rw[aX,aX,ihl λe=>hy (aF _ e),aB,if_neg λe=>hy (by rw[e];exact aI ..)]
    exact this js hni
   rw[a3]at a2;have a4:=(a2.append_left (satOf k)).symm.trans a1;have a5:(satOf (some ⟨b,.tr et (e1++(e++e2)),(c1++(c++c2))++sp⟩)).Perm (satOf k++satsAt own js):=by rw[q2];refine List.Perm.cons _ ?_;show(e1++(e++e2)).Perm ((e1++e2)++satsAt own js);rw[aE];refine List.Perm.append_left _ ?_;exact(q9.append_right _).trans List.perm_append_comm
   have a6:=a4.trans (a5.append_right _);rw[<-aE]at a6;exact(cT _).1 a6)
  have hx1:Ext ρ bl ρ (bl.set i (.tree t et (xs.set i0 x))):=Ext.set_at h1 rfl λm hm=>by have hm:some ((xs.set i0 x).length)=some m:=hm;rw[hxl]at hm;exact hm
  have hx:Ext ρ bl ρ (noAll js (bl.set i (.tree t et (xs.set i0 x)))):=by
   refine hx1.trans λb2 bv g1 g2=>⟨rfl,?_⟩
   by_cases hm:b2∈js
   ·exact⟨.no,BM.2 hm (Am g1),rfl,λm h=>by cases h⟩
   ·exact⟨bv,by rw[BM.1 hm];exact g1,g2,λm h=>h⟩
  have hr1:Rl g ρ ⟨sl,noAll js (bl.set i (.tree t et (xs.set i0 x)))⟩ (noOwn js (own.set i (some ⟨b,.tr et (e1++(e++e2)),(c1++(c++c2))++sp⟩))) fr:=by
   refine hr.turn (.refl g) hx (by rw[LY,DC,aG,aG];exact hlen) λi2 bv k2 g1 g2=>?_;by_cases hm:i2∈js
   ·have hl2:=Am g1;rw[DC]at hl2;rw[BM.2 hm hl2]at g1;rw[Ij.2 hm (by rw[aG,hlen];simpa using hl2)]at g2;injection g1 with g1;injection g2 with g2;subst g1;subst g2;rfl
   ·rw[BM.1 hm]at g1;rw[Ij.1 hm]at g2;rcases BF g1 with⟨rfl,rfl,_⟩|⟨g3,g4⟩
    ·rcases BF g2 with⟨_,rfl,_⟩|⟨g5,_⟩
     ·refine⟨by rw[hxl];exact h0,.inr ⟨b,cap,c1++(c++c2),sp,e1++(e++e2),?_,.inl rfl,hrow,q3,q4⟩⟩
      rw[q1,hxl]
     ·exact absurd rfl g5
    ·rcases BF g2 with⟨g5,_⟩|⟨_,g6⟩
     ·exact absurd g5 g3
     ·exact(hr.blk _ _ _ g4 g6).ext (.refl g) hx
  obtain⟨g2,own2,h4,h5,h6,h7⟩:=ih hr1 hs';exact⟨g2,own2,h4,h5,hx.trans h6,h7⟩
theorem EffH.frz{bl1:List BV}(h:FrzTo bl bl1)(k:EffH P n op ty sl bl1 bl' v):EffH P n op ty sl bl bl' v:=by intro o a w Q K g ρ own fr h1 h2 hr hf hs hk;obtain⟨g1,own1,hg,hs1,hx,hr1⟩:=h.do_ hr hs;exact k o a w Q K g1 ρ own1 fr h1 h2 hr1 hf hs1 λv g' ρ' own' w' e1 e2 e3 e4 e5=>hk v g' ρ' own' w' (hg.trans e1) (hx.trans e2) e3 e4 e5
end
end Go.Proofs.YtpglaekodahcoaaGreatDoor
