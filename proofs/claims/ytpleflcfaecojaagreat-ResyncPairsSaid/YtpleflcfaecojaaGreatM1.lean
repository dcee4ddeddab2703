/-
The engine, part 1: what a world holds (a ghost), the blocks of one's own, the frame as a short list of slots, and the rules of code. Conditions: none.
-/
import Derived.WalkKit
import Derived.Orders
import Derived.Deep.LoopGhost
import Derived.Maps.AppendAt
import Derived.Laws.BytesArg
import Derived.OrdersHeld
namespace Go.Proofs.YtpleflcfaecojaaGreat
set_option linter.unusedVariables false
set_option linter.unusedSimpArgs false
open Go.RowKit
abbrev Bt:=List UInt8
abbrev I3:=Int×Int×Int
abbrev I2:=Int×Int
abbrev I4:=Int×Bool×Bt
abbrev B2:=Bool×Bool
structure Psi where
 m:Nat→Option Obj
 os:Os
 tape:Nat→Question→Nat
 out:Array (Nat×ByteArray)
structure Psi.le (p q:Psi):Prop where
 os:q.os=p.os
 tape:q.tape=p.tape
 out:q.out=p.out
 m:∀ b o,p.m b=some o→q.m b=some o
structure Psi.In (p:Psi) (w:World):Prop where
 os:w.os=p.os
 tape:w.tape=p.tape
 out:w.output=p.out
 m:∀ b o,p.m b=some o→w.heap[b]? = some o
theorem Psi.le.refl (p:Psi):p.le p:=⟨rfl,rfl,rfl,fun _ _ h=>h⟩
theorem Psi.le.trans {p q r:Psi} (h:p.le q) (k:q.le r):p.le r:=⟨k.os.trans h.os,k.tape.trans h.tape,k.out.trans h.out,fun b o e=>k.m b o (h.m b o e)⟩
theorem Psi.In.mono {p q:Psi} {w:World} (h:q.In w) (k:p.le q):p.In w:=⟨h.os.trans k.os,h.tape.trans k.tape,h.out.trans k.out,fun b o e=>h.m b o (k.m b o e)⟩
structure Gh where
 r:Psi
 b:Psi
 br:b.le r
structure Gh.le (g h:Gh):Prop where
 r:g.r.le h.r
 b:g.b.le h.b
 apart:∀ k,h.b.m k≠none→g.b.m k≠none∨g.r.m k=none
theorem Gh.le.refl (g:Gh):g.le g:=⟨.refl _,.refl _,fun _ h=> .inl h⟩
theorem Psi.le.none_ {p q:Psi} (h:p.le q) {k:Nat} (hk:q.m k=none):p.m k=none:=by
 cases e:p.m k with
 | none=>rfl
 | some o=>rw [h.m k o e] at hk;cases hk
theorem Gh.le.trans {f g h:Gh} (p:f.le g) (q:g.le h):f.le h :=
 ⟨p.r.trans q.r,p.b.trans q.b,fun k hk=>(q.apart k hk).elim (fun h1=>p.apart k h1) fun h1=> .inr (p.r.none_ h1)⟩
inductive BkT where
 | ty (t:TypeId)
 | mp (es:Array MapEntry) (clock:Nat)
instance instOfNatBkT (n:Nat):OfNat BkT n:=⟨.ty n⟩
instance instCoeBkT:Coe Nat BkT:=⟨.ty⟩
structure Bk where
 g:Nat
 t:BkT
 cs:List Value
def Bk.obj (k:Bk):Obj:=match k.t,k.cs with
 | .ty t,cs=> .cells cs.toArray t (0,0)
 | .mp es n,[]=> .map es n
 | .mp _ _,v::l=> .cells (v::l).toArray 0 (0,0)
theorem Bk.obj_ty (g:Nat) (t:TypeId) (cs:List Value):(Bk.mk g (.ty t) cs).obj = .cells cs.toArray t (0,0):=rfl
abbrev Own:=List (Option Bk)
def Own.ids (o:Own):List Nat:=o.filterMap (·.map (·.g))
theorem Own.mem_ids {o:Own} {k:Bk} (h:some k∈o):k.g∈o.ids:=List.mem_filterMap.2 ⟨_,h,rfl⟩
theorem Own.of_ids {o:Own} {i:Nat} (h:i∈o.ids):∃ k,some k∈o∧k.g=i:=by
 obtain ⟨a,ha,e⟩:=List.mem_filterMap.1 h
 cases a with
 | none=>cases e
 | some k=>exact ⟨k,ha,by simpa using e⟩
def Has (w:World) (own:Own):Prop:=∀ k,some k∈own→w.heap[k.g]? = some k.obj
structure St (w:World) (g:Gh) (own:Own):Prop where
 r:g.r.In w
 nodup:own.ids.Nodup
 has:Has w own
 free:∀ k,some k∈own→g.r.m k.g=none
theorem Psi.In.lt {p:Psi} {w:World} (h:p.In w) {b:Nat} (hb:w.heap.size≤b):p.m b=none:=by
 cases e:p.m b with
 | none=>rfl
 | some o =>
  have:=h.m b o e
  rw [Array.getElem?_eq_none hb] at this
  cases this
theorem Has.lt {w:World} {own:Own} (h:Has w own) {k:Bk} (hk:some k∈own):k.g < w.heap.size:=by
 rcases Nat.lt_or_ge k.g w.heap.size with h1 | h1
 ·exact h1
 ·have:=h k hk
  rw [Array.getElem?_eq_none h1] at this
  cases this
theorem Has.cell {w:World} {own:Own} (h:Has w own) {k:Bk} (hk:some k∈own) (off:Nat):w.cell? ⟨k.g,off,none⟩=k.cs[off]?:=by
 obtain ⟨g,t,cs⟩:=k
 have:=h _ hk
 cases t with
 | ty t=>simp [World.cell?,this,Bk.obj]
 | mp es n=>cases cs <;> simp [World.cell?,this,Bk.obj]
theorem Has.frozen {w:World} {own:Own} (h:Has w own) {k:Bk} (hk:some k∈own) (off:Nat):w.frozen? ⟨k.g,off,none⟩=false:=by
 obtain ⟨g,t,cs⟩:=k
 have:=h _ hk
 cases t with
 | ty t=>simp [World.frozen?,this,Bk.obj]
 | mp es n=>cases cs <;> simp [World.frozen?,this,Bk.obj]
theorem St.drew {w:World} {g:Gh} {own:Own} (h:St w g own):St w.drew g own:=⟨⟨h.r.os,h.r.tape,h.r.out,h.r.m⟩,h.nodup,h.has,h.free⟩
theorem St.alloc {w:World} {g:Gh} {own:Own} (h:St w g own) (t:TypeId) (cs:List Value):St (w.alloc (.cells cs.toArray t)) g (some ⟨w.heap.size,t,cs⟩::own):=by
 refine ⟨⟨h.r.os,h.r.tape,h.r.out,fun b o e=>?_⟩,?_,?_,?_⟩
 ·have h1:=h.r.m b o e
  have hlt:b < w.heap.size:=by
   rcases Nat.lt_or_ge b w.heap.size with h2 | h2
   ·exact h2
   ·rw [Array.getElem?_eq_none h2] at h1;cases h1
  rw [Below.heap_alloc _ _ _ hlt];exact h1
 ·simp only [Own.ids,List.filterMap_cons,Option.map_some,List.nodup_cons]
  refine ⟨fun hm=>?_,h.nodup⟩
  obtain ⟨k,hk,e⟩:=Own.of_ids hm
  have:=h.has.lt hk
  omega
 ·intro k hk
  rcases List.mem_cons.1 hk with e | hk
  ·injection e with e;subst e
   show (w.heap.push _)[w.heap.size]? = _
   simp [Bk.obj]
  ·rw [Below.heap_alloc _ _ _ (h.has.lt hk)];exact h.has k hk
 ·intro k hk
  rcases List.mem_cons.1 hk with e | hk
  ·injection e with e;subst e
   exact h.r.lt (Nat.le_refl _)
  ·exact h.free k hk
theorem Own.get_mem {own:Own} {i:Nat} {k:Bk} (h:own[i]? = some (some k)):some k∈own:=List.mem_of_getElem? h
theorem Own.ids_cons (x:Option Bk) (l:Own):Own.ids (x::l)=(match x with | some k=>[k.g] | none=>[])++Own.ids l:=by
 cases x <;> simp [Own.ids,List.filterMap_cons]
theorem Own.set_ids {own:Own} {i:Nat} {k k':Bk} (h:own[i]? = some (some k)) (hg:k'.g=k.g):Own.ids (own.set i (some k'))=own.ids:=by
 induction own generalizing i with
 | nil=>simp at h
 | cons x l ih =>
  cases i with
  | zero=>simp at h;subst h;simp [Own.ids_cons,hg]
  | succ i=>simp at h;simp [Own.ids_cons,ih h]
theorem Own.other {own:Own} {i:Nat} {k k':Bk} (hn:own.ids.Nodup) (h:own[i]? = some (some k)) {v:Option Bk} (hk:some k'∈own.set i v):(v=some k')∨(some k'∈own∧k'.g≠k.g):=by
 induction own generalizing i with
 | nil=>simp at h
 | cons x l ih =>
  cases i with
  | zero =>
   simp at h;subst h
   simp only [List.set_cons_zero] at hk
   rcases List.mem_cons.1 hk with e | e
   ·exact .inl e.symm
   ·refine .inr ⟨List.mem_cons_of_mem _ e,fun eq=>?_⟩
    rw [Own.ids_cons] at hn
    simp at hn
    exact hn.1 (eq ▸ Own.mem_ids e)
  | succ i =>
   simp at h
   simp only [List.set_cons_succ] at hk
   rw [Own.ids_cons] at hn
   rcases List.mem_cons.1 hk with e | e
   ·refine .inr ⟨e ▸ List.mem_cons_self ..,fun eq=>?_⟩
    subst e
    simp at hn
    exact hn.1 (eq ▸ Own.mem_ids (List.mem_of_getElem? h))
   ·have hn':(Own.ids l).Nodup:=(List.nodup_append.1 hn).2.1
    rcases ih hn' h e with e | ⟨e,e2⟩
    ·exact .inl e
    ·exact .inr ⟨List.mem_cons_of_mem _ e,e2⟩
theorem St.put {w w':World} {g:Gh} {own:Own} (h:St w g own) {i:Nat} {k k':Bk} (hi:own[i]? = some (some k)) (hg:k'.g=k.g)
  (hos:w'.os=w.os) (htape:w'.tape=w.tape) (hout:w'.output=w.output) (hb:∀ b,b≠k.g→w'.heap[b]? = w.heap[b]?) (hk:w'.heap[k.g]? = some k'.obj) :
  St w' g (own.set i (some k')):=by
 have hm:=Own.get_mem hi
 have hf:=h.free k hm
 refine ⟨⟨hos.trans h.r.os,htape.trans h.r.tape,hout.trans h.r.out,fun b o e=>?_⟩,by rw [Own.set_ids hi hg];exact h.nodup,?_,?_⟩
 ·rw [hb b (fun eq=>by rw [eq,hf] at e;cases e)]
  exact h.r.m b o e
 ·intro j hj
  rcases Own.other h.nodup hi hj with e | ⟨e,e2⟩
  ·injection e with e;subst e
   rw [hg];exact hk
  ·rw [hb _ e2];exact h.has j e
 ·intro j hj
  rcases Own.other h.nodup hi hj with e | ⟨e,e2⟩
  ·injection e with e;subst e
   rw [hg];exact hf
  ·exact h.free j e
theorem St.store {w:World} {g:Gh} {own:Own} (h:St w g own) {i:Nat} {k:Bk} (hi:own[i]? = some (some k)) (off:Nat) (v:Value) :
  St (w.setCell ⟨k.g,off,none⟩ v) g (own.set i (some ⟨k.g,k.t,k.cs.set off v⟩)):=by
 refine h.put hi rfl rfl rfl rfl (fun b hb=>Below.heap_setCell _ _ _ _ hb) ?_
 have:=h.has k (Own.get_mem hi)
 show (w.heap.modify k.g _)[k.g]? = _
 obtain ⟨g,t,cs⟩:=k
 cases t with
 | ty t=>simp [Array.getElem?_modify,this,Bk.obj]
 | mp es n=>cases cs <;> cases off <;> simp [Array.getElem?_modify,this,Bk.obj]
def Psi.add (p:Psi) (k:Bk):Psi:={ p with m:=fun b=>if b=k.g then some k.obj else p.m b }
theorem Psi.le_add {p:Psi} {k:Bk} (h:p.m k.g=none):p.le (p.add k):=⟨rfl,rfl,rfl,fun b o e=>by
 show (if b=k.g then _ else _)=_
 rw [if_neg (fun eq=>by rw [eq,h] at e;cases e)];exact e⟩
def Gh.add (g:Gh) (k:Bk):Gh:=⟨g.r.add k,g.b.add k,⟨g.br.os,g.br.tape,g.br.out,fun b o e=>by
 by_cases eq:b=k.g
 ·have h1:(g.b.add k).m b=some k.obj:=if_pos eq
  have h2:(g.r.add k).m b=some k.obj:=if_pos eq
  rw [h2,← e,h1]
 ·have h1:(g.b.add k).m b=g.b.m b:=if_neg eq
  have h2:(g.r.add k).m b=g.r.m b:=if_neg eq
  rw [h1] at e
  rw [h2];exact g.br.m b o e⟩⟩
theorem St.publish {w:World} {g:Gh} {own:Own} (h:St w g own) {i:Nat} {k:Bk} (hi:own[i]? = some (some k)):g.le (g.add k)∧St w (g.add k) (own.set i none):=by
 have hm:=Own.get_mem hi
 have hf:=h.free k hm
 have hfb:=g.br.none_ hf
 refine ⟨⟨Psi.le_add hf,Psi.le_add hfb,fun b hb=>?_⟩,⟨⟨h.r.os,h.r.tape,h.r.out,fun b o e=>?_⟩,?_,?_,?_⟩⟩
 ·by_cases e:b=k.g
  ·subst e;exact .inr hf
  ·refine .inl ?_
   have:(g.add k).b.m b=g.b.m b:=if_neg e
   rwa [this] at hb
 ·by_cases eq:b=k.g
  ·subst eq
   have h1:(g.add k).r.m k.g=some k.obj:=if_pos rfl
   rw [h1] at e
   rw [← e];exact h.has k hm
  ·have h1:(g.add k).r.m b=g.r.m b:=if_neg eq
   rw [h1] at e
   exact h.r.m b o e
 ·have hs:List.Sublist (Own.ids (own.set i none)) own.ids:=by
   clear hm hf hfb
   have hi':=hi
   clear hi h
   induction own generalizing i with
   | nil=>simp at hi'
   | cons x l ih =>
    cases i with
    | zero=>simp [Own.ids_cons]
    | succ i=>simp at hi';simp only [List.set_cons_succ,Own.ids_cons];exact (List.append_sublist_append_left _).2 (ih hi')
  exact h.nodup.sublist hs
 ·intro j hj
  rcases Own.other h.nodup hi hj with e | ⟨e,e2⟩
  ·cases e
  ·exact h.has j e
 ·intro j hj
  rcases Own.other h.nodup hi hj with e | ⟨e,e2⟩
  ·cases e
  ·show (if j.g=k.g then _ else _)=_
   rw [if_neg e2];exact h.free j e
theorem St.fewer {w:World} {g:Gh} {own own':Own} (h:St w g own) (hn:own'.ids.Nodup) (hs:∀ k,some k∈own'→some k∈own):St w g own' :=
 ⟨h.r,hn,fun k hk=>h.has k (hs k hk),fun k hk=>h.free k (hs k hk)⟩
abbrev Sl:=List (Nat×Value)
def getS:Sl→Nat→Option Value
 | [],_=>none
 | (k,v)::l,t=>cond (Nat.beq k t) (some v) (getS l t)
structure Fr (n:Nat) (a:Act) (sl:Sl):Prop where
 size:a.tmps.size=n
 defers:a.defers=[]
 at_:∀ t v,getS sl t=some v→a.tmps[t]? = some v
theorem Fr.put {n:Nat} {a:Act} {sl:Sl} (h:Fr n a sl) {d:Nat} (hd:d < n) (v:Value):Fr n (a.put (some d) v) ((d,v)::sl):=by
 refine ⟨by simp [Act.put,h.size],h.defers,fun t u hu=>?_⟩
 simp only [getS] at hu
 simp only [Act.put]
 cases hb:Nat.beq d t with
 | true =>
  rw [hb] at hu
  have e:=Nat.eq_of_beq_eq_true hb
  subst e
  have hu:v=u:=by simpa using hu
  subst hu
  simp [h.size,hd]
 | false =>
  rw [hb] at hu
  have hne:d≠t:=fun e=>by subst e;simp at hb
  rw [Array.getElem?_setIfInBounds_ne hne]
  exact h.at_ t u (by simpa using hu)
def evS (sl:Sl):Operand→Option Value
 | .tmp t=>getS sl t
 | .const v=>some v
 | .global g=>some (.pointer (some ⟨g,0,none⟩))
 | .func f=>some (.func (.func f) #[] #[])
theorem Fr.ev {n:Nat} {a:Act} {sl:Sl} (h:Fr n a sl) {x:Operand} {v:Value} (hx:evS sl x=some v):a.eval x=v:=by
 cases x with
 | tmp t=>simp only [evS] at hx;simp [Act.eval,Array.getD_eq_getD_getElem?,h.at_ t v hx]
 | const c=>simpa [evS,Act.eval] using hx
 | global c=>simpa [evS,Act.eval] using hx
 | func c=>simpa [evS,Act.eval] using hx
theorem Fr.evs {n:Nat} {a:Act} {sl:Sl} (h:Fr n a sl):∀ {xs:List Operand} {vs:List Value},xs.map (evS sl)=vs.map some→xs.map a.eval=vs
 | [],[],_=>rfl
 | x::xs,v::vs,e=>by
  simp only [List.map_cons,List.cons.injEq] at e
  rw [List.map_cons,h.ev e.1,h.evs e.2]
 | [],_::_,e=>by simp at e
 | _::_,[],e=>by simp at e
theorem Fr.sub {n:Nat} {a:Act} {sl sl':Sl} (h:Fr n a sl) (hs:sl'.map (fun p=>getS sl p.1)=sl'.map (fun p=>some p.2)):Fr n a sl':=by
 refine ⟨h.size,h.defers,fun t v hv=>?_⟩
 have:∀ l:Sl,l.map (fun p=>getS sl p.1)=l.map (fun p=>some p.2)→∀ t v,getS l t=some v→getS sl t=some v:=by
  intro l
  induction l with
  | nil=>intro _ t v h;cases h
  | cons p l ih =>
   intro e t v h
   simp only [List.map_cons,List.cons.injEq] at e
   obtain ⟨k,u⟩:=p
   simp only [getS] at h
   cases hb:Nat.beq k t with
   | true =>
    rw [hb] at h
    have e':=Nat.eq_of_beq_eq_true hb
    subst e'
    have:u=v:=by simpa using h
    subst this
    exact e.1
   | false=>rw [hb] at h;exact ih e.2 t v (by simpa using h)
 exact h.at_ t v (this sl' hs t v hv)
def sub:Code→List Nat→Code
 | c,[]=>c
 | .seq a _,0::p=>sub a p
 | .seq _ b,_::p=>sub b p
 | .cond _ a _,0::p=>sub a p
 | .cond _ _ b,_::p=>sub b p
 | .block _ c,_::p=>sub c p
 | .loop c,_::p=>sub c p
 | .scope c,_::p=>sub c p
 | _,_=> .skip
def opAt (ops:Array Oper) (i:Nat):Option (Option Tmp×Op×TypeId×Option (Nat×Bool)):=ops[i]?.map fun o=>(o.dst,o.op,o.type,o.guard)
structure Runs (ops:Array Oper) (i:Nat) (sl:Sl) (dst:Option Tmp) (op:Op) (ty:TypeId):Prop where
 out:∃ o,ops[i]? = some o∧o.dst=dst∧o.op=op∧o.type=ty∧∀ n a,Fr n a sl→Region.wanted o (yielded ops a.tmps)=true
theorem Vp {ops:Array Oper} {i:Nat} {x:Option Tmp×Op×TypeId×Option (Nat×Bool)} (h:opAt ops i=some x):∃ o,ops[i]? = some o∧o.dst=x.1∧o.op=x.2.1∧o.type=x.2.2.1∧o.guard=x.2.2.2:=by
 unfold opAt at h
 cases e:ops[i]? with
 | none=>rw [e] at h;cases h
 | some o=>rw [e] at h;simp at h;subst h;exact ⟨o,rfl,rfl,rfl,rfl,rfl⟩
theorem Runs.plain {ops:Array Oper} {i:Nat} {sl:Sl} {dst:Option Tmp} {op:Op} {ty:TypeId} (h:opAt ops i=some (dst,op,ty,none)):Runs ops i sl dst op ty:=by
 obtain ⟨o,h1,h2,h3,h4,h5⟩:=Vp h
 exact ⟨o,h1,h2,h3,h4,fun n a _=>by simp only at h5;simp [Region.wanted,h5]⟩
def dstAt (ops:Array Oper) (j:Nat):Option Tmp:=(ops[j]?).bind (·.dst)
theorem RW {ops:Array Oper} {n:Nat} {a:Act} {sl:Sl} (h:Fr n a sl) {j t:Nat} {b:Bool} (hj:dstAt ops j=some t) (hb:getS sl t=some (.bool b)):yielded ops a.tmps j=some b:=by
 have h1:=h.at_ t _ hb
 unfold dstAt at hj
 cases e:ops[j]? with
 | none=>rw [e] at hj;cases hj
 | some o =>
  rw [e] at hj
  have hj:o.dst=some t:=hj
  simp [yielded,e,hj,h1]
structure Skips (ops:Array Oper) (i:Nat) (sl:Sl) (dst:Option Tmp):Prop where
 out:∃ o,ops[i]? = some o∧o.dst=dst∧∀ n a,Fr n a sl→Region.wanted o (yielded ops a.tmps)=false
section
variable {P:Program} {ops:Array Oper} {Q:Exit→Act→World→Prop} {n:Nat}
def WPq (K:Act→World→Prop) (n:Nat) (g:Gh) (own:Own) (sl:Sl):Prop:=∀ a w,Fr n a sl→St w g own→K a w
abbrev WPr (P:Program) (ops:Array Oper) (Q:Exit→Act→World→Prop) (n i:Nat) (g:Gh) (own:Own) (sl:Sl):Prop:=WPq (wpOps P ops Q (List.range' i (ops.size - i))) n g own sl
abbrev WPc (P:Program) (c:Code) (Q:Exit→Act→World→Prop) (n:Nat) (g:Gh) (own:Own) (sl:Sl):Prop:=WPq (Code.wp P c Q) n g own sl
theorem IZ {i:Nat} {o:Oper} (h:ops[i]? = some o):List.range' i (ops.size - i)=i::List.range' (i+1) (ops.size - (i+1)):=by
 have hlt:i < ops.size:=(Array.getElem?_eq_some_iff.1 h).1
 rw [show ops.size - i=(ops.size - (i+1))+1 by omega,List.range'_succ]
structure Rdw (w:World) (p:Psi) (own:Own):Prop where
 r:p.In w
 has:Has w own
theorem St.rdw {w:World} {g:Gh} {own:Own} (h:St w g own):Rdw w g.r own:=⟨h.r,h.has⟩
def Yld (P:Program) (n:Nat) (p:Psi) (own:Own) (sl:Sl) (op:Op) (ty:TypeId) (v:Value):Prop :=
 ∀ (o:Oper) a w,o.op=op→o.type=ty→Fr n a sl→Rdw w p own→(execOp a.eval o).run P w = .ok (.value v) w
def Eff (P:Program) (n:Nat) (g:Gh) (own:Own) (sl:Sl) (op:Op) (ty:TypeId) (R:Value→Gh→Own→Prop):Prop :=
 ∀ (o:Oper) a w (Q:Exit→Act→World→Prop) (K:Act→World→Prop),o.op=op→o.type=ty→Fr n a sl→St w g own →
  (∀ v g' own' w',g.le g'→St w' g' own'→R v g' own'→K (a.put o.dst v) w')→Oper.wp P o a w K Q
theorem Xp {K:Act→World→Prop} {g:Gh} {own:Own} {sl:Sl} (t:Nat) {v:Value} (v':Value) (ht:getS sl t=some v) (e:v=v') (k:WPq K n g own ((t,v')::sl)):WPq K n g own sl:=by
 subst e
 refine fun a w hf hs=>k a w ⟨hf.size,hf.defers,fun s u hu=>?_⟩ hs
 simp only [getS] at hu
 cases hb:Nat.beq t s with
 | true =>
  rw [hb] at hu
  have e:=Nat.eq_of_beq_eq_true hb
  subst e
  exact hf.at_ _ _ (by rw [ht];simpa using hu)
 | false=>rw [hb] at hu;exact hf.at_ _ _ (by simpa using hu)
theorem Vq {K:Act→World→Prop} {g:Gh} {own:Own} {sl:Sl} (t:Nat) {b:Bool} (ht:getS sl t=some (.bool b)) (h1:b=true→WPq K n g own ((t,.bool true)::sl)) (h0:b=false→WPq K n g own ((t,.bool false)::sl)):WPq K n g own sl:=by
 cases hb:b with
 | true=>exact Xp t (.bool true) (by rw [ht,hb]) rfl (h1 hb)
 | false=>exact Xp t (.bool false) (by rw [ht,hb]) rfl (h0 hb)
theorem RX {c:Code} {id:Nat} {g:Gh} {own:Own} {sl:Sl} (h:c = .region id ops false) (k:WPr P ops Q n 0 g own sl):WPc P c Q n g own sl:=by
 subst h
 intro a w hf hs
 refine wp_region ?_
 have:=k a w hf hs
 rwa [Nat.sub_zero,← List.range_eq_range'] at this
theorem AeY {c x y:Code} {g:Gh} {own:Own} {sl:Sl} (h:c = .seq x y) (k:WPc P x (Exit.then (fun a w=>y.wp P Q a w) Q) n g own sl):WPc P c Q n g own sl:=by
 subst h
 exact fun a w hf hs=>wp_seq (k a w hf hs)
theorem Xq {c:Code} {g:Gh} {own:Own} {sl:Sl} (h:c = .skip) (k:WPq (Q .normal) n g own sl):WPc P c Q n g own sl:=by
 subst h
 exact fun a w hf hs=>wp_skip (k a w hf hs)
theorem Xr {c:Code} {id:Nat} {g:Gh} {own:Own} {sl:Sl} (h:c = .exit id) (k:WPq (Q (.exit id)) n g own sl):WPc P c Q n g own sl:=by
 subst h
 exact fun a w hf hs=>wp_exit (k a w hf hs)
theorem Vr {c x:Code} {id:Nat} {g:Gh} {own:Own} {sl:Sl} (h:c = .block id x) (k:WPc P x (Exit.inBlock id Q) n g own sl):WPc P c Q n g own sl:=by
 subst h
 exact fun a w hf hs=>wp_block (k a w hf hs)
theorem Ei {c x y:Code} {o:Operand} {b:Bool} {g:Gh} {own:Own} {sl:Sl} (h:c = .cond o x y) (hb:evS sl o=some (.bool b)) (k1:b=true→WPc P x Q n g own sl) (k0:b=false→WPc P y Q n g own sl):WPc P c Q n g own sl:=by
 subst h
 exact fun a w hf hs=>wp_cond_split (hf.ev hb) (fun e=>k1 e a w hf hs) (fun e=>k0 e a w hf hs)
theorem RY {id:Nat} {g:Gh} {own:Own} {sl:Sl} (k:WPq (Q .normal) n g own sl):WPq (Exit.inBlock id Q (.exit id)) n g own sl:=by
 intro a w hf hs
 show if id=id then _ else _
 rw [if_pos rfl];exact k a w hf hs
theorem RZ {id id':Nat} {g:Gh} {own:Own} {sl:Sl} (hne:Nat.beq id' id=false) (k:WPq (Q (.exit id')) n g own sl):WPq (Exit.inBlock id Q (.exit id')) n g own sl:=by
 intro a w hf hs
 have:id'≠id:=fun e=>by subst e;simp at hne
 show if id'=id then _ else _
 rw [if_neg this];exact k a w hf hs
theorem Xs {c x:Code} {g:Gh} {own:Own} {sl:Sl} (h:c = .loop x) (I:Gh→Own→Sl→Nat→Prop) (m0:Nat) (h0:I g own sl m0)
  (round:∀ g1 own1 sl1 m,g.le g1→I g1 own1 sl1 m→∀ Qr:Act→World→Prop,(∀ g2 own2 sl2 m',g1.le g2→m' < m→I g2 own2 sl2 m'→WPq Qr n g2 own2 sl2)→WPc P x (Exit.then Qr Q) n g1 own1 sl1):WPc P c Q n g own sl:=by
 subst h
 intro a w hf hs
 refine wp_loop_ghost (fun m a w=>∃ g2 own2 sl2,g.le g2∧I g2 own2 sl2 m∧Fr n a sl2∧St w g2 own2) m0 ⟨g,own,sl,.refl g,h0,hf,hs⟩ ?_
 rintro m a w ⟨g1,own1,sl1,hle,hI,hf,hs⟩
 exact round g1 own1 sl1 m hle hI _ (fun g2 own2 sl2 m' hle' hlt hI' a w hf hs=>⟨m',hlt,g2,own2,sl2,hle.trans hle',hI',hf,hs⟩) a w hf hs
end
def rhoS (sl:Sl) (x:Operand):Value:=(evS sl x).getD undef
def bareO (op:Op) (ty:TypeId):Oper:=⟨none,op,ty, "", #[],none⟩
def notSel:Op→Bool
 | .select ..=>false
 | _=>true
def defd (sl:Sl) (op:Op):Bool:=notSel op&&op.operands.toList.all fun x=>(evS sl x).isSome
section
variable {P:Program} {n:Nat} {p:Psi} {own:Own} {sl:Sl} {ty:TypeId}
theorem Vs (o:Oper) {op:Op} (h1:o.op=op) (h2:o.type=ty) (ρ:Operand→Value):execOp ρ o=execOp ρ (bareO op ty):=by subst h1;subst h2;rfl
theorem Vt {op:Op} (h:notSel op=true) (cs:Array SelectCase) (b:Bool):op ≠ .select cs b:=by
 intro e
 subst e
 cases h
theorem Xt {op:Op} {a:Act} (hd:defd sl op=true) (hf:Fr n a sl):execOp a.eval (bareO op ty)=execOp (rhoS sl) (bareO op ty):=by
 simp only [defd,Bool.and_eq_true,List.all_eq_true] at hd
 refine execOp_congr _ (Vt hd.1) fun x hx=>?_
 have:=hd.2 x (by simpa [bareO] using hx)
 obtain ⟨v,hv⟩:=Option.isSome_iff_exists.1 this
 rw [hf.ev hv]
 simp [rhoS,hv]
theorem Sa {op:Op} {v:Value} (hd:defd sl op=true) (h:∀ w,Rdw w p own→(execOp (rhoS sl) (bareO op ty)).run P w = .ok (.value v) w):Yld P n p own sl op ty v:=by
 intro o a w h1 h2 hf hr
 rw [Vs o h1 h2,Xt hd hf]
 exact h w hr
theorem Ej {op:BinOp} {t u:TypeId} {x y:Operand} {vx vy:Value} (hx:evS sl x=some vx) (hy:evS sl y=some vy):defd sl (.binOp op t x y u)=true:=by
 simp [defd,notSel,Op.operands,hx,hy]
def inK (k:IntKind) (z:Int):Prop:=k.min≤z∧z≤k.max
theorem AlD {k:IntKind} {t u:TypeId} {x y:Operand} {a b c:Int} (hx:evS sl x=some (.int k a)) (hy:evS sl y=some (.int k b)) (h0:b≠0) (h:k.wrap (a.tdiv b)=c) :
  Yld P n p own sl (.binOp .quo t x y u) ty (.int k c):=by
 refine Sa (Ej hx hy) fun w _=>?_
 simp [execOp,bareO,rhoS,hx,hy,eqGuard,binOp,Op.intDiv,h0,h]
theorem AlE {k:IntKind} {t u:TypeId} {x y:Operand} {a b c:Int} (hx:evS sl x=some (.int k a)) (hy:evS sl y=some (.int k b)) (h0:b≠0) (h:a.tmod b=c) :
  Yld P n p own sl (.binOp .rem t x y u) ty (.int k c):=by
 refine Sa (Ej hx hy) fun w _=>?_
 simp [execOp,bareO,rhoS,hx,hy,eqGuard,binOp,Op.intDiv,h0,h]
theorem AlF {k k2:IntKind} {t u:TypeId} {x y:Operand} {a b c:Int} (hx:evS sl x=some (.int k a)) (hy:evS sl y=some (.int k2 b)) (h0:0≤b) (h:k.wrap (a*2 ^ (min b.toNat k.bits))=c) :
  Yld P n p own sl (.binOp .shl t x y u) ty (.int k c):=by
 refine Sa (Ej hx hy) fun w _=>?_
 have h1:¬ b < 0:=by omega
 simp [execOp,bareO,rhoS,hx,hy,eqGuard,binOp,Op.shift,h1,← h]
theorem AlG {k k2:IntKind} {t u:TypeId} {x y:Operand} {a b c:Int} (hx:evS sl x=some (.int k a)) (hy:evS sl y=some (.int k2 b)) (h0:0≤b) (h:a.fdiv (2 ^ (min b.toNat k.bits))=c) :
  Yld P n p own sl (.binOp .shr t x y u) ty (.int k c):=by
 refine Sa (Ej hx hy) fun w _=>?_
 have h1:¬ b < 0:=by omega
 simp [execOp,bareO,rhoS,hx,hy,eqGuard,binOp,Op.shift,h1,← h]
theorem AiO {src dst:TypeId} {k k2:IntKind} {x:Operand} {a c:Int} (hx:evS sl x=some (.int k a)) (h1:(P.underlying src).isSome=true) (h2:P.underlying dst=some (.int k2)) (h:k2.wrap a=c) :
  Yld P n p own sl (.convert src dst x) ty (.int k2 c):=by
 refine Sa (by simp [defd,notSel,Op.operands,hx]) fun w _=>?_
 obtain ⟨d,hd⟩:=Option.isSome_iff_exists.1 h1
 simp [execOp,bareO,rhoS,hx,convert,run_underlying hd,run_underlying h2,Conv.intToInt,h]
theorem AeZ {c x y:Operand} {v:Value} (hc:evS sl c=some (.bool true)) (hx:evS sl x=some v) :
  Yld P n p own sl (.pick c x y) ty v:=by
 intro o a w h1 h2 hf hr
 simp [execOp,h1,hf.ev hc,hf.ev hx,asBool]
theorem Afa {c x y:Operand} {v:Value} (hc:evS sl c=some (.bool false)) (hy:evS sl y=some v) :
  Yld P n p own sl (.pick c x y) ty v:=by
 intro o a w h1 h2 hf hr
 simp [execOp,h1,hf.ev hc,hf.ev hy,asBool]
theorem AiP {x:Operand} {v:Value} (hx:evS sl x=some v):Yld P n p own sl (.move x) ty v:=by
 intro o a w h1 h2 hf hr
 simp [execOp,h1,hf.ev hx]
theorem Xu {x:Operand} {v:Value} (hx:evS sl x=some v):Yld P n p own sl (.assign x) ty v:=by
 intro o a w h1 h2 hf hr
 simp [execOp,h1,hf.ev hx]
def aggOf (P:Program) (t:TypeId):Option Nat :=
 match P.underlying t,P.info? t with
 | some (.struct _),some i=>some i.size
 | some (.array _ _),some i=>some i.size
 | _,_=>none
def flatOf (P:Program) (t:TypeId):Bool :=
 match P.underlying t,P.info? t with
 | some (.struct _),_=>false
 | some (.array _ _),_=>false
 | some _,some i=>i.size==1
 | _,_=>false
theorem EW {t:TypeId} {m:Nat} (h:aggOf P t=some m) (w:World):(isAgg t).run P w = .ok true w∧(sizeOf t).run P w = .ok m w:=by
 unfold aggOf at h
 split at h <;> (try cases h)
 ·rename_i fs i h1 h2
  have h3:=run_underlying (w:=w) h1
  constructor
  ·simp [isAgg,h3]
  ·simp [sizeOf,typeInfo,program,Sem.run,bind,Sem.bind,h2,pure]
 ·rename_i fs e i h1 h2
  have h3:=run_underlying (w:=w) h1
  constructor
  ·simp [isAgg,h3]
  ·simp [sizeOf,typeInfo,program,Sem.run,bind,Sem.bind,h2,pure]
theorem DG {t:TypeId} (h:flatOf P t=true) (w:World):(isAgg t).run P w = .ok false w∧(sizeOf t).run P w = .ok 1 w:=by
 unfold flatOf at h
 split at h <;> (try cases h)
 rename_i d i hs ha h1 h2
 have h3:=run_underlying (w:=w) h1
 constructor
 ·cases d <;> first | (exact absurd rfl (ha _ _)) | (exact absurd rfl (hs _)) | simp [isAgg,h3]
 ·have h:i.size=1:=by simpa using h
  simp [sizeOf,typeInfo,program,Sem.run,bind,Sem.bind,h2,pure,h]
theorem GG {w:World} {a:Addr}:∀ {cs:List Value} (i:Nat) (acc:Array Value),(∀ j v,cs[j]? = some v→w.cell? (a.add (i+j))=some v) →
  (loadCellsFrom a i cs.length acc).run P w = .ok (acc++cs.toArray) w
 | [],i,acc,_=>by simp [loadCellsFrom]
 | c::cs,i,acc,h=>by
  have h0:=h 0 c rfl
  rw [Nat.add_zero] at h0
  have ih:=GG (w:=w) (a:=a) (cs:=cs) (i+1) (acc.push c) (fun j v hj=>by
   have:=h (j+1) v (by simpa using hj)
   rwa [show i+(j+1)=i+1+j by omega] at this)
  simp only [List.length_cons,loadCellsFrom,load]
  simp only [bind,Sem.bind,Sem.run,h0,pure]
  refine ih.trans ?_
  simp
theorem Ek {w:World} {a:Addr} {cs:List Value} (h:∀ j v,cs[j]? = some v→w.cell? (a.add j)=some v):(loadCells a cs.length).run P w = .ok cs.toArray w:=by
 have:=GG (P:=P) (w:=w) (a:=a) (cs:=cs) 0 #[] (fun j v hj=>by rw [Nat.zero_add];exact h j v hj)
 simpa [loadCells] using this
theorem Du {w:World} {a:Addr} {cs:List Value} {t:TypeId} (ht:aggOf P t=some cs.length) (h:∀ j v,cs[j]? = some v→w.cell? (a.add j)=some v):(loadVar t a).run P w = .ok (.agg cs.toArray) w:=by
 obtain ⟨h1,h2⟩:=EW ht w
 simp [loadVar,h1,h2,Ek h]
theorem CT {w:World} {a:Addr} {v:Value} {t:TypeId} (ht:flatOf P t=true) (h:w.cell? a=some v):(loadVar t a).run P w = .ok v w:=by
 obtain ⟨h1,h2⟩:=DG ht w
 simp [loadVar,h1,load,Sem.run,h]
theorem Bz (g off j:Nat):(⟨g,off,none⟩:Addr).add j=⟨g,off+j,none⟩:=by
 unfold Addr.add
 split
 ·rename_i h;subst h;rfl
 ·rfl
theorem BU {α:Type} {l:List α} {off m j:Nat} {v:α} (h:((l.drop off).take m)[j]? = some v):l[off+j]? = some v:=by
 rw [List.getElem?_take] at h
 split at h
 ·rwa [List.getElem?_drop] at h
 ·cases h
theorem Tt {t:TypeId} {x:Operand} {g off:Nat} {i:Nat} {k:Bk} {v:Value} (hx:evS sl x=some (.pointer (some ⟨g,off,none⟩))) (hi:own[i]? = some (some k)) (hg:k.g=g) (ht:flatOf P t=true) (hv:k.cs[off]? = some v) :
  Yld P n p own sl (.load t x) ty v:=by
 intro o a w h1 h2 hf hr
 subst hg
 simp [execOp,h1,hf.ev hx,Instr.loadAt,Instr.sureAddr,CT ht ((hr.has.cell (Own.get_mem hi) off).trans hv)]
theorem Tu {t:TypeId} {x:Operand} {g off:Nat} {i:Nat} {k:Bk} {cs:List Value} (hx:evS sl x=some (.pointer (some ⟨g,off,none⟩))) (hi:own[i]? = some (some k)) (hg:k.g=g) (ht:aggOf P t=some cs.length) (hv:(k.cs.drop off).take cs.length=cs) :
  Yld P n p own sl (.load t x) ty (.agg cs.toArray):=by
 intro o a w h1 h2 hf hr
 subst hg
 have:(loadVar t ⟨k.g,off,none⟩).run P w = .ok (.agg cs.toArray) w:=Du ht fun j v hj=>by
  rw [Bz,hr.has.cell (Own.get_mem hi)]
  rw [← hv] at hj
  exact BU hj
 simp [execOp,h1,hf.ev hx,Instr.loadAt,Instr.sureAddr,this]
end
section
variable {P:Program} {n:Nat} {g:Gh} {own:Own} {sl:Sl} {ty:TypeId}
theorem AlH {t:TypeId} {x:Operand} {v:Value} {cs:List Value} (hx:evS sl x=some v) (hc:v.cells=cs.toArray) :
  Eff P n g own sl (.box t x) ty (fun v' g' own'=>∃ b,v' = .pointer (some ⟨b,0,none⟩)∧g=g'∧own'=some ⟨b,t,cs⟩::own):=by
 intro o a w Q K h1 h2 hf hs h
 have:(execOp a.eval o).run P w = .ok (.value (.pointer (some ⟨w.heap.size,0,none⟩))) (w.alloc (.cells cs.toArray t)):=by
  simp [execOp,h1,hf.ev hx,Instr.box,newVar,newRow,newObj,hc,Sem.run]
 unfold Oper.wp
 rw [this]
 exact h _ _ _ _ (.refl g) (hs.alloc t cs) ⟨_,rfl,rfl,rfl⟩
def zeroOf (P:Program) (t:TypeId):Option (Array Value):=((P.info? t).bind (·.zero)).map Value.cells
theorem Afb {t:TypeId} {cs:List Value} (hz:zeroOf P t=some cs.toArray) :
  Eff P n g own sl (.alloc t) ty (fun v' g' own'=>∃ b,v' = .pointer (some ⟨b,0,none⟩)∧g=g'∧own'=some ⟨b,t,cs⟩::own):=by
 intro o a w Q K h1 h2 hf hs h
 unfold zeroOf at hz
 cases e:P.info? t with
 | none=>rw [e] at hz;cases hz
 | some i =>
  rw [e] at hz
  cases e2:i.zero with
  | none=>simp [e2] at hz
  | some z =>
   have hz:z.cells=cs.toArray:=by simpa [e2] using hz
   have hzv:(zeroValue t).run P w = .ok z w:=by simp [zeroValue,typeInfo,program,Sem.run,bind,Sem.bind,e,e2,pure]
   have:(execOp a.eval o).run P w = .ok (.value (.pointer (some ⟨w.heap.size,0,none⟩))) (w.alloc (.cells cs.toArray t)):=by
    simp [execOp,h1,Instr.alloc,hzv,newVar,newRow,newObj,hz,Sem.run]
   unfold Oper.wp
   rw [this]
   exact h _ _ _ _ (.refl g) (hs.alloc t cs) ⟨_,rfl,rfl,rfl⟩
def Ja:Value→Bool
 | .agg _=>false
 | .tuple _=>false
 | _=>true
def setRow (cs:List Value) (off:Nat):List Value→List Value
 | []=>cs
 | v::vs=>setRow (cs.set off v) (off+1) vs
theorem Gr (vs:List Value):∀ (cs:List Value) (off:Nat),(setRow cs off vs).length=cs.length:=by
 induction vs with
 | nil=>intro cs off;rfl
 | cons v vs ih=>intro cs off;simp [setRow,ih]
theorem Sb {w:World} {a:Addr} {v c:Value} (h1:Ja v=true) (hc:w.cell? a=some c) (hz:w.frozen? a=false):(store a v).run P w = .ok () (w.setCell a v):=by
 cases v <;> first | (cases h1;done) | simp [store,Sem.run,hc,hz]
theorem Ce {i:Nat} {k:Bk}:∀ {vs:List Value} {w:World} {own:Own} {off:Nat} (cs:List Value) (s:Nat),St w g own→own[i]? = some (some ⟨k.g,k.t,cs⟩)→(∀ v∈vs,Ja v=true)→off+s+vs.length≤cs.length →
  ∃ w',(storeCells ⟨k.g,off,none⟩ vs s).run P w = .ok () w'∧St w' g (own.set i (some ⟨k.g,k.t,setRow cs (off+s) vs⟩))
 | [],w,own,off,cs,s,hs,hi,_,_=>by
  refine ⟨w,by simp [storeCells],?_⟩
  have:own.set i (some ⟨k.g,k.t,setRow cs (off+s) []⟩)=own:=by
   apply List.ext_getElem?
   intro j
   rw [List.getElem?_set]
   split
   ·rename_i e;subst e
    split
    ·exact hi.symm
    ·rename_i hlt;rw [List.getElem?_eq_none (by omega)]
   ·rfl
  rw [this];exact hs
 | v::vs,w,own,off,cs,s,hs,hi,h1,hl=>by
  simp only [List.length_cons] at hl
  have hm:=Own.get_mem hi
  have hcell:=hs.has.cell hm (off+s)
  have hlt:off+s < cs.length:=by omega
  obtain ⟨c,hc⟩:∃ c,cs[off+s]? = some c:=⟨_,List.getElem?_eq_getElem hlt⟩
  have hst:=Sb (P:=P) (w:=w) (a:=⟨k.g,off+s,none⟩) (v:=v) (h1 v (List.mem_cons_self ..)) (hcell.trans hc) (hs.has.frozen hm _)
  have hs1:=hs.store hi (off+s) v
  have hil:i < own.length:=by
   rcases Nat.lt_or_ge i own.length with h2 | h2
   ·exact h2
   ·rw [List.getElem?_eq_none h2] at hi;cases hi
  obtain ⟨w',e,hs'⟩:=Ce (i:=i) (k:=k) (vs:=vs) (own:=own.set i (some ⟨k.g,k.t,cs.set (off+s) v⟩)) (off:=off) (cs.set (off+s) v) (s+1) hs1 (by simp [List.getElem?_set,hil])
   (fun u hu=>h1 u (List.mem_cons_of_mem _ hu)) (by simp;omega)
  refine ⟨w',?_,?_⟩
  ·simp [storeCells,Bz,hst,e]
  ·rw [List.set_set] at hs'
   rw [show off+(s+1)=off+s+1 by omega] at hs'
   exact hs'
theorem HZ {w:World} {i:Nat} {k:Bk} {off:Nat} {t:TypeId} {v:Value} {vs:List Value} (hs:St w g own) (hi:own[i]? = some (some k)) (hz:(sizeOf t).run P w = .ok vs.length w) (hv:v.cells=vs.toArray) (h1:vs.all Ja=true) (hl:off+vs.length≤k.cs.length) :
  ∃ w',(storeVar t ⟨k.g,off,none⟩ v).run P w = .ok () w'∧St w' g (own.set i (some ⟨k.g,k.t,setRow k.cs off vs⟩)):=by
 obtain ⟨w',e,hs'⟩:=Ce (P:=P) (g:=g) (i:=i) (k:=k) (vs:=vs) (own:=own) (off:=off) k.cs 0 hs hi (by simpa using h1) (by omega)
 refine ⟨w',?_,hs'⟩
 simp [storeVar,hz,hv,e]
def cellsOfT (P:Program) (t:TypeId):Option Nat:=(P.info? t).map (·.size)
theorem Bh {t:TypeId} {m:Nat} (h:cellsOfT P t=some m) (w:World):(sizeOf t).run P w = .ok m w:=by
 unfold cellsOfT at h
 cases e:P.info? t with
 | none=>rw [e] at h;cases h
 | some i =>
  rw [e] at h
  have h:i.size=m:=by simpa using h
  simp [sizeOf,typeInfo,program,Sem.run,bind,Sem.bind,e,pure,h]
theorem Tv {t:TypeId} {x y:Operand} {b off:Nat} {i:Nat} {k:Bk} {v:Value} {vs cs':List Value} (hx:evS sl x=some (.pointer (some ⟨b,off,none⟩))) (hy:evS sl y=some v) (hi:own[i]? = some (some k)) (hg:k.g=b)
  (hv:v.cells=vs.toArray) (hz:cellsOfT P t=some vs.length) (h1:vs.all Ja=true) (hl:Nat.ble (off+vs.length) k.cs.length=true) (hc:setRow k.cs off vs=cs') :
  Eff P n g own sl (.store t x y) ty (fun v' g' own'=>g=g'∧own'=own.set i (some ⟨b,k.t,cs'⟩)):=by
 intro o a w Q K e1 e2 hf hs h
 subst hg
 subst hc
 obtain ⟨w',e,hs'⟩:=HZ (P:=P) (t:=t) (off:=off) (v:=v) hs hi (Bh hz w) hv h1 (by simpa using hl)
 have:(execOp a.eval o).run P w = .ok .skip w':=by
  simp [execOp,e1,hf.ev hx,hf.ev hy,Instr.storeAt,Instr.sureAddr,e]
 unfold Oper.wp
 rw [this]
 exact h undef g _ _ (.refl g) hs' ⟨rfl,rfl⟩
end
def Ctr (P:Program) (f:FuncId) (args:List Value) (g:Gh) (own:Own) (post:Value→Psi→Own→Prop):Prop :=
 ∀ w,St w g own→Calls P f args.toArray w fun e w'=>∃ v g' own',e = .returned v∧g.le g'∧St w' g' own'∧post v g'.b own'
theorem Ctr.mono {P:Program} {f:FuncId} {args:List Value} {g:Gh} {own:Own} {post post':Value→Psi→Own→Prop} (h:Ctr P f args g own post) (hp:∀ v p o,g.b.le p→post v p o→post' v p o):Ctr P f args g own post' :=
 fun w hs=>(h w hs).mono fun e w' ⟨v,g',own',he,hle,hs',h1⟩=>⟨v,g',own',he,hle,hs',hp _ _ _ hle.b h1⟩
theorem Own.ids_perm {a b:Own} (h:a.Perm b):(Own.ids a).Perm (Own.ids b):=h.filterMap _
def Psi.addAll (p:Psi) (rest:Own):Psi:={ p with m:=fun b=>match rest.find? (fun x=>match x with | some k=>k.g==b | none=>false) with | some (some k)=>some k.obj | _=>p.m b }
theorem FT {p:Psi} {rest:Own} (hn:rest.ids.Nodup) {k:Bk} (hk:some k∈rest):(p.addAll rest).m k.g=some k.obj:=by
 have:rest.find? (fun x=>match x with | some j=>j.g==k.g | none=>false)=some (some k):=by
  induction rest with
  | nil=>cases hk
  | cons x l ih =>
   rw [Own.ids_cons] at hn
   cases x with
   | none =>
    simp only [List.find?_cons]
    rcases List.mem_cons.1 hk with e | e
    ·cases e
    ·exact ih (by simpa using hn) e
   | some j =>
    simp only [List.find?_cons]
    rcases List.mem_cons.1 hk with e | e
    ·injection e with e;subst e;simp
    ·have hne:j.g≠k.g:=fun eq=>by
      simp at hn
      exact hn.1 (eq ▸ Own.mem_ids e)
     have:(j.g==k.g)=false:=by simpa using hne
     rw [this]
     exact ih (by simp at hn;exact hn.2) e
 simp [Psi.addAll,this]
theorem Gx {p:Psi} {rest:Own} {b:Nat} (h:∀ k,some k∈rest→k.g≠b):(p.addAll rest).m b=p.m b:=by
 have:rest.find? (fun x=>match x with | some j=>j.g==b | none=>false)=none:=by
  rw [List.find?_eq_none]
  intro x hx
  cases x with
  | none=>simp
  | some k=>simpa using h k hx
 simp [Psi.addAll,this]
theorem St.lend {w:World} {g:Gh} {sel rest:Own} (h:St w g (sel++rest)):∃ gl:Gh,gl.r=g.r.addAll rest∧gl.b=g.b∧St w gl sel∧g.r.le gl.r:=by
 have hids:Own.ids (sel++rest)=Own.ids sel++Own.ids rest:=List.filterMap_append
 have hn:=h.nodup
 rw [hids,List.nodup_append] at hn
 obtain ⟨n1,n2,n3⟩:=hn
 have hle:g.r.le (g.r.addAll rest):=⟨rfl,rfl,rfl,fun b o e=>by
  rw [Gx fun k hk eq=>by have:=h.free k (List.mem_append_right _ hk);rw [eq,e] at this;cases this]
  exact e⟩
 refine ⟨⟨g.r.addAll rest,g.b,g.br.trans hle⟩,rfl,rfl,⟨⟨h.r.os,h.r.tape,h.r.out,fun b o e=>?_⟩,n1,fun k hk=>h.has k (List.mem_append_left _ hk),fun k hk=>?_⟩,hle⟩
 ·by_cases hb:∃ k,some k∈rest∧k.g=b
  ·obtain ⟨k,hk,rfl⟩:=hb
   have e:(g.r.addAll rest).m k.g=some o:=e
   rw [FT n2 hk] at e
   rw [← e];exact h.has k (List.mem_append_right _ hk)
  ·have e:(g.r.addAll rest).m b=some o:=e
   rw [Gx fun k hk eq=>hb ⟨k,hk,eq⟩] at e
   exact h.r.m b o e
 ·show (g.r.addAll rest).m k.g=none
  rw [Gx fun j hj eq=>n3 _ (Own.mem_ids hk) _ (Own.mem_ids hj) eq.symm]
  exact h.free k (List.mem_append_left _ hk)
def Psi.merge (p q:Psi):Psi:={ p with m:=fun b=>match q.m b with | some o=>some o | none=>p.m b }
theorem St.unlend {w w':World} {g gl g1:Gh} {sel rest sel':Own} (h:St w g (sel++rest)) (er:gl.r=g.r.addAll rest) (eb:gl.b=g.b) (hle:gl.le g1) (h':St w' g1 sel') (hl:g.r.le gl.r) :
  ∃ g2:Gh,g2.b=g1.b∧g.le g2∧St w' g2 (sel'++rest):=by
 have hids:Own.ids (sel++rest)=Own.ids sel++Own.ids rest:=List.filterMap_append
 have hids':Own.ids (sel'++rest)=Own.ids sel'++Own.ids rest:=List.filterMap_append
 have hn:=h.nodup
 rw [hids,List.nodup_append] at hn
 obtain ⟨n1,n2,n3⟩:=hn
 have hin:g.r.In w':=(h'.r.mono hle.r).mono hl
 have hinb:g1.b.In w':=h'.r.mono g1.br
 have hrest:∀ k,some k∈rest→g1.r.m k.g=some k.obj:=fun k hk=>hle.r.m _ _ (by rw [er];exact FT n2 hk)
 have hfree:∀ k,some k∈rest→g1.b.m k.g=none:=fun k hk=>by
  cases e:g1.b.m k.g with
  | none=>rfl
  | some o =>
   exfalso
   rcases hle.apart k.g (by rw [e];simp) with h1 | h1
   ·rw [eb] at h1
    exact h1 (g.br.none_ (h.free k (List.mem_append_right _ hk)))
   ·rw [er,FT n2 hk] at h1
    cases h1
 have hbr:g1.b.le (g.r.merge g1.b):=⟨hin.os.symm.trans hinb.os,hin.tape.symm.trans hinb.tape,hin.out.symm.trans hinb.out,fun b o e=>by
  show (match g1.b.m b with | some o=>some o | none=>g.r.m b)=some o
  rw [e]⟩
 have hle':g.le ⟨g.r.merge g1.b,g1.b,hbr⟩:=by
  refine ⟨⟨rfl,rfl,rfl,fun b o e=>?_⟩,eb ▸ hle.b,fun k hk=>?_⟩
  ·show (match g1.b.m b with | some o=>some o | none=>g.r.m b)=some o
   cases e2:g1.b.m b with
   | none=>exact e
   | some o2=>rw [← hinb.m b o2 e2,hin.m b o e]
  ·rcases hle.apart k hk with h1 | h1
   ·exact .inl (eb ▸ h1)
   ·exact .inr (hl.none_ h1)
 refine ⟨⟨g.r.merge g1.b,g1.b,hbr⟩,rfl,hle',⟨⟨hin.os,hin.tape,hin.out,fun b o e=>?_⟩,?_,fun k hk=>?_,fun k hk=>?_⟩⟩
 ·have e:(match g1.b.m b with | some o=>some o | none=>g.r.m b)=some o:=e
  cases e2:g1.b.m b with
  | none=>rw [e2] at e;exact hin.m b o e
  | some o2=>rw [e2] at e;rw [← e];exact hinb.m b o2 e2
 ·rw [hids',List.nodup_append]
  refine ⟨h'.nodup,n2,fun a ha b hb eq=>?_⟩
  obtain ⟨k,hk,rfl⟩:=Own.of_ids ha
  obtain ⟨j,hj,rfl⟩:=Own.of_ids hb
  have:=h'.free k hk
  rw [eq,hrest j hj] at this
  cases this
 ·rcases List.mem_append.1 hk with e | e
  ·exact h'.has k e
  ·exact h'.r.m _ _ (hrest k e)
 ·show (match g1.b.m k.g with | some o=>some o | none=>g.r.m k.g)=none
  rcases List.mem_append.1 hk with e | e
  ·have h1:=h'.free k e
   rw [g1.br.none_ h1]
   exact (hl.trans hle.r).none_ h1
  ·rw [hfree k e]
   exact h.free k (List.mem_append_right _ e)
section
variable {P:Program} {ops:Array Oper} {Q:Exit→Act→World→Prop} {n:Nat} {g:Gh} {own:Own} {sl:Sl} {ty:TypeId}
def enters (P:Program) (f:FuncId):Bool :=
 match P.funcs[f]? with
 | some fn=>fn.body.isSome&&!(fn.name == "runtime.NumGoroutine")
 | none=>false
theorem Fj {f:FuncId} (h:enters P f=true) (args:Array Value) (w:World):(callFunc f args).run P w = .ok (.enter f args) w:=by
 unfold enters at h
 cases e:P.funcs[f]? with
 | none=>rw [e] at h;cases h
 | some fn =>
  rw [e] at h
  simp only [Bool.and_eq_true,Bool.not_eq_true'] at h
  have hb:fn.body.isNone=false:=by cases hb:fn.body <;> simp_all
  have h3:fn.name ≠ "runtime.NumGoroutine" := by simpa using h.2
  have h4:fn.body≠none:=by cases hb2:fn.body <;> simp_all
  simp [callFunc,program,bind,Sem.bind,Sem.run,e,pure]
  rw [if_neg h3,if_neg h4]
def Afc (P:Program) (f:FuncId) (args:List Value) (g:Gh) (post:Value→Psi→Prop):Prop:=Ctr P f args g [] (fun v p o=>o=[]∧post v p)
theorem Afc.mono {f:FuncId} {args:List Value} {post post':Value→Psi→Prop} (h:Afc P f args g post) (hp:∀ v p,g.b.le p→post v p→post' v p):Afc P f args g post' :=
 Ctr.mono h fun v p o hl ⟨h1,h2⟩=>⟨h1,hp v p hl h2⟩
def RetR (g:Gh) (post:Value→Psi→Own→Prop) (e:Ending) (w':World):Prop:=∃ v g' own',e = .returned v∧g.le g'∧St w' g' own'∧post v g'.b own'
def Fin (P:Program) (fn:Func) (g:Gh) (post:Value→Psi→Own→Prop):Exit→Act→World→Prop:=bodyPost P fn (RetR g post)
def argS:Nat→List Value→Sl
 | _,[]=>[]
 | i,v::vs=>(i,v)::argS (i+1) vs
theorem Xv {vs:List Value}:∀ {i t:Nat} {v:Value},getS (argS i vs) t=some v→i≤t∧vs[t - i]? = some v:=by
 induction vs with
 | nil=>intro i t v h;cases h
 | cons u vs ih =>
  intro i t v h
  simp only [argS,getS] at h
  cases hb:Nat.beq i t with
  | true =>
   rw [hb] at h
   have e:=Nat.eq_of_beq_eq_true hb
   subst e
   simpa using h
  | false =>
   rw [hb] at h
   have hne:i≠t:=fun e=>by subst e;simp at hb
   obtain ⟨h1,h2⟩:=ih (i:=i+1) (t:=t) (v:=v) (by simpa using h)
   refine ⟨by omega,?_⟩
   rw [show t - i=(t - (i+1))+1 by omega]
   simpa using h2
theorem AiQ {f:FuncId} (fn:Func) (c:Code) (n:Nat) (vs:List Value) {post:Value→Psi→Own→Prop} (hf:P.funcs[f]? = some fn) (hb:fn.body=some c) (hn:fn.ntmps=n) (hl:Nat.ble vs.length n=true)
  (h:WPc P c (Fin P fn g post) n g own (argS 0 vs)):Ctr P f vs g own post:=by
 intro w hs
 refine calls_of_wp hf hb ?_
 refine h _ w ⟨?_,rfl,fun t v hv=>?_⟩ hs
 ·have:vs.length≤n:=by simpa using hl
  simp [hn];omega
 ·obtain ⟨_,h2⟩:=Xv hv
  have hlt:t < vs.length:=by
   rcases Nat.lt_or_ge t vs.length with h3 | h3
   ·exact h3
   ·rw [Nat.sub_zero,List.getElem?_eq_none h3] at h2;cases h2
  rw [Array.getElem?_append_left (by simpa using hlt)]
  simpa using h2
def resRun (tmps:Array Value):ResultVar→Sem Value
 | .tmp t=>pure (tmps.getD t undef)
 | .cell x t=>do loadVar t (← asAddr (tmps.getD x undef))
def ResOk (P:Program) (own:Own) (sl:Sl) (rs:List ResultVar) (vs:List Value):Prop :=
 ∀ n a w,Fr n a sl→Has w own→(rs.mapM (resRun a.tmps)).run P w = .ok vs w
theorem Afd:ResOk P own sl [] []:=fun n a w hf hh=>by simp
theorem Jb {r:ResultVar} {v:Value} {rs:List ResultVar} {vs:List Value} (h:∀ n a w,Fr n a sl→Has w own→(resRun a.tmps r).run P w = .ok v w) (k:ResOk P own sl rs vs):ResOk P own sl (r::rs) (v::vs):=by
 intro n a w hf hh
 simp only [List.mapM_cons]
 simp [h n a w hf hh,k n a w hf hh]
theorem Afe {t:Tmp} {v:Value} {rs:List ResultVar} {vs:List Value} (h:getS sl t=some v) (k:ResOk P own sl rs vs):ResOk P own sl (.tmp t::rs) (v::vs) :=
 Jb (fun n a w hf hh=>by simp [resRun,Array.getD_eq_getD_getElem?,hf.at_ _ _ h]) k
theorem Vu {x:Tmp} {t:TypeId} {b off i:Nat} {kb:Bk} {v:Value} {rs:List ResultVar} {vs:List Value} (h:getS sl x=some (.pointer (some ⟨b,off,none⟩))) (hi:own[i]? = some (some kb)) (hg:kb.g=b) (ht:flatOf P t=true) (hv:kb.cs[off]? = some v) (k:ResOk P own sl rs vs):ResOk P own sl (.cell x t::rs) (v::vs) :=
 Jb (fun n a w hf hh=>by
  subst hg
  simp [resRun,Array.getD_eq_getD_getElem?,hf.at_ _ _ h,asAddr,CT ht ((hh.cell (Own.get_mem hi) off).trans hv)]) k
theorem Vv {x:Tmp} {t:TypeId} {b off i:Nat} {kb:Bk} {cs:List Value} {rs:List ResultVar} {vs:List Value} (h:getS sl x=some (.pointer (some ⟨b,off,none⟩))) (hi:own[i]? = some (some kb)) (hg:kb.g=b) (ht:aggOf P t=some cs.length) (hv:(kb.cs.drop off).take cs.length=cs) (k:ResOk P own sl rs vs):ResOk P own sl (.cell x t::rs) (.agg cs.toArray::vs) :=
 Jb (fun n a w hf hh=>by
  subst hg
  have e:(loadVar t ⟨kb.g,off,none⟩).run P w = .ok (.agg cs.toArray) w:=Du ht fun j v hj=>by
   rw [Bz,hh.cell (Own.get_mem hi)]
   rw [← hv] at hj
   exact BU hj
  simp [resRun,Array.getD_eq_getD_getElem?,hf.at_ _ _ h,asAddr,e]) k
def tupled:List Value→Value
 | [v]=>v
 | vs=> .tuple vs.toArray
theorem IA {fn:Func} {rs:List ResultVar} {vs:List Value} (hr:fn.results=rs.toArray) (h:ResOk P own sl rs vs) {a:Act} {w:World} (hf:Fr n a sl) (hh:Has w own):(results fn a.tmps).run P w = .ok (tupled vs) w:=by
 have:=h n a w hf hh
 have e:results fn a.tmps=(do let vs ← fn.results.mapM (resRun a.tmps);pure (if h:vs.size=1 then vs[0] else .tuple vs)):=rfl
 rw [e,hr,List.mapM_toArray]
 simp [this]
 match vs with
 | []=>rfl
 | [v]=>rfl
 | _::_::_=>simp [tupled]
end
def Psi.cell? (p:Psi) (a:Addr):Option Value :=
 match p.m a.block with
 | some (.cells c _ _)=>if a.spot.isSome then none else c[a.off]?
 | _=>none
theorem Psi.In.cell {p:Psi} {w:World} (h:p.In w) {a:Addr} {v:Value} (e:p.cell? a=some v):w.cell? a=some v:=by
 unfold Psi.cell? at e
 split at e
 ·rename_i c t f hm
  simp [World.cell?,h.m _ _ hm]
  simpa using e
 ·cases e
theorem Psi.le.cell {p q:Psi} (h:p.le q) {a:Addr} {v:Value} (e:p.cell? a=some v):q.cell? a=some v:=by
 unfold Psi.cell? at e ⊢
 split at e
 ·rename_i c t f hm
  rw [h.m _ _ hm]
  exact e
 ·cases e
def Cells (p:Psi) (a:Addr) (cs:List Value):Prop:=∀ j v,cs[j]? = some v→p.cell? (a.add j)=some v
theorem Cells.mono {p q:Psi} {a:Addr} {cs:List Value} (h:Cells p a cs) (k:p.le q):Cells q a cs:=fun j v e=>k.cell (h j v e)
theorem FU (a:Addr) (i j:Nat):(a.add i).add j=a.add (i+j):=by
 unfold Addr.add
 by_cases hi:i=0
 ·subst hi;simp
 ·by_cases hj:j=0
  ·subst hj;simp [hi]
  ·rw [if_neg hj,if_neg hi,if_neg (by omega)];simp [Nat.add_assoc]
theorem Cells.part {p:Psi} {a:Addr} {cs:List Value} (h:Cells p a cs) (off m:Nat):Cells p (a.add off) ((cs.drop off).take m):=by
 intro j v e
 rw [FU]
 exact h _ _ (BU e)
structure Ty (α:Type) where
 n:Nat
 pos:0 < n
 rep:Psi→List Value→α→Prop
 len:∀ {p cs x},rep p cs x→cs.length=n
 one:∀ {p cs x},rep p cs x→cs.all Ja=true
 mono:∀ {p q cs x},p.le q→rep p cs x→rep q cs x
def tyI (k:IntKind):Ty Int:=⟨1,by decide,fun _ cs x=>cs=[.int k x],fun h=>by subst h;rfl,fun h=>by subst h;rfl,fun _ h=>h⟩
def Ia:Ty UInt8:=⟨1,by decide,fun _ cs x=>cs=[.int .u8 (x.toNat:Int)],fun h=>by subst h;rfl,fun h=>by subst h;rfl,fun _ h=>h⟩
def tyB:Ty Bool:=⟨1,by decide,fun _ cs x=>cs=[.bool x],fun h=>by subst h;rfl,fun h=>by subst h;rfl,fun _ h=>h⟩
def mkS (l:List UInt8):ByteArray:=⟨l.toArray⟩
def Reps {α:Type} (T:Ty α) (p:Psi):List Value→List α→Prop
 | cs,[]=>cs=[]
 | cs,x::xs=>∃ c1 c2,cs=c1++c2∧T.rep p c1 x∧Reps T p c2 xs
section
variable {α:Type} {T:Ty α} {p q:Psi}
theorem Reps.len:∀ {xs:List α} {cs:List Value},Reps T p cs xs→cs.length=xs.length*T.n
 | [],cs,h=>by cases h;simp
 | x::xs,cs,⟨c1,c2,e,h1,h2⟩=>by subst e;rw [List.length_append,T.len h1,h2.len,List.length_cons,Nat.succ_mul,Nat.add_comm]
theorem Reps.mono (hl:p.le q):∀ {xs:List α} {cs:List Value},Reps T p cs xs→Reps T q cs xs
 | [],cs,h=>h
 | x::xs,cs,⟨c1,c2,e,h1,h2⟩=>⟨c1,c2,e,T.mono hl h1,h2.mono hl⟩
theorem Reps.one:∀ {xs:List α} {cs:List Value},Reps T p cs xs→cs.all Ja=true
 | [],cs,h=>by cases h;rfl
 | x::xs,cs,⟨c1,c2,e,h1,h2⟩=>by subst e;rw [List.all_append,T.one h1,h2.one];rfl
theorem Reps.append {ys:List α} {ds:List Value}:∀ {xs:List α} {cs:List Value},Reps T p cs xs→Reps T p ds ys→Reps T p (cs++ds) (xs++ys)
 | [],cs,h,hd=>by cases h;simpa using hd
 | x::xs,cs,⟨c1,c2,e,h1,h2⟩,hd=>by subst e;exact ⟨c1,c2++ds,by simp,h1,Reps.append h2 hd⟩
theorem Reps.single {cs:List Value} {x:α} (h:T.rep p cs x):Reps T p cs [x]:=⟨cs,[],by simp,h,rfl⟩
theorem Reps.drop:∀ {xs:List α} {cs:List Value} (i:Nat),Reps T p cs xs→Reps T p (cs.drop (i*T.n)) (xs.drop i)
 | xs,cs,0,h=>by simpa using h
 | [],cs,i+1,h=>by cases h;simp;rfl
 | x::xs,cs,i+1,⟨c1,c2,e,h1,h2⟩=>by
  subst e
  have:=h2.drop i
  rw [List.drop_succ_cons,Nat.succ_mul,Nat.add_comm,← List.drop_drop]
  rw [show List.drop T.n (c1++c2)=c2 by rw [← T.len h1];simp]
  exact this
theorem Reps.take:∀ {xs:List α} {cs:List Value} (i:Nat),Reps T p cs xs→Reps T p (cs.take (i*T.n)) (xs.take i)
 | xs,cs,0,h=>by simp;rfl
 | [],cs,i+1,h=>by cases h;simp;rfl
 | x::xs,cs,i+1,⟨c1,c2,e,h1,h2⟩=>by
  subst e
  have:=h2.take i
  refine ⟨c1,c2.take (i*T.n),?_,h1,this⟩
  rw [Nat.succ_mul,Nat.add_comm,← T.len h1,List.take_length_add_append]
theorem Reps.at_:∀ {xs:List α} {cs:List Value} {i:Nat} {x:α},Reps T p cs xs→xs[i]? = some x→T.rep p ((cs.drop (i*T.n)).take T.n) x
 | [],cs,i,x,h,e=>by simp at e
 | y::xs,cs,0,x,⟨c1,c2,e1,h1,h2⟩,e=>by
  subst e1
  have e:y=x:=by simpa using e
  subst e
  have:(List.drop (0*T.n) (c1++c2)).take T.n=c1:=by rw [Nat.zero_mul,List.drop_zero,← T.len h1];simp
  rw [this];exact h1
 | y::xs,cs,i+1,x,⟨c1,c2,e1,h1,h2⟩,e=>by
  subst e1
  have:=h2.at_ (i:=i) (x:=x) (by simpa using e)
  rw [Nat.succ_mul,Nat.add_comm,← List.drop_drop]
  rw [show List.drop T.n (c1++c2)=c2 by rw [← T.len h1];simp]
  exact this
theorem Reps.set:∀ {xs:List α} {cs:List Value} {i:Nat} {c:List Value} {x:α},Reps T p cs xs→T.rep p c x→i < xs.length→Reps T p (setRow cs (i*T.n) c) (xs.set i x)
 | [],cs,i,c,x,h,hx,hi=>by simp at hi
 | y::xs,cs,0,c,x,⟨c1,c2,e1,h1,h2⟩,hx,hi=>by
  subst e1
  have key:∀ (c c1:List Value) (off:Nat) (pre:List Value),c.length=c1.length→pre.length=off→setRow (pre++(c1++c2)) off c=pre++(c++c2):=by
   intro c
   induction c with
   | nil=>intro c1 off pre hl hp;cases c1 with | nil=>rfl | cons _ _=>simp at hl
   | cons u c ih =>
    intro c1 off pre hl hp
    cases c1 with
    | nil=>simp at hl
    | cons v c1 =>
     simp only [setRow]
     rw [show (pre++(v::c1++c2)).set off u=(pre++[u])++(c1++c2) by subst hp;simp]
     rw [ih c1 (off+1) (pre++[u]) (by simpa using hl) (by simp [hp])]
     simp
  have:=key c c1 0 [] (by rw [T.len hx,T.len h1]) rfl
  simp only [List.nil_append,Nat.zero_mul] at this ⊢
  rw [this]
  exact ⟨c,c2,rfl,hx,h2⟩
 | y::xs,cs,i+1,c,x,⟨c1,c2,e1,h1,h2⟩,hx,hi=>by
  subst e1
  have ih:=h2.set (i:=i) (c:=c) hx (by simpa using hi)
  have key:∀ (c:List Value) (c2:List Value) (off:Nat),setRow (c1++c2) (c1.length+off) c=c1++setRow c2 off c:=by
   intro c
   induction c with
   | nil=>intro c2 off;rfl
   | cons u c ih =>
    intro c2 off
    simp only [setRow]
    rw [show (c1++c2).set (c1.length+off) u=c1++c2.set off u by rw [List.set_append_right _ _ (by omega)];simp]
    rw [Nat.add_assoc,ih]
  rw [Nat.succ_mul,Nat.add_comm,← T.len h1,key]
  rw [T.len h1]
  exact ⟨c1,_,rfl,h1,ih⟩
structure Arr (p:Psi) (T:Ty α) (A:Option Addr) (c:Nat) (xs:List α):Prop where
 cap:xs.length≤c
 len:xs.length≤140737488355328
 row:∃ cs,Reps T p cs xs∧(0 < xs.length→∃ ad,A=some ad∧Cells p ad cs)
theorem Arr.mono {A:Option Addr} {c:Nat} {xs:List α} (h:Arr p T A c xs) (k:p.le q):Arr q T A c xs:=by
 obtain ⟨h1,h0,cs,h2,h3⟩:=h
 exact ⟨h1,h0,cs,h2.mono k,fun hn=>by obtain ⟨ad,e,hc⟩:=h3 hn;exact ⟨ad,e,hc.mono k⟩⟩
theorem Arr.nil {A:Option Addr} {c:Nat}:Arr p T A c []:=⟨Nat.zero_le _,by simp,[],rfl,fun h=>absurd h (by simp)⟩
theorem Arr.at_ {A:Option Addr} {c:Nat} {xs:List α} (h:Arr p T A c xs) {i:Nat} {x:α} (hi:xs[i]? = some x):∃ ad cs,A=some ad∧T.rep p cs x∧Cells p (ad.add (i*T.n)) cs:=by
 obtain ⟨_,_,cs,h2,h3⟩:=h
 have hlt:i < xs.length:=by
  rcases Nat.lt_or_ge i xs.length with h | h
  ·exact h
  ·rw [List.getElem?_eq_none h] at hi;cases hi
 obtain ⟨ad,e,hc⟩:=h3 (by omega)
 exact ⟨ad,_,e,h2.at_ hi,hc.part _ _⟩
def tyArr (T:Ty α):Ty (List α):=⟨1,by decide,fun p cs xs=>∃ A c,cs=[.slice A xs.length c]∧Arr p T A c xs,
 fun ⟨_,_,e,_⟩=>by subst e;rfl,fun ⟨_,_,e,_⟩=>by subst e;rfl,fun k ⟨A,c,e,h⟩=>⟨A,c,e,h.mono k⟩⟩
def Buf (p:Psi) (T:Ty α) (et:TypeId) (v:Value) (k:Option Bk) (xs:List α):Prop :=
 xs.length≤140737488355328∧((v = .slice none 0 0∧xs=[]∧k=none) ∨
 ∃ g cap cs sp,v = .slice (some ⟨g,0,none⟩) xs.length cap∧k=some ⟨g,et,cs++sp⟩∧Reps T p cs xs∧(cs++sp).length=cap*T.n∧cap≤maxLen)
theorem Buf.mono {et:TypeId} {v:Value} {k:Option Bk} {xs:List α} (h:Buf p T et v k xs) (hl:p.le q):Buf q T et v k xs:=by
 rcases h with ⟨h0,h | ⟨g,cap,cs,sp,h1,h2,h3,h4,h5⟩⟩
 ·exact ⟨h0,.inl h⟩
 ·exact ⟨h0,.inr ⟨g,cap,cs,sp,h1,h2,h3.mono hl,h4,h5⟩⟩
theorem Buf.nil {et:TypeId}:Buf p T et (.slice none 0 0) none ([]:List α):=⟨by simp,.inl ⟨rfl,rfl,rfl⟩⟩
theorem Buf.len {et:TypeId} {v:Value} {k:Option Bk} {xs:List α} (h:Buf p T et v k xs):xs.length≤140737488355328:=h.1
theorem Buf.val {et:TypeId} {v:Value} {k:Option Bk} {xs:List α} (h:Buf p T et v k xs):∃ A c,v = .slice A xs.length c∧xs.length≤c:=by
 rcases h.2 with ⟨rfl,rfl,_⟩ | ⟨g,cap,cs,sp,h1,h2,h3,h4,h5⟩
 ·exact ⟨none,0,rfl,Nat.le_refl _⟩
 ·refine ⟨_,cap,h1,?_⟩
  rw [List.length_append,h3.len] at h4
  have:xs.length*T.n≤cap*T.n:=by omega
  exact Nat.le_of_mul_le_mul_right this T.pos
theorem Vw {v:Value} (h:Ja v=true):v.oneCell'=true:=by cases v <;> first | (cases h;done) | rfl
theorem Xw {cs:List Value} (h:cs.all Ja=true):∀ u∈cs,u.oneCell'=true:=fun u hu=>Vw (List.all_eq_true.1 h u hu)
theorem CB {β:Type}:∀ {l:List β} {i:Nat} {x:β},l[i]? = some x→l.Perm (x::l.eraseIdx i)
 | [],i,x,h=>by simp at h
 | y::l,0,x,h=>by have h:y=x:=by simpa using h
                  subst h;exact List.Perm.refl _
 | y::l,i+1,x,h=>by
  have h1:=CB (l:=l) (i:=i) (x:=x) (by simpa using h)
  rw [List.eraseIdx_cons_succ]
  exact (h1.cons y).trans (List.Perm.swap x y _)
theorem St.swap {w w':World} {g:Gh} {own:Own} (h:St w g own) {i:Nat} {x:Option Bk} (hi:own[i]? = some x) (k':Option Bk)
  (hos:w'.os=w.os) (htape:w'.tape=w.tape) (hout:w'.output=w.output) (hb:∀ b,b < w.heap.size→(∀ k,x=some k→b≠k.g)→w'.heap[b]? = w.heap[b]?)
  (hk:∀ k,k'=some k→w'.heap[k.g]? = some k.obj∧((∃ k0,x=some k0∧k0.g=k.g)∨w.heap.size≤k.g)):St w' g (own.set i k'):=by
 have hx:∀ k0,x=some k0→some k0∈own:=fun k0 e=>List.mem_of_getElem? (e ▸ hi)
 have hother:∀ k,some k∈own.set i k'→k'=some k∨(some k∈own∧∀ k0,x=some k0→k.g≠k0.g):=by
  intro k hk1
  cases x with
  | some k0 =>
   rcases Own.other h.nodup hi hk1 with e | ⟨e,e2⟩
   ·exact .inl e
   ·exact .inr ⟨e,fun k1 hk1=>by injection hk1 with hk1;subst hk1;exact e2⟩
  | none =>
   rcases List.mem_or_eq_of_mem_set hk1 with e | e
   ·exact .inr ⟨e,fun k0 hk0=>by cases hk0⟩
   ·exact .inl e.symm
 refine ⟨⟨hos.trans h.r.os,htape.trans h.r.tape,hout.trans h.r.out,fun b o e=>?_⟩,?_,?_,?_⟩
 ·have h1:=h.r.m b o e
  have hlt:b < w.heap.size:=by
   rcases Nat.lt_or_ge b w.heap.size with h2 | h2
   ·exact h2
   ·rw [Array.getElem?_eq_none h2] at h1;cases h1
  rw [hb b hlt fun k0 e0 eq=>by rw [eq,h.free k0 (hx k0 e0)] at e;cases e]
  exact h1
 ·
  have hlt:i < own.length:=(List.getElem?_eq_some_iff.1 hi).1
  have hperm:(own.set i k').Perm (k'::own.eraseIdx i):=by
   have h2:=CB (l:=own.set i k') (i:=i) (x:=k') (by simp [List.getElem?_set,hlt])
   rwa [List.eraseIdx_set_eq] at h2
  have hperm0:own.Perm (x::own.eraseIdx i):=CB hi
  have hn0:=(Own.ids_perm hperm0).nodup_iff.1 h.nodup
  refine (Own.ids_perm hperm).nodup_iff.2 ?_
  cases k' with
  | none =>
   rw [Own.ids_cons] at hn0 ⊢
   cases x <;> simp_all
  | some k =>
   have hn1:(Own.ids (own.eraseIdx i)).Nodup:=by rw [Own.ids_cons] at hn0;exact (List.nodup_append.1 hn0).2.1
   rw [Own.ids_cons]
   simp only [List.cons_append,List.nil_append,List.nodup_cons]
   refine ⟨fun hm=>?_,hn1⟩
   obtain ⟨j,hj,e⟩:=Own.of_ids hm
   have hjo:some j∈own:=hperm0.mem_iff.2 (List.mem_cons_of_mem _ hj)
   rcases (hk k rfl).2 with ⟨k0,e0,e1⟩ | hge
   ·subst e0
    rw [Own.ids_cons] at hn0
    simp at hn0
    exact hn0.1 (by rw [e1,← e];exact Own.mem_ids hj)
   ·have:=h.has.lt hjo
    omega
 ·intro k hk1
  rcases hother k hk1 with e | ⟨e,e2⟩
  ·exact (hk k e).1
  ·rw [hb k.g (h.has.lt e) (fun k0 e0=>e2 k0 e0)]
   exact h.has k e
 ·intro k hk1
  rcases hother k hk1 with e | ⟨e,e2⟩
  ·rcases (hk k e).2 with ⟨k0,e0,e1⟩ | hge
   ·rw [← e1];exact h.free k0 (hx k0 e0)
   ·exact h.r.lt hge
  ·exact h.free k e
end
section
variable {P:Program} {n:Nat} {p:Psi} {own:Own} {sl:Sl} {ty:TypeId} {α:Type} {T:Ty α}
theorem Jc {w:World} {t e:TypeId} {sz idx len c:Nat} {A:Addr} {k:IntKind} (hlt:idx < len) (ht:P.underlying t=some (.slice e)) (hs:cellsOfT P e=some sz) :
  (Instr.indexAt t (.slice (some A) len c) (.int k (idx:Int))).run P w = .ok (.pointer (some (A.add (idx*sz)))) w:=by
 have h0:(0:Int)≤(idx:Int)∧(idx:Int) < (len:Int):=⟨by omega,by omega⟩
 simp only [Instr.indexAt,asIntOf,run_underlying ht,Sem.run_bind,Sem.run_pure,Result.andThen_ok]
 split <;> simp [h0,Bh hs,hlt]
theorem Tw {t e:TypeId} {x i:Operand} {A:Addr} {len c sz:Nat} {k:IntKind} (idx:Nat) (hx:evS sl x=some (.slice (some A) len c)) (hi:evS sl i=some (.int k (idx:Int))) (hlt:idx < len) (ht:P.underlying t=some (.slice e)) (hs:cellsOfT P e=some sz) :
  Yld P n p own sl (.indexAddr t x i) ty (.pointer (some (A.add (idx*sz)))):=by
 intro o a w h1 h2 hf hr
 simp [execOp,h1,hf.ev hx,hf.ev hi,Jc hlt ht hs]
theorem Jd {t e:TypeId} {x i:Operand} {A:Addr} {m sz:Nat} {k:IntKind} (idx:Nat) (hx:evS sl x=some (.pointer (some A))) (hi:evS sl i=some (.int k (idx:Int))) (ht:P.underlying t=some (.array m e)) (hlt:idx < m) (hs:cellsOfT P e=some sz) :
  Yld P n p own sl (.indexAddr t x i) ty (.pointer (some (A.add (idx*sz)))):=by
 intro o a w h1 h2 hf hr
 have h0:(0:Int)≤(idx:Int)∧(idx:Int) < (m:Int):=⟨by omega,by omega⟩
 have:(Instr.indexAt t (.pointer (some A)) (.int k (idx:Int))).run P w = .ok (.pointer (some (A.add (idx*sz)))) w:=by
  simp only [Instr.indexAt,asIntOf,run_underlying ht,Sem.run_bind,Sem.run_pure,Result.andThen_ok,Instr.sureAddr]
  split <;> simp [h0,Bh hs,hlt]
 simp [execOp,h1,hf.ev hx,hf.ev hi,this]
theorem Xx {t:TypeId} {x:Operand} {A:Addr} {cs:List Value} (off:Nat) {v:Value} (hx:evS sl x=some (.pointer (some (A.add off)))) (hc:Cells p A cs) (ht:flatOf P t=true) (hv:cs[off]? = some v) :
  Yld P n p own sl (.load t x) ty v:=by
 intro o a w h1 h2 hf hr
 simp [execOp,h1,hf.ev hx,Instr.loadAt,Instr.sureAddr,CT ht (hr.r.cell (hc off v hv))]
theorem Xy {t:TypeId} {x:Operand} {A:Addr} {cs vs:List Value} (off:Nat) (hx:evS sl x=some (.pointer (some (A.add off)))) (hc:Cells p A cs) (ht:aggOf P t=some vs.length) (hv:(cs.drop off).take vs.length=vs) :
  Yld P n p own sl (.load t x) ty (.agg vs.toArray):=by
 intro o a w h1 h2 hf hr
 have:(loadVar t (A.add off)).run P w = .ok (.agg vs.toArray) w:=Du ht fun j v hj=>by
  rw [FU]
  rw [← hv] at hj
  exact hr.r.cell (hc _ v (BU hj))
 simp [execOp,h1,hf.ev hx,Instr.loadAt,Instr.sureAddr,this]
def offA (A:Option Addr) (c l sz:Nat):Option Addr:=if c=l then A else A.map (·.add (l*sz))
theorem Mp {w:World} {t e:TypeId} {sz len c l h:Nat} {A:Option Addr} {lo hi:Option Value} (ht:P.underlying t=some (.slice e)) (hs:cellsOfT P e=some sz)
  (hlo:(lo=none∧l=0)∨∃ k,lo=some (.int k (l:Int))) (hhi:(hi=none∧h=len)∨∃ k,hi=some (.int k (h:Int))) (h1:l≤h) (h2:h≤c) :
  (Instr.sliceAt t (.slice A len c) lo hi none).run P w = .ok (.slice (offA A c l sz) (h - l) (c - l)) w:=by
 have hb:(Instr.sliceBounds true len c lo hi none).run P w = .ok (l,h,c) w:=by
  have e1:(0:Int)≤(l:Int)∧(l:Int)≤(h:Int):=⟨by omega,by omega⟩
  have e2:(0:Int)≤(h:Int)∧(h:Int)≤(c:Int):=⟨by omega,by omega⟩
  rcases hlo with ⟨rfl,rfl⟩ | ⟨k,rfl⟩ <;> rcases hhi with ⟨rfl,rfl⟩ | ⟨k2,rfl⟩ <;> simp [Instr.sliceBounds,Instr.sliceBound,asIntOf,e1,e2,h1,h2]
 simp [Instr.sliceAt,Instr.slice,run_underlying ht,hb,Bh hs,offA]
theorem Aff {t e:TypeId} {x:Operand} {lo hi:Option Operand} {sz len c:Nat} (l h:Nat) {A:Option Addr} (m:Nat) (hx:evS sl x=some (.slice A len c)) (ht:P.underlying t=some (.slice e)) (hs:cellsOfT P e=some sz)
  (hlo:(lo=none∧l=0)∨∃ k y,lo=some y∧evS sl y=some (.int k (l:Int))) (hhi:(hi=none∧h=len)∨∃ k y,hi=some y∧evS sl y=some (.int k (h:Int))) (h1:l≤h) (h2:h≤c) (hm:h - l=m) :
  Yld P n p own sl (.slice t x lo hi none) ty (.slice (offA A c l sz) m (c - l)):=by
 intro o a w e1 e2 hf hr
 subst hm
 have:=Mp (P:=P) (w:=w) (A:=A) (lo:=lo.map a.eval) (hi:=hi.map a.eval) ht hs
  (hlo.imp (fun ⟨e,z⟩=>⟨by rw [e];rfl,z⟩) (fun ⟨k,y,e,hy⟩=>⟨k,by rw [e];simp [hf.ev hy]⟩))
  (hhi.imp (fun ⟨e,z⟩=>⟨by rw [e];rfl,z⟩) (fun ⟨k,y,e,hy⟩=>⟨k,by rw [e];simp [hf.ev hy]⟩)) h1 h2
 simp [execOp,e1,hf.ev hx,this]
theorem Arr.cut {A:Option Addr} {c:Nat} {xs:List α} (h:Arr p T A c xs) (l m:Nat) (h1:l≤m) (h2:m≤xs.length):Arr p T (offA A c l T.n) (c - l) ((xs.drop l).take (m - l)):=by
 obtain ⟨hc,hl0,cs,hr,hrow⟩:=h
 refine ⟨by rw [List.length_take,List.length_drop];omega,by rw [List.length_take,List.length_drop];omega,(cs.drop (l*T.n)).take ((m - l)*T.n),(hr.drop l).take _,fun hn=>?_⟩
 rw [List.length_take,List.length_drop] at hn
 obtain ⟨ad,e,hcells⟩:=hrow (by omega)
 subst e
 refine ⟨ad.add (l*T.n),?_,hcells.part _ _⟩
 unfold offA
 rw [if_neg (by omega)]
 rfl
theorem Arr.cut_from {A:Option Addr} {c:Nat} {xs:List α} (h:Arr p T A c xs) (l:Nat) (h1:l≤xs.length):Arr p T (offA A c l T.n) (c - l) (xs.drop l):=by
 have:=h.cut l xs.length h1 (Nat.le_refl _)
 rwa [List.take_of_length_le (by simp)] at this
theorem Je (l:List UInt8):(mkS l).toList=l:=by
 have:∀ (b:ByteArray) (i:Nat) (r:List UInt8),ByteArray.toList.loop b i r=r.reverse++b.data.toList.drop i:=by
  intro b
  have key:∀ (k i:Nat) (r:List UInt8),b.size - i=k→ByteArray.toList.loop b i r=r.reverse++b.data.toList.drop i:=by
   intro k
   induction k with
   | zero =>
    intro i r hk
    rw [ByteArray.toList.loop.eq_1,if_neg (by omega),List.drop_of_length_le (by rw [Array.length_toList];have:b.size=b.data.size:=rfl;omega)]
    simp
   | succ k ih =>
    intro i r hk
    have hlt:i < b.size:=by omega
    rw [ByteArray.toList.loop.eq_1,if_pos hlt,ih (i+1) _ (by omega)]
    have hlt':i < b.data.toList.length:=by rw [Array.length_toList];exact hlt
    rw [List.drop_eq_getElem_cons hlt']
    have hg:b.get! i=b.data.toList[i]:=by
     simp only [ByteArray.get!]
     rw [getElem!_pos b.data i (by rw [Array.length_toList] at hlt';exact hlt')]
     rw [Array.getElem_toList]
    rw [hg,List.reverse_cons,List.append_assoc]
    rfl
  exact fun i r=>key _ i r rfl
 have:=this (mkS l) 0 []
 unfold ByteArray.toList
 rw [this]
 simp [mkS]
theorem Fm (l:List UInt8):(mkS l).size=l.length:=by show l.toArray.size=_;simp
theorem Vx {cs:List Value}:∀ {l:List UInt8},Reps Ia p cs l→cs=l.map fun x=> .int .u8 (x.toNat:Int)
 | l,h=>by
  induction l generalizing cs with
  | nil=>exact h
  | cons x l ih =>
   obtain ⟨c1,c2,e,h1,h2⟩:=h
   have h1:c1=[.int .u8 (x.toNat:Int)]:=h1
   subst e;subst h1
   rw [ih h2]
   rfl
theorem Sc {w:World} {src dst e:TypeId} {A:Option Addr} {c:Nat} {l:List UInt8} (hr:p.In w) (h:Arr p Ia A c l) (hs:P.underlying src=some (.slice e)) (he:P.underlying e=some (.int .u8)) (hd:P.underlying dst=some .string) :
  (convert src dst (.slice A l.length c)).run P w = .ok (.string (mkS l)) w:=by
 rw [run_convert_bytes_string w src dst e _ _ _ hs he hd]
 obtain ⟨hc,hl0,cs,hrep,hrow⟩:=h
 have hcs:=Vx hrep
 subst hcs
 by_cases hn:0 < l.length
 ·obtain ⟨ad,rfl,hcells⟩:=hrow hn
  have hl:(loadCells ad l.length).run P w = .ok ((l.map fun x=>(x.toNat:Int)).map (Value.int .u8)).toArray w:=by
   have:=Ek (P:=P) (w:=w) (a:=ad) (cs:=l.map fun x=>Value.int .u8 (x.toNat:Int)) (fun j v hj=>hr.cell (hcells j v hj))
   rw [List.length_map] at this
   rw [this,List.map_map]
   rfl
  rw [run_bytesToString w ad _ c _ hl,foldl_push_bytes]
  simp [mkS,ByteArray.empty,ByteArray.emptyWithCapacity,Function.comp_def]
  rfl
 ·have:l=[]:=List.eq_nil_of_length_eq_zero (by omega)
  subst this
  cases A with
  | none=>simp [Conv.bytesToString];rfl
  | some ad=>simp [Conv.bytesToString,loadCells,loadCellsFrom];rfl
theorem AiA {src dst e:TypeId} {x:Operand} {A:Option Addr} {c:Nat} {l:List UInt8} (hx:evS sl x=some (.slice A l.length c)) (h:Arr p Ia A c l) (hs:P.underlying src=some (.slice e)) (he:P.underlying e=some (.int .u8)) (hd:P.underlying dst=some .string) :
  Yld P n p own sl (.convert src dst x) ty (.string (mkS l)):=by
 intro o a w h1 h2 hf hr
 simp [execOp,h1,hf.ev hx,Sc hr.r h hs he hd]
theorem AlI {t u:TypeId} {x y:Operand} {a b:List UInt8} (hx:evS sl x=some (.string (mkS a))) (hy:evS sl y=some (.string (mkS b))):Yld P n p own sl (.binOp .eql t x y u) ty (.bool (a==b)):=by
 refine Sa (Ej hx hy) fun w _=>?_
 simp [execOp,bareO,rhoS,hx,hy,eqGuard,binOp,Op.stringOp,Je]
theorem AlJ {t u:TypeId} {x y:Operand} {a b:List UInt8} (hx:evS sl x=some (.string (mkS a))) (hy:evS sl y=some (.string (mkS b))):Yld P n p own sl (.binOp .neq t x y u) ty (.bool (!(a==b))):=by
 refine Sa (Ej hx hy) fun w _=>?_
 simp [execOp,bareO,rhoS,hx,hy,eqGuard,binOp,Op.stringOp,Je]
end
section
variable {P:Program} {n:Nat} {g:Gh} {own:Own} {sl:Sl} {ty:TypeId} {α:Type} {T:Ty α} {p:Psi}
def Src (w:World) (A:Option Addr) (m:Nat) (news:List Value):Prop:=0 < m→∃ ad,A=some ad∧∀ j u,news[j]? = some u→w.cell? (ad.add j)=some u
theorem Arr.src {A:Option Addr} {c:Nat} {xs:List α} (h:Arr p T A c xs):∃ news,Reps T p news xs∧∀ w,p.In w→Src w A xs.length news:=by
 obtain ⟨hc,hl0,cs,hrep,hrow⟩:=h
 exact ⟨cs,hrep,fun w hw hn=>by obtain ⟨ad,e,hcells⟩:=hrow hn;exact ⟨ad,e,fun j u hu=>hw.cell (hcells j u hu)⟩⟩
theorem Buf.src {et:TypeId} {A:Option Addr} {c:Nat} {k:Option Bk} {xs:List α} (h:Buf p T et (.slice A xs.length c) k xs):∃ news,Reps T p news xs∧∀ w,(∀ b,k=some b→w.heap[b.g]? = some b.obj)→Src w A xs.length news:=by
 rcases h.2 with ⟨h1,h2,h3⟩ | ⟨b,cap,cs,sp,h1,h2,h3,h4,h5⟩
 ·subst h2
  exact ⟨[],rfl,fun w _ hn=>absurd hn (by simp)⟩
 ·refine ⟨cs,h3,fun w hw hn=>?_⟩
  injection h1 with hA _ _
  subst hA
  refine ⟨_,rfl,fun j u hu=>?_⟩
  have:=hw _ h2
  rw [Bz]
  simp [World.cell?,this,Bk.obj_ty]
  rw [List.getElem?_append_left (by rcases Nat.lt_or_ge j cs.length with h | h;exact h;rw [List.getElem?_eq_none h] at hu;cases hu)]
  exact hu
structure AppT (P:Program) (t et:TypeId) (sz bytes:Nat):Prop where
 out:∃ i z,P.underlying t=some (.slice et)∧P.info? et=some i∧i.zero=some z∧i.size=sz∧i.bytes=bytes∧z.cells.size=sz
def appT (P:Program) (t et:TypeId):Option (Nat×Nat) :=
 match P.underlying t,P.info? et with
 | some (.slice e),some i=>match i.zero with
  | some z=>if e=et∧z.cells.size=i.size then some (i.size,i.bytes) else none
  | none=>none
 | _,_=>none
theorem AppT.of {t et:TypeId} {sz bytes:Nat} (h:appT P t et=some (sz,bytes)):AppT P t et sz bytes:=by
 unfold appT at h
 split at h
 ·rename_i e i h1 h2
  split at h
  ·rename_i z hz
   split at h
   ·rename_i hc
    simp only [Option.some.injEq,Prod.mk.injEq] at h
    exact ⟨i,z,by rw [h1,hc.1],h2,hz,h.1,h.2,hc.2.trans h.1⟩
   ·cases h
  ·cases h
 ·cases h
theorem Fk {w:World} {t ty' e:TypeId} {sz:Nat} (ht:P.underlying t=some (.slice e)) (hs:cellsOfT P e=some sz) {A:Option Addr} {l c c2:Nat} (hlc:l≤c) :
  (Builtin.append_ #[t,t] ty' #[.slice A l c,.slice none 0 c2]).run P w = .ok (.slice A l c) w:=by
 cases A <;> simp [Builtin.append_,run_underlying ht,Bh hs,Builtin.lenOf,hlc,Builtin.firstCells,storeCells]
theorem Li {w:World} {own:Own} {t ty' et:TypeId} {bytes:Nat} (ha:AppT P t et T.n bytes) (hs:St w g own) {i:Nat} {v:Value} {k:Option Bk} {xs:List α} (hi:own[i]? = some k) (hb:Buf p T et v k xs)
  {A:Option Addr} {m c:Nat} {news:List Value} {ys:List α} (hm:m=ys.length) (hsrc:Src w A m news) (hrep:Reps T p news ys) (hbytes:(xs.length+ys.length)*bytes≤140737488355328) (hlen:xs.length+ys.length≤140737488355328) :
  ∃ v' k' w',(Builtin.append_ #[t,t] ty' #[v,.slice A m c]).run P w = .ok v' w'∧Buf p T et v' k' (xs++ys)∧St w' g (own.set i k'):=by
 obtain ⟨inf,z,ht,hinf,hz,hsz,hby,hzs⟩:=ha.out
 have hcell:cellsOfT P et=some T.n:=by simp [cellsOfT,hinf,hsz]
 subst hm
 by_cases hy:ys=[]
 ·subst hy
  have hnews:news=[]:=hrep
  obtain ⟨A1,c1,rfl,hc1⟩:=hb.val
  have same:own.set i k=own:=by
   apply List.ext_getElem?
   intro j
   rw [List.getElem?_set]
   split
   ·rename_i e;subst e
    split
    ·exact hi.symm
    ·rename_i hlt;rw [List.getElem?_eq_none (by omega)]
   ·rfl
  refine ⟨.slice A1 xs.length c1,k,w,?_,by simpa using hb,by rw [same];exact hs⟩
  cases A with
  | none=>exact Fk ht hcell hc1
  | some ad=>cases A1 <;> simp [Builtin.append_,run_underlying ht,Bh hcell,Builtin.lenOf,hc1,Builtin.firstCells,loadCells,loadCellsFrom,storeCells]
 ·have hpos:0 < ys.length:=List.length_pos_iff.2 hy
  obtain ⟨ad,rfl,hnews⟩:=hsrc hpos
  have hown:∃ cs,Reps T p cs xs∧w.ownsRow 0 et T.n v xs.length cs∧(∀ b,v.ownBlock=some b→∃ kb,k=some kb∧kb.g=b):=by
   rcases hb.2 with ⟨rfl,rfl,rfl⟩ | ⟨b,cap,cs,sp,rfl,rfl,h3,h4,h5⟩
   ·exact ⟨[],rfl,World.ownsRow_nil w 0 et T.n,fun b hb=>by simp [Value.ownBlock] at hb⟩
   ·refine ⟨cs,h3,⟨h3.len,.inr ⟨b,cap,_,rfl,Nat.zero_le _,hs.has _ (List.mem_of_getElem? hi),?_,h5,by simpa using h4,?_⟩⟩,fun b' hb=>⟨_,rfl,by simpa [Value.ownBlock] using hb⟩⟩
    ·rw [List.length_append,h3.len] at h4
     exact Nat.le_of_mul_le_mul_right (by omega:xs.length*T.n≤cap*T.n) T.pos
    ·simp [← h3.len]
  obtain ⟨cs,hrx,how,hblk⟩:=hown
  obtain ⟨v',w',hrun,how',hgrow,_,hat⟩:=run_append_own_at (P:=P) w 0 t ty' et inf z T.n bytes ht hinf hz hsz hby hzs T.pos v xs.length cs how ad ys.length c news hrep.len hnews (Xw hrep.one) (by simp only [maxLen];omega) hbytes (Nat.zero_le _)
  have hlenpos:0 < xs.length+ys.length:=by omega
  rcases how'.2 with ⟨rfl,hz0⟩ | ⟨b',cap,cur,rfl,_,hheap,hnc,hcm,hcs,htake⟩
  ·omega
  ·refine ⟨_,some ⟨b',et,cur.toList⟩,w',hrun,?_,?_⟩
   ·have hc2:cur.toList=(cs++news)++cur.toList.drop ((xs.length+ys.length)*T.n):=by rw [← htake,List.take_append_drop]
    refine ⟨by rw [List.length_append];exact hlen,.inr ⟨b',cap,cs++news,cur.toList.drop ((xs.length+ys.length)*T.n),by rw [List.length_append],by rw [← hc2],hrx.append hrep,?_,hcm⟩⟩
    rw [← hc2];simpa using hcs
   ·refine hs.swap hi _ hgrow.os hgrow.tape hgrow.output (fun b hb hne=>hgrow.block b hb fun e=>?_) fun k' hk'=>?_
    ·obtain ⟨kb,e1,e2⟩:=hblk b e.symm
     exact hne kb e1 e2.symm
    ·injection hk' with hk'
     subst hk'
     refine ⟨by simpa [Bk.obj_ty] using hheap,?_⟩
     rcases hat with h1 | h1
     ·left
      obtain ⟨kb,e1,e2⟩:=hblk b' (by rw [← h1];rfl)
      exact ⟨kb,e1,e2⟩
     ·right
      have:b'=w.heap.size:=by simpa [Value.ownBlock] using h1
      exact Nat.le_of_eq this.symm
theorem Jf {t et:TypeId} {bytes:Nat} {s x:Operand} (i:Nat) {v:Value} {k:Option Bk} {xs:List α} {A:Option Addr} {m c:Nat} {ys:List α} (p:Psi) (news:List Value) (ha:appT P t et=some (T.n,bytes)) (hs:evS sl s=some v) (hx:evS sl x=some (.slice A m c)) (hi:own[i]? = some k) (hb:Buf p T et v k xs)
  (hm:m=ys.length) (hsrc:∀ w,St w g own→Src w A m news) (hrep:Reps T p news ys) (hlen:xs.length+ys.length≤140737488355328) (hbytes:(xs.length+ys.length)*bytes≤140737488355328) :
  Eff P n g own sl (.call { callee:= .builtin .append,args:=#[s,x],argTypes:=#[t,t] }) ty (fun v' g' own'=>∃ A' c' k',v' = .slice A' (xs++ys).length c'∧g=g'∧own'=own.set i k'∧Buf p T et (.slice A' (xs++ys).length c') k' (xs++ys)):=by
 intro o a w Q K h1 h2 hf hst h
 obtain ⟨v',k',w',hrun,hb',hst'⟩:=Li (P:=P) (ty':=o.type) (AppT.of ha) hst hi hb (c:=c) hm (hsrc w hst) hrep hbytes hlen
 obtain ⟨A',c',rfl,_⟩:=hb'.val
 have:(execOp a.eval o).run P w = .ok (.value (.slice A' (xs++ys).length c')) w':=by
  simp [execOp,h1,resolve,invoke,builtin,hf.ev hs,hf.ev hx,hrun]
 unfold Oper.wp
 rw [this]
 exact h _ _ _ _ (.refl g) hst' ⟨A',c',k',rfl,rfl,rfl,hb'⟩
def buildRow (P:Program) (t:TypeId) (len:Nat) (pv:List (Nat×Value)):Option (TypeId×Array Value) :=
 match P.underlying t with
 | some (.slice elem) =>
  match P.info? elem with
  | some i =>
   if len*i.size > 2 ^ 24 then none else
   match (if len*i.size=0 then some #[] else i.zero.map Value.cells) with
   | some zero=>(Instr.fill (fun j=>some (j*i.size,i.size)) ((Array.range (len*i.size)).map (zero[· % zero.size]!)) pv).map fun c=>(elem,c)
   | none=>none
  | none=>none
 | _=>none
theorem GH {w:World} {t et:TypeId} {len:Nat} {pv:List (Nat×Value)} {cs:List Value} (h:buildRow P t len pv=some (et,cs.toArray)) :
  (Instr.buildSlice t len pv.toArray).run P w = .ok (.slice (some ⟨w.heap.size,0,none⟩) len len) (w.alloc (.cells cs.toArray et)):=by
 unfold buildRow at h
 split at h
 ·rename_i elem hu
  split at h
  ·rename_i inf hinf
   have hsz:(sizeOf elem).run P w = .ok inf.size w:=Bh (by simp [cellsOfT,hinf]) w
   by_cases hbig:len*inf.size > 2 ^ 24
   ·rw [if_pos hbig] at h;cases h
   ·rw [if_neg hbig] at h
    by_cases h0:len*inf.size=0
    ·rw [if_pos h0] at h
     simp only [Option.map_eq_some_iff] at h
     obtain ⟨c,hc,e⟩:=h
     simp only [Prod.mk.injEq] at e
     obtain ⟨rfl,rfl⟩:=e
     unfold Instr.buildSlice
     simp only [run_underlying hu,Sem.run_bind,Result.andThen_ok,hsz,if_neg hbig,if_pos h0,Sem.run_pure,List.toList_toArray,hc]
     simp [newRow,newObj,Sem.run]
    ·rw [if_neg h0] at h
     cases hz:inf.zero with
     | none=>rw [hz] at h;cases h
     | some z =>
      rw [hz] at h
      simp only [Option.map_some,Option.map_eq_some_iff] at h
      obtain ⟨c,hc,e⟩:=h
      simp only [Prod.mk.injEq] at e
      obtain ⟨rfl,rfl⟩:=e
      have hzv:(zeroValue elem).run P w = .ok z w:=by simp [zeroValue,typeInfo,program,Sem.run,bind,Sem.bind,hinf,hz,pure]
      unfold Instr.buildSlice
      simp only [run_underlying hu,Sem.run_bind,Result.andThen_ok,hsz,if_neg hbig,if_neg h0,Sem.run_pure,List.toList_toArray,hzv,hc]
      simp [newRow,newObj,Sem.run]
  ·cases h
 ·cases h
theorem Mq {t et:TypeId} {len:Nat} {parts:Array (Nat×Operand)} (pv:List (Nat×Value)) (cs:List Value) (hp:parts.toList.map (fun q=>(evS sl q.2).map fun v=>(q.1,v))=pv.map some) (h:buildRow P t len pv=some (et,cs.toArray)) :
  Eff P n g own sl (.buildSlice t len parts) ty (fun v' g' own'=>∃ b,v' = .slice (some ⟨b,0,none⟩) len len∧g=g'∧own'=some ⟨b,et,cs⟩::own):=by
 intro o a w Q K h1 h2 hf hs hk
 have hpv:parts.map (fun q=>(q.1,a.eval q.2))=pv.toArray:=by
  apply Array.toList_inj.1
  rw [Array.toList_map,List.toList_toArray]
  have:∀ (l:List (Nat×Operand)) (pv:List (Nat×Value)),l.map (fun q=>(evS sl q.2).map fun v=>(q.1,v))=pv.map some→l.map (fun q=>(q.1,a.eval q.2))=pv:=by
   intro l
   induction l with
   | nil=>intro pv h;cases pv with | nil=>rfl | cons _ _=>simp at h
   | cons q l ih =>
    intro pv h
    cases pv with
    | nil=>simp at h
    | cons u pv =>
     simp only [List.map_cons,List.cons.injEq,Option.map_eq_some_iff] at h
     obtain ⟨⟨v,hv,e⟩,h3⟩:=h
     rw [List.map_cons,ih pv h3,hf.ev hv,e]
  exact this _ _ hp
 have:(execOp a.eval o).run P w = .ok (.value (.slice (some ⟨w.heap.size,0,none⟩) len len)) (w.alloc (.cells cs.toArray et)):=by
  have e:=GH (w:=w) h
  simp only [execOp,h1]
  rw [show (parts.map fun x=>match x with | (i,x)=>(i,a.eval x))=pv.toArray from hpv]
  simp [e]
 unfold Oper.wp
 rw [this]
 exact hk _ _ _ _ (.refl g) (hs.alloc et cs) ⟨_,rfl,rfl,rfl⟩
theorem Tx {et:TypeId} {b len:Nat} {cs:List Value} {xs:List α} (h:Reps T p cs xs) (hl:xs.length=len) (hm:len≤140737488355328):Buf p T et (.slice (some ⟨b,0,none⟩) len len) (some ⟨b,et,cs⟩) xs:=by
 subst hl
 exact ⟨hm,.inr ⟨b,xs.length,cs,[],rfl,by simp,h,by simpa using h.len,by simp only [maxLen];omega⟩⟩
theorem Buf.arr {et:TypeId} {A:Option Addr} {c:Nat} {k:Bk} {xs:List α} (h:Buf p T et (.slice A xs.length c) (some k) xs):Arr (p.add k) T A c xs∨p.m k.g≠none:=by
 rcases h.2 with ⟨_,_,h3⟩ | ⟨b,cap,cs,sp,h1,h2,h3,h4,h5⟩
 ·cases h3
 ·injection h2 with h2
  injection h1 with hA _ hc
  subst hA;subst hc;subst h2
  by_cases hp:p.m b=none
  ·left
   refine ⟨?_,h.1,cs,h3.mono (Psi.le_add hp),fun _=>⟨_,rfl,fun j v hj=>?_⟩⟩
   ·rw [List.length_append,h3.len] at h4
    exact Nat.le_of_mul_le_mul_right (by omega:xs.length*T.n≤c*T.n) T.pos
   ·rw [Bz]
    have hm:(p.add ⟨b,et,cs++sp⟩).m b=some (.cells (cs++sp).toArray et (0,0)):=if_pos rfl
    simp only [Psi.cell?,hm]
    simp
    rw [List.getElem?_append_left (by rcases Nat.lt_or_ge j cs.length with h | h;exact h;rw [List.getElem?_eq_none h] at hj;cases hj)]
    exact hj
  ·exact .inr hp
theorem Gy {K:Act→World→Prop} (i:Nat) {et:TypeId} {A:Option Addr} {c:Nat} {k:Option Bk} {xs:List α} (hi:own[i]? = some k) (hb:Buf g.b T et (.slice A xs.length c) k xs)
  (h:∀ g',g.le g'→Arr g'.b T A c xs→WPq K n g' (own.set i none) sl):WPq K n g own sl:=by
 intro a w hf hs
 cases k with
 | none =>
  rcases hb.2 with ⟨h1,rfl,_⟩ | ⟨b,cap,cs,sp,h1,h2,_⟩
  ·have same:own.set i none=own:=by
    apply List.ext_getElem?
    intro j
    rw [List.getElem?_set]
    split
    ·rename_i e;subst e
     split
     ·exact hi.symm
     ·rename_i hlt;rw [List.getElem?_eq_none (by omega)]
    ·rfl
   have:=h g (.refl g) Arr.nil
   rw [same] at this
   exact this a w hf hs
  ·cases h2
 | some kb =>
  obtain ⟨hle,hs'⟩:=hs.publish hi
  have hfree:=g.br.none_ (hs.free kb (Own.get_mem hi))
  rcases hb.arr with h1 | h1
  ·exact h _ hle h1 a w hf hs'
  ·exact absurd hfree h1
theorem AiR {t et:TypeId} {x y:Operand} {kx ky:IntKind} {bytes:Nat} (m:Nat) {zs:List Value} {z:α} (ha:appT P t et=some (T.n,bytes)) (hx:evS sl x=some (.int kx (m:Int))) (hy:evS sl y=some (.int ky (m:Int))) (hz:zeroOf P et=some zs.toArray) (hr:T.rep p zs z) (hbytes:bytes*m≤281474976710656) (hm:m≤140737488355328) :
  Eff P n g own sl (.makeSlice t x y) ty (fun v' g' own'=>∃ b cs,v' = .slice (some ⟨b,0,none⟩) m m∧g=g'∧own'=some ⟨b,et,cs⟩::own∧Reps T p cs (List.replicate m z)∧Buf p T et (.slice (some ⟨b,0,none⟩) m m) (some ⟨b,et,cs⟩) (List.replicate m z)):=by
 intro o a w Q K h1 h2 hf hs h
 obtain ⟨inf,z0,ht,hinf,hz0,hsz,hby,hzs⟩:=(AppT.of ha).out
 have hzc:z0.cells=zs.toArray:=by
  unfold zeroOf at hz
  rw [hinf] at hz
  simpa [hz0] using hz
 have hc:∀ m:Nat,Reps T p (madeCells z0.cells (m*T.n)).toList (List.replicate m z):=by
  intro m
  induction m with
  | zero=>simp [madeCells];rfl
  | succ m ih =>
   have e:(madeCells z0.cells ((m+1)*T.n)).toList=zs++(madeCells z0.cells (m*T.n)).toList:=by
    rw [hzc]
    have hzl:zs.length=T.n:=T.len hr
    apply List.ext_getElem?
    intro j
    rw [List.getElem?_append]
    simp only [madeCells,Array.toList_map,Array.toList_range,List.getElem?_map]
    by_cases hj:j < zs.length
    ·rw [if_pos hj]
     have hj2:j < (m+1)*T.n:=by rw [Nat.succ_mul];omega
     rw [List.getElem?_range hj2]
     simp only [Option.map_some,List.size_toArray,Nat.mod_eq_of_lt hj]
     rw [List.getElem?_eq_getElem hj]
     simp [hj]
    ·rw [if_neg hj]
     by_cases hj2:j < (m+1)*T.n
     ·have hj3:j - zs.length < m*T.n:=by rw [Nat.succ_mul] at hj2;omega
      rw [List.getElem?_range hj2,List.getElem?_range hj3]
      simp only [Option.map_some,List.size_toArray]
      congr 2
      exact (Nat.mod_eq_sub_mod (by omega))
     ·have hj3:¬ j - zs.length < m*T.n:=by rw [Nat.succ_mul] at hj2;omega
      rw [List.getElem?_eq_none (by simpa using hj2),List.getElem?_eq_none (by simpa using hj3)]
   rw [e,List.replicate_succ]
   exact ⟨zs,_,rfl,hr,ih⟩
 have hrep:=hc m
 have hb:Buf p T et (.slice (some ⟨w.heap.size,0,none⟩) m m) (some ⟨w.heap.size,et,(madeCells z0.cells (m*T.n)).toList⟩) (List.replicate m z):=Tx hrep List.length_replicate hm
 have hrun:=run_make (P:=P) w t et inf z0 ht hinf hz0 kx ky (m:Int) (m:Int) (by omega) (by omega) (by rw [hby];have h9:((bytes*m:Nat):Int)≤281474976710656:=Int.ofNat_le.2 hbytes;rw [Int.natCast_mul] at h9;exact h9) (by omega)
 have:(execOp a.eval o).run P w = .ok (.value (.slice (some ⟨w.heap.size,0,none⟩) m m)) (w.alloc (.cells (madeCells z0.cells (m*T.n)) et)):=by
  simp only [Int.toNat_natCast,hsz] at hrun
  simp [execOp,h1,hf.ev hx,hf.ev hy,hrun]
 unfold Oper.wp
 rw [this]
 have hal:=hs.alloc et (madeCells z0.cells (m*T.n)).toList
 rw [Array.toArray_toList] at hal
 exact h _ _ _ _ (.refl g) hal ⟨_,_,rfl,rfl,rfl,hrep,hb⟩
end
def finOk (ops:Array Oper) (lds fin:List Nat):Bool:=fin.all fun k=>match ops[k]? with
 | some o=>lds.all fun i=>o.after.any fun e=>Region.binds .any e&&e.on==i
 | none=>true
section
variable {P:Program} {ops:Array Oper} {Q:Exit→Act→World→Prop} {S:World→Prop} {lds fin:List Nat}
end
section
variable {P:Program} {ops:Array Oper} {Q:Exit→Act→World→Prop} {n:Nat} {lds fin:List Nat} {p:Psi} {K:Own}
structure RegOk (P:Program) (ops:Array Oper) (Q:Exit→Act→World→Prop) (lds fin:List Nat):Prop where
 fin:finOk ops lds fin=true
 sel:Region.noSelect ops=true
 panic:∀ c (a:Act) (d:Tmp) (v:Value) w,Q (.panic c) (a.put (some d) v) w→Q (.panic c) a w
def keepK (K own:Own):Prop:=∀ k,some k∈K→some k∈own
end
end Go.Proofs.YtpleflcfaecojaaGreat
