/-
The third engine, part 15: calls of functions that are told. Conditions: each lemma's own.
-/
import Derived.Test.YtpleflcfaecojaaGreatM5
import Derived.Laws.Tables
namespace Go.Proofs.YtpleflcfaecojaaGreat
set_option linter.unusedVariables false
set_option linter.unusedSimpArgs false
open Go.RowKit
def renC (rn:Nat→Nat):CV→CV
 | .ptr b o=> .ptr (rn b) o
 | .own b=> .own (rn b)
 | .cap f c=> .cap (renC rn f) (renC rn c)
 | .ifc t c=> .ifc t (renC rn c)
 | c=>c
def Afu (rn:Nat→Nat):V1→V1
 | .c x=> .c (renC rn x)
 | .agg l=> .agg (l.map (renC rn))
def renS (rn:Nat→Nat):SV→SV
 | .v x=> .v (Afu rn x)
 | .tup l=> .tup (l.map (Afu rn))
 | x=>x
def renB (rn:Nat→Nat):BV→BV
 | .cells t l=> .cells t (l.map (renC rn))
 | x=>x
structure RenOk (rn:Nat→Nat) (ρ:Env) (bl:List BV) (ρ':Env) (bl':List BV):Prop where
 at_:∀ (j:Nat) (bv:BV),bl[j]? = some bv→bv.owned=true→ρ' (rn j)=ρ j∧∃ bv':BV,bl'[rn j]? = some bv'∧bv'.isHole=false∧bv'.len=bv.len
section
variable {rn:Nat→Nat} {ρ ρ':Env} {bl bl':List BV} {ψ:Psi} {g:Gh}
theorem NY {b:Nat} (h:refOk bl b=true):∃ bv,bl[b]? = some bv∧bv.owned=true:=by
 unfold refOk at h
 split at h
 ·rename_i bv e;exact ⟨bv,e,h⟩
 ·cases h
theorem DB (hR:RenOk rn ρ bl ρ' bl') (hψ:ψ.le g.b):∀ {x:CV} {v:Value},baseC bl x=true→RealC (ghB ψ) ρ bl x v→RealC g ρ' bl' (renC rn x) v
 | .int _ _,_,_,h=>h
 | .bool _,_,_,h=>h
 | .str _,_,_,h=>h
 | .k _,_,_,h=>h
 | .ptr b o,v,hb,⟨_,a,ha,hv⟩=>by
  obtain ⟨bv,e1,e2⟩:=NY hb
  obtain ⟨h1,bv',h2,h3,_⟩:=hR.at_ b bv e1 e2
  exact ⟨⟨bv',h2,h3⟩,a,by rw [h1];exact ha,hv⟩
 | .own b,v,hb,⟨_,n,hv,hl⟩=>by
  obtain ⟨bv,e1,e2⟩:=NY hb
  obtain ⟨h1,bv',h2,h3,h4⟩:=hR.at_ b bv e1 e2
  refine ⟨⟨bv',h2,h3⟩,n,by rw [h1];exact hv,fun bv2 m e3 e4=>?_⟩
  rw [h2] at e3;injection e3 with e3;subst e3
  exact hl bv m e1 (h4.symm.trans e4)
 | .ro _ _ true,v,_,⟨A,cap,hv,ha⟩=>⟨A,cap,hv,Arr.mono ha hψ⟩
 | .fn _,_,_,h=>h
 | .cap f c,_,hb,⟨f0,caps,vc,h1,h2,h3⟩=>by
  simp only [baseC,Bool.and_eq_true] at hb
  exact ⟨f0,caps,vc,DB hR hψ hb.1 h1,DB hR hψ hb.2 h2,h3⟩
 | .ifc t c,_,hb,⟨u,h1,h2⟩=>⟨u,DB hR hψ (x:=c) hb h1,h2⟩
theorem Fy {α β γ:Type} {f:α→β} {R:β→γ→Prop}:∀ {l:List α} {m:List γ},AV (fun x y=>R (f x) y) l m→AV R (l.map f) m
 | [],[],_=>trivial
 | _::_,_::_,h=>⟨h.1,Fy h.2⟩
 | [],_::_,h=>h.elim
 | _::_,[],h=>h.elim
theorem Ly (hR:RenOk rn ρ bl ρ' bl') (hψ:ψ.le g.b) {x:V1} {v:Value} (hb:NW bl x=true) (h:Cn (ghB ψ) ρ bl x v):Cn g ρ' bl' (Afu rn x) v:=by
 cases x with
 | c x=>exact DB hR hψ hb h
 | agg l =>
  obtain ⟨cs,e,h⟩:=h
  exact ⟨cs,e,Fy (Da (p:=baseC bl) (R:=RealC (ghB ψ) ρ bl) (S:=fun x y=>RealC g ρ' bl' (renC rn x) y) (fun _ _ h1 h2=>DB hR hψ h1 h2) hb h)⟩
theorem VK (hR:RenOk rn ρ bl ρ' bl') (hψ:ψ.le g.b) {x:SV} {v:Value} (hb:baseS bl x=true) (h:RealS (ghB ψ) ρ bl x v):RealS g ρ' bl' (renS rn x) v:=by
 cases x with
 | v x=>exact Ly hR hψ hb h
 | tup l =>
  obtain ⟨cs,e,h⟩:=h
  exact ⟨cs,e,Fy (Da (p:=NW bl) (R:=Cn (ghB ψ) ρ bl) (S:=fun x y=>Cn g ρ' bl' (Afu rn x) y) (fun _ _ h1 h2=>Ly hR hψ h1 h2) hb h)⟩
 | und=>cases hb
 | any=>trivial
theorem Lz (hR:RenOk rn ρ bl ρ' bl') (hψ:ψ.le g.b) {bv:BV} {k:Option Bk} {e:Option Addr×Nat} (hb:baseB bl bv=true) (h:BlkR (ghB ψ) ρ bl k e bv):BlkR g ρ' bl' k e (renB rn bv):=by
 cases bv with
 | hole=>cases hb
 | no=>exact h
 | cells t l =>
  obtain ⟨b,cs,h1,h2,h3⟩:=h
  exact ⟨b,cs,h1,h2,Fy (Da (p:=baseC bl) (R:=RealC (ghB ψ) ρ bl) (S:=fun x y=>RealC g ρ' bl' (renC rn x) y) (fun _ _ h1 h2=>DB hR hψ h1 h2) hb h3)⟩
 | row c et xs=>exact Buf.mono h hψ
 | fz c xs=>cases hb
 | lent l=>cases hb
theorem Jx (bv:BV):(renB rn bv).len=bv.len:=by cases bv <;> rfl
theorem Io (bv:BV):(renB rn bv).isHole=bv.isHole:=by cases bv <;> rfl
end
theorem GA:∀ (L:List (Nat×BV)) (bl:List BV),(setUpd bl L).length=bl.length
 | [],_=>rfl
 | (b,v)::L,bl=>by rw [setUpd,GA L,List.length_set]
theorem GB:∀ {L:List (Nat×BV)} {bl:List BV} {i:Nat},(∀ p∈L,p.1≠i)→(setUpd bl L)[i]? = bl[i]?
 | [],_,_,_=>rfl
 | (b,v)::L,bl,i,h=>by
  rw [setUpd,GB fun p hp=>h p (List.mem_cons_of_mem _ hp),Dv (h (b,v) (List.mem_cons_self ..))]
theorem LC:∀ {L:List (Nat×BV)} {bl:List BV} {i:Nat} {v:BV},(i,v)∈L→(L.map Prod.fst).Nodup→i < bl.length→(setUpd bl L)[i]? = some v
 | [],_,_,_,h,_,_=>by cases h
 | (b,u)::L,bl,i,v,h,hn,hl=>by
  simp only [List.map_cons,List.nodup_cons] at hn
  rw [setUpd]
  rcases List.mem_cons.1 h with e | h
  ·injection e with e1 e2;subst e1;subst e2
   rw [GB fun p hp e=>hn.1 (by rw [← e];exact List.mem_map_of_mem hp)]
   simp [List.getElem?_set,hl]
  ·exact LC h hn.2 (by rw [List.length_set];exact hl)
theorem Jy:∀ (l:List BV) (bl:List BV) (f:Nat),(setNew bl f l).length=bl.length
 | [],_,_=>rfl
 | v::l,bl,f=>by rw [setNew,Jy l,List.length_set]
theorem Ff:∀ {l:List BV} {bl:List BV} {f i:Nat},(i < f∨f+l.length≤i)→(setNew bl f l)[i]? = bl[i]?
 | [],_,_,_,_=>rfl
 | v::l,bl,f,i,h=>by
  rw [List.length_cons] at h
  rw [setNew,Ff (by omega),Dv (by omega)]
theorem LD:∀ {l:List BV} {bl:List BV} {f m:Nat} {v:BV},l[m]? = some v→f+l.length≤bl.length→(setNew bl f l)[f+m]? = some v
 | [],_,_,_,_,h,_=>by simp at h
 | u::l,bl,f,0,v,h,hl=>by
  simp at h;subst h
  rw [List.length_cons] at hl
  rw [setNew,Ff (.inl (by omega)),Nat.add_zero]
  simp [List.getElem?_set];omega
 | u::l,bl,f,m+1,v,h,hl=>by
  rw [List.length_cons] at hl
  rw [setNew,show f+(m+1)=f+1+m by omega]
  exact LD (by simpa using h) (by rw [List.length_set];omega)
def fnOf:CV→Option (FuncId×List CV)
 | .fn f=>some (f,[])
 | .cap g c=>match fnOf g with | some (f,l)=>some (f,l++[c]) | none=>none
 | _=>none
def evL (sl:List (Nat×SV)):List Operand→Option (List SV)
 | []=>some []
 | x::l=>match evH sl x,evL sl l with | some v,some m=>some (v::m) | _,_=>none
structure Cand where
 S:FSp
 s:AS
 st0:HSt
 t:HT S.ps.tr
def mthOf (P:Program) (t:TypeId) (name:String):Option FuncId:=match P.info? t,P.underlying t with
 | some i,some (.pointer _)=>(match i.methods.find? (·.name==name) with
  | some m=>(match m.path.toList,m.func with | [],some (f,true)=>some f | _,_=>none)
  | none=>none)
 | _,_=>none
def candOf (asl:List (Nat×SV)) (blm:List BV) (S:FSp):Option Cand:=match Nat.beq S.ps.sl.length asl.length&&isArgs 0 S.ps.sl,absSt true S.ps (nones S.ps.bl.length) ⟨asl,blm⟩ with
 | true,some s=>(match conSt id S.ps s.ds with
  | some st0=>(match absChk s st0.bl&&Nat.beq s.bl.length blm.length,pack S.ps.tr s.ds with
   | true,some t=>some ⟨S,s,st0,t⟩
   | _,_=>none)
  | none=>none)
 | _,_=>none
def firstC (asl:List (Nat×SV)) (blm:List BV):List FSp→Option Cand
 | []=>none
 | S::l=>match candOf asl blm S with | some c=>some c | none=>firstC asl blm l
def rnOf (np f:Nat) (σ:List (Option Nat)) (j:Nat):Nat:=cond (Nat.blt j np) (match sigAt σ j with | some i=>i | none=>0) (f+(j - np))
def updL (rn:Nat→Nat) (σ:List (Option Nat)):Nat→List BV→List BV→List (Nat×BV)
 | j,b0::l,b::m=>match b0.owned,sigAt σ j with
  | true,some i=>(i,renB rn b)::updL rn σ (j+1) l m
  | _,_=>updL rn σ (j+1) l m
 | _,_,_=>[]
def callE (f:Nat) (c:Cand) (str:HSt) (v:SV):HE :=
 let rn:=rnOf c.st0.bl.length f c.s.σ
 ⟨renS rn v,updL rn c.s.σ 0 c.st0.bl str.bl,(str.bl.drop c.st0.bl.length).map (renB rn)⟩
def refC:CV→List Nat
 | .ptr b _=>[b]
 | .own b=>[b]
 | .eo b _ _ _=>[b]
 | .vw b _ _ _=>[b]
 | .cap f c=>refC f++refC c
 | .ifc _ c=>refC c
 | _=>[]
def AiC:V1→List Nat
 | .c x=>refC x
 | .agg l=>l.flatMap refC
def refsS:SV→List Nat
 | .v x=>AiC x
 | .tup l=>l.flatMap AiC
 | _=>[]
def refsB:BV→List Nat
 | .cells _ l=>l.flatMap refC
 | .lent l=>l.flatMap refC
 | _=>[]
def reachB (bl:List BV):Nat→List Nat→List Nat→List Nat
 | 0,_,seen=>seen
 | _+1,[],seen=>seen
 | d+1,b::todo,seen=>cond (natMem b seen) (reachB bl d todo seen) (match bl[b]? with
  | some bv=>reachB bl d (refsB bv++todo) (b::seen)
  | none=>reachB bl d todo seen)
def frzAll:List Nat→Tr→Tr
 | [],k=>k
 | b::l,k=> .frz b (frzAll l k)
def ownC:List (Option Nat)→List BV→Bool
 | x::is,b::l=>(!b.owned || x.isSome)&&ownC is l
 | _,_=>true
def altT:(l:List Sch)→ALT l→(HSt→Tr)→Tr
 | [],_,_=> .no
 | [s],x,k=>match conT s x with | some st=>k st | none=> .no
 | s::t::l,x,k=> .alt x (fun a=>match conT s a with | some st=>k st | none=> .no) (fun b=>altT (t::l) b k)
def callN (f m:Nat) (c:Cand):Tr:= .bnd (c.S.run c.t) fun r=>altT c.S.rs r fun str=>(match getH str.sl 0,Nat.ble c.st0.bl.length str.bl.length&&(Nat.ble (str.bl.length - c.st0.bl.length) m&&ownC (ownIds c.s.σ 0 c.st0.bl) str.bl) with
  | some v,true=> .done (callE f c str v)
  | _,_=> .no)
def callT (P:Program) (tbl:FuncId→List FSp) (fr m:Nat) (fn:FuncId) (uav:List SV):Tr:=cond (enters P fn) (
   let asl:=argH 0 uav
   let ids:=fun bl=>reachB bl 1000 (uav.flatMap refsS) []
   .sub ids fun blm=>match firstC asl blm (tbl fn) with
    | some c=>(match c.s.fl with
     | []=>callN fr m c
     | fl=>frzAll fl (.sub ids fun blm2=>match firstC asl blm2 (tbl fn) with
      | some c2=>(match c2.s.fl with | []=>callN fr m c2 | _=> .no)
      | none=> .no))
    | none=> .no) .no
def tCall (P:Program) (tbl:FuncId→List FSp) (sl:List (Nat×SV)) (fr m:Nat) (x:Operand) (args:List Operand):Tr:=match evH sl x,evL sl args with
 | some (.v (.c fv)),some avs=>(match fnOf fv with
  | some (fn,caps)=>callT P tbl fr m fn (avs++caps.map vC)
  | none=> .no)
 | _,_=> .no
def tInv (P:Program) (tbl:FuncId→List FSp) (sl:List (Nat×SV)) (fr m:Nat) (x:Operand) (name:String) (args:List Operand):Tr:=match evH sl x,evL sl args with
 | some (.v (.c (.ifc t c))),some avs=>(match mthOf P t name with
  | some fn=>callT P tbl fr m fn (vC c::avs)
  | none=> .no)
 | _,_=> .no
section
variable {P:Program} {n:Nat} {ty:TypeId} {sl:List (Nat×SV)} {bl bl':List BV} {v:SV} {f:Nat} {g:Gh} {ρ:Env} {own:Own} {fr:Sl}
theorem LE:∀ {l:List Sch} {x:ALT l} {k:HSt→Tr},Told f (altT l x k) bl bl' v→∃ st,altC l x=some st∧Told f (k st) bl bl' v
 | [],_,_,h=>h.elim
 | [s],x,k,h=>by
  unfold altT at h
  split at h
  ·rename_i st hst;exact ⟨st,hst,h⟩
  ·exact h.elim
 | s::t::l,x,k,h=>by
  unfold altT at h
  rcases h with ⟨a,rfl,h⟩ | ⟨b,rfl,h⟩
  ·dsimp only at h
   split at h
   ·rename_i st hst;exact ⟨st,hst,h⟩
   ·exact h.elim
  ·exact LE (l:=t::l) h
theorem LF:∀ {c:CV} {fn:FuncId} {caps:List CV} {v:Value},fnOf c=some (fn,caps)→RealC g ρ bl c v→∃ cs,v = .func (.func fn) #[] cs.toArray∧AV (RealC g ρ bl) caps cs
 | .fn f0,fn,caps,v,h,hr=>by
  injection h with h;injection h with h1 h2;subst h1;subst h2
  exact ⟨[],hr,trivial⟩
 | .cap f0 c,fn,caps,v,h,hr=>by
  unfold fnOf at h
  split at h
  ·rename_i f1 l hl
   injection h with h;injection h with h1 h2;subst h1;subst h2
   obtain ⟨fx,cx,vc,h3,h4,rfl⟩:=hr
   obtain ⟨cs,e,h5⟩:=LF hl h3
   injection e with e1 _ e2
   subst e1;subst e2
   exact ⟨cs++[vc],by simp,AV.app (l2:=[c]) (m2:=[vc]) ⟨h4,trivial⟩ h5⟩
  ·cases h
theorem Jz (hr:Rl g ρ ⟨sl,bl⟩ own fr):∀ {l:List Operand} {m:List SV},evL sl l=some m→∃ vs,l.map (evS fr)=vs.map some∧AV (RealS g ρ bl) m vs
 | [],m,h=>by injection h with h;subst h;exact ⟨[],rfl,trivial⟩
 | x::l,m,h=>by
  unfold evL at h
  split at h
  ·rename_i u k h1 h2
   injection h with h;subst h
   obtain ⟨w,h3,h4⟩:=Ah hr h1
   obtain ⟨vs,h5,h6⟩:=Jz hr h2
   exact ⟨w::vs,by rw [List.map_cons,List.map_cons,h3,h5],h4,h6⟩
  ·cases h
theorem LG:∀ {svs:List SV} {vs:List Value} {i t:Nat} {s:SV},AV (RealS g ρ bl) svs vs→getH (argH i svs) t=some s→∃ v,getS (argS i vs) t=some v∧RealS g ρ bl s v
 | [],_,_,_,_,_,h=>by cases h
 | s0::svs,v0::vs,i,t,s,hr,h=>by
  simp only [argH,getH] at h
  simp only [argS,getS]
  cases hb:Nat.beq i t with
  | true=>rw [hb] at h;injection h with h;subst h;exact ⟨v0,rfl,hr.1⟩
  | false=>rw [hb] at h;exact LG hr.2 h
 | _::_,[],_,_,_,hr,_=>hr.elim
theorem NZ:∀ (i:Nat) (l:List SV),(argH i l).length=l.length
 | _,[]=>rfl
 | i,x::l=>by simp [argH,NZ (i+1) l]
end
section
variable {P:Program} {n:Nat} {ty:TypeId} {sl:List (Nat×SV)} {bl bl':List BV} {v:SV} {f:Nat} {g:Gh} {ρ:Env} {own:Own} {fr:Sl}
theorem XZ {fn:FuncId} {op:Op} {us:List Value} {is:List (Option Nat)} {post:Value→Psi→Own→Prop} (hrun:∀ (o:Oper) (a:Act) (w:World),o.op=op→Fr n a fr→(execOp a.eval o).run P w = .ok (.enter fn us.toArray) w)
  (hn:(is.filterMap id).Nodup) (hc:∀ g',g.r.le g'.r→g'.b=g.b→(∀ k,some k∈dropIds 0 (is.filterMap id) own→g'.r.m k.g=some k.obj)→Ctr P fn us g' (pickP is own) post) :
  Eff P n g own fr op ty (fun v g' own'=>∃ sel',own'=sel'++dropIds 0 (is.filterMap id) own∧post v g'.b sel'):=by
 intro o a w Q K h1 h2 hf hs h
 have hs':=hs.part hn
 obtain ⟨gl,er,eb,hst0,hl⟩:=hs'.lend
 unfold Oper.wp
 rw [hrun o a w h1 hf]
 simp only [Oper.upon]
 have hnd:(Own.ids (dropIds 0 (is.filterMap id) own)).Nodup:=by
  have hn:=hs'.nodup
  rw [show Own.ids (pickP is own++dropIds 0 (is.filterMap id) own)=Own.ids (pickP is own)++Own.ids (dropIds 0 (is.filterMap id) own) from List.filterMap_append] at hn
  exact (List.nodup_append.1 hn).2.1
 refine (hc gl hl eb (fun k hk=>by rw [er];exact FT hnd hk) w hst0).mono fun e w' hp=>?_
 obtain ⟨v,g1,sel',rfl,hle,hst,hpost⟩:=hp
 obtain ⟨g2,e2,hle2,hst2⟩:=hs'.unlend er eb hle hst hl
 exact h v g2 _ w' hle2 hst2 ⟨sel',rfl,by rw [e2];exact hpost⟩
theorem JA {asl:List (Nat×SV)} {blm:List BV} {c:Cand}:∀ {l:List FSp},firstC asl blm l=some c→∃ S∈l,candOf asl blm S=some c
 | [],h=>by cases h
 | S::l,h=>by
  unfold firstC at h
  split at h
  ·rename_i c' hc
   injection h with h;subst h
   exact ⟨S,List.mem_cons_self ..,hc⟩
  ·obtain ⟨S',h1,h2⟩:=JA h
   exact ⟨S',List.mem_cons_of_mem _ h1,h2⟩
theorem IE:∀ {l:List Nat} {k:Tr} {bl:List BV},Told f (frzAll l k) bl bl' v→∃ bl1,FrzTo bl bl1∧Told f k bl1 bl' v
 | [],k,bl,h=>⟨bl,.refl,h⟩
 | b::l,k,bl,h=>by
  obtain ⟨bv,fv,e1,e2,h⟩:=h
  cases bv <;> first | (cases e2;done) | skip
  injection e2 with e2;subst e2
  obtain ⟨bl1,h1,h2⟩:=IE h
  exact ⟨bl1,.step e1 h1,h2⟩
theorem VL {asl:List (Nat×SV)} {blm:List BV} {S:FSp} {c:Cand} (h:candOf asl blm S=some c):c.S=S∧c.S.ps.sl.length=asl.length∧absSt true c.S.ps (nones c.S.ps.bl.length) ⟨asl,blm⟩=some c.s∧conSt id c.S.ps c.s.ds=some c.st0∧absChk c.s c.st0.bl=true∧conT c.S.ps c.t=some c.st0:=by
 unfold candOf at h
 split at h
 ·rename_i s h1 hs
  split at h
  ·rename_i st0 hc
   split at h
   ·rename_i t hk hp
    injection h with h;subst h
    simp only [Bool.and_eq_true] at h1 hk
    exact ⟨rfl,Nat.eq_of_beq_eq_true h1.1,hs,hc,hk.1,by unfold conT;rw [Ms _ hp];exact hc⟩
   ·cases h
  ·cases h
 ·cases h
theorem IF {σ:List (Option Nat)} {l:List BV} {j b:Nat} (h:(ownIds σ 0 l)[j]? = some (some b)):∃ y,l[j]? = some y∧y.owned=true∧sigAt σ j=some b:=by
 have hlt:j < l.length:=by rw [← CX σ 0 l];exact AU h
 have:=DL σ l 0 j (List.getElem?_eq_getElem hlt)
 rw [h,Nat.zero_add] at this
 injection this with this
 cases hy:l[j].owned with
 | true=>rw [hy] at this;exact ⟨_,List.getElem?_eq_getElem hlt,hy,this.symm⟩
 | false=>rw [hy] at this;cases this
theorem Ip {σ:List (Option Nat)} {l:List BV} {j b:Nat} {y:BV} (h:l[j]? = some y) (hy:y.owned=true) (hs:sigAt σ j=some b):(ownIds σ 0 l)[j]? = some (some b):=by
 have:=DL σ l 0 j h
 rw [Nat.zero_add,hy,hs] at this
 exact this
theorem mem_ids {is:List (Option Nat)} {b:Nat}:natMem b (is.filterMap id)=true↔∃ j:Nat,is[j]? = some (some b):=by
 rw [CY]
 simp only [List.mem_filterMap,id_eq,exists_eq_right]
 exact ⟨fun hb=>List.getElem?_of_mem hb,fun ⟨i,hi⟩=>List.mem_of_getElem? hi⟩
theorem GQ {rn:Nat→Nat} {σ:List (Option Nat)}:∀ {l m:List BV} {k:Nat} {p:Nat×BV},p∈updL rn σ k l m→∃ j b0 b,l[j]? = some b0∧m[j]? = some b∧b0.owned=true∧sigAt σ (k+j)=some p.1∧p.2=renB rn b
 | [],_,_,_,h=>by cases h
 | _::_,[],_,_,h=>by cases h
 | b0::l,b::m,k,p,h=>by
  unfold updL at h
  split at h
  ·rename_i i ho hs
   rcases List.mem_cons.1 h with rfl | h
   ·exact ⟨0,b0,b,rfl,rfl,ho,hs,rfl⟩
   ·obtain ⟨j,c0,c,h1,h2,h3,h4,h5⟩:=GQ h
    exact ⟨j+1,c0,c,by simpa using h1,by simpa using h2,h3,by rwa [show k+(j+1)=k+1+j by omega],h5⟩
  ·obtain ⟨j,c0,c,h1,h2,h3,h4,h5⟩:=GQ h
   exact ⟨j+1,c0,c,by simpa using h1,by simpa using h2,h3,by rwa [show k+(j+1)=k+1+j by omega],h5⟩
theorem TJ {rn:Nat→Nat} {σ:List (Option Nat)}:∀ {l m:List BV} {k j i:Nat} {b0 b:BV},l[j]? = some b0→m[j]? = some b→b0.owned=true→sigAt σ (k+j)=some i→(i,renB rn b)∈updL rn σ k l m
 | [],_,_,_,_,_,_,h,_,_,_=>by simp at h
 | _::_,[],_,_,_,_,_,_,h,_,_=>by simp at h
 | c0::l,c::m,k,0,i,b0,b,h1,h2,h3,h4=>by
  simp at h1 h2;subst h1;subst h2
  unfold updL
  rw [Nat.add_zero] at h4
  rw [h3,h4]
  exact List.mem_cons_self ..
 | c0::l,c::m,k,j+1,i,b0,b,h1,h2,h3,h4=>by
  have:=TJ (rn:=rn) (σ:=σ) (k:=k+1) (j:=j) (by simpa using h1) (by simpa using h2) h3 (by rwa [show k+1+j=k+(j+1) by omega])
  unfold updL
  split
  ·exact List.mem_cons_of_mem _ this
  ·exact this
theorem JB {rn:Nat→Nat} {σ:List (Option Nat)}:∀ {l m:List BV} {k:Nat},(∀ a b i,k≤a→k≤b→(∃ y,l[a - k]? = some y∧y.owned=true)→(∃ y,l[b - k]? = some y∧y.owned=true)→sigAt σ a=some i→sigAt σ b=some i→a=b)→((updL rn σ k l m).map Prod.fst).Nodup
 | [],_,_,_=>List.nodup_nil
 | _::_,[],_,_=>List.nodup_nil
 | b0::l,b::m,k,h=>by
  have ih:=JB (rn:=rn) (σ:=σ) (l:=l) (m:=m) (k:=k+1) fun a c i ha hc h1 h2 h3 h4=>by
   refine h a c i (by omega) (by omega) ?_ ?_ h3 h4
   ·obtain ⟨y,e1,e2⟩:=h1
    exact ⟨y,by rw [show a - k=(a - (k+1))+1 by omega];simpa using e1,e2⟩
   ·obtain ⟨y,e1,e2⟩:=h2
    exact ⟨y,by rw [show c - k=(c - (k+1))+1 by omega];simpa using e1,e2⟩
  unfold updL
  split
  ·rename_i i ho hs
   refine List.nodup_cons.2 ⟨fun hm=>?_,ih⟩
   obtain ⟨p,hp,e⟩:=List.mem_map.1 hm
   obtain ⟨j,c0,c,h1,h2,h3,h4,_⟩:=GQ hp
   have e:p.1=i:=e
   rw [e] at h4
   have:=h k (k+1+j) i (Nat.le_refl _) (by omega) ⟨b0,by rw [Nat.sub_self];rfl,ho⟩ ⟨c0,by rw [show k+1+j - k=j+1 by omega];simpa using h1,h3⟩ hs h4
   omega
  ·exact ih
theorem Oa {ids:List Nat}:Ext ρ bl ρ (maskB 0 ids bl):=fun b bv e h=>by
 have hlt:b < (maskB 0 ids bl).length:=by rw [Lx];exact AU e
 obtain ⟨bv0,h1,h2⟩:=Im (List.getElem?_eq_getElem hlt)
 rw [e] at h1;injection h1 with h1;subst h1
 refine ⟨rfl,_,List.getElem?_eq_getElem hlt,?_,fun m hm=>?_⟩
 ·rcases h2 with ⟨_,h2⟩ | h2 <;> rw [h2]
  ·exact h
  ·rfl
 ·rcases h2 with ⟨_,h2⟩ | h2 <;> rw [h2] at hm
  ·exact hm
  ·cases hm
theorem Dz {ids:List Nat} {b:Nat} {bv:BV} (h:(maskB 0 ids bl)[b]? = some bv) (hn:bv ≠ .no):bl[b]? = some bv:=by
 obtain ⟨bv0,h1,h2⟩:=Im h
 rcases h2 with ⟨_,h2⟩ | h2
 ·rw [h2];exact h1
 ·exact absurd h2 hn
theorem LH {s:AS} {l:List BV} (h:absChk s l=true):((ownIds s.σ 0 l).filterMap id).Nodup∧rowsB s.bl s.σ 0 l=true∧(∀ b,b∈s.lt→natMem b ((ownIds s.σ 0 l).filterMap id)=false)∧s.σ.length=l.length:=by
 unfold absChk at h
 simp only [Bool.and_eq_true] at h
 obtain ⟨h1,h2,h3,h4⟩:=h
 refine ⟨Ih h1,h2,fun b hb=>?_,Nat.eq_of_beq_eq_true h4⟩
 cases hm:natMem b ((ownIds s.σ 0 l).filterMap id) with
 | false=>rfl
 | true =>
  have:=List.all_eq_true.1 h3 b (CY.1 hm)
  rw [CY.2 hb] at this
  cases this
theorem Ya {idl:List Nat} {asl:List (Nat×SV)} {us:List Value} {sc:Sch} {m:Nat} {s:AS} {st0:HSt} {g':Gh} (hr:Rl g ρ ⟨sl,bl⟩ own fr) (hra:∀ t sv,getH asl t=some sv→∃ v,getS (argS 0 us) t=some v∧RealS g ρ bl sv v)
  (hab:absSt true sc (nones m) ⟨asl,maskB 0 idl bl⟩=some s) (hsame:s.bl=maskB 0 idl bl) (hcon:conSt id sc s.ds=some st0) (hchk:absChk s st0.bl=true) (hgr:g.r.le g'.r) (hgb:g'.b=g.b)
  (hlent:∀ k,some k∈dropIds 0 ((ownIds s.σ 0 st0.bl).filterMap id) own→g'.r.m k.g=some k.obj):Rl g' (envOf s.σ ρ) st0 (pickP (ownIds s.σ 0 st0.bl) own) (argS 0 us):=by
 obtain ⟨st2,e1,_,_,hsl,hbl⟩:=Fu hab
 rw [hcon] at e1;injection e1 with e1;subst e1
 rw [hsame] at hsl hbl
 obtain ⟨hnd,hrows,hlt,hlen⟩:=LH hchk
 rw [hsame] at hrows
 have hkeep:∀ b k,b∈s.lt→own[b]? = some (some k)→g'.r.m k.g=some k.obj:=fun b k hb hk=>hlent k (by
  have:=Dj (i:=0) (ids:=(ownIds s.σ 0 st0.bl).filterMap id) hk
  rw [Nat.zero_add,hlt b hb] at this
  exact List.mem_of_getElem? this)
 have hctx:Ctx s.lt (maskB 0 idl bl).length s.σ (maskB 0 idl bl) ρ g st0.bl (envOf s.σ ρ) g':=by
  refine ⟨hgr,by rw [hgb];exact .refl _,fun j b e=>Gb hbl hlen j b e,fun b bv hn e=>absurd (AU e) (by omega),fun b c xs e=>?_,fun b c et xs hb e=>?_⟩
  ·obtain ⟨k0,h1,h2⟩:=hr.own_at (Dz e (by simp))
   exact h2.2
  ·obtain ⟨k0,h1,h2⟩:=hr.own_at (Dz e (by simp))
   exact NF h2 hgb fun b' hb'=>hkeep b b' hb (by rw [h1,hb'])
 refine ⟨by simp [pickP,CX],fun i bv k0 e1 e2=>?_,fun t sv e=>?_,by rw [hgb];exact hr.gi⟩
 ·have e3:(pickP (ownIds s.σ 0 st0.bl) own)[i]? = some (match cond bv.owned (sigAt s.σ i) none with | none=>none | some b=>(own[b]?).join):=by
   unfold pickP
   rw [List.getElem?_map,DL s.σ st0.bl 0 i e1,Nat.zero_add]
   rfl
  rw [e3] at e2
  injection e2 with e2
  have hB:=hbl.get e1
  rw [Nat.zero_add] at hB
  rcases hB with rfl | ⟨b,hb1,hb2⟩
  ·exact e2.symm
  ·have henv:envOf s.σ ρ i=ρ b:=by unfold envOf;rw [hb1]
   rw [henv]
   rw [hb1] at e2
   have hcs:∀ {l:List CV} {m:List CV} {cs:List Value},AV (SimC s.lt (maskB 0 idl bl).length s.σ (maskB 0 idl bl)) l m→AV (RealC g ρ bl) l cs→AV (RealC g' (envOf s.σ ρ) st0.bl) m cs :=
    fun h1 h2=>Ig hctx h1 (h2.mono fun _ _=>RealC.ext (.refl g) Oa)
   cases hb2 with
   | no=>exact e2.symm
   | cells h hs =>
    obtain ⟨k1,h1,b0,cs,rfl,h3,h4⟩:=hr.own_at (Dz h (by simp))
    have e2:(own[b]?).join=k0:=e2
    rw [h1] at e2
    exact ⟨b0,cs,e2.symm,h3,hcs hs h4⟩
   | @row _ c et xs h =>
    obtain ⟨b',c',et',xs',h3,h4⟩:=Ii hrows e1
    rw [Nat.zero_add,hb1] at h3
    injection h3 with h3;subst h3
    obtain ⟨bv,h5,h6⟩:=h
    rw [h4] at h5;injection h5 with h5;subst h5
    rcases h6 with h6 | h6
    ·rw [h6] at h4
     obtain ⟨k1,h1,h2⟩:=hr.own_at (Dz h4 (by simp))
     have e2:(own[b]?).join=k0:=e2
     rw [h1] at e2
     have e2:k1=k0:=e2
     subst e2
     show Buf g'.b c.ty et _ _ _
     rw [hgb]
     exact h2
    ·cases h6
   | lent h hs =>
    obtain ⟨k1,h1,h2,ad,cs,h3,h4,h5⟩:=hr.own_at (Dz h (by simp))
    exact ⟨e2.symm,ad,cs,h3,h4.mono hgr,hcs hs h5⟩
   | lend hl h hs =>
    obtain ⟨k1,h1,b0,cs,rfl,h3,h4⟩:=hr.own_at (Dz h (by simp))
    exact ⟨e2.symm,_,cs,h3,Sk (k:=⟨b0,_,cs⟩) 0 cs (hkeep b _ hl h1) (by simp),hcs hs h4⟩
 ·obtain ⟨y,h1,h2⟩:=hsl (t,sv) (GO e)
  obtain ⟨v,h3,h4⟩:=hra t y h1
  exact ⟨v,h3,SimS.real hctx h2 (h4.ext (.refl g) Oa)⟩
end
section
variable {P:Program} {n:Nat} {ty:TypeId} {sl:List (Nat×SV)} {bl bl':List BV} {v:SV} {f:Nat} {g:Gh} {ρ:Env} {own:Own} {fr:Sl}
noncomputable def ownBack (np f nn:Nat) (is:List (Option Nat)) (sel own:Own):Own :=
 (List.range own.length).map fun i=>if f≤i∧i < f+nn then (sel[np+(i - f)]?).join else @dite _ (∃ j:Nat,is[j]? = some (some i)) (Classical.propDecidable _) (fun h=>(sel[Classical.choose h]?).join) (fun _=>(own[i]?).join)
theorem Ee {np f nn:Nat} {is:List (Option Nat)} {sel own:Own}:(ownBack np f nn is sel own).length=own.length:=by simp [ownBack]
theorem Fz {np f nn:Nat} {is:List (Option Nat)} {sel own:Own} {i:Nat} (hi:i < own.length) (h:f≤i∧i < f+nn):(ownBack np f nn is sel own)[i]? = some (sel[np+(i - f)]?).join:=by
 unfold ownBack
 rw [List.getElem?_map,List.getElem?_range hi]
 simp only [Option.map_some]
 rw [if_pos h]
theorem GC {np f nn:Nat} {is:List (Option Nat)} {sel own:Own} {i j:Nat} (hi:i < own.length) (h:¬ (f≤i∧i < f+nn)) (hnd:(is.filterMap id).Nodup) (hj:is[j]? = some (some i)):(ownBack np f nn is sel own)[i]? = some (sel[j]?).join:=by
 unfold ownBack
 rw [List.getElem?_map,List.getElem?_range hi]
 simp only [Option.map_some]
 have hex:∃ j:Nat,is[j]? = some (some i):=⟨j,hj⟩
 rw [if_neg h,dif_pos hex]
 have:=BW hnd (Classical.choose_spec hex) hj
 rw [this]
theorem Eh {np f nn:Nat} {is:List (Option Nat)} {sel own:Own} {i:Nat} (hi:i < own.length) (h:¬ (f≤i∧i < f+nn)) (hj:¬ ∃ j:Nat,is[j]? = some (some i)):(ownBack np f nn is sel own)[i]? = some (own[i]?).join:=by
 unfold ownBack
 rw [List.getElem?_map,List.getElem?_range hi]
 simp only [Option.map_some]
 rw [if_neg h,dif_neg hj]
theorem DC {α:Type} {x:Option (Option α)} {k:α} (h:x.join=some k):x=some (some k):=by
 cases x with
 | none=>cases h
 | some y=>exact congrArg some h
theorem callBack {np nn:Nat} {is:List (Option Nat)} {st0:List BV} {σ:List (Option Nat)} {str:HSt} {sel':Own} {ρr:Env} {g2:Gh} {w:World} {m:Nat} {v0:Value} (hr:Rl g ρ ⟨sl,bl⟩ own fr) (hg:g.le g2) (his:is=ownIds σ 0 st0) (hnp:st0.length=np) (hnd:(is.filterMap id).Nodup)
  (hnn:np+nn=str.bl.length) (hm:nn≤m) (hf:∀ (i:Nat),i < m→bl[f+i]? = some .hole) (hkn:∀ (j b:Nat),is[j]? = some (some b)→∃ bv:BV,bl[b]? = some bv∧bv.isHole=false)
  (hlen:∀ (j b:Nat) (bv:BV) (l:Nat),j < np→is[j]? = some (some b)→str.bl[j]? = some bv→bv.len=some l→∃ bv0:BV,bl[b]? = some bv0∧bv0.len=some l)
  (hbase:baseSt str=true) (hR:Rl (ghB g2.b) ρr str sel' [(0,v0)]) (hρ:∀ (j:Nat),j < np→ρr j=envOf σ ρ j) (hown:∀ (j:Nat) (bv:BV),j < np→str.bl[j]? = some bv→bv.owned=true→∃ b:Nat,is[j]? = some (some b))
  (hs2:St w g2 (sel'++dropIds 0 (is.filterMap id) own)) {s0:SV} (hs0:getH str.sl 0=some s0)
  (hbl':bl'=setNew (setUpd bl (updL (rnOf np f σ) σ 0 st0 str.bl)) f ((str.bl.drop np).map (renB (rnOf np f σ)))) :
  ∃ ρ' own',Ext ρ bl ρ' bl'∧St w g2 own'∧Rl g2 ρ' ⟨sl,bl'⟩ own' fr∧RealS g2 ρ' bl' (renS (rnOf np f σ) s0) v0:=by
 have hol:own.length=bl.length:=hr.len
 have hsl:sel'.length=str.bl.length:=hR.len
 have hbb:∀ (j:Nat) (bv:BV),str.bl[j]? = some bv→baseB str.bl bv=true:=fun j bv e=>by
  simp only [baseSt,Bool.and_eq_true] at hbase
  exact Fx hbase.2 (List.mem_of_getElem? e)
 have hbs:baseS str.bl s0=true:=by
  simp only [baseSt,Bool.and_eq_true] at hbase
  exact Fx (p:=fun p:Nat×SV=>baseS str.bl p.2) hbase.1 (GO hs0)
 have hnh:∀ (j:Nat) (bv:BV),str.bl[j]? = some bv→bv.isHole=false:=fun j bv e=>by
  have:=hbb j bv e
  cases bv <;> first | rfl | cases this
 have hbl:bl'.length=bl.length:=by rw [hbl',Jy,GA]
 have hnl:((str.bl.drop np).map (renB (rnOf np f σ))).length=nn:=by rw [List.length_map,List.length_drop];omega
 have hisl:is.length=np:=by rw [his,CX,hnp]
 have hfl:∀ i,i < nn→f+i < bl.length:=fun i hi=>AU (hf i (by omega))
 have hnot:∀ (b:Nat) (bv:BV),bl[b]? = some bv→bv.isHole=false→¬ (f≤b∧b < f+nn):=fun b bv e hh ⟨h1,h2⟩=>by
  have:=hf (b - f) (by omega)
  rw [show f+(b - f)=b by omega,e] at this
  injection this with this;subst this;cases hh
 have hisj:∀ (j b:Nat),is[j]? = some (some b)→sigAt σ j=some b∧j < np∧∃ y,st0[j]? = some y∧y.owned=true:=fun j b e=>by
  rw [his] at e
  obtain ⟨y,h1,h2,h3⟩:=IF e
  exact ⟨h3,by rw [← hnp];exact AU h1,y,h1,h2⟩
 have A2:∀ (i:Nat) (bv:BV),i < nn→str.bl[np+i]? = some bv→bl'[f+i]? = some (renB (rnOf np f σ) bv):=fun i bv hi e=>by
  rw [hbl']
  refine LD (by rw [List.getElem?_map,List.getElem?_drop,e];rfl) ?_
  rw [hnl,GA]
  have:=hfl (nn - 1) (by omega)
  omega
 have hnodup:((updL (rnOf np f σ) σ 0 st0 str.bl).map Prod.fst).Nodup:=JB fun a b i _ _ ⟨y,h1,h2⟩ ⟨z,h3,h4⟩ h5 h6=>by
  have e1:=Ip h1 h2 h5
  have e2:=Ip h3 h4 h6
  rw [Nat.sub_zero] at e1 e2
  rw [his] at hnd
  exact BW hnd e1 e2
 have A3:∀ (j b:Nat) (bv:BV),is[j]? = some (some b)→str.bl[j]? = some bv→bl'[b]? = some (renB (rnOf np f σ) bv):=fun j b bv e1 e2=>by
  obtain ⟨h1,h2,y,h3,h4⟩:=hisj j b e1
  obtain ⟨bv0,h5,h6⟩:=hkn j b e1
  have h7:=hnot b bv0 h5 h6
  rw [hbl',Ff (by rw [hnl];omega)]
  exact LC (TJ h3 e2 h4 (by rw [Nat.zero_add];exact h1)) hnodup (AU h5)
 have A4:∀ (i:Nat),¬ (f≤i∧i < f+nn)→(¬ ∃ j:Nat,is[j]? = some (some i))→bl'[i]? = bl[i]?:=fun i h1 h2=>by
  rw [hbl',Ff (by rw [hnl];omega)]
  refine GB fun p hp e=>h2 ?_
  obtain ⟨j,b0,b,h3,_,h5,h6,_⟩:=GQ hp
  rw [Nat.zero_add,e] at h6
  exact ⟨j,by rw [his];exact Ip h3 h5 h6⟩
 obtain ⟨ρ',hρ'⟩:∃ ρ':Env,ρ'=fun i=>if f≤i∧i < f+nn then ρr (np+(i - f)) else ρ i:=⟨_,rfl⟩
 have hρn:∀ i,i < nn→ρ' (f+i)=ρr (np+i):=fun i hi=>by
  rw [hρ']
  show (if f≤f+i∧f+i < f+nn then _ else _)=_
  rw [if_pos (by omega),show f+i - f=i by omega]
 have hρo:∀ i,¬ (f≤i∧i < f+nn)→ρ' i=ρ i:=fun i h=>by
  rw [hρ']
  exact if_neg h
 have hx:Ext ρ bl ρ' bl':=fun b bv h1 h2=>by
  have h3:=hnot b bv h1 h2
  refine ⟨hρo b h3,?_⟩
  by_cases hj:∃ j:Nat,is[j]? = some (some b)
  ·obtain ⟨j,hj⟩:=hj
   obtain ⟨h4,h5,_⟩:=hisj j b hj
   have h6:j < str.bl.length:=by omega
   refine ⟨_,A3 j b _ hj (List.getElem?_eq_getElem h6),by rw [Io];exact hnh j _ (List.getElem?_eq_getElem h6),fun l hl=>?_⟩
   rw [Jx] at hl
   obtain ⟨bv0,h7,h8⟩:=hlen j b _ l h5 hj (List.getElem?_eq_getElem h6) hl
   rw [h1] at h7;injection h7 with h7;subst h7
   exact h8
  ·exact ⟨bv,by rw [A4 b h3 hj];exact h1,h2,fun l hl=>hl⟩
 have hren:RenOk (rnOf np f σ) ρr str.bl ρ' bl':=⟨fun j bv e ho=>by
  have hh:=hnh j bv e
  by_cases hj:j < np
  ·obtain ⟨b,hb⟩:=hown j bv hj e ho
   obtain ⟨h1,_,_⟩:=hisj j b hb
   obtain ⟨bv0,h5,h6⟩:=hkn j b hb
   have hrn:rnOf np f σ j=b:=by
    unfold rnOf
    rw [show Nat.blt j np=true by simpa using hj,h1];rfl
   rw [hrn]
   refine ⟨?_,_,A3 j b bv hb e,by rw [Io];exact hh,Jx bv⟩
   rw [hρo b (hnot b bv0 h5 h6),hρ j hj]
   unfold envOf
   rw [h1]
  ·have hlt:=AU e
   have hrn:rnOf np f σ j=f+(j - np):=by
    unfold rnOf
    rw [show Nat.blt j np=false by cases h:Nat.blt j np with | false=>rfl | true=>exact absurd (by simpa using h) hj];rfl
   rw [hrn]
   have e':str.bl[np+(j - np)]? = some bv:=by rw [show np+(j - np)=j by omega];exact e
   refine ⟨?_,_,A2 (j - np) bv (by omega) e',by rw [Io];exact hh,Jx bv⟩
   rw [hρn (j - np) (by omega),show np+(j - np)=j by omega]⟩
 have hle:g2.b.le g2.b:= .refl _
 refine ⟨ρ',ownBack np f nn is sel' own,hx,hs2.back (fun i k e=>?_) (fun i j k e1 e2=>?_),hr.turn hg hx (by rw [Ee,hol,hbl]) (fun i bv k e1 e2=>?_),?_⟩
 ·
  have hi:i < own.length:=by rw [← Ee (np:=np) (f:=f) (nn:=nn) (is:=is) (sel:=sel') (own:=own)];exact AU e
  by_cases h1:f≤i∧i < f+nn
  ·rw [Fz hi h1] at e
   injection e with e
   exact .inl ⟨_,DC e⟩
  ·by_cases h2:∃ j:Nat,is[j]? = some (some i)
   ·obtain ⟨j,hj⟩:=h2
    rw [GC hi h1 hnd hj] at e
    injection e with e
    exact .inl ⟨_,DC e⟩
   ·rw [Eh hi h1 h2] at e
    injection e with e
    refine .inr ⟨i,?_⟩
    rw [Dj (DC e),Nat.zero_add]
    have:natMem i (is.filterMap id)=false:=by
     cases hmm:natMem i (is.filterMap id) with
     | false=>rfl
     | true=>exact absurd (mem_ids.1 hmm) h2
    rw [this];rfl
 ·have hpos:∀ (i:Nat),(ownBack np f nn is sel' own)[i]? = some (some k)→∃ q:Nat,(sel'++dropIds 0 (is.filterMap id) own)[q]? = some (some k)∧((f≤i∧i < f+nn∧q=np+(i - f)∧q < sel'.length)∨(q < np∧q < sel'.length∧is[q]? = some (some i))∨(q=sel'.length+i)):=by
   intro i e
   have hi:i < own.length:=by rw [← Ee (np:=np) (f:=f) (nn:=nn) (is:=is) (sel:=sel') (own:=own)];exact AU e
   by_cases h1:f≤i∧i < f+nn
   ·rw [Fz hi h1] at e
    injection e with e
    have e:=DC e
    have hlt:=AU e
    exact ⟨_,by rw [List.getElem?_append_left hlt];exact e,.inl ⟨h1.1,h1.2,rfl,hlt⟩⟩
   ·by_cases h2:∃ j:Nat,is[j]? = some (some i)
    ·obtain ⟨j,hj⟩:=h2
     rw [GC hi h1 hnd hj] at e
     injection e with e
     have e:=DC e
     have hlt:=AU e
     exact ⟨j,by rw [List.getElem?_append_left hlt];exact e,.inr (.inl ⟨by rw [← hisl];exact AU hj,hlt,hj⟩)⟩
    ·rw [Eh hi h1 h2] at e
     injection e with e
     refine ⟨sel'.length+i,?_,.inr (.inr rfl)⟩
     rw [List.getElem?_append_right (by omega),show sel'.length+i - sel'.length=i by omega,Dj (DC e),Nat.zero_add]
     have:natMem i (is.filterMap id)=false:=by
      cases hmm:natMem i (is.filterMap id) with
      | false=>rfl
      | true=>exact absurd (mem_ids.1 hmm) h2
     rw [this];rfl
  obtain ⟨q1,h1,c1⟩:=hpos i e1
  obtain ⟨q2,h2,c2⟩:=hpos j e2
  have hq:=GJ hs2.nodup h1 h2 rfl
  subst hq
  rcases c1 with ⟨a1,a2,a3,a4⟩ | ⟨a1,a2,a3⟩ | a1 <;> rcases c2 with ⟨b1,b2,b3,b4⟩ | ⟨b1,b2,b3⟩ | b1
  ·omega
  ·omega
  ·omega
  ·omega
  ·rw [a3] at b3;injection b3 with b3;injection b3
  ·omega
  ·omega
  ·omega
  ·omega
 ·
  have hi:i < own.length:=by rw [← Ee (np:=np) (f:=f) (nn:=nn) (is:=is) (sel:=sel') (own:=own)];exact AU e2
  by_cases h1:f≤i∧i < f+nn
  ·rw [Fz hi h1] at e2
   injection e2 with e2
   have hlt:np+(i - f) < str.bl.length:=by omega
   have e3:=A2 (i - f) _ (by omega) (List.getElem?_eq_getElem hlt)
   rw [show f+(i - f)=i by omega,e1] at e3
   injection e3 with e3;subst e3
   have e4:sel'[np+(i - f)]? = some (sel'[np+(i - f)]'(by omega)):=List.getElem?_eq_getElem (by omega)
   rw [e4] at e2
   have e2:sel'[np+(i - f)]'(by omega)=k:=e2
   have:=hR.blk _ _ _ (List.getElem?_eq_getElem hlt) e4
   rw [e2] at this
   have h3:=hρn (i - f) (by omega)
   rw [show f+(i - f)=i by omega] at h3
   rw [h3]
   exact Lz hren hle (hbb _ _ (List.getElem?_eq_getElem hlt)) this
  ·by_cases h2:∃ j:Nat,is[j]? = some (some i)
   ·obtain ⟨j,hj⟩:=h2
    rw [GC hi h1 hnd hj] at e2
    injection e2 with e2
    obtain ⟨h3,h4,_⟩:=hisj j i hj
    have hlt:j < str.bl.length:=by omega
    have e3:=A3 j i _ hj (List.getElem?_eq_getElem hlt)
    rw [e1] at e3
    injection e3 with e3;subst e3
    have e4:sel'[j]? = some (sel'[j]'(by omega)):=List.getElem?_eq_getElem (by omega)
    rw [e4] at e2
    have e2:sel'[j]'(by omega)=k:=e2
    have:=hR.blk _ _ _ (List.getElem?_eq_getElem hlt) e4
    rw [e2,hρ j h4] at this
    have h5:envOf σ ρ j=ρ i:=by unfold envOf;rw [h3]
    rw [h5,← hρo i h1] at this
    exact Lz hren hle (hbb _ _ (List.getElem?_eq_getElem hlt)) this
   ·rw [Eh hi h1 h2] at e2
    injection e2 with e2
    rw [A4 i h1 h2] at e1
    have e4:own[i]? = some own[i]:=List.getElem?_eq_getElem hi
    rw [e4] at e2
    have e2:own[i]=k:=e2
    have:=hr.blk i bv _ e1 e4
    rw [e2] at this
    rw [hρo i h1]
    exact this.ext hg hx
 ·obtain ⟨v1,h1,h2⟩:=hR.slot 0 s0 hs0
  have h1:some v0=some v1:=h1
  injection h1 with h1;subst h1
  exact VK hren hle hbs h2
theorem Ob:∀ {is:List (Option Nat)} {l:List BV} {j:Nat} {x:Option Nat} {bv:BV},ownC is l=true→is[j]? = some x→l[j]? = some bv→bv.owned=true→∃ b,x=some b
 | [],_,_,_,_,_,h,_,_=>by simp at h
 | _::_,[],_,_,_,_,_,h,_=>by simp at h
 | y::is,b::l,0,x,bv,h,h1,h2,h3=>by
  simp at h1 h2;subst h1;subst h2
  simp only [ownC,Bool.and_eq_true,Bool.or_eq_true,Bool.not_eq_true'] at h
  rcases h.1 with h | h
  ·rw [h3] at h;cases h
  ·cases y with
   | none=>cases h
   | some b=>exact ⟨b,rfl⟩
 | y::is,b::l,j+1,x,bv,h,h1,h2,h3=>by
  simp only [ownC,Bool.and_eq_true] at h
  exact Ob h.2 (by simpa using h1) (by simpa using h2) h3
def EntersBy (P:Program) (n:Nat) (sl:List (Nat×SV)) (op:Op) (fn:FuncId) (uav:List SV):Prop:=∀ (bl:List BV) (g:Gh) (ρ:Env) (own:Own) (fr:Sl),Rl g ρ ⟨sl,bl⟩ own fr→∃ us:List Value,AV (RealS g ρ bl) uav us∧∀ (o:Oper) (a:Act) (w:World),o.op=op→Fr n a fr→(execOp a.eval o).run P w = .ok (.enter fn us.toArray) w
theorem Oc {tbl:FuncId→List FSp} {m:Nat} {op:Op} {uav:List SV} {fn:FuncId} {c:Cand} {idl:List Nat} (hT:∀ f S,S∈tbl f→FOk P f S) (hf:∀ i,i < m→bl[f+i]? = some .hole)
  (hrun:EntersBy P n sl op fn uav) (hc:firstC (argH 0 uav) (maskB 0 idl bl) (tbl fn)=some c) (hfl:c.s.fl=[])
  (h:Told f (callN f m c) bl bl' v):EffH P n op ty sl bl bl' v:=by
 obtain ⟨S,hS,hcand⟩:=JA hc
 obtain ⟨rfl,hal,hab,hcon,hchk,hct⟩:=VL hcand
 have hsame:=Su hab hfl
 obtain ⟨r,hrn,h⟩:=h
 obtain ⟨str,hstr,h⟩:=LE h
 ·split at h
  ·rename_i s0 hs0 hb
   simp only [Bool.and_eq_true] at hb
   obtain ⟨hb1,hb2,hb3⟩:=hb
   have hb1:=Nat.le_of_ble_eq_true hb1
   have hb2:=Nat.le_of_ble_eq_true hb2
   obtain ⟨rfl,rfl⟩:=h
   intro o a w Q K g ρ own fr h1 h2 hr hfr hs hk
   obtain ⟨us,hus,hex⟩:=hrun bl g ρ own fr hr
   obtain ⟨hnd,hrows,hlt,hlen⟩:=LH hchk
   have hra:∀ t sv,getH (argH 0 uav) t=some sv→∃ v,getS (argS 0 us) t=some v∧RealS g ρ bl sv v:=fun t sv e=>LG hus e
   have hisl:(ownIds c.s.σ 0 c.st0.bl).length=c.st0.bl.length:=CX _ _ _
   refine XZ (is:=ownIds c.s.σ 0 c.st0.bl) hex hnd (fun g' hgr hgb hlent=>hT fn c.S hS c.t r c.st0 hrn hct g' (envOf c.s.σ ρ) _ us (Ya hr hra hab hsame hcon hchk hgr hgb hlent) (by rw [hal,NZ,hus.len])) o a w Q K h1 h2 hfr hs
    fun v' g2 own2 w2 hg2 hs2 ⟨sel',e,str',ρr,e2,hbase,hR,hρ⟩=>?_
   subst e
   rw [hstr] at e2;injection e2 with e2;subst e2
   obtain ⟨st2,e3,_,_,_,hbl⟩:=Fu hab
   rw [hcon] at e3;injection e3 with e3;subst e3
   rw [hsame] at hbl
   have hblk:∀ (j b:Nat),(ownIds c.s.σ 0 c.st0.bl)[j]? = some (some b)→∃ y bv:BV,c.st0.bl[j]? = some y∧bl[b]? = some bv∧bv.isHole=false∧∀ l,y.len=some l→bv.len=some l:=fun j b e=>by
    obtain ⟨y,h3,h4,h5⟩:=IF e
    have hB:=hbl.get h3
    rw [Nat.zero_add] at hB
    rcases hB with rfl | ⟨b',h6,h7⟩
    ·cases h4
    ·rw [h5] at h6;injection h6 with h6;subst h6
     cases h7 with
     | no=>cases h4
     | cells h hs=>exact ⟨_,_,h3,Dz h (by simp),rfl,fun l hl=>by cases hl⟩
     | @row _ d et xs h =>
      obtain ⟨bv,h8,h9⟩:=h
      rcases h9 with rfl | rfl
      ·exact ⟨_,_,h3,Dz h8 (by simp),rfl,fun l hl=>hl⟩
      ·exact ⟨_,_,h3,Dz h8 (by simp),rfl,fun l hl=>hl⟩
     | lent h hs=>cases h4
     | lend hl h hs=>cases h4
   obtain ⟨ρ',own',hx,hst,hrl,hv⟩:=callBack (np:=c.st0.bl.length) (nn:=str.bl.length - c.st0.bl.length) (m:=m) hr hg2 rfl rfl hnd (by omega) hb2 hf
    (fun j b e=>by obtain ⟨y,bv,_,h4,h5,_⟩:=hblk j b e;exact ⟨bv,h4,h5⟩)
    (fun j b bv l hj e1 e2 e3=>by
     obtain ⟨y,bv0,h3,h4,_,h6⟩:=hblk j b e1
     obtain ⟨y',h7,h8⟩:=Jw ((hρ j hj).2 bv l e2 e3)
     rw [h3] at h7;injection h7 with h7;subst h7
     exact ⟨bv0,h4,h6 l h8⟩)
    hbase hR (fun j hj=>(hρ j hj).1)
    (fun j bv hj e1 e2=>by
     have h3:(ownIds c.s.σ 0 c.st0.bl)[j]? = some ((ownIds c.s.σ 0 c.st0.bl)[j]'(by rw [hisl];exact hj)):=List.getElem?_eq_getElem (by rw [hisl];exact hj)
     obtain ⟨b,hb⟩:=Ob hb3 h3 e1 e2
     exact ⟨b,by rw [h3,hb]⟩)
    hs2 hs0 rfl
   exact hk v' g2 ρ' own' w2 hg2 hx hst hrl hv
  ·exact h.elim
theorem Od {tbl:FuncId→List FSp} {m:Nat} {op:Op} {fn:FuncId} {uav:List SV} (hT:∀ f S,S∈tbl f→FOk P f S) (hf:∀ i,i < m→bl[f+i]? = some .hole) (hrun:enters P fn=true→EntersBy P n sl op fn uav) (h:Told f (callT P tbl f m fn uav) bl bl' v) :
  EffH P n op ty sl bl bl' v:=by
 unfold callT at h
 obtain ⟨he,h⟩:=condT h
 obtain ⟨idl,h⟩:=h
 dsimp only at h
 split at h
 ·rename_i c hc
  split at h
  ·rename_i hfl
   exact Oc hT hf (hrun he) hc hfl h
  ·obtain ⟨bl1,hfz,h⟩:=IE h
   obtain ⟨idl2,h⟩:=h
   dsimp only at h
   split at h
   ·rename_i c2 hc2
    split at h
    ·rename_i hfl
     exact EffH.frz hfz (Oc hT (fun i hi=>hfz.hole (hf i hi)) (hrun he) hc2 hfl h)
    ·exact h.elim
   ·exact h.elim
 ·exact h.elim
theorem Yb {tbl:FuncId→List FSp} {m:Nat} {x:Operand} {args:List Operand} {ats:Array TypeId} (hT:∀ f S,S∈tbl f→FOk P f S) (hf:∀ i,i < m→bl[f+i]? = some .hole) (h:Told f (tCall P tbl sl f m x args) bl bl' v) :
  EffH P n (.call { callee:= .value x,args:=args.toArray,argTypes:=ats }) ty sl bl bl' v:=by
 unfold tCall at h
 split at h
 ·rename_i fv avs ex ea
  split at h
  ·rename_i fn caps hfn
   refine Od hT hf (fun he bl g ρ own fr hr=>?_) h
   obtain ⟨vx,hx1,hx2⟩:=Ah hr ex
   obtain ⟨cs,rfl,hcs⟩:=LF hfn hx2
   obtain ⟨vs,ha1,ha2⟩:=Jz hr ea
   refine ⟨vs++cs,AV.app (Fy (f:=vC) (R:=RealS g ρ bl) hcs) ha2,fun o a w h1 hf=>?_⟩
   have:args.toArray.map a.eval=vs.toArray:=by
    apply Array.toList_inj.1
    rw [Array.toList_map,hf.evs (xs:=args.toArray.toList) (by simpa using ha1)]
   simp [execOp,h1,resolve,hf.ev hx1,Deferred.ofValue,invoke,this,Fj he]
  ·exact h.elim
 ·exact h.elim
theorem SF {t:TypeId} {name:String} {fn:FuncId} {u:Value} {args:Array Value} {w:World} (h:mthOf P t name=some fn):(callMethod (.iface t u) name args).run P w=(callFunc fn (#[u]++args)).run P w:=by
 unfold mthOf at h
 split at h
 ·rename_i i e hi hu
  split at h
  ·rename_i m hm
   split at h
   ·rename_i f0 hp hf
    injection h with h;subst h
    obtain ⟨k,hk⟩:∃ k,P.types.size+Made.depth=k+1:=⟨P.types.size+(Made.depth - 1),rfl⟩
    have hti:(typeInfo t).run P w = .ok i w:=by simp [typeInfo,hi]
    simp [callMethod,hk,method,hti,hm,hp,hf,follow,receiverAt,run_underlying hu,Place.get]
   ·cases h
  ·cases h
 ·cases h
theorem Afv {tbl:FuncId→List FSp} {m:Nat} {x:Operand} {name:String} {args:List Operand} {ats:Array TypeId} (hT:∀ f S,S∈tbl f→FOk P f S) (hf:∀ i,i < m→bl[f+i]? = some .hole) (h:Told f (tInv P tbl sl f m x name args) bl bl' v) :
  EffH P n (.call { callee:= .invoke x name,args:=args.toArray,argTypes:=ats }) ty sl bl bl' v:=by
 unfold tInv at h
 split at h
 ·rename_i t c avs ex ea
  split at h
  ·rename_i fn hfn
   refine Od hT hf (fun he bl g ρ own fr hr=>?_) h
   obtain ⟨vx,hx1,u,hu,rfl⟩:=Ah hr ex
   obtain ⟨vs,ha1,ha2⟩:=Jz hr ea
   refine ⟨u::vs,⟨hu,ha2⟩,fun o a w h1 hf=>?_⟩
   have:args.toArray.map a.eval=vs.toArray:=by
    apply Array.toList_inj.1
    rw [Array.toList_map,hf.evs (xs:=args.toArray.toList) (by simpa using ha1)]
   simp [execOp,h1,resolve,hf.ev hx1,invoke,this,SF hfn,Fj he]
  ·exact h.elim
 ·exact h.elim
end
section
variable {P:Program} {n:Nat} {ty:TypeId} {sl:List (Nat×SV)} {bl bl':List BV} {v:SV} {f:Nat} {g:Gh} {ρ:Env} {own:Own} {fr:Sl}
def tField (P:Program) (sl:List (Nat×SV)) (t:TypeId) (x:Operand) (i:Nat):Tr:=match P.underlying t,evH sl x with
 | some (.struct fs),some (.v (.agg l))=>(match fs[i]? with | some fd=>readT P fd.type l fd.offset | none=> .no)
 | _,_=> .no
theorem VM {t:TypeId} {cs:List Value} {off:Nat} {u:Value} (hf:flatOf P t=true) (h:cs[off]? = some u) (w:World):(part t cs.toArray off).run P w = .ok u w:=by
 have h1:=DG hf w
 simp [part,h1,h]
theorem VN {t:TypeId} {cs vs:List Value} {off:Nat} (hf:aggOf P t=some vs.length) (h:(cs.drop off).take vs.length=vs) (w:World):(part t cs.toArray off).run P w = .ok (.agg vs.toArray) w:=by
 obtain ⟨h1,h2⟩:=EW hf w
 have e:cs.toArray.extract off (off+vs.length)=vs.toArray:=by
  rw [List.extract_toArray,List.extract_eq_take_drop,show off+vs.length - off=vs.length by omega,h]
 simp [part,h1,h2]
 simpa using h
theorem JC {t:TypeId} {l:List CV} {off:Nat} {cs:List Value} (h:readL P t l off=some v) (hl:AV (RealC g ρ bl) l cs):∃ u,RealS g ρ bl v u∧∀ w,(part t cs.toArray off).run P w = .ok u w:=by
 rcases DI h hl with ⟨hf,u,h1,h2⟩ | ⟨vs,h1,h2,h3⟩
 ·exact ⟨u,h2,VM hf h1⟩
 ·exact ⟨_,h3,VN h1 h2⟩
theorem VO {t:TypeId} {x:Operand} {i:Nat} (h:Told f (tField P sl t x i) bl bl' v):EffH P n (.field t x i) ty sl bl bl' v:=by
 unfold tField at h
 split at h
 ·rename_i fs l hu ex
  split at h
  ·rename_i fd hfd
   obtain ⟨rfl,e⟩:=CD h
   refine .of_yld fun g ρ own fr hr=>?_
   obtain ⟨vx,hx1,cs,rfl,hx2⟩:=Ah hr ex
   obtain ⟨u,h1,h2⟩:=JC e hx2
   refine ⟨u,h1,fun o ac w e1 e2 hf hr=>?_⟩
   have:(Instr.field t (.agg cs.toArray) i).run P w = .ok u w:=by
    simp only [Instr.field,run_underlying hu,Sem.run_bind,Result.andThen_ok,hfd,asAgg,Sem.run_pure,h2]
   simp [execOp,e1,hf.ev hx1,this]
  ·exact h.elim
 ·exact h.elim
def fillH (place:Nat→Option (Nat×Nat)):List CV→List (Nat×List CV)→Option (List CV)
 | cs,[]=>some cs
 | cs,(i,v)::rest=>match place i with
  | some (off,size)=>cond (Nat.beq v.length size&&Nat.ble (off+v.length) cs.length) (fillH place (setRowC cs off v) rest) none
  | none=>none
theorem IG:∀ (vs:List Value) (k off:Nat) (cells:List Value),((vs.zipIdx k).foldl (fun cs p=>cs.setIfInBounds (off+p.2) p.1) cells.toArray).toList=setRow cells (off+k) vs
 | [],k,off,cells=>rfl
 | v::vs,k,off,cells=>by
  rw [List.zipIdx_cons,List.foldl_cons]
  have:=IG vs (k+1) off (cells.set (off+k) v)
  rw [← List.setIfInBounds_toArray] at this
  rw [this]
  rfl
theorem Gf {place:Nat→Option (Nat×Nat)}:∀ {ps:List (Nat×List CV)} {pv:List (Nat×Value)} {l l':List CV} {cs:List Value},fillH place l ps=some l'→AV (RealC g ρ bl) l cs →
  AV (fun (p:Nat×List CV) (q:Nat×Value)=>p.1=q.1∧∃ us,q.2.cells=us.toArray∧AV (RealC g ρ bl) p.2 us) ps pv→∃ cs',Instr.fill place cs.toArray pv=some cs'.toArray∧AV (RealC g ρ bl) l' cs'
 | [],[],l,l',cs,h,hl,_=>by injection h with h;subst h;exact ⟨cs,rfl,hl⟩
 | (i,m)::ps,(j,u)::pv,l,l',cs,h,hl,hp=>by
  obtain ⟨⟨e,us,h1,h2⟩,hp⟩:=hp
  have e:i=j:=e
  subst e
  unfold fillH at h
  split at h
  ·rename_i off size hpl
   obtain ⟨hc,h⟩:=condS h
   simp only [Bool.and_eq_true] at hc
   have hc1:=Nat.eq_of_beq_eq_true hc.1
   have hc2:=Nat.le_of_ble_eq_true hc.2
   have h1:u.cells=us.toArray:=h1
   have hus:us.length=size:=by rw [← h2.len];exact hc1
   obtain ⟨cs',h3,h4⟩:=Gf h (Dx off h2 hl) hp
   refine ⟨cs',?_,h4⟩
   unfold Instr.fill
   rw [hpl]
   have hn:¬ ((decide (u.cells.size≠size) || decide (off+u.cells.size > cs.toArray.size))=true):=by
    rw [h1]
    have:=hl.len
    have:=h2.len
    simp;omega
   simp only []
   rw [if_neg (by simpa using hn)]
   rw [← h3]
   congr 1
   rw [h1]
   have:=IG us 0 off cs
   rw [Nat.add_zero] at this
   apply Array.toList_inj.1
   rw [List.toList_toArray,← this]
   simp [← Array.foldl_toList]
  ·cases h
 | [],_::_,_,_,_,_,_,h=>h.elim
 | _::_,[],_,_,_,_,_,h=>h.elim
def partsH (sl:List (Nat×SV)):List (Nat×Operand)→Option (List (Nat×List CV))
 | []=>some []
 | (i,x)::l=>match evH sl x with
  | some s=>(match cellsS s,partsH sl l with | some c,some m=>some ((i,c)::m) | _,_=>none)
  | none=>none
theorem FA (hr:Rl g ρ ⟨sl,bl⟩ own fr):∀ {l:List (Nat×Operand)} {ps:List (Nat×List CV)},partsH sl l=some ps→∃ pv:List (Nat×Value),l.map (fun q=>(evS fr q.2).map fun v=>(q.1,v))=pv.map some ∧
  AV (fun (p:Nat×List CV) (q:Nat×Value)=>p.1=q.1∧∃ us,q.2.cells=us.toArray∧AV (RealC g ρ bl) p.2 us) ps pv
 | [],ps,h=>by injection h with h;subst h;exact ⟨[],rfl,trivial⟩
 | (i,x)::l,ps,h=>by
  unfold partsH at h
  split at h
  ·rename_i s hs
   split at h
   ·rename_i c m hc hm
    injection h with h;subst h
    obtain ⟨pv,h1,h2⟩:=FA hr hm
    obtain ⟨u,h3,h4⟩:=Ah hr hs
    obtain ⟨us,h5,h6⟩:=Eb hc h4
    exact ⟨(i,u)::pv,by rw [List.map_cons,List.map_cons,h1];simp only [h3];rfl,⟨rfl,us,h5,h6⟩,h2⟩
   ·cases h
  ·cases h
theorem Oe {a:Act} {n:Nat} (hf:Fr n a fr):∀ {l:List (Nat×Operand)} {pv:List (Nat×Value)},l.map (fun q=>(evS fr q.2).map fun v=>(q.1,v))=pv.map some→l.map (fun q=>(q.1,a.eval q.2))=pv
 | [],[],_=>rfl
 | q::l,u::pv,h=>by
  simp only [List.map_cons,List.cons.injEq,Option.map_eq_some_iff] at h
  obtain ⟨⟨v,hv,e⟩,h3⟩:=h
  rw [List.map_cons,Oe hf h3,hf.ev hv,e]
 | [],_::_,h=>by simp at h
 | _::_,[],h=>by simp at h
def builtH (P:Program) (t:TypeId) (ps:List (Nat×List CV)):Option (List CV):=match P.info? t,P.underlying t with
 | some it,some (.array _ e)=>(match it.zero,P.info? e with
  | some z,some ie=>(match constL z.cells.toList with | some l=>fillH (fun i=>some (i*ie.size,ie.size)) l ps | none=>none)
  | _,_=>none)
 | some it,some (.struct fields)=>(match it.zero,fields.toList.mapM (fun f=>(P.info? f.type).map fun i=>(f.offset,i.size)) with
  | some z,some places=>(match constL z.cells.toList with | some l=>fillH (places.toArray[·]?) l ps | none=>none)
  | _,_=>none)
 | _,_=>none
theorem Of {t:TypeId} {ps:List (Nat×List CV)} {l:List CV} {pv:List (Nat×Value)} (h:builtH P t ps=some l) (hp:AV (fun (p:Nat×List CV) (q:Nat×Value)=>p.1=q.1∧∃ us,q.2.cells=us.toArray∧AV (RealC g ρ bl) p.2 us) ps pv) :
  ∃ cs,P.built t pv=some cs.toArray∧AV (RealC g ρ bl) l cs:=by
 unfold builtH at h
 split at h
 ·rename_i it k e h1 h2
  split at h
  ·rename_i z ie h3 h4
   split at h
   ·rename_i l0 hl0
    obtain ⟨cs',h5,h6⟩:=Gf h (BS hl0) hp
    exact ⟨cs',by simp only [Program.built,h1,h2,h3,h4];simpa using h5,h6⟩
   ·cases h
  ·cases h
 ·rename_i it fields h1 h2
  split at h
  ·rename_i z places h3 h4
   split at h
   ·rename_i l0 hl0
    obtain ⟨cs',h5,h6⟩:=Gf h (BS hl0) hp
    exact ⟨cs',by simp only [Program.built,h1,h2,h3,h4];simpa using h5,h6⟩
   ·cases h
  ·cases h
 ·cases h
def tBuild (P:Program) (sl:List (Nat×SV)) (t:TypeId) (parts:List (Nat×Operand)):Tr:=match partsH sl parts with
 | some ps=>(match builtH P t ps with | some l=>retT (.v (.agg l)) | none=> .no)
 | none=> .no
theorem VP {t:TypeId} {parts:List (Nat×Operand)} (h:Told f (tBuild P sl t parts) bl bl' v):EffH P n (.build t parts.toArray) ty sl bl bl' v:=by
 unfold tBuild at h
 split at h
 ·rename_i ps hps
  split at h
  ·rename_i l hl
   obtain ⟨rfl,rfl⟩:=Ay h
   refine .of_yld fun g ρ own fr hr=>?_
   obtain ⟨pv,h1,h2⟩:=FA hr hps
   obtain ⟨cs,h3,h4⟩:=Of hl h2
   refine ⟨.agg cs.toArray,⟨cs,rfl,h4⟩,fun o ac w e1 e2 hf hr=>?_⟩
   have e3:(parts.toArray.map fun (q:Nat×Operand)=>(q.1,ac.eval q.2))=pv.toArray:=by
    apply Array.toList_inj.1
    rw [Array.toList_map,List.toList_toArray]
    exact Oe hf h1
   have e4:(Instr.build t pv.toArray).run P w = .ok (.agg cs.toArray) w:=run_build w t pv.toArray cs.toArray (by simpa using h3)
   simp only [execOp,e1]
   rw [show (parts.toArray.map fun x=>match x with | (i,x)=>(i,ac.eval x))=pv.toArray from e3]
   simp [e4]
  ·exact h.elim
 ·exact h.elim
def rowH (P:Program) (t:TypeId) (len:Nat) (ps:List (Nat×List CV)):Option (List CV):=match P.underlying t with
 | some (.slice elem)=>(match P.info? elem with
  | some i=>cond (Nat.ble (len*i.size) 16777216) (match (if len*i.size=0 then some #[] else i.zero.map Value.cells) with
   | some zero=>(match constL ((List.range' 0 (len*i.size)).map (zero[· % zero.size]!)) with
    | some l=>fillH (fun j=>some (j*i.size,i.size)) l ps
    | none=>none)
   | none=>none) none
  | none=>none)
 | _=>none
theorem VQ {t et:TypeId} {len:Nat} {ps:List (Nat×List CV)} {l:List CV} {pv:List (Nat×Value)} (hu:P.underlying t=some (.slice et)) (h:rowH P t len ps=some l) (hp:AV (fun (p:Nat×List CV) (q:Nat×Value)=>p.1=q.1∧∃ us,q.2.cells=us.toArray∧AV (RealC g ρ bl) p.2 us) ps pv) :
  ∃ cs,buildRow P t len pv=some (et,cs.toArray)∧AV (RealC g ρ bl) l cs:=by
 unfold rowH at h
 rw [hu] at h
 dsimp only at h
 split at h
 ·rename_i i h1
  obtain ⟨hb,h⟩:=condS h
  have hb:=Nat.le_of_ble_eq_true hb
  split at h
  ·rename_i zero hz
   split at h
   ·rename_i l0 hl0
    obtain ⟨cs',h5,h6⟩:=Gf h (BS hl0) hp
    refine ⟨cs',?_,h6⟩
    unfold buildRow
    rw [hu]
    simp only [h1]
    rw [if_neg (by omega)]
    simp only [hz]
    rw [show ((Array.range (len*i.size)).map (zero[· % zero.size]!))=((List.range' 0 (len*i.size)).map (zero[· % zero.size]!)).toArray by rw [← Array.toArray_toList (xs:=Array.map _ _),Array.toList_map,Array.toList_range,List.range_eq_range'],h5]
    rfl
   ·cases h
  ·cases h
 ·cases h
def encN (c:Cd):Nat→List CV→(List c.den→Tr)→Tr
 | 0,[],K=>K []
 | 0,_::_,_=> .no
 | m+1,l,K=>encC c l fun x r=>encN c m r fun xs=>K (x::xs)
def EncN (bl:List BV) (c:Cd):List CV→List c.den→Prop
 | l,[]=>l=[]
 | l,x::xs=>∃ m,EncD bl c l x m∧EncN bl c m xs
theorem EncN.frz {a b:List BV} (h:FrzTo a b) {c:Cd}:∀ {xs:List c.den} {l:List CV},EncN a c l xs→EncN b c l xs
 | [],_,e=>e
 | _::_,_,⟨m,h1,h2⟩=>⟨m,h1.frz h,h2.frz h⟩
theorem LI {c:Cd}:∀ {m:Nat} {l:List CV} {K:List c.den→Tr} {bl:List BV},Told f (encN c m l K) bl bl' v→∃ xs bl1,Told f (K xs) bl1 bl' v∧FrzTo bl bl1∧EncN bl1 c l xs∧xs.length=m
 | 0,[],K,bl,h=>⟨[],bl,h,.refl,rfl,rfl⟩
 | 0,_::_,K,bl,h=>h.elim
 | m+1,l,K,bl,h=>by
  unfold encN at h
  obtain ⟨x,r,bl1,h2,h3,h4⟩:=CU c h
  obtain ⟨xs,bl2,h5,h6,h7,h8⟩:=LI h2
  exact ⟨x::xs,bl2,h5,h3.trans h6,⟨r,h4.frz h6,h7⟩,by rw [List.length_cons,h8]⟩
theorem EncN.real {c:Cd} (hr:Rl g ρ ⟨sl,bl⟩ own fr):∀ {xs:List c.den} {l:List CV} {cs:List Value},EncN bl c l xs→AV (RealC g ρ bl) l cs→Reps c.ty g.b cs xs
 | [],l,cs,e,h=>by
  have e:l=[]:=e
  subst e
  cases cs with
  | nil=>rfl
  | cons _ _=>exact h.elim
 | x::xs,l,cs,⟨m,h1,h2⟩,h=>by
  obtain ⟨c1,c2,e,h3,h4⟩:=h1.real hr c h
  exact ⟨c1,c2,e,h3,h2.real hr h4⟩
def tLit (P:Program) (sl:List (Nat×SV)) (f:Nat) (t:TypeId) (len:Nat) (parts:List (Nat×Operand)):Tr:=match rowOf P t,partsH sl parts with
 | some (c,et,_),some ps=>(match rowH P t len ps with
  | some l=>encN c len l fun xs=>cond (Nat.ble len 140737488355328) (.done ⟨vC (.own f),[],[.row c et xs]⟩) .no
  | none=> .no)
 | _,_=> .no
theorem JD {op:Op} {c:Cd} {et:TypeId} {xs:List c.den} (hf:bl[f]? = some .hole)
  (h:∀ g ρ own fr,Rl g ρ ⟨sl,bl⟩ own fr→Eff P n g own fr op ty (fun v' g' own'=>∃ A c' k,v' = .slice A xs.length c'∧g=g'∧own'=k::own∧Buf g.b c.ty et (.slice A xs.length c') k xs)) :
  EffH P n op ty sl bl (bl.set f (.row c et xs)) (vC (.own f)):=by
 intro o a w Q K g ρ own fr h1 h2 hr hfr hs hk
 refine h g ρ own fr hr o a w Q K h1 h2 hfr hs fun v g' own' w' hg hs' ⟨A,c',k,e1,e2,e3,hb⟩=>?_
 subst e1;subst e2;subst e3
 have hno:=hr.hole_none hf
 have hst:St w' g (own.set f k):=by
  cases k with
  | some k=>exact hs'.fill hno
  | none =>
   have:own.set f none=own:=Jg hno
   rw [this]
   exact hs'.fewer (by have:=hs'.nodup;rwa [Own.ids_cons] at this) fun k hk=>List.mem_cons_of_mem _ hk
 have hx:Ext ρ bl (setρ ρ f (A,c')) (bl.set f (.row c et xs)):=Ext.set_hole hf
 refine hk _ g (setρ ρ f (A,c')) _ w' (.refl g) hx hst (hr.lay (bv:= .row c et xs) (k:=k) (e:=(A,c')) (.refl g) hf hb) ⟨Em (AU hf) rfl,_,by rw [Dc],fun bv m e1 e2=>?_⟩
 have e3:(bl.set f (.row c et xs))[f]? = some (.row c et xs):=by simp [List.getElem?_set,AU hf]
 have e1:(bl.set f (.row c et xs))[f]? = some bv:=e1
 rw [e3] at e1;injection e1 with e1
 subst e1
 exact Option.some.inj e2
theorem Afw {t:TypeId} {len:Nat} {parts:List (Nat×Operand)} (hf:bl[f]? = some .hole) (h:Told f (tLit P sl f t len parts) bl bl' v):EffH P n (.buildSlice t len parts.toArray) ty sl bl bl' v:=by
 unfold tLit at h
 split at h
 ·rename_i c et by_ ps hrow hps
  obtain ⟨hu,_,_,_⟩:=DK hrow
  split at h
  ·rename_i l hl
   obtain ⟨xs,bl1,h2,hfz,hen,hlen⟩:=LI h
   obtain ⟨hle,h2⟩:=condT h2
   have hle:=Nat.le_of_ble_eq_true hle
   obtain ⟨rfl,rfl⟩:=h2
   refine EffH.frz hfz (JD (hfz.hole hf) fun g ρ own fr hr=>?_)
   obtain ⟨pv,h3,h4⟩:=FA hr hps
   obtain ⟨cs,h5,h6⟩:=VQ hu hl h4
   have hreps:=hen.real hr h6
   intro o a w Q K e1 e2 hfr hs hk
   refine Mq pv cs (by simpa using h3) h5 o a w Q K e1 e2 hfr hs fun v' g' own' w' hg hs' ⟨b,e3,e4,e5⟩=>?_
   refine hk v' g' own' w' hg hs' ⟨_,_,_,by rw [e3,hlen],e4,e5,?_⟩
   rw [hlen]
   exact Tx hreps hlen hle
  ·exact h.elim
 ·exact h.elim
end
section
variable {P:Program} {n:Nat} {ty:TypeId} {sl:List (Nat×SV)} {bl bl':List BV} {v:SV} {f:Nat} {g:Gh} {ρ:Env} {own:Own} {fr:Sl}
def bndH (sl:List (Nat×SV)):Option Operand→Option (Option Int)
 | none=>some none
 | some x=>match evH sl x with | some (.v (.c (.int _ z)))=>some (some z) | _=>none
def loN:Option Int→Nat | none=>0 | some z=>z.toNat
def hiN (len:Nat):Option Int→Nat | none=>len | some z=>z.toNat
def bndOk (len:Nat):Option Int→Option Int→Bool
 | none,none=>true
 | some l,none=>decide (0≤l∧l≤(len:Int))
 | none,some h=>decide (0≤h∧h≤(len:Int))
 | some l,some h=>decide (0≤l∧l≤h∧h≤(len:Int))
def cutL {α:Type} (xs:List α):Option Int→Option Int→List α
 | none,none=>xs
 | some l,none=>xs.drop l.toNat
 | none,some h=>xs.take h.toNat
 | some l,some h=>(xs.drop l.toNat).take (h.toNat - l.toNat)
theorem Mx {α:Type} (xs:List α) (lo hi:Option Int):cutL xs lo hi=(xs.drop (loN lo)).take (hiN xs.length hi - loN lo):=by
 cases lo <;> cases hi <;> simp [cutL,loN,hiN]
 exact (List.take_of_length_le (by simp)).symm
theorem Eu {len:Nat} {lo hi:Option Int} (h:bndOk len lo hi=true):loN lo≤hiN len hi∧hiN len hi≤len∧(∀ z,lo=some z→z=((z.toNat:Nat):Int))∧∀ z,hi=some z→z=((z.toNat:Nat):Int):=by
 cases lo <;> cases hi <;> simp only [bndOk,decide_eq_true_eq] at h <;> simp only [loN,hiN]
 ·exact ⟨Nat.zero_le _,Nat.le_refl _,(fun z e=>by cases e),fun z e=>by cases e⟩
 ·exact ⟨Nat.zero_le _,by omega,(fun z e=>by cases e),fun z e=>by injection e with e;omega⟩
 ·exact ⟨by omega,Nat.le_refl _,(fun z e=>by injection e with e;omega),fun z e=>by cases e⟩
 ·exact ⟨by omega,by omega,(fun z e=>by injection e with e;omega),fun z e=>by injection e with e;omega⟩
theorem Iq (hr:Rl g ρ ⟨sl,bl⟩ own fr) {lo:Option Operand} {z:Option Int} (h:bndH sl lo=some z) (hz:∀ y,z=some y→y=((y.toNat:Nat):Int)):(lo=none∧z=none)∨∃ k y u,lo=some y∧z=some u∧evS fr y=some (.int k ((u.toNat:Nat):Int)):=by
 cases lo with
 | none=>injection h with h;exact .inl ⟨rfl,h.symm⟩
 | some y =>
  simp only [bndH] at h
  split at h
  ·rename_i k u hu
   injection h with h;subst h
   obtain ⟨v,h1,rfl,_⟩:=Ah hr hu
   exact .inr ⟨k,y,u,rfl,rfl,by rw [← hz u rfl];exact h1⟩
  ·cases h
def tSlice (P:Program) (sl:List (Nat×SV)) (t:TypeId) (x:Operand) (lo hi:Option Operand):Tr:=match P.underlying t,evH sl x,bndH sl lo,bndH sl hi with
 | some (.slice e),some (.v (.c (.ro c xs m))),some l,some h=>(match cellsOfT P e with
  | some z=>cond (Nat.beq z c.n) (.grd (bndOk xs.length l h) (retT (vC (.ro c (cutL xs l h) m)))) .no
  | none=> .no)
 | some (.slice e),some (.v (.c (.own b))),some l,some h=>(match cellsOfT P e with
  | some z=> .need b fun
   | .row c _ xs=>cond (Nat.beq z c.n) (.grd (bndOk xs.length l h) (retT (vC (.vw b c (loN l) (hiN xs.length h))))) .no
   | .fz c xs=>cond (Nat.beq z c.n) (.grd (bndOk xs.length l h) (retT (vC (.vw b c (loN l) (hiN xs.length h))))) .no
   | _=> .no
  | none=> .no)
 | some (.slice e),some (.v (.c (.k (.slice none 0 0)))),some l,some h=>(match cellsOfT P e with
  | some _=> .grd (bndOk 0 l h) (retT (vC (.k (.slice none 0 0))))
  | none=> .no)
 | some .string,some (.v (.c (.str xs))),some l,some h=> .grd (bndOk xs.length l h) (retT (vC (.str (cutL xs l h))))
 | _,_,_,_=> .no
theorem Og {t e:TypeId} {x:Operand} {lo hi:Option Operand} {sz len c:Nat} {l h:Option Int} {A:Option Addr} {p:Psi} (hr:Rl g ρ ⟨sl,bl⟩ own fr) (hx:evS fr x=some (.slice A len c)) (ht:P.underlying t=some (.slice e)) (hs:cellsOfT P e=some sz)
  (hlo:bndH sl lo=some l) (hhi:bndH sl hi=some h) (hb:bndOk len l h=true) (hc:len≤c):Yld P n p own fr (.slice t x lo hi none) ty (.slice (offA A c (loN l) sz) (hiN len h - loN l) (c - loN l)):=by
 obtain ⟨h1,h2,h3,h4⟩:=Eu hb
 refine Aff (loN l) (hiN len h) (hiN len h - loN l) hx ht hs ?_ ?_ h1 (Nat.le_trans h2 hc) rfl
 ·rcases Iq hr hlo h3 with ⟨rfl,rfl⟩ | ⟨k,y,u,rfl,rfl,h5⟩
  ·exact .inl ⟨rfl,rfl⟩
  ·exact .inr ⟨k,y,rfl,h5⟩
 ·rcases Iq hr hhi h4 with ⟨rfl,rfl⟩ | ⟨k,y,u,rfl,rfl,h5⟩
  ·exact .inl ⟨rfl,rfl⟩
  ·exact .inr ⟨k,y,rfl,h5⟩
theorem Oh {α:Type} {xs:List α} {l h:Option Int} (hb:bndOk xs.length l h=true):(cutL xs l h).length=hiN xs.length h - loN l:=by
 obtain ⟨h1,h2,_⟩:=Eu hb
 rw [Mx,List.length_take,List.length_drop];omega
theorem My {w:World} {t:TypeId} {s:List UInt8} {lo hi:Option Value} {l h:Nat} (ht:P.underlying t=some .string)
  (hlo:(lo=none∧l=0)∨∃ k,lo=some (.int k (l:Int))) (hhi:(hi=none∧h=s.length)∨∃ k,hi=some (.int k (h:Int))) (h1:l≤h) (h2:h≤s.length) :
  (Instr.sliceAt t (.string (mkS s)) lo hi none).run P w = .ok (.string (mkS ((s.drop l).take (h - l)))) w:=by
 have hsz:(mkS s).size=s.length:=Fm s
 have hb:(Instr.sliceBounds false (mkS s).size (mkS s).size lo hi none).run P w = .ok (l,h,s.length) w:=by
  rw [hsz]
  have e1:(0:Int)≤(l:Int)∧(l:Int)≤(h:Int):=⟨by omega,by omega⟩
  have e2:(0:Int)≤(h:Int)∧(h:Int)≤(s.length:Int):=⟨by omega,by omega⟩
  rcases hlo with ⟨rfl,rfl⟩ | ⟨k,rfl⟩ <;> rcases hhi with ⟨rfl,rfl⟩ | ⟨k2,rfl⟩ <;> simp [Instr.sliceBounds,Instr.sliceBound,asIntOf,e1,e2,h1,h2]
 have hex:(mkS s).extract l h=mkS ((s.drop l).take (h - l)):=by
  apply ByteArray.ext
  rw [ByteArray.data_extract]
  show s.toArray.extract l h=((s.drop l).take (h - l)).toArray
  rw [List.extract_toArray,List.extract_eq_take_drop]
 simp [Instr.sliceAt,Instr.slice,run_underlying ht,hb,hex]
theorem VR {t:TypeId} {x:Operand} {lo hi:Option Operand} (h:Told f (tSlice P sl t x lo hi) bl bl' v):EffH P n (.slice t x lo hi none) ty sl bl bl' v:=by
 unfold tSlice at h
 split at h
 ·rename_i e c xs m l r hu ex hlo hhi
  split at h
  ·rename_i z hz
   obtain ⟨hc,hg,h⟩:=condT h
   obtain ⟨rfl,rfl⟩:=Ay h
   have hc:=Nat.eq_of_beq_eq_true hc
   subst hc
   refine .of_yld fun g ρ own fr hr=>?_
   obtain ⟨vx,hx1,A,cap,rfl,ha⟩:=Ah hr ex
   have hcap:xs.length≤cap:=by cases m <;> exact ha.cap
   refine ⟨_,⟨_,_,rfl,?_⟩,by rw [Oh hg];exact Og hr hx1 hu hz hlo hhi hg hcap⟩
   obtain ⟨h1,h2,_⟩:=Eu hg
   rw [Mx]
   cases m with
   | true=>have:=Arr.cut ha (loN l) (hiN xs.length r) h1 h2;rwa [c.ty_n] at this
   | false=>have:=ArrM.cut ha (loN l) (hiN xs.length r) h1 h2;rwa [c.ty_n] at this
  ·exact h.elim
 ·rename_i e b l r hu ex hlo hhi
  split at h
  ·rename_i z hz
   obtain ⟨bv,hb,h⟩:=h
   have key:∀ (c:Cd) (xs:List c.den),(∃ bv,bl[b]? = some bv∧bv.len=some xs.length∧((∃ et,bv = .row c et xs)∨bv = .fz c xs))→Told f (cond (Nat.beq z c.n) (.grd (bndOk xs.length l r) (retT (vC (.vw b c (loN l) (hiN xs.length r))))) .no) bl bl' v→EffH P n (.slice t x lo hi none) ty sl bl bl' v:=by
    rintro c xs ⟨bv,hb,hlen,hcase⟩ h
    obtain ⟨hc,hg,h⟩:=condT h
    obtain ⟨rfl,rfl⟩:=Ay h
    have hc:=Nat.eq_of_beq_eq_true hc
    subst hc
    obtain ⟨h1,h2,_⟩:=Eu hg
    refine .of_yld fun g ρ own fr hr=>?_
    obtain ⟨vx,hx1,hkn,q,rfl,hl⟩:=Ah hr ex
    have hl:=hl _ _ hb hlen
    subst hl
    have hcap:xs.length≤(ρ b).2:=by
     obtain ⟨k0,hk,hB⟩:=hr.own_at hb
     rcases hcase with ⟨et,rfl⟩ | rfl
     ·obtain ⟨A,c',e1,e2⟩:=Buf.val (hB:Buf g.b c.ty et (.slice (ρ b).1 xs.length (ρ b).2) k0 xs)
      injection e1 with _ _ e3
      rw [e3];exact e2
     ·exact hB.2.cap
    refine ⟨_,⟨hkn,rfl,fun bv' m' e1 e2=>?_⟩,Og hr hx1 hu hz hlo hhi hg hcap⟩
    rw [hb] at e1;injection e1 with e1;subst e1
    rw [hlen] at e2;injection e2 with e2
    omega
   dsimp only at h
   split at h
   ·exact key _ _ ⟨_,hb,rfl,.inl ⟨_,rfl⟩⟩ h
   ·exact key _ _ ⟨_,hb,rfl,.inr rfl⟩ h
   ·exact h.elim
  ·exact h.elim
 ·rename_i e l r hu ex hlo hhi
  split at h
  case h_2=>exact h.elim
  rename_i m hm
  obtain ⟨hg,h⟩:=h
  obtain ⟨rfl,rfl⟩:=Ay h
  obtain ⟨h1,h2,h3,h4⟩:=Eu hg
  refine .of_yld fun g ρ own fr hr=>?_
  obtain ⟨vx,hx1,rfl,_⟩:=Ah hr ex
  have hl0:loN l=0:=by omega
  have hh0:hiN 0 r=0:=by omega
  refine ⟨.slice none 0 0,⟨rfl,rfl⟩,fun o a w e1 e2 hf hr'=>?_⟩
  have hlo':(lo.map a.eval=none∧(0:Nat)=0)∨∃ k,lo.map a.eval=some (.int k ((0:Nat):Int)):=by
   rcases Iq hr hlo h3 with ⟨rfl,rfl⟩ | ⟨k,y,u,rfl,rfl,h5⟩
   ·exact .inl ⟨rfl,rfl⟩
   ·have:u.toNat=0:=hl0
    rw [this] at h5
    exact .inr ⟨k,by simp [hf.ev h5]⟩
  have hhi':(hi.map a.eval=none∧(0:Nat)=0)∨∃ k,hi.map a.eval=some (.int k ((0:Nat):Int)):=by
   rcases Iq hr hhi h4 with ⟨rfl,rfl⟩ | ⟨k,y,u,rfl,rfl,h5⟩
   ·exact .inl ⟨rfl,rfl⟩
   ·have:u.toNat=0:=hh0
    rw [this] at h5
    exact .inr ⟨k,by simp [hf.ev h5]⟩
  have hb:(Instr.sliceBounds true 0 0 (lo.map a.eval) (hi.map a.eval) none).run P w = .ok (0,0,0) w:=by
   rcases hlo' with ⟨e3,_⟩ | ⟨k,e3⟩ <;> rcases hhi' with ⟨e4,_⟩ | ⟨k2,e4⟩ <;> rw [e3,e4] <;> simp [Instr.sliceBounds,Instr.sliceBound,asIntOf]
  have:(Instr.sliceAt t (.slice none 0 0) (lo.map a.eval) (hi.map a.eval) none).run P w = .ok (.slice none 0 0) w:=by
   simp [Instr.sliceAt,Instr.slice,run_underlying hu,hb,Bh hm]
  simp [execOp,e1,hf.ev hx1,this]
 ·rename_i xs l r hu ex hlo hhi
  obtain ⟨hg,h⟩:=h
  obtain ⟨rfl,rfl⟩:=Ay h
  obtain ⟨h1,h2,h3,h4⟩:=Eu hg
  refine .of_yld fun g ρ own fr hr=>?_
  obtain ⟨vx,hx1,rfl,hx2⟩:=Ah hr ex
  refine ⟨.string (mkS (cutL xs l r)),⟨rfl,by rw [Oh hg];omega⟩,fun o a w e1 e2 hf hr'=>?_⟩
  have:=My (P:=P) (w:=w) (lo:=lo.map a.eval) (hi:=hi.map a.eval) (l:=loN l) (h:=hiN xs.length r) hu
   (by rcases Iq hr hlo h3 with ⟨rfl,rfl⟩ | ⟨k,y,u,rfl,rfl,h5⟩
       ·exact .inl ⟨rfl,rfl⟩
       ·exact .inr ⟨k,by simp [hf.ev h5,loN]⟩)
   (by rcases Iq hr hhi h4 with ⟨rfl,rfl⟩ | ⟨k,y,u,rfl,rfl,h5⟩
       ·exact .inl ⟨rfl,rfl⟩
       ·exact .inr ⟨k,by simp [hf.ev h5,hiN]⟩) h1 h2
  rw [Mx]
  simp [execOp,e1,hf.ev hx1,this]
 ·exact h.elim
def tLen (P:Program) (sl:List (Nat×SV)) (t:TypeId) (x:Operand):Tr:=match P.underlying t,evH sl x with
 | some (.slice _),some (.v (.c (.own b)))=> .need b fun
  | .row _ _ xs=>retT (vC (.int .i64 (xs.length:Int)))
  | .fz _ xs=>retT (vC (.int .i64 (xs.length:Int)))
  | _=> .no
 | some (.slice _),some (.v (.c (.ro _ xs _)))=>retT (vC (.int .i64 (xs.length:Int)))
 | some (.slice _),some (.v (.c (.vw b _ l h)))=> .need b fun
  | .row _ _ _=>retT (vC (.int .i64 ((h - l:Nat):Int)))
  | .fz _ _=>retT (vC (.int .i64 ((h - l:Nat):Int)))
  | _=> .no
 | some (.slice _),some (.v (.c (.k (.slice none 0 0))))=>retT (vC (.int .i64 0))
 | some .string,some (.v (.c (.str xs)))=>retT (vC (.int .i64 (xs.length:Int)))
 | some (.array n _),some (.v (.agg _))=>cond (Nat.ble n 1000000) (retT (vC (.int .i64 (n:Int)))) .no
 | _,_=> .no
def tCap (P:Program) (sl:List (Nat×SV)) (t:TypeId) (x:Operand):Tr:=match P.underlying t,evH sl x with
 | some (.slice _),some (.v (.c (.k (.slice none 0 0))))=>retT (vC (.int .i64 0))
 | _,_=> .no
theorem Afx {t:TypeId} {x:Operand} (h:Told f (tCap P sl t x) bl bl' v):EffH P n (.call { callee:= .builtin .cap,args:=#[x],argTypes:=#[t] }) ty sl bl bl' v:=by
 unfold tCap at h
 split at h
 ·rename_i e hu ex
  obtain ⟨rfl,rfl⟩:=Ay h
  refine .of_yld fun g ρ own fr hr=>?_
  obtain ⟨vx,hx1,rfl,_⟩:=Ah hr ex
  refine ⟨_,⟨rfl,Fq _⟩,fun o a w h1 h2 hf hr=>?_⟩
  simp [execOp,h1,resolve,invoke,builtin,hf.ev hx1,Builtin.cap_,run_underlying hu,goInt]
 ·exact h.elim
theorem Fg {m:Nat} (h:m≤140737488355328):inK .i64 (m:Int):=by
 simp [inK,IntKind.min,IntKind.max,IntKind.signed,IntKind.bits];omega
theorem Ir {t:TypeId} {x:Operand} {u:Value} {m:Nat} {p:Psi} (hx:evS fr x=some u) (h:∀ w,(Builtin.len_ #[t] ty #[u]).run P w = .ok (.int .i64 (m:Int)) w):Yld P n p own fr (.call { callee:= .builtin .len,args:=#[x],argTypes:=#[t] }) ty (.int .i64 (m:Int)):=by
 intro o a w e1 e2 hf hr
 subst e2
 simp [execOp,e1,resolve,invoke,builtin,hf.ev hx,h]
theorem Afy {t:TypeId} {x:Operand} (h:Told f (tLen P sl t x) bl bl' v):EffH P n (.call { callee:= .builtin .len,args:=#[x],argTypes:=#[t] }) ty sl bl bl' v:=by
 unfold tLen at h
 split at h
 ·rename_i e b hu ex
  obtain ⟨bv,hb,h⟩:=h
  have key:∀ (m:Nat),bv.len=some m→Told f (retT (vC (.int .i64 (m:Int)))) bl bl' v→EffH P n (.call { callee:= .builtin .len,args:=#[x],argTypes:=#[t] }) ty sl bl bl' v:=by
   intro m hm h
   obtain ⟨rfl,rfl⟩:=Ay h
   refine .of_yld fun g ρ own fr hr=>?_
   obtain ⟨vx,hx1,hkn,q,rfl,hl⟩:=Ah hr ex
   have hl:=hl _ _ hb hm
   subst hl
   have hle:q≤140737488355328:=by
    obtain ⟨k0,hk,hB⟩:=hr.own_at hb
    cases bv <;> simp only [BV.len,Option.some.injEq,reduceCtorEq] at hm <;> subst hm
    ·exact Buf.len hB
    ·exact hB.2.len
   exact ⟨_,⟨rfl,Fg hle⟩,Ir hx1 fun w=>by simp [Builtin.len_,run_underlying hu,goInt]⟩
  dsimp only at h
  split at h
  ·exact key _ rfl h
  ·exact key _ rfl h
  ·exact h.elim
 ·rename_i e c xs m hu ex
  obtain ⟨rfl,rfl⟩:=Ay h
  refine .of_yld fun g ρ own fr hr=>?_
  obtain ⟨vx,hx1,A,cap,rfl,ha⟩:=Ah hr ex
  have hle:xs.length≤140737488355328:=by cases m <;> exact ha.len
  exact ⟨_,⟨rfl,Fg hle⟩,Ir hx1 fun w=>by simp [Builtin.len_,run_underlying hu,goInt]⟩
 ·rename_i e b c l r hu ex
  obtain ⟨bv,hb,h⟩:=h
  have key:∀ (m:Nat),bv.len=some m→Told f (retT (vC (.int .i64 ((r - l:Nat):Int)))) bl bl' v→EffH P n (.call { callee:= .builtin .len,args:=#[x],argTypes:=#[t] }) ty sl bl bl' v:=by
   intro m hm h
   obtain ⟨rfl,rfl⟩:=Ay h
   refine .of_yld fun g ρ own fr hr=>?_
   obtain ⟨vx,hx1,hkn,rfl,hl⟩:=Ah hr ex
   have hl:=hl _ _ hb hm
   have hle:m≤140737488355328:=by
    obtain ⟨k0,hk,hB⟩:=hr.own_at hb
    cases bv <;> simp only [BV.len,Option.some.injEq,reduceCtorEq] at hm <;> subst hm
    ·exact Buf.len hB
    ·exact hB.2.len
   exact ⟨_,⟨rfl,Fg (by omega)⟩,Ir hx1 fun w=>by simp [Builtin.len_,run_underlying hu,goInt]⟩
  dsimp only at h
  split at h
  ·exact key _ rfl h
  ·exact key _ rfl h
  ·exact h.elim
 ·rename_i e hu ex
  obtain ⟨rfl,rfl⟩:=Ay h
  refine .of_yld fun g ρ own fr hr=>?_
  obtain ⟨vx,hx1,rfl,_⟩:=Ah hr ex
  exact ⟨_,⟨rfl,Fg (m:=0) (by decide)⟩,Ir hx1 fun w=>by simp [Builtin.len_,run_underlying hu,goInt]⟩
 ·rename_i xs hu ex
  obtain ⟨rfl,rfl⟩:=Ay h
  refine .of_yld fun g ρ own fr hr=>?_
  obtain ⟨vx,hx1,rfl,hx2⟩:=Ah hr ex
  exact ⟨_,⟨rfl,Fg hx2⟩,Ir hx1 fun w=>by simp [Builtin.len_,run_underlying hu,goInt,Fm]⟩
 ·rename_i m e l hu ex
  obtain ⟨hm,h⟩:=condT h
  have hm:=Nat.le_of_ble_eq_true hm
  obtain ⟨rfl,rfl⟩:=Ay h
  refine .of_yld fun g ρ own fr hr=>?_
  obtain ⟨vx,hx1,cs,rfl,_⟩:=Ah hr ex
  exact ⟨_,⟨rfl,Fg (by omega)⟩,Ir hx1 fun w=>by simp [Builtin.len_,run_underlying hu,goInt]⟩
 ·exact h.elim
def tMM (b:Builtin) (sl:List (Nat×SV)) (x y:Operand):Tr:=asI sl x fun k a=>asI sl y fun j c=>match sameK j k,b with
 | some _,.max=>retT (vC (.int k (maxI a c)))
 | some _,.min=>retT (vC (.int k (minI a c)))
 | _,_=> .no
theorem Aja {b:Builtin} {x y:Operand} {ats:Array TypeId} (h:Told f (tMM b sl x y) bl bl' v):EffH P n (.call { callee:= .builtin b,args:=#[x,y],argTypes:=ats }) ty sl bl bl' v:=by
 obtain ⟨k,a,ex,h1⟩:=Df h
 obtain ⟨j,c,ey,h2⟩:=Df h1
 clear h h1
 split at h2
 ·rename_i hk _;obtain ⟨hk⟩:=hk;subst hk
  obtain ⟨rfl,rfl⟩:=Ay h2
  refine .of_yld fun g ρ own fr hr=>?_
  obtain ⟨vx,hx1,rfl,hx2⟩:=Ah hr ex
  obtain ⟨vy,hy1,rfl,hy2⟩:=Ah hr ey
  refine ⟨_,⟨rfl,?_⟩,fun o ac w e1 e2 hf hr=>?_⟩
  ·unfold maxI;split
   ·exact hy2
   ·exact hx2
  ·simp [execOp,e1,resolve,invoke,builtin,hf.ev hx1,hf.ev hy1,Builtin.max_,Builtin.max2,maxI]
 ·rename_i hk _;obtain ⟨hk⟩:=hk;subst hk
  obtain ⟨rfl,rfl⟩:=Ay h2
  refine .of_yld fun g ρ own fr hr=>?_
  obtain ⟨vx,hx1,rfl,hx2⟩:=Ah hr ex
  obtain ⟨vy,hy1,rfl,hy2⟩:=Ah hr ey
  refine ⟨_,⟨rfl,?_⟩,fun o ac w e1 e2 hf hr=>?_⟩
  ·unfold minI;split
   ·exact hy2
   ·exact hx2
  ·simp [execOp,e1,resolve,invoke,builtin,hf.ev hx1,hf.ev hy1,Builtin.min_,Builtin.min2,minI]
 ·exact h2.elim
end
end Go.Proofs.YtpleflcfaecojaaGreat
