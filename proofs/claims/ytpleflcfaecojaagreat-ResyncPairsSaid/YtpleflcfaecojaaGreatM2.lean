/-
The engine, part 7: the rules as the printing program uses them: each side condition a closed equation. Conditions: each lemma's own.
-/
import Derived.Test.YtpleflcfaecojaaGreatM1
import Derived.ProofKit
import Derived.OpenShut
import Derived.Handy
import Derived.ChangeSame
import Derived.Deep.Slices
import Derived.IntWalk
import Derived.SizedLaws
import Derived.Test.YtpleflcfaecojaaGreatRows
import Derived.Lib.AppendZeros
import Derived.Laws.StructEq
import Derived.ChangeKeysEq
import Derived.LoopN
import Derived.Lib.Bytealg
import Derived.MapKept
import Derived.Test.YtpleflcfaecojaaGreatProg
namespace Go.Proofs.YtpleflcfaecojaaGreat
set_option linter.unusedVariables false
set_option linter.unusedSimpArgs false
open Go.RowKit
section
variable {P:Program} {ops:Array Oper} {Q:Exit→Act→World→Prop} {n:Nat} {g:Gh} {own:Own} {sl:Sl} {ty:TypeId} {p:Psi}
end
theorem AM {x:Int} (h: -9223372036854775808≤x∧x≤9223372036854775807):IntKind.i64.wrap x=x:=IntWalk.i64_in x h
theorem Sd {x:Int} (h:0≤x∧x≤18446744073709551615):IntKind.u64.wrap x=x:=by
 rw [IntKind.wrap_u64];omega
def maxI (a b:Int):Int:=if b > a then b else a
def minI (a b:Int):Int:=if b < a then b else a
def landK (k:IntKind) (a b:Int):Int:=k.wrap (BitVec.ofInt k.bits a &&& BitVec.ofInt k.bits b).toNat
def lorK (k:IntKind) (a b:Int):Int:=k.wrap (BitVec.ofInt k.bits a ||| BitVec.ofInt k.bits b).toNat
def lxorK (k:IntKind) (a b:Int):Int:=k.wrap (BitVec.ofInt k.bits a ^^^ BitVec.ofInt k.bits b).toNat
def shlK (k:IntKind) (a b:Int):Int:=k.wrap (a*2 ^ (min b.toNat k.bits))
def shrK (k:IntKind) (a b:Int):Int:=a.fdiv (2 ^ (min b.toNat k.bits))
section
variable {P:Program} {n:Nat} {p:Psi} {own:Own} {sl:Sl} {ty:TypeId}
theorem Fl {w:World} (d:Nat) {t e:TypeId} {A:Option Addr} {l c l2 c2:Nat} (ht:P.underlying t=some (.slice e)):(Op.equalIn (d+1) t (.slice A l c) (.slice none l2 c2)).run P w = .ok A.isNone w:=by
 cases A <;> simp [Op.equalIn,run_underlying ht]
end
section
variable {P:Program} {n:Nat} {g:Gh} {own:Own} {sl:Sl} {ty:TypeId} {α:Type} {T:Ty α} {p:Psi}
theorem Arr.srcB {A:Option Addr} {c:Nat} {xs:List α} (h:Arr g.b T A c xs):∃ news,Reps T g.b news xs∧∀ w own,St w g own→Src w A xs.length news:=by
 obtain ⟨news,h1,h2⟩:=h.src
 exact ⟨news,h1,fun w own hs=>h2 w (hs.r.mono g.br)⟩
def u8 (z:Int):UInt8:=UInt8.ofNat z.toNat
theorem Xz {z:Int} (h:0≤z∧z≤255):Ia.rep p [.int .u8 z] (u8 z):=by
 show [Value.int .u8 z]=[Value.int .u8 ((u8 z).toNat:Int)]
 have:((u8 z).toNat:Int)=z:=by
  unfold u8
  rw [UInt8.toNat_ofNat']
  omega
 rw [this]
theorem Cf (x:Int):0≤IntKind.u8.wrap x∧IntKind.u8.wrap x≤255:=by
 rw [IntKind.wrap_u8];omega
end
section
variable {P:Program} {n:Nat} {g:Gh} {own:Own} {sl:Sl} {ty:TypeId} {α:Type} {T:Ty α} {p:Psi}
theorem lent {rest:Own} {k:Bk} (i:Nat) (h:rest[i]? = some (some k)):some k∈rest:=List.mem_of_getElem? h
end
open Go.RowKit Go.WideShapes Go.ChangeShapes Go.Deep
def psiOf (w:World):Psi:=⟨fun b=>w.heap[b]?,w.os,w.tape,w.output⟩
def gh0 (w:World):Gh:=⟨psiOf w,psiOf w,.refl _⟩
theorem st0 (w:World):St w (gh0 w) []:=⟨⟨rfl,rfl,rfl,fun b o h=>h⟩,List.nodup_nil,fun k h=>(by cases h),fun k h=>(by cases h)⟩
theorem XA {w w':World} {g:Gh} (h:(gh0 w).le g) (hs:St w' g []):Below w.heap.size w w':=by
 have hin:=hs.r.mono h.r
 have hb:∀ b,b < w.heap.size→w'.heap[b]? = w.heap[b]?:=fun b hb=>by
  rw [Array.getElem?_eq_getElem hb]
  exact hin.m b _ (Array.getElem?_eq_getElem hb)
 refine ⟨hin.os,hin.tape,hin.out,?_,hb⟩
 rcases Nat.eq_zero_or_pos w.heap.size with h0 | h0
 ·omega
 ·have h1:=hb (w.heap.size - 1) (by omega)
  have hlt:w.heap.size - 1 < w.heap.size:=by omega
  rw [Array.getElem?_eq_getElem hlt] at h1
  have:=(Array.getElem?_eq_some_iff.1 h1).1
  omega
theorem Sf {P:Program} {f:FuncId} {args:List Value} {w:World} (h:Afc P f args (gh0 w) (fun v ψ=>v=Value.bool true)):Calls P f args.toArray w fun e w'=>e = .returned (.bool true)∧Below w.heap.size w w' :=
 (h w (st0 w)).mono fun e w' ⟨v,g',own',he,hle,hs,ho,hv⟩=>by
  subst ho;subst hv
  exact ⟨he,XA hle hs⟩
def Opens {α:Type} (P:Program) (t:TypeId) (T:Ty α) (ok:α→Prop):Prop :=
 ∀ {H:Type} {enc:TypeId×Value→H} {w:World} {base:Nat} {spare:Nat→Bool} {held:Bool} {fuel:Nat} {cs:List Value} {d:DataW H} {pl:List MemPlace},
  DataW.trod enc P w base spare held fuel t cs=some (d,pl)→(∀ m∈d.weights P t,m≤reachBytes)→∃ x,T.rep (psiOf w) cs x∧ok x
section
variable {P:Program} {t e:TypeId} {α:Type} {T:Ty α} {ok:α→Prop}
theorem Sg {k:IntKind} {n:Int} (h:(Lit.int k n).wf=true):inK k n:=by
 simp only [Lit.wf,Bool.and_eq_true,decide_eq_true_eq] at h
 exact h
theorem Vy {k:IntKind} (ht:P.underlying t=some (.int k)):Opens P t (tyI k) (inK k):=fun h _=>by
 obtain ⟨n,rfl,_,hwf⟩:=DataW.trod_int ht h
 exact ⟨n,rfl,Sg hwf⟩
theorem ND (ht:P.underlying t=some (.int .u8)):Opens P t Ia (fun _=>True):=fun h _=>by
 obtain ⟨n,rfl,_,hwf⟩:=DataW.trod_int ht h
 have:=Sg hwf
 have h2:0≤n∧n≤255:=by simpa [inK,IntKind.min,IntKind.max,IntKind.signed,IntKind.bits] using this
 exact ⟨u8 n,Xz h2,trivial⟩
theorem Si (ht:P.underlying t=some .bool):Opens P t tyB (fun _=>True):=fun h _=>by
 obtain ⟨b,rfl,_⟩:=DataW.trod_bool ht h
 exact ⟨b,rfl,trivial⟩
theorem DH {H:Type}:∀ {ds:List (DataW H)} {d:DataW H} {n:Nat},d∈ds→n∈d.weights P e→n∈DataW.weightsAll P e ds
 | x::ds,d,n,hd,hn=>by
  rw [DataW.weightsAll]
  rcases List.mem_cons.1 hd with rfl | h
  ·exact List.mem_append_left _ hn
  ·exact List.mem_append_right _ (DH h hn)
theorem NE (he:Opens P e T ok) (ht:P.underlying t=some (.slice e)) (hc:P.cellsOf e=T.n) (hb:Nat.blt 0 (P.bytesOf e)=true):Opens P t (tyArr T) (fun xs=>∀ x∈xs,ok x):=by
 intro H enc w base spare held fuel cs d pl h hw
 rcases open_slice ht h with ⟨rfl,_⟩ | ⟨a,len,cap,m,n,D,Pl,rfl,hbs,hl,hm,hmm,hx,hi⟩
 ·exact ⟨[],⟨none,0,rfl,Arr.nil⟩,by simp⟩
 ·have hlm:len≤m:=by rw [hmm];split <;> omega
  injection hx with hd _
  subst hd
  simp only [DataW.weights,ht] at hw
  have hlen:len≤140737488355328:=by
   have:=hw _ (List.mem_cons_self ..)
   simp only [List.length_map,List.length_range,reachBytes] at this
   have h1:len≤len+(m - len):=Nat.le_add_right _ _
   have hb':0 < P.bytesOf e:=by simpa using hb
   have h2:len+(m - len)≤(len+(m - len))*P.bytesOf e:=Nat.le_mul_of_pos_right _ hb'
   omega
  have key:∀ k,k≤len→∃ cs xs,xs.length=k∧Reps T (psiOf w) cs xs∧(∀ x∈xs,ok x)∧∀ j u,cs[j]? = some u→w.cell? (a.add j)=some u:=by
   intro k
   induction k with
   | zero=>intro _;exact ⟨[],[],rfl,rfl,by simp,by simp⟩
   | succ k ih =>
    intro hk
    obtain ⟨cs,xs,h1,h2,h3,h4⟩:=ih (by omega)
    obtain ⟨cs',hcells,htr⟩:=hi k (by omega)
    obtain ⟨_,hlen',hat⟩:=World.cells?_some hcells
    obtain ⟨x,hx,hok⟩:=he htr fun n hn=>hw n (List.mem_cons_of_mem _ (List.mem_append_left _ (DH (List.mem_map.2 ⟨k,by simp;omega,rfl⟩) hn)))
    refine ⟨cs++cs',xs++[x],by simp [h1],h2.append (.single hx),?_,fun j u hu=>?_⟩
    ·intro y hy
     rcases List.mem_append.1 hy with h | h
     ·exact h3 y h
     ·simp only [List.mem_singleton] at h;subst h;exact hok
    ·rcases Nat.lt_or_ge j cs.length with hj | hj
     ·rw [List.getElem?_append_left hj] at hu
      exact h4 j u hu
     ·rw [List.getElem?_append_right hj] at hu
      have hcl:cs.length=k*P.cellsOf e:=by rw [h2.len,h1,hc]
      have hjl:j - cs.length < P.cellsOf e:=by
       have:=(List.getElem?_eq_some_iff.1 hu).1
       omega
      have hge:k*P.cellsOf e≤j:=by rw [← hcl];exact hj
      have:=hat (j - cs.length) hjl
      rw [hcl] at this hu
      rw [FU,show k*P.cellsOf e+(j - k*P.cellsOf e)=j by omega] at this
      rw [this]
      exact hu
  obtain ⟨cs,xs,h1,h2,h3,h4⟩:=key len (Nat.le_refl _)
  refine ⟨xs,⟨some a,cap,by rw [h1],⟨by rw [h1];exact hl,by rw [h1];exact hlen,cs,h2,fun _=>⟨a,rfl,fun j v hj=>?_⟩⟩⟩,h3⟩
  have:=h4 j v hj
  unfold World.cell? at this
  unfold Psi.cell? psiOf
  exact this
theorem Cw {H:Type} {enc:TypeId×Value→H} {w:World} {base:Nat} {spare:Nat→Bool} {held:Bool} {fuel:Nat} {cs:List Value} {d:DataW H} {pl:List MemPlace} {fs:Array Field} (ht:P.underlying t=some (.struct fs))
  (h:DataW.trod enc P w base spare held fuel t cs=some (d,pl)) (hw:∀ m∈d.weights P t,m≤reachBytes) :
  cs.length=P.cellsOf t∧∀ (i:Nat) (f:Field),fs[i]? = some f→∃ n d' pl',DataW.trod enc P w base spare held n f.type ((cs.drop f.offset).take (P.cellsOf f.type))=some (d',pl')∧∀ m∈d'.weights P f.type,m≤reachBytes:=by
 obtain ⟨xs,n,_,hx,hlen,hxl,hf⟩:=DataW.trod_struct ht h
 injection hx with hd _
 subst hd
 simp only [DataW.weights,ht] at hw
 refine ⟨hlen,fun i f hi=>?_⟩
 have hlt:i < xs.length:=by rw [hxl];exact (Array.getElem?_eq_some_iff.1 hi).1
 refine ⟨n,(xs[i]).1,(xs[i]).2,(hf i f hi).trans (List.getElem?_eq_getElem hlt),fun m hm=>hw m ?_⟩
 exact DataW.weights_mem_each (j:=i) (by rw [List.getElem?_map,Array.getElem?_toList,hi];rfl) (by rw [List.getElem?_map,List.getElem?_eq_getElem hlt];rfl) m hm
end
section
variable {H:Type} {enc:TypeId×Value→H} {P:Program}
theorem Gs (hl:laidOutB P=true) {W W':World} {sp':Nat→Bool}:∀ {ts:List TypeId} {vs:List Value} {ds:List (DataW H)} {ps:List MemPlace},
  (∀ t∈ts,P.readableRec t=true∧t < P.types.size)→DataW.TrodAll enc P W 0 (fun _=>true) true ts vs ds ps→(∀ p∈ps,W.sameAt W' p)→(∀ p∈ps,sp' p.block=true) →
  DataW.TrodAll enc P W' 0 sp' true ts vs ds ps
 | [],vs,ds,ps,_,h,_,_=>by
  obtain ⟨rfl,rfl,rfl⟩:=trodAll_nil h
  exact trodAll_mk0
 | t::ts,vs,ds,ps,hr,h,hs,hp=>by
  obtain ⟨v,vs1,d,ds1,a,b,rfl,rfl,rfl,h1,h2⟩:=trodAll_cons h
  refine ⟨a,b,WideElems.Trod_stays hl (hr t (by simp)).1 (hr t (by simp)).2 h1 (fun p hp'=>hs p (by simp [hp'])) (fun p hp'=>hp p (by simp [hp'])),?_,rfl⟩
  exact Gs hl (fun t' ht'=>hr t' (by simp [ht'])) h2 (fun p hp'=>hs p (by simp [hp'])) (fun p hp'=>hp p (by simp [hp']))

theorem Lj {f:Func} {s:ChangeSpec} {apart fresh handsOn again:Bool} {W W':World} {args:Array Value} {v:Value} {ds gs:List (DataW H)} {before pa pv:List MemPlace}
  (hW:DataW.Whole enc P f.params.toList s.vars apart W args.toList ds gs before)
  (hres:∀ (b:Nat) (sp:Nat→Bool) (hd:Bool),DataW.TrodAll enc P W' b sp hd f.resultTypes.toList (v.resultList f.resultTypes.size) (s.fn H (ds++gs)).results [])
  (hargs:∀ sp:Nat→Bool,(∀ p∈before,sp p.block=true)→DataW.TrodAll enc P W' 0 sp true f.params.toList args.toList (s.fn H (ds++gs)).args pa)
  (hvars:∀ sp:Nat→Bool,(∀ p∈before,sp p.block=true)→DataW.TrodVars enc P W' sp s.vars (s.fn H (ds++gs)).vars pv)
  (hps:before=pa++pv) (hb:Below W.heap.size W W')
  (hok:∀ (j:Nat) (t:TypeId) (r:Value),f.resultTypes[j]? = some t→(v.resultList f.resultTypes.size)[j]? = some r→Value.okWide P W' .any 0 t r) :
  s.post enc P f apart fresh handsOn again W args v W':=by
 have hlt:∀ p∈before,p.block < W.heap.size:=fun p hp=>hW.lt p hp
 have hold:∀ p∈before,(fun b=>decide (b < W.heap.size)) p.block=true:=fun p hp=>by simpa using hlt p hp
 refine ⟨ds,gs,before,[],pa,pv,hW,hres _ _ _,hargs _ hold,hvars _ hold,World.keptBut_mono (fun p hp=>⟨hp,?_⟩) (hb.frame (·∈before)),fun _=>?_⟩
 ·rw [hps,List.mem_append] at hp
  exact Or.inr hp
 ·obtain ⟨_,_,_,_,_,hz,hn⟩:=hW
  refine ⟨hok,_,_,([]++pa)++pv,⟨[]++pa,pv,trodAll_append (hargs _ (fun _ _=>rfl)) (hres _ _ _),hvars _ (fun _ _=>rfl),rfl,?_,?_⟩,?_⟩
  ·intro b off hp
   have hin:MemPlace.cell b off∈before:=by rw [hps];simpa using hp
   rw [hb.frozen (hlt _ hin)]
   exact hz b off hin
  ·intro ha
   have:=hn ha
   rw [hps] at this
   simpa using this
  ·intro p hp _
   rw [hps]
   simpa using hp
theorem XB {b:TypeId} (hl:laidOutB P=true) {f:Func} {s:ChangeSpec} {apart fresh handsOn again:Bool} {W W':World} {args:Array Value} {ds:List (DataW H)} {before:List MemPlace}
  (hr:∀ t∈f.params.toList,P.readableRec t=true∧t < P.types.size) (hv:s.vars=[]) (hbool:f.resultTypes = #[b]) (hb4:P.underlying b=some .bool)
  (hfn:s.fn H (ds++[])={ results:=[.lit (.bool true)],args:=ds })
  (hW:DataW.Whole enc P f.params.toList s.vars apart W args.toList ds [] before)
  (hA:DataW.TrodAll enc P W 0 (fun _=>true) true f.params.toList args.toList ds before)
  (hb:Below W.heap.size W W'):s.post enc P f apart fresh handsOn again W args (.bool true) W':=by
 have hlt:∀ p∈before,p.block < W.heap.size:=fun p hp=>hW.lt p hp
 refine Lj (ds:=ds) (gs:=[]) (pa:=before) (pv:=[]) hW ?_ ?_ ?_ (by simp) hb ?_
 ·intro b' sp hd
  rw [hfn,hbool]
  exact trodAll_mk1 (shut_bool hb4 _)
 ·intro sp hsp
  rw [hfn]
  exact Gs hl hr hA (fun p hp=>hb.same (hlt p hp)) hsp
 ·intro sp _
  rw [hfn,hv]
  rfl
 ·intro j t r hj hrj
  rw [hbool] at hj hrj
  exact ok_one (f:=f) hbool rfl (okWide_bool_mk hb4 _) j t r (by rw [hbool];exact hj) (by rw [hbool];exact hrj)
end
theorem Tryz.own:ownKnob Tryz.prog.godebug=none:=by kernel_rfl
theorem Tryz.laidOut:laidOutB Tryz.prog=true:=by kernel_rfl
def pickP (is:List (Option Nat)) (own:Own):Own:=is.map fun | none=>none | some i=>(own[i]?).join
theorem GJ:∀ {own:Own} {i j:Nat} {k k':Bk},own.ids.Nodup→own[i]? = some (some k)→own[j]? = some (some k')→k.g=k'.g→i=j
 | [],i,j,k,k',_,h,_,_=>by simp at h
 | x::l,0,0,k,k',_,_,_,_=>rfl
 | x::l,0,j+1,k,k',hn,h1,h2,e=>by
  simp at h1 h2
  subst h1
  rw [Own.ids_cons] at hn
  simp at hn
  exact absurd (e ▸ Own.mem_ids (List.mem_of_getElem? h2)) hn.1
 | x::l,i+1,0,k,k',hn,h1,h2,e=>by
  simp at h1 h2
  subst h2
  rw [Own.ids_cons] at hn
  simp at hn
  exact absurd (e ▸ Own.mem_ids (List.mem_of_getElem? h1)) hn.1
 | x::l,i+1,j+1,k,k',hn,h1,h2,e=>by
  rw [Own.ids_cons] at hn
  have hn2:Own.ids l |>.Nodup:=(List.nodup_append.1 hn).2.1
  have:=GJ (i:=i) (j:=j) (k:=k) (k':=k') hn2 (by simpa using h1) (by simpa using h2) e
  omega
theorem Ib {is:List (Option Nat)} {own:Own} {k:Bk} (h:some k∈pickP is own):∃ i,some i∈is∧own[i]? = some (some k):=by
 obtain ⟨a,ha,e⟩:=List.mem_map.1 h
 cases a with
 | none=>cases e
 | some i =>
  refine ⟨i,ha,?_⟩
  have e:(own[i]?).join=some k:=e
  cases h2:own[i]? with
  | none=>rw [h2] at e;cases e
  | some x=>rw [h2] at e;rw [show x=some k from e]
theorem Fo {own:Own} (hn:own.ids.Nodup):∀ {is:List (Option Nat)},(is.filterMap id).Nodup→(pickP is own).ids.Nodup
 | [],_=>by simp [pickP,Own.ids]
 | none::is,h=>by
  have ih:=Fo hn (is:=is) (by simpa using h)
  show (Own.ids (none::pickP is own)).Nodup
  rw [Own.ids_cons];simpa using ih
 | some i::is,h=>by
  have h2:i ∉ is.filterMap id∧(is.filterMap id).Nodup:=by simpa using h
  have ih:=Fo hn h2.2
  show (Own.ids ((own[i]?).join::pickP is own)).Nodup
  rw [Own.ids_cons]
  cases e:(own[i]?).join with
  | none=>simpa using ih
  | some k =>
   have hk:own[i]? = some (some k):=by
    cases h3:own[i]? with
    | none=>rw [h3] at e;cases e
    | some x=>rw [h3] at e;rw [show x=some k from e]
   refine List.nodup_cons.2 ⟨fun hm=>?_,ih⟩
   obtain ⟨k',hk',e2⟩:=Own.of_ids hm
   obtain ⟨j,hj,hj2⟩:=Ib hk'
   have:i=j:=GJ hn hk hj2 e2.symm
   subst this
   exact h2.1 (List.mem_filterMap.2 ⟨_,hj,rfl⟩)
theorem keepP (is:List (Option Nat)) {g:Gh} {own own':Own} (hn:decide (is.filterMap id).Nodup=true) (e:pickP is own=own') (w:World) (h:St w g own):St w g own':=by
 subst e
 exact h.fewer (Fo h.nodup (of_decide_eq_true hn)) fun k hk=>by
  obtain ⟨i,_,h2⟩:=Ib hk
  exact List.mem_of_getElem? h2
section
variable {P:Program} {n:Nat} {g:Gh} {own:Own} {sl:Sl} {ty:TypeId} {α:Type} {T:Ty α} {p:Psi}
theorem Jg {i:Nat} {k:Option Bk} (hi:own[i]? = some k):own.set i k=own:=by
 apply List.ext_getElem?
 intro j
 rw [List.getElem?_set]
 split
 ·rename_i e;subst e
  split
  ·exact hi.symm
  ·rename_i hlt;rw [List.getElem?_eq_none (by omega)]
 ·rfl
theorem Sj {et:TypeId} {A:Option Addr} {c:Nat} {k:Option Bk} {xs:List α} {r:Psi} (h:Buf p T et (.slice A xs.length c) k xs) (hl:p.le r) (hk:∀ b,k=some b→r.m b.g=some b.obj):Arr r T A c xs:=by
 have h:=h.mono hl
 rcases h.2 with ⟨h1,rfl,_⟩ | ⟨b,cap,cs,sp,h1,h2,h3,h4,h5⟩
 ·exact Arr.nil
 ·injection h1 with e1 e2 e3
  subst e1;subst e3
  have hm:=hk _ h2
  refine ⟨?_,h.1,cs,h3,fun _=>⟨_,rfl,fun j v hj=>?_⟩⟩
  ·rw [List.length_append,h3.len] at h4
   exact Nat.le_of_mul_le_mul_right (by omega:xs.length*T.n≤c*T.n) T.pos
  ·rw [Bz]
   have:(cs++sp)[j]? = some v:=by
    have hlt:j < cs.length:=(List.getElem?_eq_some_iff.1 hj).1
    rw [List.getElem?_append_left hlt];exact hj
   simp only [Psi.cell?,hm,Bk.obj_ty]
   simpa using this
theorem Buf.open_ {et:TypeId} {A:Option Addr} {l c:Nat} {k:Option Bk} {xs:List α} (h:Buf p T et (.slice A l c) k xs) {i:Nat} (hi:i < xs.length) (d:α) :
  ∃ kb cs,A=some ⟨kb.g,0,none⟩∧k=some kb∧T.rep p cs (xs.getD i d)∧(kb.cs.drop (i*T.n)).take T.n=cs:=by
 rcases h.2 with ⟨_,rfl,_⟩ | ⟨b,cap,cs,sp,h1,h2,h3,h4,h5⟩
 ·simp at hi
 ·injection h1 with e1 e2 e3
  have hx:xs[i]? = some (xs.getD i d):=by rw [List.getD_eq_getElem?_getD,List.getElem?_eq_getElem hi];rfl
  refine ⟨_,_,e1,h2,h3.at_ hx,?_⟩
  have hle:i*T.n+T.n≤cs.length:=by rw [h3.len,← Nat.succ_mul];exact Nat.mul_le_mul_right _ hi
  show (List.drop (i*T.n) (cs++sp)).take T.n=(List.drop (i*T.n) cs).take T.n
  rw [List.drop_append_of_le_length (by omega),List.take_append_of_le_length (by rw [List.length_drop];omega)]
theorem rowAt {kb:Bk} {cs:List Value} {i m off:Nat} {v:Value} (h:(kb.cs.drop (i*m)).take m=cs) (hv:cs[off]? = some v):kb.cs[i*m+off]? = some v:=by
 subst h
 exact BU hv
theorem Jh:∀ (vs cs:List Value) (o:Nat),(setRow cs o vs).length=cs.length
 | [],cs,o=>rfl
 | v::vs,cs,o=>by rw [setRow,Jh vs];simp
theorem EX:∀ (vs:List Value) (a b:List Value) (o:Nat),o+vs.length≤a.length→setRow (a++b) o vs=setRow a o vs++b
 | [],a,b,o,h=>rfl
 | v::vs,a,b,o,h=>by
  rw [setRow,setRow,List.set_append_left _ _ (by simp at h;omega)]
  exact EX vs _ b (o+1) (by simp at h ⊢;omega)
theorem EY:∀ (vs:List Value) (a b:List Value) (o:Nat),setRow (a++b) (a.length+o) vs=a++setRow b o vs
 | [],a,b,o=>rfl
 | v::vs,a,b,o=>by
  rw [setRow,setRow,List.set_append_right _ _ (by omega),show a.length+o - a.length=o by omega,Nat.add_assoc]
  exact EY vs a _ (o+1)
theorem Reps.setPart:∀ {xs:List α} {cs:List Value} {i off:Nat} {vs:List Value} {x:α} {c:List Value},Reps T p cs xs→(cs.drop (i*T.n)).take T.n=c→T.rep p (setRow c off vs) x→off+vs.length≤T.n→i < xs.length →
  Reps T p (setRow cs (i*T.n+off) vs) (xs.set i x)
 | [],cs,i,off,vs,x,c,h,hc,hx,ho,hi=>by simp at hi
 | y::xs,cs,0,off,vs,x,c,⟨c1,c2,e1,h1,h2⟩,hc,hx,ho,hi=>by
  subst e1
  have e:c1=c:=by rw [← hc,Nat.zero_mul,List.drop_zero,← T.len h1];simp
  subst e
  rw [Nat.zero_mul,Nat.zero_add,EX _ _ _ _ (by rw [T.len h1];exact ho)]
  exact ⟨_,c2,rfl,hx,h2⟩
 | y::xs,cs,i+1,off,vs,x,c,⟨c1,c2,e1,h1,h2⟩,hc,hx,ho,hi=>by
  subst e1
  have hd:(c2.drop (i*T.n)).take T.n=c:=by
   rw [← hc,Nat.succ_mul,Nat.add_comm,← List.drop_drop]
   rw [show List.drop T.n (c1++c2)=c2 by rw [← T.len h1];simp]
  have ih:=h2.setPart hd hx ho (by simpa using hi)
  rw [Nat.succ_mul,show i*T.n+T.n+off=c1.length+(i*T.n+off) by rw [T.len h1];omega,EY]
  exact ⟨c1,_,rfl,h1,ih⟩
theorem XC {t:TypeId} {x y:Operand} (i m off io:Nat) (v:Value) (vs:List Value) {et:TypeId} {A:Option Addr} {l c:Nat} {kb:Bk} {cs:List Value} (xs:List α) (u:α) (hx:evS sl x=some (.pointer (some ⟨kb.g,i*m+off,none⟩))) (hy:evS sl y=some v) (hi:own[io]? = some (some kb))
  (hv:v.cells=vs.toArray) (hz:cellsOfT P t=some vs.length) (h1:vs.all Ja=true) (hb:Buf p T et (.slice A l c) (some kb) xs) (hm:m=T.n) (hr:(kb.cs.drop (i*m)).take m=cs) (hu:T.rep p (setRow cs off vs) u) (ho:Nat.ble (off+vs.length) T.n=true) (hlt:i < xs.length) :
  Eff P n g own sl (.store t x y) ty (fun v' g' own'=>∃ k',g=g'∧own'=own.set io k'∧Buf p T et (.slice A l c) k' (xs.set i u)):=by
 subst hm
 intro o a w Q K e1 e2 hf hs h
 have ho':off+vs.length≤T.n:=by simpa using ho
 rcases hb.2 with ⟨_,rfl,_⟩ | ⟨b,cap,cs0,sp,q1,q2,q3,q4,q5⟩
 ·simp at hlt
 ·injection q2 with q2
  have hl0:i*T.n+T.n≤cs0.length:=by rw [q3.len,← Nat.succ_mul];exact Nat.mul_le_mul_right _ hlt
  have hcs:(cs0.drop (i*T.n)).take T.n=cs:=by
   rw [← hr,q2]
   show _=(List.drop (i*T.n) (cs0++sp)).take T.n
   rw [List.drop_append_of_le_length (by omega),List.take_append_of_le_length (by rw [List.length_drop];omega)]
  have hl:i*T.n+off+vs.length≤kb.cs.length:=by rw [q2];simp;omega
  refine Tv (k:=kb) hx hy hi rfl hv hz h1 (by simpa using hl) rfl o a w Q K e1 e2 hf hs fun v' g' own' w' hg hs' ⟨h2,h3⟩=>h v' g' own' w' hg hs' ⟨_,h2,h3,?_⟩
  refine ⟨by rw [List.length_set];exact hb.1,.inr ⟨b,cap,setRow cs0 (i*T.n+off) vs,sp,by rw [List.length_set];exact q1,?_,q3.setPart hcs hu ho' hlt,by rw [List.length_append,Jh,← List.length_append];exact q4,q5⟩⟩
  rw [q2]
  simp only [Option.some.injEq,Bk.mk.injEq,true_and]
  exact EX _ _ _ _ (by omega)
theorem AiS {m bytes:Nat} (h:m*bytes≤140737488355328):m*bytes≤281474976710656:=Nat.le_trans h (by decide)
theorem Afg {K own:Own} (is:List (Option Nat)) (h:pickP is own=K):keepK K own:=by
 subst h
 exact fun k hk=>by
  obtain ⟨i,_,h2⟩:=Ib hk
  exact List.mem_of_getElem? h2
theorem Sk {k:Bk} (off:Nat) (cs:List Value) (h:p.m k.g=some k.obj) (e:(k.cs.drop off).take cs.length=cs):Cells p ⟨k.g,off,none⟩ cs:=by
 intro j v hj
 rw [Bz]
 simp only [Psi.cell?,h]
 rw [← e] at hj
 have:=BU hj
 obtain ⟨g,t,ks⟩:=k
 cases t with
 | ty t=>simpa [Bk.obj] using this
 | mp es n =>
  cases ks with
  | nil=>simp at this
  | cons c l=>simpa [Bk.obj] using this
theorem Buf.srcO {et:TypeId} {A:Option Addr} {c:Nat} {k:Option Bk} {xs:List α} (h:Buf p T et (.slice A xs.length c) k xs):∃ news,Reps T p news xs∧∀ (i:Nat) w (own:Own),St w g own→own[i]? = some k→Src w A xs.length news:=by
 obtain ⟨news,h1,h2⟩:=h.src
 exact ⟨news,h1,fun i w own hs hi=>h2 w fun b hb=>by subst hb;exact hs.has b (List.mem_of_getElem? hi)⟩
structure ArrM (r b:Psi) (T:Ty α) (A:Option Addr) (c:Nat) (xs:List α):Prop where
 cap:xs.length≤c
 len:xs.length≤140737488355328
 row:∃ cs,Reps T b cs xs∧(0 < xs.length→∃ ad,A=some ad∧Cells r ad cs)
theorem ArrM.mono {r b r' b':Psi} {A:Option Addr} {c:Nat} {xs:List α} (h:ArrM r b T A c xs) (k:r.le r') (l:b.le b'):ArrM r' b' T A c xs:=by
 obtain ⟨h1,h0,cs,h2,h3⟩:=h
 exact ⟨h1,h0,cs,h2.mono l,fun hn=>by obtain ⟨ad,e,hc⟩:=h3 hn;exact ⟨ad,e,hc.mono k⟩⟩
theorem ArrM.toArr {r b:Psi} {A:Option Addr} {c:Nat} {xs:List α} (h:ArrM r b T A c xs) (l:b.le r):Arr r T A c xs:=by
 obtain ⟨h1,h0,cs,h2,h3⟩:=h
 exact ⟨h1,h0,cs,h2.mono l,h3⟩
theorem Arr.toM {r b:Psi} {A:Option Addr} {c:Nat} {xs:List α} (h:Arr b T A c xs) (l:b.le r):ArrM r b T A c xs:=by
 obtain ⟨h1,h0,cs,h2,h3⟩:=h
 exact ⟨h1,h0,cs,h2,fun hn=>by obtain ⟨ad,e,hc⟩:=h3 hn;exact ⟨ad,e,hc.mono l⟩⟩
theorem ArrM.lent {g g':Gh} {A:Option Addr} {c:Nat} {xs:List α} (h:ArrM g.r g.b T A c xs) (k:g.r.le g'.r) (e:g'.b=g.b):ArrM g'.r g'.b T A c xs:=by rw [e];exact h.mono k (.refl _)
theorem ArrM.nil {r b:Psi} {A:Option Addr} {c:Nat}:ArrM r b T A c []:=⟨Nat.zero_le _,by simp,[],rfl,fun h=>absurd h (by simp)⟩
theorem ArrM.at_ {r b:Psi} {A:Option Addr} {c:Nat} {xs:List α} (h:ArrM r b T A c xs) {i:Nat} {x:α} (hi:xs[i]? = some x):∃ ad cs,A=some ad∧T.rep b cs x∧Cells r (ad.add (i*T.n)) cs:=by
 obtain ⟨_,_,cs,h2,h3⟩:=h
 have hlt:i < xs.length:=by
  rcases Nat.lt_or_ge i xs.length with h | h
  ·exact h
  ·rw [List.getElem?_eq_none h] at hi;cases hi
 obtain ⟨ad,e,hc⟩:=h3 (by omega)
 exact ⟨ad,_,e,h2.at_ hi,hc.part _ _⟩
theorem ArrM.srcM {A:Option Addr} {c:Nat} {xs:List α} (h:ArrM g.r g.b T A c xs):∃ news,Reps T g.b news xs∧∀ w own,St w g own→Src w A xs.length news:=by
 obtain ⟨_,_,cs,h2,h3⟩:=h
 refine ⟨cs,h2,fun w own hs hn=>?_⟩
 obtain ⟨ad,e,hc⟩:=h3 hn
 exact ⟨ad,e,fun j u hj=>hs.r.cell (hc j u hj)⟩
theorem NF {et:TypeId} {A:Option Addr} {c:Nat} {k:Option Bk} {xs:List α} {g':Gh} (h:Buf g.b T et (.slice A xs.length c) k xs) (e:g'.b=g.b) (hk:∀ b,k=some b→g'.r.m b.g=some b.obj):ArrM g'.r g'.b T A c xs:=by
 rw [e]
 rcases h.2 with ⟨h1,rfl,_⟩ | ⟨b,cap,cs,sp,h1,h2,h3,h4,h5⟩
 ·exact ArrM.nil
 ·injection h1 with e1 e2 e3
  subst e1;subst e3
  have hm:=hk _ h2
  refine ⟨?_,h.1,cs,h3,fun _=>⟨_,rfl,fun j v hj=>?_⟩⟩
  ·rw [List.length_append,h3.len] at h4
   exact Nat.le_of_mul_le_mul_right (by omega:xs.length*T.n≤c*T.n) T.pos
  ·rw [Bz]
   have:(cs++sp)[j]? = some v:=by
    have hlt:j < cs.length:=(List.getElem?_eq_some_iff.1 hj).1
    rw [List.getElem?_append_left hlt];exact hj
   simp only [Psi.cell?,hm,Bk.obj_ty]
   simpa using this
end
section
variable {P:Program} {ops:Array Oper} {Q:Exit→Act→World→Prop} {n:Nat} {lds fin:List Nat} {p:Psi} {K:Own} {g:Gh} {own:Own} {sl:Sl} {fuel:Nat} {listed:List Bool}
end
section
variable {P:Program} {n:Nat} {g:Gh} {own:Own} {sl:Sl} {ty:TypeId}
end
section
variable {P:Program} {n:Nat} {p:Psi} {own:Own} {sl:Sl} {ty:TypeId}
def partOf (P:Program) (t:TypeId) (xs:Array Value) (off:Nat):Option Value :=
 match aggOf P t with
 | some m=>some (.agg (xs.extract off (off+m)))
 | none=>if flatOf P t then xs[off]? else none
theorem EZ {t:TypeId} {xs:Array Value} {off:Nat} {v:Value} (h:partOf P t xs off=some v) (w:World):(part t xs off).run P w = .ok v w:=by
 unfold partOf at h
 split at h
 ·rename_i m hm
  injection h with h
  obtain ⟨h1,h2⟩:=EW hm w
  subst h
  simp [part,h1,h2]
 ·split at h
  ·rename_i hf
   have h1:=DG hf w
   simp [part,h1,h]
  ·cases h
def joinB (c:Bool):Option Bool→Option Bool
 | none=>some c
 | some r=>some (c&&r)
def eqOf (P:Program):Nat→TypeId→Value→Value→Option Bool
 | 0,_,_,_=>none
 | d+1,t,x,y =>
  match P.underlying t,x,y with
  | some .bool,.bool a,.bool b=>some (a==b)
  | some .string,.string a,.string b=>some (a.toList==b.toList)
  | some (.int _),.int k a,.int k' b=>if k=k' then some (a==b) else none
  | some (.struct _),.agg xs,.agg ys =>
   if P.stoodInHeld t then none else
   match (P.fieldsOf t).toList.foldr (fun f r=>match r with
    | none=>none
    | some r=>if f.name = "_" then some r else
     match partOf P f.type xs f.offset,partOf P f.type ys f.offset with
     | some a,some b=>match eqOf P d f.type a b with
      | some c=>some (joinB c r)
      | none=>none
     | _,_=>none) (some none) with
   | some (some b)=>some b
   | _=>none
  | some (.array m e),.agg xs,.agg ys =>
   match P.info? e with
   | none=>none
   | some _=>match (List.range m).foldr (fun i r=>match r with
     | none=>none
     | some r=>match partOf P e xs (i*P.cellsOf e),partOf P e ys (i*P.cellsOf e) with
      | some a,some b=>match eqOf P d e a b with
       | some c=>some (joinB c r)
       | none=>none
      | _,_=>none) (some none) with
    | some (some b)=>some b
    | _=>none
  | _,_,_=>none
theorem NG {d D:Nat} {w:World} {e:TypeId} {k:Nat} {xs ys:Array Value} (ih:∀ t x y b,eqOf P d t x y=some b→(Op.equalIn (d+D) t x y).run P w = .ok b w):∀ (is:List Nat) (r:Option Bool),
  is.foldr (fun i r=>match r with
     | none=>none
     | some r=>match partOf P e xs (i*k),partOf P e ys (i*k) with
      | some a,some b=>match eqOf P d e a b with
       | some c=>some (joinB c r)
       | none=>none
      | _,_=>none) (some none)=some r→(Op.eqItems (d+D) e k xs ys is).run P w = .ok (r.getD true) w
 | [],r,h=>by injection h with h;subst h;simp [Op.eqItems]
 | i::is,r,h=>by
  rw [List.foldr_cons] at h
  split at h
  ·cases h
  ·rename_i r1 hr1
   have ih2:=NG ih is r1 hr1
   split at h
   ·rename_i a b ha hb
    split at h
    ·rename_i c hc
     injection h with h
     have e:=ih _ _ _ _ hc
     subst h
     simp only [Op.eqItems,Sem.run_bind,EZ ha,EZ hb,Result.andThen_ok,e]
     cases c with
     | false=>cases r1 <;> simp [joinB]
     | true=>cases r1 <;> simp [joinB,ih2]
    ·cases h
   ·cases h
theorem NH {d D:Nat} {w:World} {xs ys:Array Value} (ih:∀ t x y b,eqOf P d t x y=some b→(Op.equalIn (d+D) t x y).run P w = .ok b w):∀ (fs:List Field) (r:Option Bool),
  fs.foldr (fun f r=>match r with
    | none=>none
    | some r=>if f.name = "_" then some r else
     match partOf P f.type xs f.offset,partOf P f.type ys f.offset with
     | some a,some b=>match eqOf P d f.type a b with
      | some c=>some (joinB c r)
      | none=>none
     | _,_=>none) (some none)=some r→(Op.eqFields (d+D) xs ys fs).run P w = .ok (r.getD true) w
 | [],r,h=>by injection h with h;subst h;simp [Op.eqFields]
 | f::fs,r,h=>by
  rw [List.foldr_cons] at h
  split at h
  ·cases h
  ·rename_i r1 hr1
   have ih2:=NH ih fs r1 hr1
   split at h
   ·rename_i hn
    injection h with h;subst h
    simp [Op.eqFields,hn,ih2]
   ·rename_i hn
    split at h
    ·rename_i a b ha hb
     split at h
     ·rename_i c hc
      injection h with h
      have e:=ih _ _ _ _ hc
      subst h
      simp only [Op.eqFields,hn,ne_eq,not_false_eq_true,if_true,Sem.run_bind,EZ ha,EZ hb,Result.andThen_ok,e]
      cases c with
      | false=>cases r1 <;> simp [joinB]
      | true=>cases r1 <;> simp [joinB,ih2]
     ·cases h
    ·cases h
theorem GK {w:World}:∀ (d D:Nat) (t:TypeId) (x y:Value) (b:Bool),eqOf P d t x y=some b→(Op.equalIn (d+D) t x y).run P w = .ok b w
 | 0,D,t,x,y,b,h=>by cases h
 | d+1,D,t,x,y,b,h=>by
  rw [show d+1+D=(d+D)+1 by omega]
  unfold eqOf at h
  split at h
  ·rename_i a b' ht
   injection h with h;subst h
   exact run_equalIn_bool' w _ t a b' ht
  ·rename_i a b' ht
   injection h with h;subst h
   exact run_equalIn_string w _ t a b' ht
  ·rename_i k0 k a k' b' ht
   split at h
   ·rename_i hk
    injection h with h;subst h;subst hk
    exact run_equalIn_int w _ t k k0 a b' ht
   ·cases h
  ·rename_i fs xs ys ht
   split at h
   ·cases h
   ·rename_i hst
    split at h
    ·rename_i b' hf
     injection h with h;subst h
     have hfs:P.underlying t=some (.struct (P.fieldsOf t)):=by simp [Program.fieldsOf,ht]
     rw [run_equalIn_struct w _ t xs ys hfs (by simpa using hst)]
     exact NH (fun t x y b h=>GK d D t x y b h) _ _ hf
    ·cases h
  ·rename_i m e xs ys ht
   split at h
   ·cases h
   ·rename_i i hi
    split at h
    ·rename_i b' hf
     injection h with h;subst h
     rw [run_equalIn_array w _ xs ys ht hi]
     exact NG (fun t x y b h=>GK d D t x y b h) _ _ hf
    ·cases h
  ·cases h
theorem AlK {t u:TypeId} {x y:Operand} {xs ys:Array Value} {b:Bool} (hx:evS sl x=some (.agg xs)) (hy:evS sl y=some (.agg ys)) (hg:P.eqGuardType P.depth t=false) (h:eqOf P 9 t (.agg xs) (.agg ys)=some b):Yld P n p own sl (.binOp .eql t x y u) ty (.bool b):=by
 intro o a w h1 h2 hf hr
 have e:=GK (P:=P) (w:=w) 9 9991 t _ _ b h
 have e2:=run_eql_struct (P:=P) w t xs ys
 rw [e] at e2
 simp [execOp,h1,hf.ev hx,hf.ev hy,run_eqGuard_agg (P:=P) w .eql t x y xs ys hg,e2]
theorem AlL {t u:TypeId} {x y:Operand} {xs ys:Array Value} {b:Bool} (hx:evS sl x=some (.agg xs)) (hy:evS sl y=some (.agg ys)) (hg:P.eqGuardType P.depth t=false) (h:eqOf P 9 t (.agg xs) (.agg ys)=some b):Yld P n p own sl (.binOp .neq t x y u) ty (.bool (!b)):=by
 intro o a w h1 h2 hf hr
 have e:=GK (P:=P) (w:=w) 9 9991 t _ _ b h
 have e2:=run_neq_struct (P:=P) w t xs ys
 rw [e] at e2
 simp [execOp,h1,hf.ev hx,hf.ev hy,run_eqGuard_agg (P:=P) w .neq t x y xs ys hg,e2]
end
abbrev vy (x:Int):Value:= .int .u8 x
abbrev vb (b:Bool):Value:= .bool b
abbrev vs {α:Type} (A:Option Addr) (xs:List α) (c:Nat):Value:= .slice A xs.length c
inductive Ctl (σ ρ:Type) where
 | go (s:σ)
 | done (r:ρ)
def grd {ρ:Type} (b:Bool) (x:Option ρ):Option ρ:=cond b x none
def bindO {τ ρ:Type} (x:Option τ) (k:τ→Option ρ):Option ρ:=match x with | some t=>k t | none=>none
def joinO {τ ρ:Type} (x:Option (Ctl τ ρ)) (k:τ→Option ρ):Option ρ:=match x with | some (.go t)=>k t | some (.done r)=>some r | none=>none
def loopO {σ ρ:Type} (n:Nat) (f:σ→Option (Ctl σ ρ)) (s:σ):Option ρ:=Nat.rec (motive:=fun _=>σ→Option ρ) (fun _=>none) (fun _ ih s=>joinO (f s) ih) n s
def fuelN:Nat:=18446744073709551616
theorem AiB {ρ:Type} {b:Bool} {A:Option ρ} {r:ρ} (hS:grd b A=some r):b=true∧A=some r:=by
 cases b with
 | true=>exact ⟨rfl,hS⟩
 | false=>cases hS
theorem GL {τ ρ:Type} {x:Option τ} {k:τ→Option ρ} {r:ρ} (hS:bindO x k=some r):∃ t,x=some t∧k t=some r:=by
 cases x with
 | none=>cases hS
 | some t=>exact ⟨t,rfl,hS⟩
theorem Tz {τ ρ:Type} {x:Option (Ctl τ ρ)} {k:τ→Option ρ} {r:ρ} (hS:joinO x k=some r):∃ c,x=some c∧(∀ t,c = .go t→k t=some r)∧∀ v,c = .done v→v=r:=by
 cases x with
 | none=>cases hS
 | some c =>
  refine ⟨c,rfl,fun t e=>?_,fun v e=>?_⟩
  ·subst e;exact hS
  ·subst e;exact Option.some.inj hS
theorem Afh {σ ρ:Type} {n:Nat} {f:σ→Option (Ctl σ ρ)} {s:σ} {r:ρ} (hS:loopO n f s=some r):∃ m c,n=m+1∧f s=some c∧(∀ t,c = .go t→loopO m f t=some r)∧∀ v,c = .done v→v=r:=by
 cases n with
 | zero=>cases hS
 | succ m =>
  obtain ⟨c,h1,h2,h3⟩:=Tz (x:=f s) (k:=loopO m f) hS
  exact ⟨m,c,rfl,h1,h2,h3⟩
section
variable {P:Program} {Q:Exit→Act→World→Prop} {n:Nat} {g:Gh} {own:Own} {sl:Sl} {C:Code} {p:List Nat}
end
section
variable {P:Program} {ops:Array Oper} {Q:Exit→Act→World→Prop} {n:Nat} {g:Gh} {own:Own} {sl:Sl}
end
section
variable {P:Program} {ops:Array Oper} {Q:Exit→Act→World→Prop} {n:Nat} {g:Gh} {own:Own} {sl:Sl}
variable {lds fin:List Nat} {p:Psi} {K:Own}
theorem kk {i:Nat} {G:Prop} {own':Own} (m:List (Option Nat)) (k:G) (h:pickP m own'=K:=by kernel_rfl):(fin.contains i=true∨keepK K own')∧G:=⟨.inr (Afg m h),k⟩
end
section
variable {P:Program} {n:Nat} {p:Psi} {own:Own} {sl:Sl} {ty:TypeId} {op:Op}
def bnd (o:Option Int) (d:Nat) (l:Nat):Prop:=match o with | none=>d=l | some z=>z=(l:Int)
end
section
variable {P:Program} {n:Nat} {g:Gh} {own:Own} {sl:Sl} {ty:TypeId} {op:Op} {p:Psi} {α:Type} {T:Ty α}
def Row (p:Psi) (T:Ty α) (et:TypeId) (b:Nat) (N:Nat) (k:Option Bk) (xs:List α):Prop:=∃ cs,k=some ⟨b,et,cs⟩∧Reps T p cs xs∧xs.length=N
theorem Row.mono {et:TypeId} {b N:Nat} {k:Option Bk} {xs:List α} {q:Psi} (h:Row p T et b N k xs) (hl:p.le q):Row q T et b N k xs:=by
 obtain ⟨cs,h1,h2,h3⟩:=h
 exact ⟨cs,h1,h2.mono hl,h3⟩
theorem Row.open_ {et:TypeId} {b N:Nat} {k:Option Bk} {xs:List α} (h:Row p T et b N k xs) {i:Nat} (hi:i < N) (d:α):∃ kb cs,b=kb.g∧k=some kb∧i < xs.length∧T.rep p cs (xs.getD i d)∧(kb.cs.drop (i*T.n)).take T.n=cs:=by
 obtain ⟨cs,h1,h2,h3⟩:=h
 have hx:xs[i]? = some (xs.getD i d):=by rw [List.getD_eq_getElem?_getD,List.getElem?_eq_getElem (by omega)];rfl
 exact ⟨_,_,rfl,h1,by omega,h2.at_ hx,rfl⟩
end
section
variable {P:Program} {Q:Exit→Act→World→Prop} {n:Nat} {g g0:Gh} {own:Own} {sl:Sl} {C:Code} {pth:List Nat}
end
section
variable {P:Program} {Q:Exit→Act→World→Prop} {n:Nat} {g:Gh} {own:Own} {sl:Sl} {C c:Code} {p:List Nat}
end
section
variable {n:Nat} {g:Gh} {own:Own} {sl:Sl} {p:Psi} {α:Type} {T:Ty α}
end
section
variable {P:Program} {n:Nat} {p:Psi} {own:Own} {sl:Sl} {ty:TypeId} {op:Op}
end
section
variable {P:Program} {n:Nat} {p:Psi} {g:Gh} {own:Own} {sl:Sl} {ty:TypeId} {op:Op} {α:Type} {T:Ty α}
end
section
variable {P:Program} {ops:Array Oper} {Q:Exit→Act→World→Prop} {n:Nat} {g:Gh} {own:Own} {sl:Sl} {lds fin:List Nat} {p:Psi} {K:Own}
end
theorem XD {x:Int} (h:0≤x∧x≤4294967295):IntKind.u32.wrap x=x:=IntWalk.u32_in x h
section
variable {P:Program} {n:Nat} {p:Psi} {own:Own} {sl:Sl} {ty:TypeId} {op:Op}
theorem Ji {w:World} (d:Nat) {t e:TypeId} {A:Option Addr} (ht:P.underlying t=some (.pointer e)):(Op.equalIn (d+1) t (.pointer A) (.pointer none)).run P w = .ok A.isNone w:=by
 cases A <;> simp [Op.equalIn,run_underlying ht]
end
theorem BO {σ ρ:Type} {f:σ→Option (Ctl σ ρ)} {s s':σ} {N:Nat} (h:f s=some (.go s')):loopO (N+1) f s=loopO N f s':=by
 show joinO (f s) (loopO N f)=_
 rw [h];rfl
theorem BE {σ ρ:Type} {f:σ→Option (Ctl σ ρ)} {s:σ} {r:ρ} {N:Nat} (h:f s=some (.done r)):loopO (N+1) f s=some r:=by
 show joinO (f s) (loopO N f)=_
 rw [h];rfl
section
variable {P:Program} {n:Nat} {g:Gh} {own:Own} {sl:Sl} {ty:TypeId} {op:Op} {α:Type} {T:Ty α}
end
theorem Dw {H:Type} {enc:TypeId×Value→H} {P:Program} {t e:TypeId} {k:Nat} {w:World} {base:Nat} {spare:Nat→Bool} {held:Bool} {fuel:Nat} {cs:List Value} {d:DataW H} {pl:List MemPlace} (ht:P.underlying t=some (.array k e))
  (h:DataW.trod enc P w base spare held fuel t cs=some (d,pl)) (hw:∀ m∈d.weights P t,m≤reachBytes) :
  cs.length=P.cellsOf t∧∀ i,i < k→∃ n d' pl',DataW.trod enc P w base spare held n e ((cs.drop (i*P.cellsOf e)).take (P.cellsOf e))=some (d',pl')∧∀ m∈d'.weights P e,m≤reachBytes:=by
 obtain ⟨xs,n,_,hx,hlen,hxl,hf⟩:=DataW.trod_array ht h
 injection hx with hd _
 subst hd
 simp only [DataW.weights,ht] at hw
 refine ⟨hlen,fun i hi=>?_⟩
 have hlt:i < xs.length:=by rw [hxl];exact hi
 refine ⟨n,(xs[i]).1,(xs[i]).2,(hf i hi).trans (List.getElem?_eq_getElem hlt),fun m hm=>hw m ?_⟩
 exact DH (List.mem_map.2 ⟨xs[i],List.getElem_mem ..,rfl⟩) hm
theorem Mr (x:Int): -9223372036854775808≤IntKind.i64.wrap x∧IntKind.i64.wrap x≤9223372036854775807:=by rw [IntKind.wrap_i64];omega
theorem TA (x:Int):0≤IntKind.u64.wrap x∧IntKind.u64.wrap x≤18446744073709551615:=Sg (wf_wrap .u64 x)
def landnK (k:IntKind) (a b:Int):Int:=k.wrap (BitVec.ofInt k.bits a &&& ~~~ BitVec.ofInt k.bits b).toNat
section
variable {P:Program} {n:Nat} {g:Gh} {own:Own} {sl:Sl} {ty:TypeId} {op:Op} {p:Psi} {α:Type} {T:Ty α}
end
section
variable {P:Program} {n:Nat} {own:Own} {sl:Sl} {ty:TypeId} {op:Op} {p:Psi}
end
section
variable {P:Program} {n:Nat} {own:Own} {sl:Sl} {ty:TypeId} {op:Op} {p:Psi}
end
def mapEnts:List Value→Nat→List MapEntry
 | k::v::l,i=>⟨k,v,i⟩::mapEnts l (i+1)
 | _,_=>[]
def mapB (cs:List Value):BkT:= .mp (mapEnts cs 0).toArray (cs.length / 2)
section
variable {α:Type} {T:Ty α} {p q:Psi}
def ElS (T:Ty α) (p:Psi) (v:Value) (y:List α):Prop:=∃ A c,v = .slice A y.length c∧Arr p T A c y
def MReps (T:Ty α) (p:Psi):List Value→List (Int×List α)→Prop
 | [],[]=>True
 | k::v::cs,x::xs=>k = .int .u8 x.1∧ElS T p v x.2∧MReps T p cs xs
 | _,_=>False
theorem ElS.mono {v:Value} {y:List α} (h:ElS T p v y) (hl:p.le q):ElS T q v y:=by
 obtain ⟨A,c,e,f⟩:=h
 exact ⟨A,c,e,f.mono hl⟩
theorem MReps.mono (hl:p.le q):∀ {cs:List Value} {xs:List (Int×List α)},MReps T p cs xs→MReps T q cs xs
 | [],[],_=>trivial
 | [],_::_,h=>h.elim
 | [_],_,h=>h.elim
 | k::v::cs,[],h=>h.elim
 | k::v::cs,x::xs,h=>⟨h.1,h.2.1.mono hl,MReps.mono hl h.2.2⟩
def MBuf (p:Psi) (T:Ty α) (v:Value) (k:Option Bk) (xs:List (Int×List α)):Prop:=∃ b cs,v = .map (some b)∧k=some ⟨b,mapB cs,[]⟩∧MReps T p cs xs
theorem MBuf.mono {v:Value} {k:Option Bk} {xs:List (Int×List α)} (h:MBuf p T v k xs) (hl:p.le q):MBuf q T v k xs:=by
 obtain ⟨b,cs,h1,h2,h3⟩:=h
 exact ⟨b,cs,h1,h2,h3.mono hl⟩
end
theorem Fp {P:Program} {t e:TypeId} {α:Type} {T:Ty α} {ok:α→Prop} (m:Nat) (hm:P.bytesOf e=m) (he:Opens P e T ok) (ht:P.underlying t=some (.slice e)) (hc:P.cellsOf e=T.n) (hb:Nat.blt 0 (P.bytesOf e)=true):Opens P t (tyArr T) (fun xs=>xs.length*m≤140737488351232∧∀ x∈xs,ok x):=by
 intro H enc w base spare held fuel cs d pl h hw
 obtain ⟨xs,hr,hk⟩:=NE he ht hc hb h hw
 refine ⟨xs,hr,?_,hk⟩
 obtain ⟨A,c,rfl,hA⟩:=hr
 rcases open_slice ht h with ⟨h1,_⟩ | ⟨a,len,cap,k,n,D,Pl,h1,hbs,hl,hmm,hmk,hx,hi⟩
 ·simp only [List.cons.injEq,Value.slice.injEq,and_true] at h1
  rw [h1.2.1];omega
 ·simp only [List.cons.injEq,Value.slice.injEq,and_true] at h1
  obtain ⟨_,h2,_⟩:=h1
  have hlm:len≤k:=by rw [hmk];split <;> omega
  injection hx with hd _
  subst hd
  simp only [DataW.weights,ht] at hw
  have:=hw _ (List.mem_cons_self ..)
  simp only [List.length_map,List.length_range,reachBytes] at this
  rw [h2,← hm]
  have h3:len*P.bytesOf e≤(len+(k - len))*P.bytesOf e:=Nat.mul_le_mul_right _ (by omega)
  omega
section
variable {P:Program} {n:Nat} {g:Gh} {own:Own} {sl:Sl} {ty:TypeId} {op:Op} {α:Type} {T:Ty α}
end
def GW (w:World):Prop:=True
inductive Cd where
 | i (k:IntKind)
 | y
 | b
 | s
 | a (c:Cd)
 | p (c d:Cd)
def Cd.den:Cd→Type
 | .i _=>Int
 | .y=>UInt8
 | .b=>Bool
 | .s=>List UInt8
 | .a c=>List c.den
 | .p c d=>c.den×d.den
def Cd.n:Cd→Nat
 | .p c d=>c.n+d.n
 | _=>1
def Cd.dflt:(c:Cd)→c.den
 | .i _=>(0:Int)
 | .y=>(0:UInt8)
 | .b=>false
 | .s=>([]:List UInt8)
 | .a c=>([]:List c.den)
 | .p c d=>(c.dflt,d.dflt)
def sameK:(j k:IntKind)→Option (PLift (j=k))
 | .i8,.i8=>some ⟨rfl⟩ | .i16,.i16=>some ⟨rfl⟩ | .i32,.i32=>some ⟨rfl⟩ | .i64,.i64=>some ⟨rfl⟩
 | .u8,.u8=>some ⟨rfl⟩ | .u16,.u16=>some ⟨rfl⟩ | .u32,.u32=>some ⟨rfl⟩ | .u64,.u64=>some ⟨rfl⟩
 | _,_=>none
def Cd.same:(c d:Cd)→Option (PLift (c=d))
 | .i j,.i k=>match sameK j k with | some ⟨h⟩=>some ⟨by rw [h]⟩ | none=>none
 | .y,.y=>some ⟨rfl⟩
 | .b,.b=>some ⟨rfl⟩
 | .s,.s=>some ⟨rfl⟩
 | .a c,.a d=>match c.same d with | some ⟨h⟩=>some ⟨by rw [h]⟩ | none=>none
 | .p c d,.p e f=>match c.same e,d.same f with | some ⟨h⟩,some ⟨k⟩=>some ⟨by rw [h,k]⟩ | _,_=>none
 | _,_=>none
theorem Fq (k:IntKind):inK k 0:=by cases k <;> simp [inK,IntKind.min,IntKind.max,IntKind.signed,IntKind.bits]
theorem El (k:IntKind) (x:Int):inK k (k.wrap x):=by
 have h:k.wrap x=k.wrap x:=rfl
 cases k <;> simp [inK,IntKind.min,IntKind.max,IntKind.signed,IntKind.bits,IntKind.wrap] <;> omega
def tyIR (k:IntKind):Ty Int:=⟨1,by decide,fun _ cs x=>cs=[.int k x]∧inK k x,fun h=>by rw [h.1];rfl,fun h=>by rw [h.1];rfl,fun _ h=>h⟩
def tySR:Ty (List UInt8):=⟨1,by decide,fun _ cs x=>cs=[.string (mkS x)]∧x.length≤140737488355328,fun h=>by rw [h.1];rfl,fun h=>by rw [h.1];rfl,fun _ h=>h⟩
def tyPr {α β:Type} (T:Ty α) (U:Ty β):Ty (α×β):=⟨T.n+U.n,Nat.add_pos_left T.pos _,fun p cs x=>∃ c1 c2,cs=c1++c2∧T.rep p c1 x.1∧U.rep p c2 x.2,
 fun ⟨c1,c2,e,h1,h2⟩=>by rw [e,List.length_append,T.len h1,U.len h2],fun ⟨c1,c2,e,h1,h2⟩=>by rw [e,List.all_append,T.one h1,U.one h2];rfl,fun k ⟨c1,c2,e,h1,h2⟩=>⟨c1,c2,e,T.mono k h1,U.mono k h2⟩⟩
def Cd.ty:(c:Cd)→Ty c.den
 | .i k=>tyIR k
 | .y=>Ia
 | .b=>tyB
 | .s=>tySR
 | .a c=>tyArr c.ty
 | .p c d=>tyPr c.ty d.ty
theorem Cd.ty_n:∀ (c:Cd),c.ty.n=c.n
 | .i _=>rfl
 | .y=>rfl
 | .b=>rfl
 | .s=>rfl
 | .a _=>rfl
 | .p c d=>by show c.ty.n+d.ty.n=c.n+d.n;rw [Cd.ty_n c,Cd.ty_n d]
inductive CV where
 | int (k:IntKind) (x:Int)
 | bool (b:Bool)
 | str (l:List UInt8)
 | k (v:Value)
 | ptr (b off:Nat)
 | own (b:Nat)
 | ro (c:Cd) (xs:List c.den) (m:Bool)
 | el (c:Cd) (x:c.den) (off:Nat)
 | eo (b:Nat) (c:Cd) (i off:Nat)
 | vw (b:Nat) (c:Cd) (l h:Nat)
 | fn (f:FuncId)
 | cap (f c:CV)
 | ifc (t:TypeId) (c:CV)
 | nb (e neg:Bool)
inductive V1 where
 | c (x:CV)
 | agg (l:List CV)
inductive SV where
 | v (x:V1)
 | tup (l:List V1)
 | und
 | any
inductive BV where
 | hole
 | no
 | cells (t:TypeId) (l:List CV)
 | row (c:Cd) (et:TypeId) (xs:List c.den)
 | fz (c:Cd) (xs:List c.den)
 | lent (l:List CV)
structure HSt where
 sl:List (Nat×SV)
 bl:List BV
abbrev Env:=Nat→Option Addr×Nat
def BV.len:BV→Option Nat
 | .row _ _ xs=>some xs.length
 | .fz _ xs=>some xs.length
 | _=>none
def BV.isHole:BV→Bool
 | .hole=>true
 | _=>false
def Known (bl:List BV) (b:Nat):Prop:=∃ bv,bl[b]? = some bv∧bv.isHole=false
def constant:Value→Bool
 | .pointer none=>true
 | .slice none 0 0=>true
 | .nilFunc=>true
 | .map none=>true
 | .nilIface=>true
 | _=>false
def RealC (g:Gh) (ρ:Env) (bl:List BV):CV→Value→Prop
 | .int k x,v=>v = .int k x∧inK k x
 | .bool b,v=>v = .bool b
 | .str l,v=>v = .string (mkS l)∧l.length≤140737488355328
 | .k c,v=>v=c∧constant c=true
 | .ptr b off,v=>Known bl b∧∃ a,(ρ b).1=some a∧v = .pointer (some (a.add off))
 | .own b,v=>Known bl b∧∃ n,v = .slice (ρ b).1 n (ρ b).2∧∀ bv m,bl[b]? = some bv→bv.len=some m→n=m
 | .ro c xs m,v=>∃ A cap,v = .slice A xs.length cap∧(match m with | true=>Arr g.b c.ty A cap xs | false=>ArrM g.r g.b c.ty A cap xs)
 | .el c x off,v=>∃ a cs,v = .pointer (some (a.add off))∧Cells g.r a cs∧c.ty.rep g.b cs x
 | .eo b c i off,v=>Known bl b∧∃ a,(ρ b).1=some a∧v = .pointer (some (a.add (i*c.n+off)))∧∀ bv m,bl[b]? = some bv→bv.len=some m→i < m
 | .vw b c l h,v=>Known bl b∧v = .slice (offA (ρ b).1 (ρ b).2 l c.n) (h - l) ((ρ b).2 - l)∧∀ bv m,bl[b]? = some bv→bv.len=some m→l≤h∧h≤m
 | .fn f,v=>v = .func (.func f) #[] #[]
 | .cap f c,v=>∃ fn caps vc,RealC g ρ bl f (.func fn #[] caps)∧RealC g ρ bl c vc∧v = .func fn #[] (caps.push vc)
 | .ifc t c,v=>∃ u,RealC g ρ bl c u∧v = .iface t u
 | .nb e neg,v=>∃ b:Bool,v = .bool (cond neg (!b) b)∧(b=true→e=true)
def AV {α β:Type} (R:α→β→Prop):List α→List β→Prop
 | [],[]=>True
 | x::l,y::m=>R x y∧AV R l m
 | _,_=>False
theorem AV.len {α β:Type} {R:α→β→Prop}:∀ {l:List α} {m:List β},AV R l m→l.length=m.length
 | [],[],_=>rfl
 | _::l,_::m,h=>by rw [List.length_cons,List.length_cons,h.2.len]
 | [],_::_,h=>h.elim
 | _::_,[],h=>h.elim
theorem AV.get {α β:Type} {R:α→β→Prop}:∀ {l:List α} {m:List β} {i:Nat} {x:α},AV R l m→l[i]? = some x→∃ y,m[i]? = some y∧R x y
 | x::l,y::m,0,z,h,e=>by simp at e;subst e;exact ⟨y,rfl,h.1⟩
 | x::l,y::m,i+1,z,h,e=>by simpa using AV.get (i:=i) h.2 (by simpa using e)
 | [],[],_,_,_,e=>by simp at e
 | [],_::_,_,_,h,_=>h.elim
 | _::_,[],_,_,h,_=>h.elim
theorem AV.mono {α β:Type} {R S:α→β→Prop} (hi:∀ x y,R x y→S x y):∀ {l:List α} {m:List β},AV R l m→AV S l m
 | [],[],_=>trivial
 | _::_,_::_,h=>⟨hi _ _ h.1,h.2.mono hi⟩
 | [],_::_,h=>h.elim
 | _::_,[],h=>h.elim
theorem AV.app {α β:Type} {R:α→β→Prop} {l2:List α} {m2:List β} (h2:AV R l2 m2):∀ {l:List α} {m:List β},AV R l m→AV R (l++l2) (m++m2)
 | [],[],_=>h2
 | _::_,_::_,h=>⟨h.1,h2.app h.2⟩
 | [],_::_,h=>h.elim
 | _::_,[],h=>h.elim
theorem AV.take {α β:Type} {R:α→β→Prop}:∀ (n:Nat) {l:List α} {m:List β},AV R l m→AV R (l.take n) (m.take n)
 | 0,_,_,_=>trivial
 | _+1,[],[],_=>trivial
 | n+1,_::_,_::_,h=>⟨h.1,h.2.take n⟩
 | _+1,[],_::_,h=>h.elim
 | _+1,_::_,[],h=>h.elim
theorem AV.drop {α β:Type} {R:α→β→Prop}:∀ (n:Nat) {l:List α} {m:List β},AV R l m→AV R (l.drop n) (m.drop n)
 | 0,_,_,h=>h
 | _+1,[],[],_=>trivial
 | n+1,_::_,_::_,h=>h.2.drop n
 | _+1,[],_::_,h=>h.elim
 | _+1,_::_,[],h=>h.elim
theorem AV.set {α β:Type} {R:α→β→Prop} {x:α} {y:β} (h1:R x y):∀ (n:Nat) {l:List α} {m:List β},AV R l m→AV R (l.set n x) (m.set n y)
 | _,[],[],_=>trivial
 | 0,_::_,_::_,h=>⟨h1,h.2⟩
 | n+1,_::_,_::_,h=>⟨h.1,h.2.set h1 n⟩
 | _,[],_::_,h=>h.elim
 | _,_::_,[],h=>h.elim
def Cn (g:Gh) (ρ:Env) (bl:List BV):V1→Value→Prop
 | .c x,v=>RealC g ρ bl x v
 | .agg l,v=>∃ cs,v = .agg cs.toArray∧AV (RealC g ρ bl) l cs
def RealS (g:Gh) (ρ:Env) (bl:List BV):SV→Value→Prop
 | .v x,v=>Cn g ρ bl x v
 | .tup l,v=>∃ vs,v = .tuple vs.toArray∧AV (Cn g ρ bl) l vs
 | .und,v=>v=undef
 | .any,_=>True
def BlkR (g:Gh) (ρ:Env) (bl:List BV) (k:Option Bk) (e:Option Addr×Nat):BV→Prop
 | .hole=>k=none
 | .no=>k=none
 | .cells t l=>∃ b cs,k=some ⟨b,t,cs⟩∧e.1=some ⟨b,0,none⟩∧AV (RealC g ρ bl) l cs
 | .row c et xs=>Buf g.b c.ty et (.slice e.1 xs.length e.2) k xs
 | .fz c xs=>k=none∧Arr g.b c.ty e.1 e.2 xs
 | .lent l=>k=none∧∃ a cs,e.1=some a∧Cells g.r a cs∧AV (RealC g ρ bl) l cs
def getH:List (Nat×SV)→Nat→Option SV
 | [],_=>none
 | (k,v)::l,t=>cond (Nat.beq k t) (some v) (getH l t)
def GI (p:Psi):Prop:=∀ w,p.In w→GW w
theorem Psi.In.of_le {p q:Psi} (h:p.le q) {w:World} (k:q.In w):p.In w:=⟨k.os.trans h.os,k.tape.trans h.tape,k.out.trans h.out,fun b o e=>k.m b o (h.m b o e)⟩
theorem GI.mono {p q:Psi} (h:p.le q) (k:GI p):GI q:=fun w hw=>k w (hw.of_le h)
structure Rl (g:Gh) (ρ:Env) (st:HSt) (own:Own) (sl:Sl):Prop where
 len:own.length=st.bl.length
 blk:∀ i bv k,st.bl[i]? = some bv→own[i]? = some k→BlkR g ρ st.bl k (ρ i) bv
 slot:∀ t sv,getH st.sl t=some sv→∃ v,getS sl t=some v∧RealS g ρ st.bl sv v
 gi:GI g.b
def Ext (ρ:Env) (bl:List BV) (ρ':Env) (bl':List BV):Prop :=
 ∀ (b:Nat) (bv:BV),bl[b]? = some bv→bv.isHole=false→ρ' b=ρ b∧∃ bv':BV,bl'[b]? = some bv'∧bv'.isHole=false∧∀ m,bv'.len=some m→bv.len=some m
theorem Ext.refl {ρ:Env} {bl:List BV}:Ext ρ bl ρ bl:=fun b bv h1 h2=>⟨rfl,bv,h1,h2,fun m h=>h⟩
theorem Ext.trans {ρ ρ1 ρ2:Env} {bl bl1 bl2:List BV} (h:Ext ρ bl ρ1 bl1) (k:Ext ρ1 bl1 ρ2 bl2):Ext ρ bl ρ2 bl2:=fun b bv h1 h2=>by
 obtain ⟨e,bv1,h3,h4,h5⟩:=h b bv h1 h2
 obtain ⟨e2,bv2,h6,h7,h8⟩:=k b bv1 h3 h4
 exact ⟨e2.trans e,bv2,h6,h7,fun m hm=>h5 m (h8 m hm)⟩
theorem Ext.known {ρ ρ1:Env} {bl bl1:List BV} (h:Ext ρ bl ρ1 bl1) {b:Nat} (k:Known bl b):Known bl1 b∧ρ1 b=ρ b:=by
 obtain ⟨bv,h1,h2⟩:=k
 obtain ⟨e,bv',h3,h4,_⟩:=h b bv h1 h2
 exact ⟨⟨bv',h3,h4⟩,e⟩
theorem RealC.ext {g g':Gh} {ρ ρ':Env} {bl bl':List BV} (hg:g.le g') (h:Ext ρ bl ρ' bl'):∀ {x:CV} {v:Value},RealC g ρ bl x v→RealC g' ρ' bl' x v
 | .int _ _,_,hr=>hr
 | .bool _,_,hr=>hr
 | .str _,_,hr=>hr
 | .k _,_,hr=>hr
 | .ptr b off,v,⟨hk,a,e,hv⟩=>by
  obtain ⟨h1,h2⟩:=h.known hk
  exact ⟨h1,a,by rw [h2];exact e,hv⟩
 | .own b,v,⟨hk,n,hv,hl⟩=>by
  obtain ⟨h1,h2⟩:=h.known hk
  refine ⟨h1,n,by rw [h2];exact hv,fun bv m e1 e2=>?_⟩
  obtain ⟨bv0,h3,h4⟩:=hk
  obtain ⟨_,bv',h5,_,h6⟩:=h b bv0 h3 h4
  rw [h5] at e1
  injection e1 with e1;subst e1
  exact hl bv0 m h3 (h6 m e2)
 | .ro c xs true,v,⟨A,cap,hv,ha⟩=>⟨A,cap,hv,Arr.mono ha hg.b⟩
 | .ro c xs false,v,⟨A,cap,hv,ha⟩=>⟨A,cap,hv,ArrM.mono ha hg.r hg.b⟩
 | .el c x off,v,⟨a,cs,hv,hc,hr⟩=>⟨a,cs,hv,hc.mono hg.r,c.ty.mono hg.b hr⟩
 | .eo b c i off,v,⟨hk,a,e,hv,hl⟩=>by
  obtain ⟨h1,h2⟩:=h.known hk
  refine ⟨h1,a,by rw [h2];exact e,hv,fun bv m e1 e2=>?_⟩
  obtain ⟨bv0,h3,h4⟩:=hk
  obtain ⟨_,bv',h5,_,h6⟩:=h b bv0 h3 h4
  rw [h5] at e1
  injection e1 with e1;subst e1
  exact hl bv0 m h3 (h6 m e2)
 | .vw b c l r,v,⟨hk,hv,hl⟩=>by
  obtain ⟨h1,h2⟩:=h.known hk
  refine ⟨h1,by rw [h2];exact hv,fun bv m e1 e2=>?_⟩
  obtain ⟨bv0,h3,h4⟩:=hk
  obtain ⟨_,bv',h5,_,h6⟩:=h b bv0 h3 h4
  rw [h5] at e1
  injection e1 with e1;subst e1
  exact hl bv0 m h3 (h6 m e2)
 | .fn f,_,hr=>hr
 | .nb _ _,_,hr=>hr
 | .cap f c,v,⟨fn,caps,vc,h1,h2,h3⟩=>⟨fn,caps,vc,RealC.ext hg h h1,RealC.ext hg h h2,h3⟩
 | .ifc t c,v,⟨u,h1,h2⟩=>⟨u,RealC.ext hg h h1,h2⟩
section
variable {g g':Gh} {ρ ρ':Env} {bl bl':List BV}
theorem Cn.ext (hg:g.le g') (h:Ext ρ bl ρ' bl'):∀ {x:V1} {v:Value},Cn g ρ bl x v→Cn g' ρ' bl' x v
 | .c _,_,hr=>RealC.ext hg h hr
 | .agg _,_,⟨cs,e,hr⟩=>⟨cs,e,hr.mono fun _ _=>RealC.ext hg h⟩
theorem RealS.ext (hg:g.le g') (h:Ext ρ bl ρ' bl'):∀ {x:SV} {v:Value},RealS g ρ bl x v→RealS g' ρ' bl' x v
 | .v _,_,hr=>Cn.ext hg h hr
 | .tup _,_,⟨vs,e,hr⟩=>⟨vs,e,hr.mono fun _ _=>Cn.ext hg h⟩
 | .und,_,hr=>hr
 | .any,_,hr=>hr
theorem BlkR.ext (hg:g.le g') (h:Ext ρ bl ρ' bl') {k:Option Bk} {e:Option Addr×Nat}:∀ {bv:BV},BlkR g ρ bl k e bv→BlkR g' ρ' bl' k e bv
 | .hole,hr=>hr
 | .no,hr=>hr
 | .cells t l,⟨b,cs,h1,h2,h3⟩=>⟨b,cs,h1,h2,h3.mono fun _ _=>RealC.ext hg h⟩
 | .row c et xs,hr=>Buf.mono hr hg.b
 | .fz c xs,⟨h1,h2⟩=>⟨h1,h2.mono hg.b⟩
 | .lent l,⟨h1,a,cs,h2,h3,h4⟩=>⟨h1,a,cs,h2,h3.mono hg.r,h4.mono fun _ _=>RealC.ext hg h⟩
end
theorem ArrM.cut {α:Type} {T:Ty α} {r b:Psi} {A:Option Addr} {c:Nat} {xs:List α} (h:ArrM r b T A c xs) (l m:Nat) (h1:l≤m) (h2:m≤xs.length):ArrM r b T (offA A c l T.n) (c - l) ((xs.drop l).take (m - l)):=by
 obtain ⟨hc,hl0,cs,hr,hrow⟩:=h
 refine ⟨by rw [List.length_take,List.length_drop];omega,by rw [List.length_take,List.length_drop];omega,(cs.drop (l*T.n)).take ((m - l)*T.n),(hr.drop l).take _,fun hn=>?_⟩
 rw [List.length_take,List.length_drop] at hn
 obtain ⟨ad,e,hcells⟩:=hrow (by omega)
 subst e
 refine ⟨ad.add (l*T.n),?_,hcells.part _ _⟩
 unfold offA
 rw [if_neg (by omega)]
 rfl
def Cd.cv:(c:Cd)→c.den→List CV
 | .i k,x=>[.int k x]
 | .y,x=>[.int .u8 (x.toNat:Int)]
 | .b,x=>[.bool x]
 | .s,x=>[.str x]
 | .a c,x=>[.ro c x true]
 | .p c d,x=>c.cv x.1++d.cv x.2
theorem XE (x:UInt8):inK .u8 (x.toNat:Int):=by
 have:=x.toNat_lt
 simp [inK,IntKind.min,IntKind.max,IntKind.signed,IntKind.bits];omega
theorem Cd.cv_real {g:Gh} {ρ:Env} {bl:List BV}:∀ (c:Cd) {x:c.den} {cs:List Value},c.ty.rep g.b cs x→AV (RealC g ρ bl) (c.cv x) cs
 | .i k,x,cs,h=>by
  obtain ⟨e,h2⟩:cs=[.int k x]∧inK k x:=h
  subst e;exact ⟨⟨rfl,h2⟩,trivial⟩
 | .y,x,cs,h=>by
  have e:cs=[.int .u8 (UInt8.toNat x:Int)]:=h
  subst e;exact ⟨⟨rfl,XE x⟩,trivial⟩
 | .b,x,cs,h=>by
  have e:cs=[.bool x]:=h
  subst e;exact ⟨rfl,trivial⟩
 | .s,x,cs,h=>by
  obtain ⟨e,h2⟩:cs=[.string (mkS x)]∧List.length (α:=UInt8) x≤140737488355328:=h
  subst e;exact ⟨⟨rfl,h2⟩,trivial⟩
 | .a c,x,cs,h=>by
  obtain ⟨A,cap,e,h2⟩:∃ A cap,cs=[.slice A (List.length (α:=c.den) x) cap]∧Arr g.b c.ty A cap x:=h
  subst e;exact ⟨⟨A,cap,rfl,h2⟩,trivial⟩
 | .p c d,x,cs,h=>by
  obtain ⟨c1,c2,e,h1,h2⟩:∃ c1 c2,cs=c1++c2∧c.ty.rep g.b c1 x.1∧d.ty.rep g.b c2 x.2:=h
  subst e;exact AV.app (Cd.cv_real d h2) (Cd.cv_real c h1)
def cnd {α:Type} (c:Bool) (x y:α):α:=(fun _:Nat→Option Unit=>match c with | true=>x | false=>y) fun n=>loopO n (fun _=>none) ()
def gd {α:Type} (c:Bool) (x:Option α):Option α:=(fun _:Nat→Option Unit=>match c with | true=>x | false=>none) fun n=>loopO n (fun _=>none) ()
def bd {α β:Type} (x:Option α) (k:α→Option β):Option β:=(fun _:Nat→Option Unit=>match x with | some t=>k t | none=>none) fun n=>loopO n (fun _=>none) ()
def jd {α β:Type} (x:Option (Ctl α β)) (k:α→Option β):Option β:=(fun _:Nat→Option Unit=>match x with | some (.go t)=>k t | some (.done r)=>some r | none=>none) fun n=>loopO n (fun _=>none) ()
def dnO {α β:Type} (x:Option β):Option (Ctl α β):=(fun _:Nat→Option Unit=>match x with | some r=>some (.done r) | none=>none) fun n=>loopO n (fun _=>none) ()
def sm {α β ρ:Type} (x:α ⊕ β) (f:α→ρ) (g:β→ρ):ρ:=(fun _:Nat→Option Unit=>match x with | .inl a=>f a | .inr b=>g b) fun n=>loopO n (fun _=>none) ()
noncomputable def bothO {α:Type} (x y:Option α):Option α:=(fun _:Nat→Option Unit=>@ite _ (x=y) (Classical.propDecidable _) x none) fun n=>loopO n (fun _=>none) ()
noncomputable def nlO {α:Type} (e:Bool) (x y:Option α):Option α:=(fun _:Nat→Option Unit=>match e with | true=>bothO x y | false=>y) fun n=>loopO n (fun _=>none) ()
theorem Sm {α:Type} {x y:Option α} {r:α} (h:bothO x y=some r):x=some r∧y=some r:=by
 unfold bothO at h
 by_cases e:x=y
 ·simp only [e,if_true] at h ⊢;exact ⟨h,h⟩
 ·simp only [e,if_false] at h;cases h
theorem NJ {α:Type} {e:Bool} {x y:Option α} {r:α} (h:nlO e x y=some r):y=some r∧(e=true→x=some r):=by
 cases e with
 | true=>have:=Sm (h:bothO x y=some r);exact ⟨this.2,fun _=>this.1⟩
 | false=>exact ⟨h,fun e=>by cases e⟩
theorem XF {α:Type} {e:Bool} {x y:Option α} (h:e=true→x=y):nlO e x y=y:=by
 cases e with
 | true =>
  show bothO x y=y
  unfold bothO
  simp [h rfl]
 | false=>rfl
theorem NK {α β:Type} {x:Option β} {c:Ctl α β} (h:dnO x=some c):∃ r,x=some r∧c = .done r:=by
 cases x with
 | none=>cases h
 | some r=>injection (show some (Ctl.done r)=some c from h) with h;exact ⟨r,rfl,h.symm⟩
theorem XG {α:Type} (c:Bool) (x:Option α):gd c x=grd c x:=by cases c <;> rfl
theorem Jj {α β:Type} (x:Option α) (k:α→Option β):bd x k=bindO x k:=by cases x <;> rfl
theorem AiT {α β:Type} (x:Option (Ctl α β)) (k:α→Option β):jd x k=joinO x k:=by
 cases x with
 | none=>rfl
 | some c=>cases c <;> rfl
structure HE where
 val:SV
 upd:List (Nat×BV)
 new:List BV
def natMem (x:Nat):List Nat→Bool
 | []=>false
 | y::l=>cond (Nat.beq x y) true (natMem x l)
def maskB:Nat→List Nat→List BV→List BV
 | _,_,[]=>[]
 | i,ids,bv::l=>cond (natMem i ids) bv .no::maskB (i+1) ids l
inductive Tr:Type 1 where
 | no
 | done (e:HE)
 | need (b:Nat) (k:BV→Tr)
 | frz (b:Nat) (k:Tr)
 | grd (c:Bool) (k:Tr)
 | bnd {τ:Type} (x:Option τ) (k:τ→Tr)
 | sub (ids:List BV→List Nat) (k:List BV→Tr)
 | alt {α β:Type} (x:α ⊕ β) (k1:α→Tr) (k2:β→Tr)
def setNew:List BV→Nat→List BV→List BV
 | bl,_,[]=>bl
 | bl,f,v::l=>setNew (bl.set f v) (f+1) l
def setUpd:List BV→List (Nat×BV)→List BV
 | bl,[]=>bl
 | bl,(b,v)::l=>setUpd (bl.set b v) l
def applyE (bl:List BV) (f:Nat) (e:HE):List BV:=setNew (setUpd bl e.upd) f e.new
def frzB:BV→Option BV
 | .row c _ xs=>some (.fz c xs)
 | _=>none
def Told (f:Nat):Tr→List BV→List BV→SV→Prop
 | .no,_,_,_=>False
 | .done e,bl,bl',v=>bl'=applyE bl f e∧v=e.val
 | .need b k,bl,bl',v=>∃ bv,bl[b]? = some bv∧Told f (k bv) bl bl' v
 | .frz b k,bl,bl',v=>∃ bv fv,bl[b]? = some bv∧frzB bv=some fv∧Told f k (bl.set b fv) bl' v
 | .grd c k,bl,bl',v=>c=true∧Told f k bl bl' v
 | .bnd x k,bl,bl',v=>∃ t,x=some t∧Told f (k t) bl bl' v
 | .sub _ k,bl,bl',v=>∃ idl,Told f (k (maskB 0 idl bl)) bl bl' v
 | .alt x k1 k2,bl,bl',v=>(∃ a,x = .inl a∧Told f (k1 a) bl bl' v)∨∃ b,x = .inr b∧Told f (k2 b) bl bl' v
def runT {ρ:Type} (f:Nat):Tr→List BV→(List BV→SV→Option ρ)→Option ρ
 | .no,_,_=>none
 | .done e,bl,K=>K (applyE bl f e) e.val
 | .need b k,bl,K=>match bl[b]? with | some bv=>runT f (k bv) bl K | none=>none
 | .frz b k,bl,K=>match bl[b]? with | some bv=>(match frzB bv with | some fv=>runT f k (bl.set b fv) K | none=>none) | none=>none
 | .grd c k,bl,K=>gd c (runT f k bl K)
 | .bnd x k,bl,K=>bd x fun t=>runT f (k t) bl K
 | .sub ids k,bl,K=>runT f (k (maskB 0 (ids bl) bl)) bl K
 | .alt x k1 k2,bl,K=>sm x (fun a=>runT f (k1 a) bl K) (fun b=>runT f (k2 b) bl K)
theorem CG {ρ:Type} {f:Nat} {K:List BV→SV→Option ρ} {r:ρ}:∀ {t:Tr} {bl:List BV},runT f t bl K=some r→∃ bl' v,Told f t bl bl' v∧K bl' v=some r
 | .no,bl,h=>by cases h
 | .done e,bl,h=>⟨_,_,⟨rfl,rfl⟩,h⟩
 | .need b k,bl,h=>by
  unfold runT at h
  split at h
  ·rename_i bv e
   obtain ⟨bl',v,h1,h2⟩:=CG h
   exact ⟨bl',v,⟨bv,e,h1⟩,h2⟩
  ·cases h
 | .frz b k,bl,h=>by
  unfold runT at h
  split at h
  ·rename_i bv e
   split at h
   ·rename_i fv e2
    obtain ⟨bl',v,h1,h2⟩:=CG h
    exact ⟨bl',v,⟨bv,fv,e,e2,h1⟩,h2⟩
   ·cases h
  ·cases h
 | .grd c k,bl,h=>by
  obtain ⟨hc,h⟩:=AiB ((XG _ _).symm.trans h)
  obtain ⟨bl',v,h1,h2⟩:=CG h
  exact ⟨bl',v,⟨hc,h1⟩,h2⟩
 | .bnd x k,bl,h=>by
  obtain ⟨t,hx,h⟩:=GL ((Jj _ _).symm.trans h)
  obtain ⟨bl',v,h1,h2⟩:=CG h
  exact ⟨bl',v,⟨t,hx,h1⟩,h2⟩
 | .sub ids k,bl,h=>by
  unfold runT at h
  obtain ⟨bl',v,h1,h2⟩:=CG h
  exact ⟨bl',v,⟨_,h1⟩,h2⟩
 | .alt x k1 k2,bl,h=>by
  unfold runT at h
  cases x with
  | inl a =>
   obtain ⟨bl',v,h1,h2⟩:=CG h
   exact ⟨bl',v,.inl ⟨a,rfl,h1⟩,h2⟩
  | inr b =>
   obtain ⟨bl',v,h1,h2⟩:=CG h
   exact ⟨bl',v,.inr ⟨b,rfl,h1⟩,h2⟩
def EffH (P:Program) (n:Nat) (op:Op) (ty:TypeId) (sl:List (Nat×SV)) (bl bl':List BV) (val:SV):Prop :=
 ∀ (o:Oper) (a:Act) (w:World) (Q:Exit→Act→World→Prop) (K:Act→World→Prop) (g:Gh) (ρ:Env) (own:Own) (fr:Sl),
  o.op=op→o.type=ty→Rl g ρ ⟨sl,bl⟩ own fr→Fr n a fr→St w g own →
  (∀ v g' ρ' own' w',g.le g'→Ext ρ bl ρ' bl'→St w' g' own'→Rl g' ρ' ⟨sl,bl'⟩ own' fr→RealS g' ρ' bl' val v→K (a.put o.dst v) w')→Oper.wp P o a w K Q
theorem Rl.turn {g g':Gh} {ρ ρ':Env} {sl:List (Nat×SV)} {bl bl':List BV} {own own':Own} {fr:Sl} (h:Rl g ρ ⟨sl,bl⟩ own fr) (hg:g.le g') (he:Ext ρ bl ρ' bl') (hl:own'.length=bl'.length)
  (hb:∀ i bv k,bl'[i]? = some bv→own'[i]? = some k→BlkR g' ρ' bl' k (ρ' i) bv):Rl g' ρ' ⟨sl,bl'⟩ own' fr :=
 ⟨hl,hb,fun t sv e=>by
  obtain ⟨v,h1,h2⟩:=h.slot t sv e
  exact ⟨v,h1,h2.ext hg he⟩,h.gi.mono hg.b⟩
theorem EffH.of_yld {P:Program} {n:Nat} {op:Op} {ty:TypeId} {sl:List (Nat×SV)} {bl:List BV} {val:SV}
  (h:∀ g ρ own fr,Rl g ρ ⟨sl,bl⟩ own fr→∃ v,RealS g ρ bl val v∧Yld P n g.r own fr op ty v):EffH P n op ty sl bl bl val:=by
 intro o a w Q K g ρ own fr h1 h2 hr hf hs hk
 obtain ⟨v,hv,hy⟩:=h g ρ own fr hr
 simp only [Oper.wp,hy o a w h1 h2 hf hs.rdw,Oper.upon]
 exact hk v g ρ own w (.refl g) .refl hs hr hv
def leI:Int→Int→Bool
 | .ofNat a,.ofNat b=>Nat.ble a b
 | .negSucc _,.ofNat _=>true
 | .ofNat _,.negSucc _=>false
 | .negSucc a,.negSucc b=>Nat.ble b a
theorem XH {a b:Int} (h:leI a b=true):a≤b:=by
 cases a <;> cases b <;> simp only [leI] at h
 ·have:=Nat.le_of_ble_eq_true h;rw [Int.ofNat_eq_natCast,Int.ofNat_eq_natCast];omega
 ·cases h
 ·rw [Int.ofNat_eq_natCast];omega
 ·have:=Nat.le_of_ble_eq_true h;omega
def kMin:IntKind→Int
 | .i8=> .negSucc 127 | .i16=> .negSucc 32767 | .i32=> .negSucc 2147483647 | .i64=> .negSucc 9223372036854775807 | _=>0
def kMax:IntKind→Int
 | .i8=>127 | .i16=>32767 | .i32=>2147483647 | .i64=>9223372036854775807 | .u8=>255 | .u16=>65535 | .u32=>4294967295 | .u64=>18446744073709551615
def inKb (k:IntKind) (x:Int):Bool:=leI (kMin k) x&&leI x (kMax k)
theorem Afi {k:IntKind} {x:Int} (h:inKb k x=true):inK k x:=by
 simp only [inKb,Bool.and_eq_true] at h
 have h1:=XH h.1
 have h2:=XH h.2
 have e1:k.min=kMin k:=by cases k <;> rfl
 have e2:k.max=kMax k:=by cases k <;> rfl
 exact ⟨by rw [e1];exact h1,by rw [e2];exact h2⟩
def constC (v:Value):Option CV:=match v with
 | .int k x=>cond (inKb k x) (some (.int k x)) none
 | .bool b=>some (.bool b)
 | .string b=>cond (Nat.ble b.data.toList.length 140737488355328) (some (.str b.data.toList)) none
 | v=>cond (constant v) (some (.k v)) none
def constL:List Value→Option (List CV)
 | []=>some []
 | v::l=>match constC v,constL l with | some c,some m=>some (c::m) | _,_=>none
def constS:Value→Option SV
 | .agg cs=>match constL cs.toList with | some l=>some (.v (.agg l)) | none=>none
 | v=>match constC v with | some c=>some (.v (.c c)) | none=>none
def evH (sl:List (Nat×SV)):Operand→Option SV
 | .tmp t=>getH sl t
 | .const v=>constS v
 | .func f=>some (.v (.c (.fn f)))
 | .global _=>none
section
variable {g:Gh} {ρ:Env} {bl:List BV}
theorem IB {v:Value} {c:CV} (h:constC v=some c):RealC g ρ bl c v:=by
 unfold constC at h
 split at h
 ·rename_i k x
  cases e:inKb k x with
  | true=>rw [e] at h;injection h with h;subst h;exact ⟨rfl,Afi e⟩
  | false=>rw [e] at h;cases h
 ·injection h with h;subst h;rfl
 ·rename_i b
  cases e:Nat.ble b.data.toList.length 140737488355328 with
  | true=>rw [e] at h;injection h with h;subst h;exact ⟨rfl,Nat.le_of_ble_eq_true e⟩
  | false=>rw [e] at h;cases h
 ·rename_i u _ _ _
  cases e:constant v with
  | true=>rw [e] at h;injection h with h;subst h;exact ⟨rfl,e⟩
  | false=>rw [e] at h;cases h
theorem BS:∀ {l:List Value} {m:List CV},constL l=some m→AV (RealC g ρ bl) m l
 | [],m,h=>by injection h with h;subst h;trivial
 | v::l,m,h=>by
  unfold constL at h
  split at h
  ·rename_i c m' h1 h2
   injection h with h;subst h
   exact ⟨IB h1,BS h2⟩
  ·cases h
theorem NL {v:Value} {s:SV} (h:constS v=some s):RealS g ρ bl s v:=by
 unfold constS at h
 split at h
 ·rename_i cs
  split at h
  ·rename_i l e
   injection h with h;subst h
   exact ⟨cs.toList,by simp,BS e⟩
  ·cases h
 ·split at h
  ·rename_i c e
   injection h with h;subst h
   exact IB e
  ·cases h
theorem Ah {sl:List (Nat×SV)} {own:Own} {fr:Sl} (h:Rl g ρ ⟨sl,bl⟩ own fr) {x:Operand} {s:SV} (e:evH sl x=some s):∃ v,evS fr x=some v∧RealS g ρ bl s v:=by
 cases x with
 | tmp t=>exact h.slot t s e
 | const v=>exact ⟨v,rfl,NL e⟩
 | func f=>injection e with e;subst e;exact ⟨_,rfl,rfl⟩
 | global _=>cases e
end
abbrev vC (c:CV):SV:= .v (.c c)
def retT (v:SV):Tr:= .done ⟨v,[],[]⟩
def tMove (sl:List (Nat×SV)) (x:Operand):Tr:=match evH sl x with | some v=>retT v | none=> .no
def asI (sl:List (Nat×SV)) (x:Operand) (k:IntKind→Int→Tr):Tr:=match evH sl x with | some (.v (.c (.int j z)))=>k j z | _=> .no
def asB (sl:List (Nat×SV)) (x:Operand) (k:Bool→Tr):Tr:=match evH sl x with | some (.v (.c (.bool b)))=>k b | _=> .no
def pickS (c:Bool):SV→SV→SV
 | .v (.c (.int k x)),.v (.c (.int j y))=>match sameK k j with | some _=>vC (.int k (cond c x y)) | none=>cond c (vC (.int k x)) (vC (.int j y))
 | .v (.c (.bool x)),.v (.c (.bool y))=>vC (.bool (cond c x y))
 | u,v=>cond c u v
def tPick (sl:List (Nat×SV)) (c x y:Operand):Tr:=asB sl c fun b=>match evH sl x,evH sl y with | some u,some v=>retT (pickS b u v) | _,_=> .no
section
variable {P:Program} {n:Nat} {ty:TypeId} {sl:List (Nat×SV)} {bl bl':List BV} {v:SV} {f:Nat} {g:Gh} {ρ:Env}
theorem Ay {u:SV} (h:Told f (retT u) bl bl' v):bl'=bl∧v=u:=h
theorem Df {x:Operand} {k:IntKind→Int→Tr} (h:Told f (asI sl x k) bl bl' v):∃ j z,evH sl x=some (vC (.int j z))∧Told f (k j z) bl bl' v:=by
 unfold asI at h
 split at h
 ·rename_i j z e;exact ⟨j,z,e,h⟩
 ·exact h.elim
theorem XI {x:Operand} {k:Bool→Tr} (h:Told f (asB sl x k) bl bl' v):∃ b,evH sl x=some (vC (.bool b))∧Told f (k b) bl bl' v:=by
 unfold asB at h
 split at h
 ·rename_i b e;exact ⟨b,e,h⟩
 ·exact h.elim
theorem NM {x:Operand} (h:Told f (tMove sl x) bl bl' v):EffH P n (.move x) ty sl bl bl' v∧EffH P n (.assign x) ty sl bl bl' v:=by
 unfold tMove at h
 split at h
 ·rename_i u e
  obtain ⟨rfl,rfl⟩:=Ay h
  exact ⟨.of_yld fun g ρ own fr hr=>by obtain ⟨w,h1,h2⟩:=Ah hr e;exact ⟨w,h2,AiP h1⟩,.of_yld fun g ρ own fr hr=>by obtain ⟨w,h1,h2⟩:=Ah hr e;exact ⟨w,h2,Xu h1⟩⟩
 ·exact h.elim
theorem Sn {c:Bool} {x y:SV} {vx vy:Value} (hx:RealS g ρ bl x vx) (hy:RealS g ρ bl y vy):RealS g ρ bl (pickS c x y) (cond c vx vy):=by
 unfold pickS
 split
 ·rename_i k x j y
  split
  ·rename_i h _
   obtain ⟨h⟩:=h
   subst h
   obtain ⟨rfl,h1⟩:=hx
   obtain ⟨rfl,h2⟩:=hy
   cases c
   ·exact ⟨rfl,h2⟩
   ·exact ⟨rfl,h1⟩
  ·cases c
   ·exact hy
   ·exact hx
 ·have hx:vx=_:=hx
  have hy:vy=_:=hy
  subst hx;subst hy
  cases c <;> rfl
 ·cases c
  ·exact hy
  ·exact hx
theorem XJ {c x y:Operand} (h:Told f (tPick sl c x y) bl bl' v):EffH P n (.pick c x y) ty sl bl bl' v:=by
 obtain ⟨b,eb,h⟩:=XI h
 split at h
 ·rename_i u w e1 e2
  obtain ⟨rfl,rfl⟩:=Ay h
  refine .of_yld fun g ρ own fr hr=>?_
  obtain ⟨vb,hb1,hb2⟩:=Ah hr eb
  obtain ⟨vu,hu1,hu2⟩:=Ah hr e1
  obtain ⟨vw,hw1,hw2⟩:=Ah hr e2
  have hb2:vb = .bool b:=hb2
  subst hb2
  refine ⟨_,Sn hu2 hw2,?_⟩
  cases b
  ·exact Afa hb1 hw1
  ·exact AeZ hb1 hu1
 ·exact h.elim
def intOp (op:BinOp) (k:IntKind) (a b:Int):Option CV:=match op with
 | .add=>some (.int k (k.wrap (a+b)))
 | .sub=>some (.int k (k.wrap (a - b)))
 | .mul=>some (.int k (k.wrap (a*b)))
 | .and=>some (.int k (landK k a b))
 | .or=>some (.int k (lorK k a b))
 | .xor=>some (.int k (lxorK k a b))
 | .andNot=>some (.int k (landnK k a b))
 | .eql=>some (.bool (a==b))
 | .neq=>some (.bool (a != b))
 | .lss=>some (.bool (decide (a < b)))
 | .leq=>some (.bool (decide (a≤b)))
 | .gtr=>some (.bool (decide (a > b)))
 | .geq=>some (.bool (decide (a≥b)))
 | _=>none
theorem XK {op:BinOp} {k:IntKind} {a b:Int} {c:CV} (h:intOp op k a b=some c):∃ v,RealC g ρ bl c v∧∀ (t:TypeId) w,(binOp op t (.int k a) (.int k b)).run P w = .ok v w:=by
 unfold intOp at h
 cases op <;> simp only [Option.some.injEq,reduceCtorEq] at h <;> subst h <;>
  first
   | (refine ⟨_,⟨rfl,El _ _⟩,fun t w=>?_⟩;simp [binOp,Op.intArith,Op.intBits,landK,lorK,lxorK,landnK];done)
   | (refine ⟨_,rfl,fun t w=>?_⟩;simp [binOp,Op.intCmp];done)
theorem GM {a b:Int} (h:0≤a) (hb:0 < b):a % b≤a:=by
 have h1:=Int.emod_add_mul_ediv a b
 have h2:=Int.mul_nonneg (Int.le_of_lt hb) (Int.ediv_nonneg h (Int.le_of_lt hb))
 omega
theorem XL {k:IntKind} {a b:Int} (h:inK k a):inK k (a.tmod b):=by
 obtain ⟨h1,h2⟩:=h
 have e0:k.min≤0:=(Fq k).1
 have e1:0≤k.max:=(Fq k).2
 rcases Int.le_total 0 a with h0 | h0
 ·have:=Int.tmod_nonneg b h0
  have h3:a.tmod b≤a:=by
   rw [Int.tmod_eq_emod_of_nonneg h0]
   rcases Int.lt_trichotomy b 0 with hb | hb | hb
   ·have:=Int.emod_lt_of_neg a hb
    have h4:a % b=a % (-b):=(Int.emod_neg a b).symm
    rw [h4]
    exact GM h0 (by omega)
   ·subst hb;simp
   ·exact GM h0 hb
  exact ⟨by omega,by omega⟩
 ·have e:a.tmod b = - ((-a).tmod b):=by rw [Int.neg_tmod];omega
  have h0':0 ≤ -a:=by omega
  have h4:=Int.tmod_nonneg b h0'
  have h3:(-a).tmod b ≤ -a:=by
   rw [Int.tmod_eq_emod_of_nonneg h0']
   rcases Int.lt_trichotomy b 0 with hb | hb | hb
   ·have h4:(-a) % b=(-a) % (-b):=(Int.emod_neg (-a) b).symm
    rw [h4]
    exact GM h0' (by omega)
   ·subst hb;simp
   ·exact GM h0' hb
  exact ⟨by omega,by omega⟩
theorem Afj {k:IntKind} {a:Int} (m:Nat) (h:inK k a):inK k (a.fdiv (2 ^ m)):=by
 obtain ⟨h1,h2⟩:=h
 have e0:k.min≤0:=(Fq k).1
 have e1:0≤k.max:=(Fq k).2
 have hp:(0:Int) < 2 ^ m:=Int.pow_pos (by decide)
 rw [Int.fdiv_eq_ediv_of_nonneg _ (by omega)]
 have hp1:(1:Int)≤2 ^ m:=hp
 rcases Int.le_total 0 a with h0 | h0
 ·have h3:=Int.ediv_nonneg h0 (by omega:(0:Int)≤2 ^ m)
  have h4:a / 2 ^ m≤a:=Int.ediv_le_self _ h0
  exact ⟨by omega,by omega⟩
 ·have h3:a / 2 ^ m≤0:=by
   have:=Int.ediv_le_ediv hp h0
   simpa using this
  have h4:a≤a / 2 ^ m:=by
   rw [Int.le_ediv_iff_mul_le hp]
   have:a*2 ^ m≤a*1:=Int.mul_le_mul_of_nonpos_left h0 hp1
   omega
  exact ⟨by omega,by omega⟩
end
end Go.Proofs.YtpleflcfaecojaaGreat
