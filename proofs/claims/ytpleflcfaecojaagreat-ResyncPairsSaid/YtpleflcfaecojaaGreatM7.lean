/-
The third engine, part 20: more operations; all of them. Conditions: each lemma's own.
-/
import Derived.Test.YtpleflcfaecojaaGreatM6
import Derived.ArgAppend
namespace Go.Proofs.YtpleflcfaecojaaGreat
set_option linter.unusedVariables false
set_option linter.unusedSimpArgs false
open Go.RowKit
section
variable {P:Program} {n:Nat} {ty:TypeId} {sl:List (Nat×SV)} {bl bl':List BV} {v:SV} {f:Nat} {g:Gh} {ρ:Env} {own:Own} {fr:Sl}
def tText (P:Program) (sl:List (Nat×SV)) (s d:TypeId) (x:Operand):Tr:=match P.underlying s,P.underlying d with
 | some (.slice e),some .string=>(match P.underlying e,evH sl x with
  | some (.int .u8),some (.v (.c (.own b)))=> .need b fun
   | .row .y _ xs=>retT (vC (.str xs))
   | .fz .y xs=>retT (vC (.str xs))
   | _=> .no
  | some (.int .u8),some (.v (.c (.ro .y xs _)))=>retT (vC (.str xs))
  | some (.int .u8),some (.v (.c (.k (.slice none 0 0))))=>retT (vC (.str []))
  | _,_=> .no)
 | _,_=>tConv P sl s d x
theorem ghostOf {w:World} {p:Psi} {own:Own} (h:Rdw w p own):(⟨fun b=>w.heap[b]?,w.os,w.tape,w.output⟩:Psi).In w:=⟨rfl,rfl,rfl,fun b o h=>h⟩
theorem IP {s d e:TypeId} {x:Operand} {A:Option Addr} {cap:Nat} {xs:List UInt8} (hx:evS fr x=some (.slice A xs.length cap)) (h:ArrM g.r g.b Ia A cap xs) (hs:P.underlying s=some (.slice e)) (he:P.underlying e=some (.int .u8)) (hd:P.underlying d=some .string) :
  Yld P n g.r own fr (.convert s d x) ty (.string (mkS xs)):=AiA hx (h.toArr g.br) hs he hd
theorem Afz {s d e:TypeId} {x:Operand} {A:Option Addr} {cap:Nat} {xs:List UInt8} {k:Option Bk} {i:Nat} {et:TypeId} (hx:evS fr x=some (.slice A xs.length cap)) (hi:own[i]? = some k) (h:Buf g.b Ia et (.slice A xs.length cap) k xs) (hs:P.underlying s=some (.slice e)) (he:P.underlying e=some (.int .u8)) (hd:P.underlying d=some .string) :
  Yld P n g.r own fr (.convert s d x) ty (.string (mkS xs)):=by
 intro o a w h1 h2 hf hr
 have hk:∀ b,k=some b→w.heap[b.g]? = some b.obj:=fun b hb=>by subst hb;exact hr.has b (List.mem_of_getElem? hi)
 have hp:=ghostOf hr
 have hA:Arr (⟨fun b=>w.heap[b]?,w.os,w.tape,w.output⟩:Psi) Ia A cap xs:=by
  have hle:g.b.le (⟨fun b=>w.heap[b]?,w.os,w.tape,w.output⟩:Psi):=⟨hr.r.os.trans g.br.os,hr.r.tape.trans g.br.tape,hr.r.out.trans g.br.out,fun b o e=>hr.r.m b o (g.br.m b o e)⟩
  exact Sj (h.mono hle) (.refl _) fun b hb=>hk b hb
 exact AiA (own:=own) hx hA hs he hd o a w h1 h2 hf ⟨hp,hr.has⟩
theorem Yc {s d:TypeId} {x:Operand} (h:Told f (tText P sl s d x) bl bl' v):EffH P n (.convert s d x) ty sl bl bl' v:=by
 unfold tText at h
 split at h
 ·rename_i e hs hd
  split at h
  ·rename_i b he ex
   obtain ⟨bv,hb,h⟩:=h
   dsimp only at h
   split at h
   ·rename_i et xs
    obtain ⟨rfl,rfl⟩:=Ay h
    refine .of_yld fun g ρ own fr hr=>?_
    obtain ⟨vx,hx1,hkn,q,rfl,hl⟩:=Ah hr ex
    have hl:=hl _ _ hb rfl
    subst hl
    obtain ⟨k0,hk,hB⟩:=hr.own_at hb
    have hB:Buf g.b Ia et (.slice (ρ b).1 (List.length (α:=UInt8) xs) (ρ b).2) k0 xs:=hB
    exact ⟨_,⟨rfl,hB.len⟩,Afz hx1 hk hB hs he hd⟩
   ·rename_i xs
    obtain ⟨rfl,rfl⟩:=Ay h
    refine .of_yld fun g ρ own fr hr=>?_
    obtain ⟨vx,hx1,hkn,q,rfl,hl⟩:=Ah hr ex
    have hl:=hl _ _ hb rfl
    subst hl
    obtain ⟨k0,hk,_,hB⟩:=hr.own_at hb
    have hB:Arr g.b Ia (ρ b).1 (ρ b).2 xs:=hB
    exact ⟨_,⟨rfl,hB.len⟩,IP hx1 (Arr.toM hB g.br) hs he hd⟩
   ·exact h.elim
  ·rename_i xs m he ex
   obtain ⟨rfl,rfl⟩:=Ay h
   refine .of_yld fun g ρ own fr hr=>?_
   obtain ⟨vx,hx1,A,cap,rfl,ha⟩:=Ah hr ex
   cases m with
   | true =>
    have ha:Arr g.b Ia A cap xs:=ha
    exact ⟨_,⟨rfl,ha.len⟩,IP hx1 (Arr.toM ha g.br) hs he hd⟩
   | false =>
    have ha:ArrM g.r g.b Ia A cap xs:=ha
    exact ⟨_,⟨rfl,ha.len⟩,IP hx1 ha hs he hd⟩
  ·rename_i he ex
   obtain ⟨rfl,rfl⟩:=Ay h
   refine .of_yld fun g ρ own fr hr=>?_
   obtain ⟨vx,hx1,rfl,_⟩:=Ah hr ex
   exact ⟨_,⟨rfl,by simp⟩,IP (xs:=[]) hx1 ArrM.nil hs he hd⟩
  ·exact h.elim
 ·exact XQ h
def tIndex (P:Program) (sl:List (Nat×SV)) (t:TypeId) (x i:Operand):Tr:=asI sl i fun _ z=>match P.underlying t,evH sl x with
 | some .string,some (.v (.c (.str xs)))=> .grd (decide (0≤z∧z < (xs.length:Int))) (retT (vC (.int .u8 ((xs.getD z.toNat 0).toNat:Int))))
 | some (.array len e),some (.v (.agg l))=>(match cellsOfT P e with
  | some m=>splitZ z (fun i=>readT P e l (i*m)) len 0
  | none=> .no)
 | _,_=> .no
theorem VS {t:TypeId} {x i:Operand} (h:Told f (tIndex P sl t x i) bl bl' v):EffH P n (.index t x i) ty sl bl bl' v:=by
 obtain ⟨k,z,ei,h⟩:=Df h
 split at h
 ·rename_i xs hu ex
  obtain ⟨hg,h⟩:=h
  obtain ⟨rfl,rfl⟩:=Ay h
  obtain ⟨hz,hlt⟩:=Sq hg
  refine .of_yld fun g ρ own fr hr=>?_
  obtain ⟨vx,hx1,rfl,_⟩:=Ah hr ex
  obtain ⟨vi',hi1,rfl,_⟩:=Ah hr ei
  refine ⟨_,⟨rfl,XE _⟩,fun o a w e1 e2 hf hr=>?_⟩
  have hge:(0:Int)≤z:=by omega
  have hb:(mkS xs)[z.toNat]? = some (xs.getD z.toNat 0):=by
   have h1:z.toNat < (mkS xs).size:=by rw [Fm];exact hlt
   rw [getElem?_pos (mkS xs) z.toNat h1]
   congr 1
   rw [List.getD_eq_getElem?_getD,List.getElem?_eq_getElem hlt]
   rfl
  have:(Instr.index t (.string (mkS xs)) (.int k z)).run P w = .ok (.int .u8 ((xs.getD z.toNat 0).toNat:Int)) w:=by
   simp only [Instr.index,asIntOf,run_underlying hu,Sem.run_bind,Sem.run_pure,Result.andThen_ok,if_pos hge,hb]
  simp [execOp,e1,hf.ev hx1,hf.ev hi1,this]
 ·rename_i len e l hu ex
  split at h
  ·rename_i m hm
   obtain ⟨j,hlt,ez,hj⟩:=Dg h
   subst ez
   obtain ⟨rfl,e1⟩:=CD hj
   refine .of_yld fun g ρ own fr hr=>?_
   obtain ⟨vx,hx1,cs,rfl,hx2⟩:=Ah hr ex
   obtain ⟨vi',hi1,rfl,_⟩:=Ah hr ei
   obtain ⟨u,h1,h2⟩:=JC e1 hx2
   refine ⟨u,h1,fun o a w e1 e2 hf hr=>?_⟩
   have hr0:(0:Int)≤(j:Int)∧(j:Int) < (len:Int):=by omega
   have h2:∀ w,(part e cs.toArray ((j:Int).toNat*m)).run P w = .ok u w:=h2
   have:(Instr.index t (.agg cs.toArray) (.int k (j:Int))).run P w = .ok u w:=by
    simp only [Instr.index,asIntOf,run_underlying hu,Sem.run_bind,Sem.run_pure,Result.andThen_ok,if_pos hr0,Bh hm,h2]
   simp [execOp,e1,hf.ev hx1,hf.ev hi1,this]
  ·exact h.elim
 ·exact h.elim
def capH (sl:List (Nat×SV)):CV→List Operand→Option CV
 | c,[]=>some c
 | c,x::l=>match evH sl x with | some (.v (.c y))=>capH sl (.cap c y) l | _=>none
def tFn (sl:List (Nat×SV)) (fn:Fn) (first captured:List Operand):Tr:=match fn,first with
 | .func f,[]=>(match capH sl (.fn f) captured with | some c=>retT (vC c) | none=> .no)
 | _,_=> .no
theorem LJ (hr:Rl g ρ ⟨sl,bl⟩ own fr) {a:Act} (hf:Fr n a fr):∀ {l:List Operand} {c c':CV} {f0:Fn} {caps:List Value},capH sl c l=some c'→RealC g ρ bl c (.func f0 #[] caps.toArray)→RealC g ρ bl c' (.func f0 #[] (caps++l.map a.eval).toArray)
 | [],c,c',f0,caps,h,hc=>by injection h with h;subst h;simpa using hc
 | x::l,c,c',f0,caps,h,hc=>by
  unfold capH at h
  split at h
  ·rename_i y hy
   obtain ⟨u,h1,h2⟩:=Ah hr hy
   have:=LJ hr hf (f0:=f0) (caps:=caps++[u]) h ⟨f0,caps.toArray,u,hc,h2,by simp⟩
   rw [List.map_cons,hf.ev h1]
   simpa using this
  ·cases h
theorem Ajb {fn:Fn} {first captured:List Operand} (h:Told f (tFn sl fn first captured) bl bl' v):EffH P n (.makeFunc fn first.toArray captured.toArray) ty sl bl bl' v:=by
 unfold tFn at h
 split at h
 ·rename_i f0
  split at h
  ·rename_i c hc
   obtain ⟨rfl,rfl⟩:=Ay h
   intro o a w Q K g ρ own fr h1 h2 hr hf hs hk
   have hv:=LJ hr hf (caps:=[]) (f0:= .func f0) hc rfl
   have hrun:(execOp a.eval o).run P w = .ok (.value (.func (.func f0) #[] (captured.map a.eval).toArray)) w:=by
    simp [execOp,h1,Instr.makeFunc]
   unfold Oper.wp
   rw [hrun]
   simp only [Oper.upon]
   rw [List.nil_append] at hv
   exact hk _ g ρ own w (.refl g) .refl hs hr hv
  ·exact h.elim
 ·exact h.elim
def concT (P:Program) (t:TypeId):Bool:=match P.underlying t with
 | some (.interface _)=>false
 | some _=>true
 | none=>false
def tIfc (P:Program) (sl:List (Nat×SV)) (t:TypeId) (x:Operand):Tr:=match evH sl x,concT P t with
 | some (.v (.c c)),true=>retT (vC (.ifc t c))
 | _,_=> .no
theorem AfA {t:TypeId} {x:Operand} (h:Told f (tIfc P sl t x) bl bl' v):EffH P n (.makeInterface t x) ty sl bl bl' v:=by
 unfold tIfc at h
 split at h
 ·rename_i c ex hc
  obtain ⟨rfl,rfl⟩:=Ay h
  refine .of_yld fun g ρ own fr hr=>?_
  obtain ⟨vx,hx1,hx2⟩:=Ah hr ex
  refine ⟨.iface t vx,⟨vx,hx2,rfl⟩,fun o ac w e1 e2 hf hr=>?_⟩
  have hm:(Instr.makeInterface t vx).run P w = .ok (.iface t vx) w:=by
   unfold concT at hc
   cases hu:P.underlying t with
   | none=>rw [hu] at hc;cases hc
   | some td =>
    rw [hu] at hc
    cases td <;> first | (cases hc;done) | simp [Instr.makeInterface,run_underlying hu]
  simp [execOp,e1,hf.ev hx1,hm]
 ·exact h.elim
def sameT:Operand→Operand→Bool
 | .tmp a,.tmp b=>Nat.beq a b
 | _,_=>false
theorem Yd {x y:Operand} (h:sameT x y=true):x=y:=by
 cases x with
 | tmp a=>cases y with
  | tmp b=>rw [Nat.eq_of_beq_eq_true h]
  | _=>cases h
 | _=>cases h
def tMake (P:Program) (sl:List (Nat×SV)) (f:Nat) (t:TypeId) (x y:Operand):Tr:=match rowOf P t with
 | some (c,et,bytes)=>asI sl x fun _ z=>asI sl y fun _ z'=>(match zeroOf P et with
  | some zs=>(match constL zs.toList with
   | some l=> .grd (sameT x y || decide (z=z')) (encC c l fun u r=> .grd (decide (0≤z∧z*bytes≤140737488355328)) (.done ⟨vC (.own f),[],[.row c et (List.replicate z.toNat u)]⟩))
   | none=> .no)
  | none=> .no)
 | none=> .no
theorem Ye {t:TypeId} {x y:Operand} (hf:bl[f]? = some .hole) (h:Told f (tMake P sl f t x y) bl bl' v):EffH P n (.makeSlice t x y) ty sl bl bl' v:=by
 unfold tMake at h
 split at h
 ·rename_i c et bytes hrow
  obtain ⟨hu,happ,_,hby⟩:=DK hrow
  obtain ⟨k,z,ex,h0⟩:=Df h
  obtain ⟨k',z',ey,h1⟩:=Df h0
  clear h h0
  split at h1
  ·rename_i zs hzs
   split at h1
   ·rename_i l hl
    obtain ⟨hxy,h1⟩:=h1
    have hxy:z=z':=by
     cases hs:sameT x y with
     | true =>
      have:=Yd hs
      subst this
      rw [ex] at ey;injection ey with ey;injection ey with ey;injection ey with ey;injection ey
     | false=>rw [hs,Bool.false_or] at hxy;exact of_decide_eq_true hxy
    subst hxy
    obtain ⟨u,r,bl1,h2,hfz,henc⟩:=CU c h1
    clear h1
    obtain ⟨hg,rfl,rfl⟩:=h2
    have hg:=of_decide_eq_true hg
    refine EffH.frz hfz (JD (hfz.hole hf) fun g ρ own fr hr=>?_)
    obtain ⟨vx,hx1,rfl,_⟩:=Ah hr ex
    obtain ⟨vy,hy1,rfl,_⟩:=Ah hr ey
    have hz:z=((z.toNat:Nat):Int):=by omega
    have hall:=BS (g:=g) (ρ:=ρ) (bl:=bl1) hl
    obtain ⟨c1,c2,e1,e2,e3⟩:=henc.real hr c hall
    have hl1:zs.toList.length=c.n:=by
     have h1:=happ
     unfold appT at h1
     unfold zeroOf at hzs
     split at h1
     ·rename_i e' i hu' hi
      split at h1
      ·rename_i z0 hz0
       split at h1
       ·rename_i hcnd
        simp only [Option.some.injEq,Prod.mk.injEq] at h1
        rw [hi] at hzs
        simp only [Option.bind_some,hz0,Option.map_some,Option.some.injEq] at hzs
        rw [← hzs,Array.length_toList,hcnd.2,h1.1,c.ty_n]
       ·cases h1
      ·cases h1
     ·cases h1
    have hl2:c1.length=c.n:=by rw [c.ty.len e2,c.ty_n]
    have hc20:c2=[]:=by
     have:zs.toList.length=c1.length+c2.length:=by rw [e1,List.length_append]
     exact List.eq_nil_of_length_eq_zero (by omega)
    rw [hc20,List.append_nil] at e1
    have hbm:bytes*z.toNat≤140737488355328:=by
     have:((bytes*z.toNat:Nat):Int)≤((140737488355328:Nat):Int):=by
      rw [Int.natCast_mul,← hz,Int.mul_comm];exact hg.2
     exact Int.ofNat_le.1 this
    have hmz:z.toNat≤140737488355328:=Nat.le_trans (Nat.le_mul_of_pos_left _ hby) hbm
    intro o a w Q K h1 h2 hfr hs hk
    refine AiR (T:=c.ty) z.toNat (zs:=c1) (z:=u) happ (by rw [← hz];exact hx1) (by rw [← hz];exact hy1) (by rw [hzs,← e1]) e2 (by omega) hmz o a w Q K h1 h2 hfr hs fun v' g' own' w' hg' hs' ⟨b,cs,e4,e5,e6,e7,e8⟩=>?_
    exact hk v' g' own' w' hg' hs' ⟨_,_,_,by rw [e4,List.length_replicate],e5,e6,by rw [List.length_replicate];exact e8⟩
   ·exact h1.elim
  ·exact h1.elim
 ·exact h.elim
end
section
variable {α:Type} {P:Program} {n:Nat} {T:Ty α} {p:Psi} {g:Gh} {own:Own} {sl:Sl} {ty:TypeId}
theorem LK {zs:List Value} {z:α} (hr:T.rep p zs z):∀ m:Nat,Reps T p (madeCells zs.toArray (m*T.n)).toList (List.replicate m z):=by
 intro m
 induction m with
 | zero=>simp [madeCells];rfl
 | succ m ih =>
  have e:(madeCells zs.toArray ((m+1)*T.n)).toList=zs++(madeCells zs.toArray (m*T.n)).toList:=by
   have hzl:zs.length=T.n:=T.len hr
   apply List.ext_getElem?
   intro j
   rw [List.getElem?_append]
   simp only [madeCells,Array.toList_map,Array.toList_range,List.getElem?_map]
   by_cases hj:j < zs.length
   ·rw [if_pos hj]
    have hj2:j < (m+1)*T.n:=by rw [Nat.succ_mul];omega
    rw [List.getElem?_range hj2]
    simp only [Option.map_some,List.size_toArray,Nat.mod_eq_of_lt hj]
    rw [List.getElem?_eq_getElem hj]
    simp [hj]
   ·rw [if_neg hj]
    by_cases hj2:j < (m+1)*T.n
    ·have hj3:j - zs.length < m*T.n:=by rw [Nat.succ_mul] at hj2;omega
     rw [List.getElem?_range hj2,List.getElem?_range hj3]
     simp only [Option.map_some,List.size_toArray]
     congr 2
     exact (Nat.mod_eq_sub_mod (by omega))
    ·have hj3:¬ j - zs.length < m*T.n:=by rw [Nat.succ_mul] at hj2;omega
     rw [List.getElem?_eq_none (by simpa using hj2),List.getElem?_eq_none (by simpa using hj3)]
  rw [e,List.replicate_succ]
  exact ⟨zs,_,rfl,hr,ih⟩
theorem Yf {t tn et:TypeId} {s x:Operand} {kx kn:IntKind} {bytes:Nat} (m:Nat) {zs:List Value} {z:α} (ha:appT P t et=some (T.n,bytes)) (htn:P.underlying tn=some (.int kn)) (hs:evS sl s=some (.slice none 0 0)) (hx:evS sl x=some (.int kx (m:Int)))
  (h0:0 < m) (hz:zeroOf P et=some zs.toArray) (hr:T.rep p zs z) (hbytes:m*bytes≤140737488355328) (hm:m≤140737488355328) :
  Eff P n g own sl (.call { callee:= .builtin .append,args:=#[s,x],argTypes:=#[t,tn] }) ty (fun v' g' own'=>∃ b cap k,v' = .slice (some ⟨b,0,none⟩) m cap∧g=g'∧own'=k::own∧Buf p T et (.slice (some ⟨b,0,none⟩) (List.replicate m z).length cap) k (List.replicate m z)):=by
 intro o a w Q K h1 h2 hf hst h
 obtain ⟨inf,z0,ht,hinf,hz0,hsz,hby,hzs⟩:=(AppT.of ha).out
 have hzc:z0.cells=zs.toArray:=by
  unfold zeroOf at hz
  rw [hinf] at hz
  simpa [hz0] using hz
 have hrun:=Lib.run_append_nil_zeros (P:=P) w t tn o.type et inf z0 kx kn ht htn hinf hz0 m h0 (by rw [hsz];exact T.pos) (by omega) (by rw [hby];exact AiS hbytes)
 have hge:=grownCap_ge w m 0 et
 have hle:grownCap w m 0 et≤maxLen:=grownCap_le_maxLen w m 0 et (by simp only [maxLen];omega)
 generalize grownCap w m 0 et=cap at hrun hge hle
 have hlen:(Builtin.zeroCells z0.cells m++Builtin.zeroCells z0.cells (cap - m)).toList.length=cap*T.n:=by
  simp only [Array.toList_append,List.length_append,Array.length_toList,size_zeroCells,hzs,← Nat.add_mul]
  congr 1
  omega
 have hrep:Reps T p (Builtin.zeroCells z0.cells m).toList (List.replicate m z):=by
  have e:Builtin.zeroCells z0.cells m=madeCells zs.toArray (m*T.n):=by
   rw [← hzs,hzc]
   rfl
  rw [e]
  exact LK hr m
 have hal:=(hst.drew).alloc et (Builtin.zeroCells z0.cells m++Builtin.zeroCells z0.cells (cap - m)).toList
 rw [Array.toArray_toList] at hal
 have:(execOp a.eval o).run P w = .ok (.value (.slice (some ⟨w.heap.size,0,none⟩) m cap)) (w.drew.alloc (.cells (Builtin.zeroCells z0.cells m++Builtin.zeroCells z0.cells (cap - m)) et)):=by
  simp [execOp,h1,resolve,invoke,builtin,hf.ev hs,hf.ev hx,hrun]
 unfold Oper.wp
 rw [this]
 exact h _ _ _ _ (.refl g) hal ⟨_,_,_,rfl,rfl,rfl,by rw [List.length_replicate];exact hm,.inr ⟨w.heap.size,cap,(Builtin.zeroCells z0.cells m).toList,(Builtin.zeroCells z0.cells (cap - m)).toList,by rw [List.length_replicate],by rw [Array.toList_append];rfl,hrep,by rw [← Array.toList_append];exact hlen,hle⟩⟩
end
section
variable {P:Program} {n:Nat} {ty:TypeId} {sl:List (Nat×SV)} {bl bl':List BV} {v:SV} {f:Nat} {g:Gh} {ρ:Env} {own:Own} {fr:Sl}
def tAppZ (P:Program) (sl:List (Nat×SV)) (f:Nat) (t tn:TypeId) (s x:Operand):Tr:=match rowOf P t,P.underlying tn,evH sl s with
 | some (c,et,bytes),some (.int _),some (.v (.c (.k (.slice none 0 0))))=>asI sl x fun _ z=>(match zeroOf P et with
  | some zs=>(match constL zs.toList with
   | some l=>encC c l fun u r=> .grd (decide (0 < z∧z*bytes≤140737488355328)) (.done ⟨vC (.own f),[],[.row c et (List.replicate z.toNat u)]⟩)
   | none=> .no)
  | none=> .no)
 | _,_,_=> .no
theorem Yg {t tn:TypeId} {s x:Operand} (hf:bl[f]? = some .hole) (h:Told f (tAppZ P sl f t tn s x) bl bl' v):EffH P n (.call { callee:= .builtin .append,args:=#[s,x],argTypes:=#[t,tn] }) ty sl bl bl' v:=by
 unfold tAppZ at h
 split at h
 ·rename_i c et bytes kn hrow htn es
  obtain ⟨hu,happ,_,hby⟩:=DK hrow
  obtain ⟨k,z,ex,h0⟩:=Df h
  have h1:=h0
  clear h h0
  split at h1
  ·rename_i zs hzs
   split at h1
   ·rename_i l hl
    obtain ⟨u,r,bl1,h2,hfz,henc⟩:=CU c h1
    clear h1
    obtain ⟨hg,rfl,rfl⟩:=h2
    have hg:=of_decide_eq_true hg
    refine EffH.frz hfz (JD (hfz.hole hf) fun g ρ own fr hr=>?_)
    obtain ⟨vx,hx1,rfl,_⟩:=Ah hr ex
    obtain ⟨vy,hy1,rfl,_⟩:=Ah hr es
    have hz:z=((z.toNat:Nat):Int):=by omega
    have hall:=BS (g:=g) (ρ:=ρ) (bl:=bl1) hl
    obtain ⟨c1,c2,e1,e2,e3⟩:=henc.real hr c hall
    have hl1:zs.toList.length=c.n:=by
     have h1:=happ
     unfold appT at h1
     unfold zeroOf at hzs
     split at h1
     ·rename_i e' i hu' hi
      split at h1
      ·rename_i z0 hz0
       split at h1
       ·rename_i hcnd
        simp only [Option.some.injEq,Prod.mk.injEq] at h1
        rw [hi] at hzs
        simp only [Option.bind_some,hz0,Option.map_some,Option.some.injEq] at hzs
        rw [← hzs,Array.length_toList,hcnd.2,h1.1,c.ty_n]
       ·cases h1
      ·cases h1
     ·cases h1
    have hl2:c1.length=c.n:=by rw [c.ty.len e2,c.ty_n]
    have hc20:c2=[]:=by
     have:zs.toList.length=c1.length+c2.length:=by rw [e1,List.length_append]
     exact List.eq_nil_of_length_eq_zero (by omega)
    rw [hc20,List.append_nil] at e1
    have hbm:bytes*z.toNat≤140737488355328:=by
     have:((bytes*z.toNat:Nat):Int)≤((140737488355328:Nat):Int):=by
      rw [Int.natCast_mul,← hz,Int.mul_comm];exact hg.2
     exact Int.ofNat_le.1 this
    have hmz:z.toNat≤140737488355328:=Nat.le_trans (Nat.le_mul_of_pos_left _ hby) hbm
    intro o a w Q K h1 h2 hfr hs hk
    refine Yf (T:=c.ty) z.toNat (zs:=c1) (z:=u) happ htn hy1 (by rw [← hz];exact hx1) (by omega) (by rw [hzs,← e1]) e2 (by rw [Nat.mul_comm];exact hbm) hmz o a w Q K h1 h2 hfr hs fun v' g' own' w' hg' hs' ⟨b,cap,k,e4,e5,e6,e8⟩=>?_
    exact hk v' g' own' w' hg' hs' ⟨_,_,_,by rw [e4,List.length_replicate],e5,e6,e8⟩
   ·exact h1.elim
  ·exact h1.elim
 ·exact h.elim
end
theorem GR:∀ (vs b:List Value),vs.length≤b.length→setRow b 0 vs=vs++b.drop vs.length
 | [],b,_=>by simp [setRow]
 | v::vs,[],h=>by simp at h
 | v::vs,x::b,h=>by
  have h1:=EY vs [v] b 0
  have h2:=GR vs b (by simpa using h)
  simp only [List.length_singleton,Nat.add_zero,List.singleton_append] at h1
  show setRow (v::b) (0+1) vs=_
  rw [Nat.zero_add,h1,h2]
  rfl
theorem LL (vs cs:List Value) (off:Nat) (h:off+vs.length≤cs.length):setRow cs off vs=cs.take off++vs++cs.drop (off+vs.length):=by
 have h1:=EY vs (cs.take off) (cs.drop off) 0
 rw [List.take_append_drop,List.length_take,Nat.min_eq_left (by omega),Nat.add_zero] at h1
 rw [h1,GR _ _ (by rw [List.length_drop];omega),List.drop_drop,List.append_assoc]
section
variable {α:Type} {P:Program} {n:Nat} {T:Ty α} {p:Psi} {g:Gh} {own:Own} {sl:Sl} {ty:TypeId}
theorem Reps.many {xs ys:List α} {cs ds:List Value} {i:Nat} (h:Reps T p cs xs) (k:Reps T p ds ys) (hi:i+ys.length≤xs.length):Reps T p (setRow cs (i*T.n) ds) (xs.take i++ys++xs.drop (i+ys.length)):=by
 have hl:i*T.n+ds.length=(i+ys.length)*T.n:=by rw [k.len,Nat.add_mul]
 rw [LL _ _ _ (by rw [hl,h.len];exact Nat.mul_le_mul_right _ hi),hl]
 exact ((h.take i).append k).append (h.drop (i+ys.length))
theorem Buf.many {et:TypeId} {A:Option Addr} {c:Nat} {kb:Bk} {xs ys:List α} {ds:List Value} {i:Nat} (h:Buf p T et (.slice A xs.length c) (some kb) xs) (k:Reps T p ds ys) (hi:i+ys.length≤xs.length) :
  A=some ⟨kb.g,0,none⟩∧i*T.n+ds.length≤kb.cs.length∧Buf p T et (.slice A (xs.take i++ys++xs.drop (i+ys.length)).length c) (some ⟨kb.g,kb.t,setRow kb.cs (i*T.n) ds⟩) (xs.take i++ys++xs.drop (i+ys.length)):=by
 obtain ⟨h0,h⟩:=h
 have hlen:(xs.take i++ys++xs.drop (i+ys.length)).length=xs.length:=by
  simp only [List.length_append,List.length_take,List.length_drop];omega
 rcases h with ⟨_,_,h3⟩ | ⟨b,cap,cs,sp,h1,h2,h3,h4,h5⟩
 ·cases h3
 ·injection h2 with h2
  subst h2
  injection h1 with e1 e2 e3
  subst e1;subst e3
  have hds:i*T.n+ds.length≤cs.length:=by
   rw [k.len,h3.len,← Nat.add_mul];exact Nat.mul_le_mul_right _ hi
  refine ⟨rfl,by rw [List.length_append];omega,by rw [hlen];exact h0,.inr ⟨b,c,setRow cs (i*T.n) ds,sp,rfl,?_,h3.many k hi,by rw [List.length_append,Gr,← List.length_append];exact h4,h5⟩⟩
  rw [EX _ _ _ _ hds]
theorem Yh {op:Op} {et:TypeId} {A B:Option Addr} {c io i:Nat} {k:Option Bk} {xs ys:List α} {ds:List Value} {r:Value} (hi:own[io]? = some k) (hb:Buf p T et (.slice A xs.length c) k xs) (hd:Reps T p ds ys) (hl:i+ys.length≤xs.length)
  (hB:0 < ys.length→B=offA A c i T.n)
  (hrun:∀ (o:Oper) (a:Act) (w w':World),o.op=op→o.type=ty→Fr n a sl→St w g own→(ys.length=0→w'=w)→(0 < ys.length→∃ ad,B=some ad∧(storeCells ad ds).run P w = .ok () w')→(execOp a.eval o).run P w = .ok (.value r) w') :
  Eff P n g own sl op ty (fun v' g' own'=>v'=r∧g=g'∧∃ k',own'=own.set io k'∧Buf p T et (.slice A (xs.take i++ys++xs.drop (i+ys.length)).length c) k' (xs.take i++ys++xs.drop (i+ys.length))):=by
 intro o a w Q K h1 h2 hf hs h
 rcases Nat.eq_zero_or_pos ys.length with h0 | h0
 ·have:ys=[]:=List.length_eq_zero_iff.1 h0
  subst this
  have e:=hrun o a w w h1 h2 hf hs (fun _=>rfl) (fun h=>absurd h (by simp))
  unfold Oper.wp
  rw [e]
  refine h _ g (own.set io k) w (.refl g) (by rw [Jg hi];exact hs) ⟨rfl,rfl,k,rfl,?_⟩
  simpa using hb
 ·cases k with
  | none =>
   rcases hb.2 with ⟨_,e,_⟩ | ⟨_,_,_,_,_,e,_⟩
   ·subst e
    have hl:i+ys.length≤0:=hl
    omega
   ·cases e
  | some kb =>
   obtain ⟨e1,e2,e3⟩:=hb.many hd hl
   have hBe:B=some ⟨kb.g,i*T.n,none⟩:=by
    rw [hB h0,e1]
    unfold offA
    rw [if_neg]
    ·show some (Addr.add ⟨kb.g,0,none⟩ (i*T.n))=_
     simp [Addr.add]
     try exact fun e=>e.symm
    ·have:=hb.val
     obtain ⟨_,_,e4,e5⟩:=this
     injection e4 with _ _ e6
     omega
   obtain ⟨w',hst,hs'⟩:=Ce (P:=P) (g:=g) (i:=io) (k:=kb) (vs:=ds) (own:=own) (off:=i*T.n) kb.cs 0 hs hi (by simpa using hd.one) (by omega)
   have e:=hrun o a w w' h1 h2 hf hs (fun h=>absurd h (by omega)) (fun _=>⟨_,hBe,hst⟩)
   unfold Oper.wp
   rw [e]
   exact h _ g _ w' (.refl g) hs' ⟨rfl,rfl,_,rfl,e3⟩
end
section
variable {P:Program} {n:Nat} {ty:TypeId} {sl:List (Nat×SV)} {bl bl':List BV} {v:SV} {f:Nat} {g:Gh} {ρ:Env} {own:Own} {fr:Sl}
theorem AfB {α:Type} {xs ys:List α} {i:Nat} (h:i+ys.length≤xs.length):(xs.take i++ys++xs.drop (i+ys.length)).length=xs.length:=by
 simp only [List.length_append,List.length_take,List.length_drop];omega
theorem LM {op:Op} {b:Nat} {d:Cd} {et:TypeId} {xs ys:List d.den} {i:Nat} {r:SV} (hb:bl[b]? = some (.row d et xs)) (hl:i+ys.length≤xs.length)
  (h:∀ g ρ own fr,Rl g ρ ⟨sl,bl⟩ own fr→∀ k,own[b]? = some k→Buf g.b d.ty et (.slice (ρ b).1 xs.length (ρ b).2) k xs→∃ rv,RealS g ρ (bl.set b (.row d et (xs.take i++ys++xs.drop (i+ys.length)))) r rv∧Eff P n g own fr op ty (fun v' g' own'=>v'=rv∧g=g'∧∃ k',own'=own.set b k'∧Buf g.b d.ty et (.slice (ρ b).1 (xs.take i++ys++xs.drop (i+ys.length)).length (ρ b).2) k' (xs.take i++ys++xs.drop (i+ys.length)))) :
  EffH P n op ty sl bl (bl.set b (.row d et (xs.take i++ys++xs.drop (i+ys.length)))) r:=by
 intro o a w Q K g ρ own fr h1 h2 hr hfr hs hk
 obtain ⟨k0,hk0,hB⟩:=hr.own_at hb
 obtain ⟨rv,hrv,he⟩:=h g ρ own fr hr k0 hk0 hB
 refine he o a w Q K h1 h2 hfr hs fun v g' own' w' hg hs' ⟨e1,e2,k',e3,hB'⟩=>?_
 subst e1;subst e2;subst e3
 obtain ⟨hx,hr'⟩:=TC hb (bv1:= .row d et (xs.take i++ys++xs.drop (i+ys.length))) (k:=k') hr (.refl g) rfl (fun m hm=>by
  have hm:some (xs.take i++ys++xs.drop (i+ys.length)).length=some m:=hm
  rw [AfB hl] at hm;exact hm) hB'
 exact hk v g ρ _ w' (.refl g) hx hs' hr' hrv
def ovrL {α:Type} (xs:List α) (i:Nat) (ys:List α):List α:=xs.take i++ys++xs.drop (i+ys.length)
def tClear (P:Program) (sl:List (Nat×SV)) (t:TypeId) (x:Operand):Tr:=match rowOf P t,evH sl x with
 | some (c,et,_),some (.v (.c (.vw b cv l r)))=>(match zeroOf P et with
  | some zs=>(match constL zs.toList with
   | some cl=>encC c cl fun u _=> .need b fun
    | .row d et' xs=>(match d.same c,d.same cv,Nat.beq et' et with
     | some h,some _,true=> .grd (decide (l≤r∧r≤xs.length)) (.done ⟨.any,[(b,.row d et' (ovrL xs l (List.replicate (r - l) (h.down ▸ u))))],[]⟩)
     | _,_,_=> .no)
    | _=> .no
   | none=> .no)
  | none=> .no)
 | _,_=> .no
theorem Yi {c:Cd} {et t:TypeId} {bytes:Nat} {zs:Array Value} (happ:appT P t et=some (c.ty.n,bytes)) (hzs:zeroOf P et=some zs):zs.toList.length=c.n:=by
 have h1:=happ
 unfold appT at h1
 unfold zeroOf at hzs
 split at h1
 ·rename_i e' i hu' hi
  split at h1
  ·rename_i z0 hz0
   split at h1
   ·rename_i hcnd
    simp only [Option.some.injEq,Prod.mk.injEq] at h1
    rw [hi] at hzs
    simp only [Option.bind_some,hz0,Option.map_some,Option.some.injEq] at hzs
    rw [← hzs,Array.length_toList,hcnd.2,h1.1,c.ty_n]
   ·cases h1
  ·cases h1
 ·cases h1
theorem SG {t et:TypeId} {B:Option Addr} {m cap k bytes:Nat} {zs:List Value} {w w':World} (ha:appT P t et=some (k,bytes)) (hz:zeroOf P et=some zs.toArray) (h0:m=0→w'=w)
  (h1:0 < m→∃ ad,B=some ad∧(storeCells ad (madeCells zs.toArray (m*k)).toList).run P w = .ok () w'):(Builtin.clear_ #[t] ty #[.slice B m cap]).run P w = .ok (.tuple #[]) w':=by
 obtain ⟨inf,z0,ht,hinf,hz0,hsz,hby,hzs⟩:=(AppT.of ha).out
 have hzc:(z0.cells:Array Value)=zs.toArray:=by
  unfold zeroOf at hz
  rw [hinf] at hz
  simpa [hz0] using hz
 have hzv:∀ w,(zeroValue et).run P w = .ok z0 w:=fun w=>by simp [zeroValue,typeInfo,program,Sem.run,bind,Sem.bind,hinf,hz0,pure]
 have e:Builtin.zeroCells z0.cells m=madeCells zs.toArray (m*k):=by
  rw [← hzs,hzc]
  rfl
 rcases Nat.eq_zero_or_pos m with hm | hm
 ·subst hm
  rw [h0 rfl]
  cases B <;> simp [Builtin.clear_,run_underlying ht]
 ·obtain ⟨ad,rfl,hst⟩:=h1 hm
  rw [← e] at hst
  obtain ⟨m,rfl⟩:∃ q,m=q+1:=⟨m - 1,by omega⟩
  simp [Builtin.clear_,run_underlying ht,hzv,hst]
theorem VT {t:TypeId} {x:Operand} (h:Told f (tClear P sl t x) bl bl' v):EffH P n (.call { callee:= .builtin .clear,args:=#[x],argTypes:=#[t] }) ty sl bl bl' v:=by
 unfold tClear at h
 split at h
 ·rename_i c et by_ b cv l r hrow ex
  obtain ⟨hu,happ,_,hby⟩:=DK hrow
  split at h
  ·rename_i zs hzs
   split at h
   ·rename_i cl hcl
    obtain ⟨u,r0,bl1,h2,hfz,henc⟩:=CU c h
    clear h
    obtain ⟨bv,hb,h⟩:=h2
    dsimp only at h
    split at h
    ·rename_i d et' xs
     split at h
     ·rename_i hk1 hk2 _ _ het
      obtain ⟨hk1⟩:=hk1;obtain ⟨hk2⟩:=hk2;subst hk1;subst hk2
      have het:=Nat.eq_of_beq_eq_true het
      subst het
      obtain ⟨hg,rfl,rfl⟩:=h
      obtain ⟨hlr,hrx⟩:=of_decide_eq_true hg
      have hyl:l+(List.replicate (r - l) u).length≤xs.length:=by rw [List.length_replicate];omega
      refine EffH.frz hfz (LM (r:= .any) (i:=l) (ys:=List.replicate (r - l) u) hb hyl fun g ρ own fr hr k hk hB=>⟨.tuple #[],(trivial:True),?_⟩)
      obtain ⟨vx,hx1,hkn,rfl,hl⟩:=Ah hr ex
      have hall:=BS (g:=g) (ρ:=ρ) (bl:=bl1) hcl
      obtain ⟨c1,c2,e1,e2,e3⟩:=henc.real hr d hall
      have hl1:=Yi happ hzs
      have hl2:c1.length=d.n:=by rw [d.ty.len e2,d.ty_n]
      have hc20:c2=[]:=by
       have:zs.toList.length=c1.length+c2.length:=by rw [e1,List.length_append]
       exact List.eq_nil_of_length_eq_zero (by omega)
      rw [hc20,List.append_nil] at e1
      have hzs':zeroOf P et'=some c1.toArray:=by rw [hzs,← e1]
      refine Yh (T:=d.ty) (B:=offA (ρ b).1 (ρ b).2 l d.n) (i:=l) (ds:=(madeCells c1.toArray ((r - l)*d.ty.n)).toList) hk hB (LK e2 (r - l)) hyl (fun _=>by rw [d.ty_n]) fun o a w w' q1 q2 hf hs q3 q4=>?_
      rw [List.length_replicate] at q3 q4
      have:=SG (P:=P) (ty:=o.type) (cap:=(ρ b).2 - l) happ hzs' q3 q4
      simp [execOp,q1,resolve,invoke,builtin,hf.ev hx1,this]
     ·exact h.elim
    ·exact h.elim
   ·exact h.elim
  ·exact h.elim
 ·exact h.elim
def dstT (sl:List (Nat×SV)) (x:Operand) (K:(b:Nat)→(d:Cd)→TypeId→List d.den→(l r:Nat)→Tr):Tr:=match evH sl x with
 | some (.v (.c (.own b)))=> .need b fun | .row d et xs=>K b d et xs 0 xs.length | _=> .no
 | some (.v (.c (.vw b cv l r)))=> .need b fun | .row d et xs=>(match d.same cv with | some _=>K b d et xs l r | none=> .no) | _=> .no
 | _=> .no
theorem VU {x:Operand} {K:(b:Nat)→(d:Cd)→TypeId→List d.den→(l r:Nat)→Tr} (h:Told f (dstT sl x K) bl bl' v):∃ b d et xs l r,bl[b]? = some (.row d et xs)∧Told f (K b d et xs l r) bl bl' v ∧
  ∀ g ρ own fr,Rl g ρ ⟨sl,bl⟩ own fr→l≤r∧r≤xs.length∧∃ cap,evS fr x=some (.slice (offA (ρ b).1 (ρ b).2 l d.n) (r - l) cap):=by
 unfold dstT at h
 split at h
 ·rename_i b ex
  obtain ⟨bv,hb,h⟩:=h
  dsimp only at h
  split at h
  ·rename_i d et xs
   refine ⟨b,d,et,xs,0,xs.length,hb,h,fun g ρ own fr hr=>?_⟩
   obtain ⟨vx,hx1,hkn,l,rfl,hl⟩:=Ah hr ex
   have hl:=hl _ _ hb rfl
   subst hl
   exact ⟨Nat.zero_le _,Nat.le_refl _,(ρ b).2,by rw [FY,Nat.sub_zero];exact hx1⟩
  ·exact h.elim
 ·rename_i b cv l r ex
  obtain ⟨bv,hb,h⟩:=h
  dsimp only at h
  split at h
  ·rename_i d et xs
   split at h
   ·rename_i hk _;obtain ⟨hk⟩:=hk;subst hk
    refine ⟨b,d,et,xs,l,r,hb,h,fun g ρ own fr hr=>?_⟩
    obtain ⟨vx,hx1,hkn,rfl,hl⟩:=Ah hr ex
    obtain ⟨h1,h2⟩:=hl _ _ hb rfl
    exact ⟨h1,h2,_,hx1⟩
   ·exact h.elim
  ·exact h.elim
 ·exact h.elim
def tCopy (P:Program) (sl:List (Nat×SV)) (t:TypeId) (x y:Operand):Tr:=match rowOf P t with
 | some (c,et,_)=>dstT sl x fun b d et' xs l r=>(match d.same c,Nat.beq et' et with
  | some _,true=>srcT sl d b y fun ys=> .done ⟨vC (.int .i64 ((ys.take (r - l)).length:Int)),[(b,.row d et' (ovrL xs l (ys.take (r - l))))],[]⟩
  | _,_=> .no)
 | none=> .no
theorem VV {t t' et:TypeId} {A B:Option Addr} {m m' cap cap' k:Nat} {cs:List Value} {w w':World} (hu:P.underlying t=some (.slice et)) (hsz:cellsOfT P et=some k) (hs:0 < Nat.min m' m*k→∃ ad,A=some ad∧∀ j u,cs[j]? = some u→w.cell? (ad.add j)=some u)
  (hl:cs.length=Nat.min m' m*k) (h0:Nat.min m' m=0→w'=w) (h1:0 < Nat.min m' m→∃ ad,B=some ad∧(storeCells ad cs).run P w = .ok () w') (hk:0 < k):(Builtin.copy_ #[t,t'] ty #[.slice B m cap,.slice A m' cap']).run P w = .ok (.int .i64 (Nat.min m' m:Int)) w':=by
 have hfc:(Builtin.firstCells k (Nat.min m' m) (.slice A m' cap')).run P w = .ok cs.toArray w:=by
  rcases Nat.eq_zero_or_pos (Nat.min m' m*k) with h | h
  ·rw [h] at hl
   have:=List.length_eq_zero_iff.1 hl
   subst this
   cases A with
   | none=>simp [Builtin.firstCells]
   | some ad =>
    have:=run_loadCells_list (P:=P) w ad [] (fun j v e=>by simp at e)
    simp only [Builtin.firstCells,h]
    simpa using this
  ·obtain ⟨ad,rfl,hc⟩:=hs h
   have:=run_loadCells_list (P:=P) w ad cs hc
   rw [hl] at this
   simp only [Builtin.firstCells]
   exact this
 have hsz':=Bh hsz w
 simp only [Builtin.copy_]
 simp [run_underlying hu,Builtin.lenOf,hsz',hfc]
 rcases Nat.eq_zero_or_pos (Nat.min m' m) with h | h
 ·rw [h0 h]
  rw [h,Nat.zero_mul] at hl
  have:=List.length_eq_zero_iff.1 hl
  subst this
  cases B <;> simp [storeCells,goInt]
 ·obtain ⟨ad,rfl,hst⟩:=h1 h
  simp [hst,goInt]
theorem Yj {t t':TypeId} {x y:Operand} (h:Told f (tCopy P sl t x y) bl bl' v):EffH P n (.call { callee:= .builtin .copy,args:=#[x,y],argTypes:=#[t,t'] }) ty sl bl bl' v:=by
 unfold tCopy at h
 split at h
 ·rename_i c et by_ hrow
  obtain ⟨hu,happ,hsz,hby⟩:=DK hrow
  obtain ⟨b,d,et',xs,l,r,hb,h2,hdst⟩:=VU h
  clear h
  split at h2
  ·rename_i hk1 _ het
   obtain ⟨hk1⟩:=hk1;subst hk1
   have het:=Nat.eq_of_beq_eq_true het
   subst het
   obtain ⟨ys,h3,hsrc⟩:=En h2
   clear h2
   obtain ⟨rfl,rfl⟩:=h3
   intro o a w Q K g ρ own fr
   by_cases hyl:l+(ys.take (r - l)).length≤xs.length
   ·revert o a w Q K g ρ own fr
    refine LM (i:=l) (ys:=ys.take (r - l)) hb hyl fun g ρ own fr hr k hk hB=>?_
    obtain ⟨hlr,hrx,cap,hx1⟩:=hdst g ρ own fr hr
    obtain ⟨hyl2,A,cap',news,hy1,hy2,hy3⟩:=hsrc g ρ own fr hr
    have hmin:Nat.min ys.length (r - l)=(ys.take (r - l)).length:=by rw [List.length_take];exact Nat.min_comm _ _
    have hnl:(news.take ((ys.take (r - l)).length*d.ty.n)).length=Nat.min ys.length (r - l)*d.ty.n:=by
     rw [hmin,List.length_take,hy2.len]
     exact Nat.min_eq_left (Nat.mul_le_mul_right _ (by rw [List.length_take];exact Nat.min_le_right _ _))
    have hrep:Reps d.ty g.b (news.take ((ys.take (r - l)).length*d.ty.n)) (ys.take (r - l)):=by
     have:=hy2.take (ys.take (r - l)).length
     rw [show ys.take (ys.take (r - l)).length=ys.take (r - l) by rw [List.length_take,List.take_eq_take_iff];omega] at this
     exact this
    refine ⟨.int .i64 ((ys.take (r - l)).length:Int),⟨rfl,Fg (by rw [List.length_take];omega)⟩,?_⟩
    refine Yh (T:=d.ty) (B:=offA (ρ b).1 (ρ b).2 l d.n) (i:=l) hk hB hrep hyl (fun _=>by rw [d.ty_n]) fun o a w w' q1 q2 hf hs q3 q4=>?_
    have hs3:=hy3 w hs
    have:=VV (P:=P) (ty:=o.type) (t':=t') (cap:=cap) (cap':=cap') (A:=A) (w:=w) (cs:=news.take ((ys.take (r - l)).length*d.ty.n)) hu hsz (fun hp=>by
     have h0:0 < ys.length:=by
      rcases Nat.eq_zero_or_pos ys.length with h | h
      ·rw [h] at hp;simp at hp
      ·exact h
     obtain ⟨ad,e1,e2⟩:=hs3 h0
     exact ⟨ad,e1,fun j u hu=>e2 j u (by rw [List.getElem?_take] at hu;split at hu;exact hu;cases hu)⟩) hnl (fun h=>q3 (by rw [← hmin];exact h)) (fun h=>q4 (by rw [← hmin];exact h)) d.ty.pos
    rw [hmin] at this
    simp [execOp,q1,resolve,invoke,builtin,hf.ev hx1,hf.ev hy1,this]
   ·intro h1 h2 hr hf hs hk
    obtain ⟨hlr,hrx,_⟩:=hdst g ρ own fr hr
    exact absurd (by rw [List.length_take];omega) hyl
  ·exact h2.elim
 ·exact h.elim
end
section
variable {α:Type} {P:Program} {n:Nat} {T:Ty α} {p:Psi} {g:Gh} {own:Own} {sl:Sl} {ty:TypeId}
theorem IM {w:World} {t ty' et:TypeId} {bytes:Nat} (ha:AppT P t et T.n bytes) (hs:St w g own) {i:Nat} {A:Option Addr} {c:Nat} {k:Option Bk} {xs:List α} (hi:own[i]? = some k) (hb:Buf p T et (.slice A xs.length c) k xs)
  {l r:Nat} (hl:0 < l) (hlr:l≤r) (hr:r≤xs.length) {A2:Option Addr} {m c2:Nat} {news:List Value} {ys:List α} (hm:m=ys.length) (hsrc:Src w A2 m news) (hrep:Reps T p news ys) (hbytes:(r+ys.length)*bytes≤140737488355328) (hlen:r+ys.length≤140737488355328) :
  ∃ A' c' w' k',(Builtin.append_ #[t,t] ty' #[.slice (offA A c l T.n) (r - l) (c - l),.slice A2 m c2]).run P w = .ok (.slice A' (r - l+ys.length) c') w'∧St w' g (own.set i k') ∧
   ((A'=offA A c l T.n∧c'=c - l∧Buf p T et (.slice A (xs.take r++ys).length c) k' (xs.take r++ys))∨Buf p T et (.slice A' ((xs.drop l).take (r - l)++ys).length c') k' ((xs.drop l).take (r - l)++ys)):=by
 obtain ⟨inf,z,ht,hinf,hz,hsz,hby,hzs⟩:=ha.out
 have hcell:cellsOfT P et=some T.n:=by simp [cellsOfT,hinf,hsz]
 have hcap:xs.length≤c:=by
  obtain ⟨_,_,e4,e5⟩:=hb.val
  injection e4 with _ _ e6
  omega
 have hlr2:(xs.take r).length=r:=by rw [List.length_take];omega
 subst hm
 by_cases hy:ys=[]
 ·subst hy
  refine ⟨offA A c l T.n,c - l,w,k,?_,by rw [Jg hi];exact hs,.inl ⟨rfl,rfl,by rw [List.append_nil];exact hb.cut r hr⟩⟩
  have hle:r - l≤c - l:=by omega
  cases A2 with
  | none=>exact Fk ht hcell hle
  | some ad=>cases (offA A c l T.n) <;> simp [Builtin.append_,run_underlying ht,Bh hcell,Builtin.lenOf,hle,Builtin.firstCells,loadCells,loadCellsFrom,storeCells]
 ·have hpos:0 < ys.length:=List.length_pos_iff.2 hy
  obtain ⟨ad,rfl,hnews⟩:=hsrc hpos
  obtain ⟨h0,hb'⟩:=hb
  rcases hb' with ⟨h1,h2,h3⟩ | ⟨b,cap,cs,sp,h1,h2,h3,h4,h5⟩
  ·subst h2
   have hr:r≤0:=hr
   omega
  ·injection h1 with e1 e2 e3
   subst e1;subst e3;subst h2
   have hnl:news.length=ys.length*T.n:=hrep.len
   have hcs:=h3.len
   have hrn:r*T.n≤cs.length:=by rw [hcs];exact Nat.mul_le_mul_right _ hr
   have hold:∀ j u,((cs.drop (l*T.n)).take ((r - l)*T.n))[j]? = some u→w.cell? ⟨b,l*T.n+j,none⟩=some u:=fun j u hu=>by
    have:=hs.has _ (List.mem_of_getElem? hi)
    rw [List.getElem?_take] at hu
    split at hu
    ·rw [List.getElem?_drop] at hu
     simp [World.cell?,this,Bk.obj_ty]
     rw [List.getElem?_append_left (by rcases Nat.lt_or_ge (l*T.n+j) cs.length with h | h;exact h;rw [List.getElem?_eq_none h] at hu;cases hu)]
     exact hu
    ·cases hu
   by_cases hroom:r - l+ys.length≤c - l
   ·have hne:¬ c=l:=by omega
    have hoff:offA (some (⟨b,0,none⟩:Addr)) c l T.n=some ⟨b,l*T.n,none⟩:=by
     unfold offA
     rw [if_neg hne]
     simp [Bz]
    have hfit:r*T.n+news.length≤(cs++sp).length:=by
     rw [h4,hnl,← Nat.add_mul]
     exact Nat.mul_le_mul_right _ (by omega)
    obtain ⟨w',hst,hs'⟩:=Ce (P:=P) (g:=g) (i:=i) (k:=⟨b,et,cs++sp⟩) (vs:=news) (own:=own) (off:=r*T.n) (cs++sp) 0 hs hi (by simpa using hrep.one) (by omega)
    have hadd:l*T.n+(r - l)*T.n=r*T.n:=by rw [← Nat.add_mul];congr 1;omega
    have hf:=run_firstCells_some (P:=P) w T.n ys.length ad ys.length c2 news (by rw [hnl]) hnews
    refine ⟨offA (some ⟨b,0,none⟩) c l T.n,c - l,w',_,?_,hs',.inl ⟨rfl,rfl,?_⟩⟩
    ·rw [hoff]
     have hst':(storeCells ⟨b,l*T.n+(r - l)*T.n,none⟩ news).run P w = .ok () w':=by rw [hadd];exact hst
     simp [Builtin.append_,run_underlying ht,Bh hcell,Builtin.lenOf,hroom,hf,Bz,hst']
    ·refine ⟨by rw [List.length_append,hlr2];exact hlen,.inr ⟨b,c,cs.take (r*T.n)++news,(cs++sp).drop (r*T.n+news.length),by rw [List.length_append],?_,(h3.take r).append hrep,?_,h5⟩⟩
     ·rw [Nat.add_zero,LL _ _ _ hfit,List.take_append_of_le_length hrn]
     ·rw [List.length_append,List.length_append,List.length_take,List.length_drop,Nat.min_eq_left hrn]
      omega
   ·have hoff:∃ a,offA (some (⟨b,0,none⟩:Addr)) c l T.n=some a∧(0 < r - l→a=⟨b,l*T.n,none⟩):=by
     unfold offA
     by_cases h:c=l
     ·exact ⟨⟨b,0,none⟩,by rw [if_pos h],fun h'=>by omega⟩
     ·refine ⟨⟨b,l*T.n,none⟩,by rw [if_neg h];simp [Bz],fun _=>rfl⟩
    obtain ⟨a0,ea,hab⟩:=hoff
    have holen:((cs.drop (l*T.n)).take ((r - l)*T.n)).length=(r - l)*T.n:=by
     rw [List.length_take,List.length_drop]
     have:l*T.n+(r - l)*T.n=r*T.n:=by rw [← Nat.add_mul];congr 1;omega
     omega
    have hbig:(r - l+ys.length)*inf.bytes≤140737488355328:=by
     rw [hby]
     exact Nat.le_trans (Nat.mul_le_mul_right _ (by omega)) hbytes
    obtain ⟨v',w',hrun,how',hgrow⟩:=run_append_arg_grows (P:=P) w t ty' et inf z T.n inf.bytes ht hinf hz hsz rfl hzs T.pos a0 (r - l) (c - l) ((cs.drop (l*T.n)).take ((r - l)*T.n)) holen (fun j u hu=>by
      have h0:0 < r - l:=by
       rcases Nat.eq_zero_or_pos (r - l) with h | h
       ·rw [h] at hu;simp at hu
       ·exact h
      rw [hab h0,Bz]
      exact hold j u hu) ad ys.length c2 news hnl hnews (by omega) (by simp only [maxLen];omega) hbig
    have hlenpos:0 < r - l+ys.length:=by omega
    rcases how'.2 with ⟨rfl,hz0⟩ | ⟨b',cap',cur,rfl,hge,hheap,hnc,hcm,hcsz,htake⟩
    ·omega
    ·refine ⟨some ⟨b',0,none⟩,cap',w',some ⟨b',et,cur.toList⟩,by rw [ea];exact hrun,?_,.inr ?_⟩
     ·refine hs.swap hi _ hgrow.os hgrow.tape hgrow.output (fun b hb hne=>hgrow.block b hb fun e=>by cases e) fun k' hk'=>?_
      injection hk' with hk'
      subst hk'
      exact ⟨by simpa [Bk.obj_ty] using hheap,.inr hge⟩
     ·have hpl:((xs.drop l).take (r - l)).length=r - l:=Dh hr
      have hc2:cur.toList=(((cs.drop (l*T.n)).take ((r - l)*T.n))++news)++cur.toList.drop ((r - l+ys.length)*T.n):=by rw [← htake,List.take_append_drop]
      refine ⟨by rw [List.length_append,hpl];omega,.inr ⟨b',cap',((cs.drop (l*T.n)).take ((r - l)*T.n))++news,cur.toList.drop ((r - l+ys.length)*T.n),by rw [List.length_append,hpl],by rw [← hc2],(((h3.drop l).take (r - l)).append hrep),?_,hcm⟩⟩
      rw [← hc2]
      simpa using hcsz
end
section
variable {P:Program} {n:Nat} {ty:TypeId} {sl:List (Nat×SV)} {bl bl':List BV} {v:SV} {f:Nat} {g:Gh} {ρ:Env} {own:Own} {fr:Sl}
def tAppV (P:Program) (sl:List (Nat×SV)) (t t':TypeId) (s x:Operand):Tr:=match rowOf P t,Nat.beq t t',evH sl s with
 | some (c,et,bytes),true,some (.v (.c (.vw b cv l r)))=> .need b fun
   | .row d et' xs=>(match d.same c,d.same cv,Nat.beq et' et&&Nat.ble 1 l with
    | some _,some _,true=>srcT sl d b x fun ys=> .grd (decide ((r+ys.length)*bytes≤140737488355328)) (.done ⟨vC (.ro d ((xs.drop l).take (r - l)++ys) true),[(b,.no)],[]⟩)
    | _,_,_=> .no)
   | _=> .no
 | _,_,_=> .no
theorem Yk {t t':TypeId} {s x:Operand} (h:Told f (tAppV P sl t t' s x) bl bl' v) :
  EffH P n (.call { callee:= .builtin .append,args:=#[s,x],argTypes:=#[t,t'] }) ty sl bl bl' v:=by
 unfold tAppV at h
 split at h
 ·rename_i c et bytes b cv l r hrow htt es
  have htt:=Nat.eq_of_beq_eq_true htt
  subst htt
  obtain ⟨hu,happ,_,hby⟩:=DK hrow
  obtain ⟨bv,hb,h⟩:=h
  dsimp only at h
  split at h
  ·rename_i d et' xs
   split at h
   ·rename_i hk0 hk2 _ _ he
    obtain ⟨hk0⟩:=hk0;obtain ⟨hk2⟩:=hk2;subst hk0;subst hk2
    simp only [Bool.and_eq_true] at he
    obtain ⟨he,hl1⟩:=he
    have he:=Nat.eq_of_beq_eq_true he
    have hl1:=Nat.le_of_ble_eq_true hl1
    subst he
    obtain ⟨ys,h2,hsrc⟩:=En h
    clear h
    obtain ⟨hg,rfl,rfl⟩:=h2
    have hg:=of_decide_eq_true hg
    intro o a w Q K g ρ own fr h1 h2 hr hfr hs hk
    obtain ⟨vs',hs1,hkn,rfl,hl⟩:=Ah hr es
    obtain ⟨hlr,hrx⟩:=hl _ _ hb rfl
    obtain ⟨k0,hk0,hB⟩:=hr.own_at hb
    have hB:Buf g.b d.ty et' (.slice (ρ b).1 xs.length (ρ b).2) k0 xs:=hB
    obtain ⟨hyl,A2,cap2,news,hx1,hx2,hx3⟩:=hsrc g ρ own fr hr
    have hlb:=AU hk0
    have hpl:((xs.drop l).take (r - l)).length=r - l:=Dh hrx
    obtain ⟨A',c',w',k',hrun,hs',hres⟩:=IM (P:=P) (ty':=o.type) (c2:=cap2) (AppT.of happ) hs hk0 hB (l:=l) (r:=r) (by omega) hlr hrx rfl (hx3 w hs) hx2 hg (Fa hby hg)
    have key:∃ g',g.le g'∧St w' g' ((own.set b k').set b none)∧Arr g'.b d.ty A' c' ((xs.drop l).take (r - l)++ys):=by
     have hi':(own.set b k')[b]? = some k':=by simp [List.getElem?_set,hlb]
     rcases hres with ⟨rfl,rfl,hB'⟩ | hB'
     ·have key:∃ g' , g.le g'∧St w' g' ((own.set b k').set b none)∧Arr g'.b d.ty (ρ b).1 (ρ b).2 (xs.take r++ys) :=
       Gy (K:=fun _ w'=>∃ g' , g.le g'∧St w' g' ((own.set b k').set b none)∧Arr g'.b d.ty (ρ b).1 (ρ b).2 (xs.take r++ys)) (n:=0) (sl:=[]) b hi' hB' (fun g' h1 h2 a w' _ h3=>⟨g',h1,h3,h2⟩) ⟨#[],[]⟩ w' ⟨rfl,rfl,fun _ _ h=>by cases h⟩ hs'
      obtain ⟨g',h1,h2,h3⟩:=key
      refine ⟨g',h1,h2,?_⟩
      have h4:=h3.cut_from l (by rw [List.length_append,List.length_take];omega)
      rw [List.drop_append_of_le_length (by rw [List.length_take];omega),List.drop_take] at h4
      exact h4
     ·exact Gy (K:=fun _ w'=>∃ g' , g.le g'∧St w' g' ((own.set b k').set b none)∧Arr g'.b d.ty A' c' ((xs.drop l).take (r - l)++ys)) (n:=0) (sl:=[]) b hi' hB' (fun g' h1 h2 a w' _ h3=>⟨g',h1,h3,h2⟩) ⟨#[],[]⟩ w' ⟨rfl,rfl,fun _ _ h=>by cases h⟩ hs'
    obtain ⟨g',hg1,hs2,harr⟩:=key
    rw [List.set_set] at hs2
    have hx:Ext ρ bl ρ (bl.set b .no):=Ext.set_at hb rfl fun m hm=>by cases hm
    have hr1:=hr.setB (g':=g') (bv1:= .no) (k:=none) hg1 hb rfl (fun m hm=>by cases hm) rfl
    have hrun':(execOp a.eval o).run P w = .ok (.value (.slice A' (r - l+ys.length) c')) w':=by
     have hs1':evS fr s=some (.slice (offA (ρ b).1 (ρ b).2 l d.ty.n) (r - l) ((ρ b).2 - l)):=by rw [d.ty_n];exact hs1
     simp [execOp,h1,resolve,invoke,builtin,hfr.ev hs1',hfr.ev hx1,hrun]
    unfold Oper.wp
    rw [hrun']
    refine hk _ g' ρ _ w' hg1 hx hs2 hr1 ⟨A',c',by rw [List.length_append,hpl],harr⟩
   ·exact h.elim
  ·exact h.elim
 ·exact h.elim
end
def mxNew (S:FSp):List Sch→Nat
 | []=>0
 | s::l=>Nat.max (s.bl.length - S.ps.bl.length) (mxNew S l)
def mxL:List FSp→Nat
 | []=>0
 | S::l=>Nat.max (mxNew S S.rs) (mxL l)
def stepM (P:Program) (tbl:FuncId→List FSp) (sl:List (Nat×SV)):Op→Nat
 | .alloc _=>1
 | .box _ _=>1
 | .buildSlice _ _ _=>1
 | .makeSlice _ _ _=>1
 | .call c=>match c.callee with
  | .builtin .append=>1
  | .value x=>(match evH sl x with
   | some (.v (.c fv))=>(match fnOf fv with | some (f,_)=>mxL (tbl f) | none=>0)
   | _=>0)
  | .invoke x name=>(match evH sl x with
   | some (.v (.c (.ifc t _)))=>(match mthOf P t name with | some f=>mxL (tbl f) | none=>0)
   | _=>0)
  | _=>0
 | _=>0
def isView (sl:List (Nat×SV)) (s:Operand):Bool:=match evH sl s with
 | some (.v (.c (.vw _ _ l _)))=>Nat.ble 1 l
 | _=>false
def stepC (P:Program) (tbl:FuncId→List FSp) (sl:List (Nat×SV)) (f m:Nat) (cl:Callee) (args:List Operand) (ats:List TypeId):Tr:=match cl with
 | .value x=>tCall P tbl sl f m x args
 | .invoke x name=>tInv P tbl sl f m x name args
 | .builtin b=>(match b,args,ats with
  | .append,[s,x],[t,t']=>(match P.underlying t' with | some (.int _)=>tAppZ P sl f t t' s x | _=>(match isView sl s with | true=>tAppV P sl t t' s x | false=>tApp P sl f t t' s x))
  | .len,[x],[t]=>tLen P sl t x
  | .cap,[x],[t]=>tCap P sl t x
  | .clear,[x],[t]=>tClear P sl t x
  | .copy,[x,y],[t,_]=>tCopy P sl t x y
  | b,[x,y],_=>tMM b sl x y
  | _,_,_=> .no)
def stepH (P:Program) (tbl:FuncId→List FSp) (sl:List (Nat×SV)) (f:Nat) (op:Op) (ty:TypeId):Tr:=match op with
 | .move x=>tMove sl x
 | .assign x=>tMove sl x
 | .pick c x y=>tPick sl c x y
 | .alloc t=>tAlloc P f t
 | .box t x=>tBox sl f t x
 | .build t parts=>tBuild P sl t parts.toList
 | .buildSlice t len parts=>tLit P sl f t len parts.toList
 | .load t x=>tLoad P sl t x
 | .store t x y=>tStore P sl t x y
 | .nilCheck x=>tNil sl x
 | .binOp op t x y _=>tBin P sl op t x y
 | .unOp op _ x=>tUn sl op x
 | .convert s d x=>tText P sl s d x
 | .makeFunc fn first captured=>tFn sl fn first.toList captured.toList
 | .makeInterface t x=>tIfc P sl t x
 | .makeSlice t x y=>tMake P sl f t x y
 | .slice t x lo hi none=>tSlice P sl t x lo hi
 | .fieldAddr t x i=>tFieldA P sl t x i
 | .field t x i=>tField P sl t x i
 | .indexAddr t x i=>tIndexA P sl t x i
 | .index t x i=>tIndex P sl t x i
 | .extract x i=>tExtract sl x i
 | .call c=>stepC P tbl sl f (stepM P tbl sl op) c.callee c.args.toList c.argTypes.toList
 | _=> .no
section
variable {P:Program} {n:Nat} {ty:TypeId} {sl:List (Nat×SV)} {bl bl':List BV} {v:SV} {f:Nat}
theorem Yl {tbl:FuncId→List FSp} (hT:∀ f S,S∈tbl f→FOk P f S) {c:Call} (hf:∀ i,i < stepM P tbl sl (.call c)→bl[f+i]? = some .hole) (h:Told f (stepC P tbl sl f (stepM P tbl sl (.call c)) c.callee c.args.toList c.argTypes.toList) bl bl' v):EffH P n (.call c) ty sl bl bl' v:=by
 obtain ⟨cl,args,ats⟩:=c
 cases cl with
 | value x =>
  have:=Yb (n:=n) (ty:=ty) (ats:=ats) hT hf h
  simpa using this
 | invoke x name =>
  have:=Afv (n:=n) (ty:=ty) (ats:=ats) hT hf h
  simpa using this
 | builtin b =>
  simp only [stepC] at h
  split at h
  ·rename_i s x t t' ha ht
   have ha:args = #[s,x]:=by rw [← Array.toArray_toList (xs:=args),ha]
   have ht:ats = #[t,t']:=by rw [← Array.toArray_toList (xs:=ats),ht]
   subst ha;subst ht
   split at h
   ·exact Yg (by have:=hf 0 (by simp [stepM]);simpa using this) h
   ·split at h
    ·exact Yk h
    ·exact Afl (by have:=hf 0 (by simp [stepM]);simpa using this) h
  ·rename_i x t ha ht
   have ha:args = #[x]:=by rw [← Array.toArray_toList (xs:=args),ha]
   have ht:ats = #[t]:=by rw [← Array.toArray_toList (xs:=ats),ht]
   subst ha;subst ht
   exact Afy h
  ·rename_i x t ha ht
   have ha:args = #[x]:=by rw [← Array.toArray_toList (xs:=args),ha]
   have ht:ats = #[t]:=by rw [← Array.toArray_toList (xs:=ats),ht]
   subst ha;subst ht
   exact Afx h
  ·rename_i x t ha ht
   have ha:args = #[x]:=by rw [← Array.toArray_toList (xs:=args),ha]
   have ht:ats = #[t]:=by rw [← Array.toArray_toList (xs:=ats),ht]
   subst ha;subst ht
   exact VT h
  ·rename_i x y t t' ha ht
   have ha:args = #[x,y]:=by rw [← Array.toArray_toList (xs:=args),ha]
   have ht:ats = #[t,t']:=by rw [← Array.toArray_toList (xs:=ats),ht]
   subst ha;subst ht
   exact Yj h
  ·rename_i x y ha _ _
   have ha:args = #[x,y]:=by rw [← Array.toArray_toList (xs:=args),ha]
   subst ha
   exact Aja h
  ·exact h.elim
theorem Ym {tbl:FuncId→List FSp} (hT:∀ f S,S∈tbl f→FOk P f S) {op:Op} (hf:∀ i,i < stepM P tbl sl op→bl[f+i]? = some .hole) (h:Told f (stepH P tbl sl f op ty) bl bl' v):EffH P n op ty sl bl bl' v:=by
 have h1:0 < stepM P tbl sl op→bl[f]? = some .hole:=fun h0=>by simpa using hf 0 h0
 cases op with
 | move x=>exact (NM h).1
 | assign x=>exact (NM h).2
 | pick c x y=>exact XJ h
 | alloc t=>exact Vz (h1 (by simp [stepM])) h
 | box t x=>exact Afk (h1 (by simp [stepM])) h
 | build t parts=>simpa using VP (n:=n) (ty:=ty) h
 | buildSlice t len parts=>simpa using Afw (n:=n) (ty:=ty) (h1 (by simp [stepM])) h
 | load t x=>exact XO h
 | store t x y=>exact VB h
 | nilCheck x=>exact Afn h
 | binOp op t x y u=>exact Afm h
 | unOp op t x=>exact AiU h
 | convert s d x=>exact Yc h
 | makeFunc fn first captured=>simpa using Ajb (n:=n) (ty:=ty) h
 | makeInterface t x=>exact AfA h
 | makeSlice t x y=>exact Ye (h1 (by simp [stepM])) h
 | slice t x lo hi mx=>cases mx with
  | none=>exact VR h
  | some _=>exact h.elim
 | fieldAddr t x i=>exact So h
 | field t x i=>exact VO h
 | indexAddr t x i=>exact Sr h
 | index t x i=>exact VS h
 | extract x i=>exact NQ h
 | call c=>exact Yl hT hf h
 | _=>exact h.elim
end
abbrev Tbl:=List (FuncId×FSp)
def lkT:Tbl→FuncId→List FSp
 | [],_=>[]
 | (f,S)::l,g=>cond (Nat.beq f g) (S::lkT l g) (lkT l g)
structure TOk (P:Program) (T:Tbl):Prop where
 ok:∀ f S,S∈lkT T f→FOk P f S
theorem TOk.nil {P:Program}:TOk P []:=⟨fun f S h=>by cases h⟩
theorem TOk.cons {P:Program} {T:Tbl} {f:FuncId} {S:FSp} (h:TOk P T) (k:FOk P f S):TOk P ((f,S)::T):=⟨fun g S' hm=>by
 unfold lkT at hm
 cases hb:Nat.beq f g with
 | true =>
  rw [hb] at hm
  have:=Nat.eq_of_beq_eq_true hb
  subst this
  rcases List.mem_cons.1 hm with rfl | hm
  ·exact k
  ·exact h.ok _ _ hm
 | false=>rw [hb] at hm;exact h.ok _ _ hm⟩
def stpT (P:Program) (T:Tbl) (h:TOk P T):Stp P:=⟨stepH P (lkT T),stepM P (lkT T),fun hf hT=>Ym h.ok hf hT⟩
theorem FOk.run_eq {P:Program} {f:FuncId} {ps:Sch} {rs:List Sch} {r1 r2:HT ps.tr→Option (ALT rs)} (h:FOk P f ⟨ps,rs,r1⟩) (e:∀ t,r1 t=r2 t):FOk P f ⟨ps,rs,r2⟩:=by
 have:r1=r2:=funext e
 rwa [← this]
end Go.Proofs.YtpleflcfaecojaaGreat
