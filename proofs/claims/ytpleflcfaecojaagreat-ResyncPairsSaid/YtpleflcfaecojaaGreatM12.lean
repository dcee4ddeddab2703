/-
Pieces of a snapshot, the sender, the collector. Conditions: each lemma's own.
-/
import Derived.Test.YtpleflcfaecojaaGreatM11
namespace Go.Proofs.YtpleflcfaecojaaGreat
set_option linter.unusedVariables false
set_option linter.unusedSimpArgs false
set_option maxRecDepth 100000
open Go.RowKit
abbrev PT:Type:=Int×Int×Int×List UInt8
abbrev ST:Type:=Int×Int×Bool×List UInt8
def pieces (save:List UInt8):Nat:=max ((save.length+599) / 600) 1
def pcAt (base:Int) (save:List UInt8) (i:Nat):PT:=(base,(i:Int),(pieces save:Int),(save.drop (600*i)).take (min (600*(i+1)) save.length - 600*i))
def splitL (base:Int) (save:List UInt8):List PT:=(List.range (pieces save)).map (pcAt base save)
def split (base:Int) (save:List UInt8):Int×List PT:=cond (decide (base < 1) || decide (base > 2305843009213693952)) (1,[]) (cond (decide ((save.length:Int) > 524288)) (3,[]) (0,splitL base save))
theorem Akb (base:Int) (save:List UInt8):o18 base save=some (split base save):=by
 unfold o18 split
 have e:(cnd (decide (base < (1:Int))) (some (base,save,true)) (some (base,save,(decide (base > (2305843009213693952:Int))))))=some (base,save,decide (base < 1) || decide (base > 2305843009213693952)):=by
  cases decide (base < (1:Int)) <;> rfl
 rw [e,bdI]
 refine As (F:=fun x=>x) rfl ?_
 by_cases hl:((save.length:Nat):Int) > 524288
 ·refine (cndT (dt hl)).trans ?_
  rw [dt hl];rfl
 refine (cndF (df hl)).trans ?_
 rw [df hl,cond_false]
 have hn:maxI (IntKind.i64.wrap (Int.tdiv (IntKind.i64.wrap (IntKind.i64.wrap (((save.length:Nat):Int)+600) - 1)) 600)) 1=(pieces save:Int):=by
  rw [show IntKind.i64.wrap (((save.length:Nat):Int)+600)=(save.length:Int)+600 from AM (by omega),show IntKind.i64.wrap ((save.length:Int)+600 - 1)=(save.length:Int)+599 by rw [AM (by omega)];omega,Int.tdiv_eq_ediv_of_nonneg (by omega),AM (by omega)]
  unfold maxI pieces
  split <;> omega
 dsimp only
 rw [hn]
 have hb:pieces save≤874:=by unfold pieces;omega
 have hq:600*pieces save≤save.length+600:=by unfold pieces;omega
 refine AJ (fun i=>((base,save,(pieces save:Int)),(pieces save:Int),((i:Nat):Int),(List.range i).map (pcAt base save))) (pieces save) rfl (fun i hi=>?_) ?_ (by omega)
 ·have h1:IntKind.i64.wrap ((i:Int)*600)=((600*i:Nat):Int):=by rw [AM (by omega)];omega
  have h2:IntKind.i64.wrap ((i:Int)+1)=((i+1:Nat):Int):=by rw [AM (by omega)];omega
  have h3:IntKind.i64.wrap (((i+1:Nat):Int)*600)=((600*(i+1):Nat):Int):=by rw [AM (by omega)];omega
  have h4:minI ((600*(i+1):Nat):Int) ((save.length:Nat):Int)=((min (600*(i+1)) save.length:Nat):Int):=by unfold minI;split <;> omega
  unfold SH
  refine (cndT (dt (by show (i:Int) < (pieces save:Int);omega))).trans ?_
  dsimp only
  rw [h1,h2,h3,h4,gdT (dt (by omega)),show ((min (600*(i+1)) save.length:Nat):Int).toNat=min (600*(i+1)) save.length from rfl,show ((600*i:Nat):Int).toNat=600*i from rfl,Bu (by simp;omega),bdI,gdT (dt (by simp;omega)),List.range_succ,List.map_append]
  rfl
 ·unfold SH
  refine (cndF (df (by show ¬ (pieces save:Int) < (pieces save:Int);omega))).trans ?_
  exact dnS _
def validP (p:PT):Bool:=decide (p.1≥1)&&(decide (p.1≤2305843009213693952)&&(decide (p.2.2.1≥1)&&(decide (p.2.2.1≤874)&&(decide (p.2.1≥0)&&(decide (p.2.1 < p.2.2.1)&&decide ((p.2.2.2.length:Int)≤600))))))
theorem ML (b i c:Int) (d:List UInt8):o124 ((b,i),c,d)=some (validP (b,i,c,d)):=by
 unfold o124 validP
 dsimp only
 cases decide (b≥1) <;> cases decide (b≤2305843009213693952) <;> cases decide (c≥1) <;> cases decide (c≤874) <;> cases decide (i≥0) <;> cases decide (i < c) <;> rfl
theorem Uv (b i c:Int) {d:List UInt8} (h:d.length≤100000000):o123 ((b,i),c,d)=some ((b,i,c),d):=by
 unfold o123
 exact bdS (Bu h)
def hit (ps:List PT) (base have_:Int):Bool:=decide ((ps.length:Int) > 0)&&(base==(ps.getD 0 (0,0,0,[])).1&&(decide (have_≥0)&&decide (have_ < (ps.length:Int))))
def serve (ps:List PT) (base have_ steps:Int) (save:List UInt8):List PT×PT×Int :=
 cond (hit ps base have_) (ps,ps.getD have_.toNat (0,0,0,[]),0) (cond ((split steps save).1 != 0) (ps,(0,0,0,[]),(split steps save).1) ((split steps save).2,(split steps save).2.getD 0 (0,0,0,[]),0))
def serveE (x:List PT×PT×Int):=(((x.2.1.1,x.2.1.2.1),x.2.1.2.2.1,x.2.2),x.1,x.2.1.2.2.2)
theorem Kg (base:Int) (save:List UInt8):(splitL base save).length=pieces save:=by simp [splitL]
theorem Kh (save:List UInt8):0 < pieces save:=by unfold pieces;omega
theorem Aay (base:Int) (save:List UInt8) (i:Nat):(pcAt base save i).2.2.2.length≤600:=by
 simp only [pcAt,List.length_take,List.length_drop]
 omega
theorem II {base:Int} {save:List UInt8} {p:PT} (h:p∈splitL base save):p.2.2.2.length≤600:=by
 simp only [splitL,List.mem_map] at h
 obtain ⟨i,_,rfl⟩:=h
 exact Aay base save i
theorem LR {ps:List PT} (hp:∀ p∈ps,p.2.2.2.length≤600) (i:Nat):(ps.getD i (0,0,0,[])).2.2.2.length≤600:=by
 by_cases h:i < ps.length
 ·rw [BX h];exact hp _ (List.getElem_mem h)
 ·rw [List.getD_eq_getElem?_getD,List.getElem?_eq_none (by omega)];simp
theorem Akc {ps:List PT} {base have_ steps:Int} {save:List UInt8} (hp:∀ p∈ps,p.2.2.2.length≤600):o81 (base,have_) steps save ps=some (serveE (serve ps base have_ steps save)):=by
 unfold o81 serve
 have d0:(0:Int).toNat=0:=rfl
 refine (bdS (t:=((steps,save),hit ps base have_,ps,base,have_)) ?_).trans ?_
 ·unfold hit
  dsimp only
  by_cases h:((ps.length:Nat):Int) > 0
  ·rw [cndT (dt h),dt h,gdT (dt (by omega)),d0]
   cases (base==(ps.getD 0 ((0:Int),(0:Int),(0:Int),([]:List UInt8))).1) <;> cases decide (have_≥0) <;> rfl
  ·rw [cndF (df h),df h];rfl
 by_cases hh:hit ps base have_=true
 ·refine (cndT hh).trans ?_
  rw [hh,cond_true]
  have hr:0≤have_∧have_ < (ps.length:Int):=by
   unfold hit at hh
   simp only [Bool.and_eq_true,decide_eq_true_eq] at hh
   exact ⟨hh.2.2.1,hh.2.2.2⟩
  refine (gdT (dt hr)).trans ?_
  exact bdS (Uv _ _ _ (Nat.le_trans (LR hp _) (by decide)))
 ·have hh:hit ps base have_=false:=by simpa using hh
  refine (cndF hh).trans ?_
  rw [hh,cond_false]
  refine (bdS (Akb steps save)).trans ?_
  have hs:(split steps save).1=0→(split steps save).2=splitL steps save:=by
   unfold split
   cases (decide (steps < 1) || decide (steps > 2305843009213693952)) with
   | true=>intro h;cases h
   | false =>
    cases decide ((save.length:Int) > 524288) with
    | true=>intro h;cases h
    | false=>exact fun _=>rfl
  by_cases hz:(split steps save).1=0
  ·refine (cndF (AF hz)).trans ?_
   rw [AF hz,cond_false,d0]
   have e:=hs hz
   have hpos:=Kh save
   rw [e]
   refine (gdT (dt (by rw [Kg];omega))).trans ?_
   exact bdS (Uv _ _ _ (Nat.le_trans (LR (fun p hp=>II hp) _) (by decide)))
  ·refine (cndT (Bb hz)).trans ?_
   rw [Bb hz];rfl
def encP (p:PT):Int×List UInt8:=cond (validP p) (0,putB p.1 8++putB p.2.1 2++putB p.2.2.1 2++p.2.2.2) (1,[])
theorem DD {p:PT} (h:validP p=true):(1≤p.1∧p.1≤2305843009213693952)∧(1≤p.2.2.1∧p.2.2.1≤874)∧(0≤p.2.1∧p.2.1 < p.2.2.1)∧p.2.2.2.length≤600:=by
 unfold validP at h
 simp only [Bool.and_eq_true,decide_eq_true_iff] at h
 omega
theorem SS (i c:Int):[(u8 (IntKind.u8.wrap i)),(u8 (IntKind.u8.wrap (shrK .i64 i 8))),(u8 (IntKind.u8.wrap c)),(u8 (IntKind.u8.wrap (shrK .i64 c 8)))]=putB i 2++putB c 2:=by
 have e:∀ n:Int,putB n 2=[u8 (IntKind.u8.wrap n),u8 (IntKind.u8.wrap (shrK .i64 n 8))]:=fun n=>by
  have h0:byteAt n 0=u8 (IntKind.u8.wrap n):=by
   unfold byteAt
   rw [IU n 0 (by decide),Int.pow_zero,Int.ediv_one]
  have h1:byteAt n 1=u8 (IntKind.u8.wrap (shrK .i64 n 8)):=rfl
  rw [Cm,Cm,Is,h0,h1];rfl
 rw [e,e];rfl
theorem Akd (b i c:Int) (d:List UInt8):o82 ((b,i),c,d)=some (encP (b,i,c,d)):=by
 unfold o82 encP
 refine (bdS (ML b i c d)).trans ?_
 cases hv:validP (b,i,c,d) with
 | false=>rfl
 | true =>
  obtain ⟨-,-,-,hd⟩:=DD hv
  dsimp only at hd
  refine (cndF rfl).trans ?_
  rw [cond_true]
  refine AJ (fun k=>(((k:Nat):Int),((b,i),c,d),putB b k)) 8 rfl (fun k hk=>?_) ?_ (by omega)
  ·unfold SO
   refine (cndT (dt (by show (k:Int) < 8;omega))).trans ((gdT (dt (by show (0:Int)≤IntKind.i64.wrap (8*(k:Int));rw [AM (by omega)];omega))).trans ((gdT (dt (by show ((putB b k).length+1)*1≤140737488355328;rw [Av];omega))).trans ?_))
   dsimp only
   rw [AM (by omega),AM (by omega),Cm]
   rfl
  ·unfold SO
   refine (cndF (df (by show ¬ ((8:Nat):Int) < 8;decide))).trans ?_
   dsimp only
   rw [SS,gdT (dt (by simp [Av])),gdT (dt (by simp [Av];omega)),dnS]
   simp only [List.append_assoc]
def rawP (p:List UInt8):PT:=(getI p 8,(natL (p.drop 8) 2:Int),(natL (p.drop 10) 2:Int),p.drop 12)
def decP (p:List UInt8):PT×Int:=cond (decide ((p.length:Int) < 12)) ((0,0,0,[]),4) (cond (validP (rawP p)) (rawP p,0) ((0,0,0,[]),4))
def decE (x:PT×Int):=(((x.1.1,x.1.2.1),x.1.2.2.1,x.2),x.1.2.2.2)
theorem LS (x:Int):BitVec.ofInt 64 (IntKind.i64.wrap x)=BitVec.ofInt 64 x:=by
 apply BitVec.eq_of_toNat_eq
 rw [BitVec.toNat_ofInt,BitVec.toNat_ofInt,IntKind.wrap_i64]
 congr 1
 have:((2 ^ 64:Nat):Int)=18446744073709551616:=by decide
 rw [this]
 omega
theorem Uw (x y:Int):lorK .i64 (IntKind.i64.wrap x) (IntKind.i64.wrap y)=IntKind.i64.wrap (lorK .u64 x y):=by
 unfold lorK
 have e1:BitVec.ofInt IntKind.i64.bits (IntKind.i64.wrap x)=BitVec.ofInt IntKind.u64.bits x:=LS x
 have e2:BitVec.ofInt IntKind.i64.bits (IntKind.i64.wrap y)=BitVec.ofInt IntKind.u64.bits y:=LS y
 rw [e1,e2]
 have hlt:(BitVec.ofInt IntKind.u64.bits x ||| BitVec.ofInt IntKind.u64.bits y).toNat < 2 ^ 64:=BitVec.isLt _
 have:IntKind.u64.wrap (((BitVec.ofInt IntKind.u64.bits x ||| BitVec.ofInt IntKind.u64.bits y).toNat:Nat):Int)=(((BitVec.ofInt IntKind.u64.bits x ||| BitVec.ofInt IntKind.u64.bits y).toNat:Nat):Int):=Sd (by omega)
 rw [this]
 rfl
theorem Ki (q:List UInt8):((natL q 2:Nat):Int)=((q.getD 0 0).toNat:Int)+256*((q.getD 1 0).toNat:Int):=by
 simp only [natL,Nat.reducePow]
 omega
theorem MM (a b:UInt8):IntKind.i64.wrap ((a.toNat:Int)+(shlK .i64 (b.toNat:Int) 8))=(a.toNat:Int)+256*(b.toNat:Int):=by
 have ha:=UInt8.toNat_lt a
 have hb:=UInt8.toNat_lt b
 have e:shlK .i64 (b.toNat:Int) 8=256*(b.toNat:Int):=by
  unfold shlK
  have:(b.toNat:Int)*2 ^ (min (8:Int).toNat IntKind.i64.bits)=256*(b.toNat:Int):=by
   rw [show min (8:Int).toNat IntKind.i64.bits=8 from rfl,show (2:Int) ^ 8=256 from rfl];omega
  rw [this]
  exact AM (by omega)
 rw [e]
 exact AM (by omega)
theorem Db (q:List UInt8) (a i:Nat):(q.drop a).getD i 0=q.getD (a+i) 0:=by simp [List.getD_eq_getElem?_getD,List.getElem?_drop]
theorem Agv {p:List UInt8} (hp:p.length≤1000000):o125 p=some (decE (decP p)):=by
 unfold o125 decP
 by_cases h:((p.length:Nat):Int) < 12
 ·rw [cndT (dt h),dt h];rfl
 rw [cndF (df h),df h,cond_false]
 have d:(8:Int).toNat=8∧(9:Int).toNat=9∧(10:Int).toNat=10∧(11:Int).toNat=11∧(12:Int).toNat=12:=⟨rfl,rfl,rfl,rfl,rfl⟩
 obtain ⟨d8,d9,d10,d11,d12⟩:=d
 rw [gdT (dt (by omega)),gdT (dt (by omega)),gdT (dt (by omega)),gdT (dt (by omega)),gdT (dt (by omega)),d8,d9,d10,d11,d12,Bu (by simp;omega),bdI]
 have hb:∀ i,IntKind.i64.wrap ((p.getD i 0).toNat:Int)=((p.getD i 0).toNat:Int):=fun i=>AM (by have:=(p.getD i 0).toNat_lt;omega)
 rw [hb,hb,hb,hb,MM,MM]
 have e:(getI p 8,((p.getD 8 0).toNat:Int)+256*((p.getD 9 0).toNat:Int),((p.getD 10 0).toNat:Int)+256*((p.getD 11 0).toNat:Int),List.drop 12 p)=rawP p:=by
  unfold rawP
  rw [Ki,Ki,Db,Db,Db,Db]
 generalize ((p.getD 8 0).toNat:Int)+256*((p.getD 9 0).toNat:Int)=I at e ⊢
 generalize ((p.getD 10 0).toNat:Int)+256*((p.getD 11 0).toNat:Int)=C at e ⊢
 refine AJ (fun k=>((p,((k:Nat):Int)),(IntKind.i64.wrap (getK p k),I,C),p.drop 12)) 8 rfl (fun k hk=>?_) ?_ (by omega)
 ·have hbk:=(p.getD k 0).toNat_lt
  unfold ME
  refine (cndT (dt (by show (k:Int) < 8;omega))).trans ((gdT (dt (by show (0:Int)≤k∧(k:Int) < (p.length:Int);omega))).trans ((gdT (dt (by show (0:Int)≤IntKind.i64.wrap (8*(k:Int));rw [AM (by omega)];omega))).trans ?_))
  dsimp only
  rw [Uw,show IntKind.i64.wrap ((k:Int)+1)=(k:Int)+1 from AM (by omega),show IntKind.i64.wrap (8*(k:Int))=8*(k:Int) from AM (by omega),show (k:Int).toNat=k from rfl,IntWalk.u64_in _ (by omega)]
  rfl
 ·unfold ME
  refine (cndF (df (by show ¬ ((8:Nat):Int) < 8;decide))).trans ?_
  dsimp only
  rw [Hh p 8 (by decide),show IntKind.i64.wrap ((natL p 8:Nat):Int)=getI p 8 from rfl,ML,bdI,e]
  have e1:getI p 8=(rawP p).1:=rfl
  have e2:p.drop 12=(rawP p).2.2.2:=rfl
  have e3:I=(rawP p).2.1:=by rw [← e]
  have e4:C=(rawP p).2.2.1:=by rw [← e]
  rw [e1,e2,e3,e4]
  cases validP (rawP p) <;> rfl
structure Co where
 base:Int
 count:Int
 ps:List (List UInt8)
 ss:List ST
def Co.e (c:Co):(Int×Int)×List (List UInt8)×List ST:=((c.base,c.count),c.ps,c.ss)
def noCo:Co:=⟨0,0,[],[]⟩
def Co.want (c:Co):Int×Int:=(c.base,(c.ps.length:Int))
def Se.t (x:Se):ST:=(x.steps,x.cycle,x.fresh,x.in_)
def Co.misses (c:Co) (x:Se) (came:Bool):Bool:=!came || (x.steps != IntKind.i64.wrap (c.base+(c.ss.length:Int)) || (x.fresh || decide ((c.ss.length:Int)≥(c.ps.length:Int))))
def Co.note (c:Co) (x:Se) (came:Bool):Co:=cond ((c.ps.length:Int)==0) c (cond (c.misses x came) noCo { c with ss:=c.ss++[x.t] })
theorem Ake {c:Co} {x:Se} {came:Bool} (hx:x.in_.length≤1000000) (hc:c.ss.length≤1000000):o78 x.e came (c.base,c.count) c.ps c.ss=some (c.note x came).e:=by
 unfold o78 Co.note
 refine As (c:=(c.ps.length:Int)==0) (F:=Co.e) rfl ?_
 refine (bdS (t:=((c.misses x came,c.base,c.count),c.ps,c.ss,x.e)) ?_).trans ?_
 ·unfold Co.misses
  show cnd (!came) _ (cnd (x.steps != IntKind.i64.wrap (c.base+(c.ss.length:Int))) _ (cnd x.fresh _ _))=_
  cases came <;> cases (x.steps != IntKind.i64.wrap (c.base+(c.ss.length:Int))) <;> cases hf:x.fresh <;> (simp only [Se.e,hf];rfl)
 ·refine As (F:=Co.e) rfl ?_
  refine (bdS (Bu (l:=x.in_) (by omega))).trans ((gdT (dt ?_)).trans rfl)
  show (c.ss.length+1)*48≤140737488355328
  omega
def Co.fitsP (c:Co) (p:PT):Bool:=decide ((c.ps.length:Int) > 0)&&(p.1==c.base&&(p.2.2.1==c.count&&p.2.1==(c.ps.length:Int)))
def Co.take (c:Co) (p:PT):Co:=cond (validP p) (cond (c.fitsP p) { c with ps:=c.ps++[p.2.2.2] } (cond (p.2.1==0) ⟨p.1,p.2.2.1,[p.2.2.2],[]⟩ c)) c
theorem Agw {c:Co} (b i n:Int) (d:List UInt8) (hd:d.length≤1000000) (hc:c.ps.length≤1000000):o126 ((b,i),n,d) (c.base,c.count) c.ps c.ss=some (c.take (b,i,n,d)).e:=by
 unfold o126 Co.take
 refine (bdS (ML b i n d)).trans ?_
 refine Bw (c:=validP (b,i,n,d)) (F:=Co.e) ?_ rfl
 refine (bdS (t:=((c.fitsP (b,i,n,d),c.base,c.count),c.ps,c.ss,(b,i),n,d)) ?_).trans ?_
 ·unfold Co.fitsP
  show cnd (decide ((c.ps.length:Int) > 0)) (cnd (b==c.base) (cnd (n==c.count) _ _) _) _=_
  cases decide ((c.ps.length:Int) > 0) <;> cases (b==c.base) <;> cases (n==c.count) <;> rfl
 ·refine As (F:=Co.e) ?_ ?_
  ·refine (bdS (Bu (l:=d) (by omega))).trans ((gdT (dt ?_)).trans rfl)
   show (c.ps.length+1)*24≤140737488355328
   omega
  ·refine As (F:=Co.e) ?_ rfl
   exact bdS (Bu (l:=d) (by omega))
theorem Agx {k:Nat} (h:k≤100000000):o159 (k:Int)=some []:=by
 unfold o159
 have e0:IntKind.i64.wrap ((0:Int) - 0)=0:=rfl
 rw [cndF (df (by omega)),e0,show ((k:Int) - 0)=(k:Int) by omega,AM (by omega)]
 by_cases hk:(k:Int) > 0
 ·rw [cndT (dt hk),gdT (dt (by decide)),gdT (dt (by omega)),gdT (dt (by omega))]
  rfl
 ·rw [cndF (df hk)]
theorem Cs (l:List (List UInt8)) (i:Nat) (hl:∀ x∈l,x.length≤1000):(l.take i).flatten.length≤1000*i:=by
 induction l generalizing i with
 | nil=>simp
 | cons x l ih =>
  cases i with
  | zero=>simp
  | succ i =>
   have h1:=ih i (fun y hy=>hl y (List.mem_cons_of_mem _ hy))
   have h2:=hl x (List.mem_cons_self ..)
   simp only [List.take_succ_cons,List.flatten_cons,List.length_append]
   omega
theorem CL (l:List (List UInt8)) {i:Nat} (h:i < l.length):(l.take (i+1)).flatten=(l.take i).flatten++l.getD i []:=by
 rw [List.take_add_one,List.flatten_append,List.getElem?_eq_getElem h,BX h]
 simp
theorem Agy {l:List (List UInt8)} (hl:l.length≤2000) (hx:∀ x∈l,x.length≤1000):o152 l=some l.flatten:=by
 unfold o152
 refine AJ (fun i=>((l,(((l.take i).flatten.length:Nat):Int)),l,(l.length:Int),((i:Nat):Int))) l.length rfl (fun i hi=>?_) ?_ (by omega)
 ·have h1:=Cs l i hx
  have h2:(l.getD i []).length≤1000:=by rw [BX hi];exact hx _ (List.getElem_mem hi)
  unfold MG
  refine (cndT (dt (by show (i:Int) < (l.length:Int);omega))).trans ((gdT (dt (by show (0:Int)≤i∧(i:Int) < (l.length:Int);omega))).trans ?_)
  dsimp only
  rw [show (i:Int).toNat=i from rfl,show IntKind.i64.wrap ((((l.take i).flatten.length:Nat):Int)+(((l.getD i []).length:Nat):Int))=(((l.take (i+1)).flatten.length:Nat):Int) by
   rw [AM (by omega),CL l hi,List.length_append];omega]
  rw [cndF (df (by omega)),AM (by omega)]
  rfl
 ·have h1:=Cs l l.length hx
  unfold MG
  refine (cndF (df (by show ¬ (l.length:Int) < (l.length:Int);omega))).trans ?_
  dsimp only
  rw [Agx (by omega),bdI]
  refine (congrArg dnO (AJ (r:=l.flatten) (fun i=>((l,(l.length:Int)),((i:Nat):Int),(l.take i).flatten)) l.length rfl (fun i hi=>?_) ?_ (by omega))).trans (dnS _)
  ·have h3:=Cs l i hx
   have h2:(l.getD i []).length≤1000:=by rw [BX hi];exact hx _ (List.getElem_mem hi)
   unfold MF
   refine (cndT (dt (by show (i:Int) < (l.length:Int);omega))).trans ((gdT (dt (by show (0:Int)≤i∧(i:Int) < (l.length:Int);omega))).trans ((gdT (dt ?_)).trans ?_))
   ·show ((l.take i).flatten.length+(l.getD i []).length)*1≤140737488355328
    omega
   ·dsimp only
    rw [show (i:Int).toNat=i from rfl,← CL l hi,AM (by omega)]
    rfl
  ·unfold MF
   refine (cndF (df (by show ¬ (l.length:Int) < (l.length:Int);omega))).trans ?_
   dsimp only
   rw [List.take_length]
   exact dnS _
theorem Agz {l:List ST} (h:l.length≤1000000):o151 l=some l:=by
 unfold o151
 rw [XF fun e=>?_]
 ·rw [gdT (dt (by simp;omega))];rfl
 ·have:l=[]:=by simpa using e
  subst this
  rfl
def Co.ready (c:Co):Bool:=!((c.ps.length:Int)==0 || (c.ps.length:Int) != c.count)
theorem Wc {α:Type} {l:List α} {i:Nat} {d:α} (h:i < l.length):l.set i (l.getD i d)=l:=by
 rw [BX h];exact List.set_getElem_self h
theorem AgA {c:Co} (hs:c.ss.length≤1000000) (hi:∀ x∈c.ss,x.2.2.2.length≤1000000) (hl:c.ps.length≤2000) (hx:∀ x∈c.ps,x.length≤1000) :
  o127 c.e=some (cond c.ready ((c.base,true),c.ps.flatten,c.ss) ((0,false),[],[])):=by
 unfold o127
 refine (bdS (t:=(!c.ready,c.e)) ?_).trans ?_
 ·unfold Co.ready
  show cnd ((c.ps.length:Int)==0) _ _=_
  rw [Bool.not_not]
  cases ((c.ps.length:Int)==0) <;> rfl
 refine Bw (c:=c.ready) (F:=fun x=>x) ?_ rfl
 refine (bdS (Agz hs)).trans ?_
 refine AJ (fun i=>(((c.ss.length:Int),((i:Nat):Int)),c.e,c.ss)) c.ss.length rfl (fun i hi'=>?_) ?_ (by omega)
 ·have h2:(c.ss.getD i (0,0,false,[])).2.2.2.length≤1000000:=by rw [BX hi'];exact hi _ (List.getElem_mem hi')
  unfold MH
  refine (cndT (dt (by show (i:Int) < (c.ss.length:Int);omega))).trans ((gdT (dt (by show (0:Int)≤i∧(i:Int) < (c.ss.length:Int);omega))).trans ((bdS (Bu (Nat.le_trans h2 (by decide)))).trans ((gdT (dt (by show (0:Int)≤i∧(i:Int) < (c.ss.length:Int);omega))).trans ?_)))
  dsimp only
  rw [show (i:Int).toNat=i from rfl,AM (by omega)]
  have:=Wc (l:=c.ss) (d:=((0:Int),(0:Int),false,([]:List UInt8))) hi'
  exact congrArg (fun z=>some (Ctl.go (((c.ss.length:Int),((i+1:Nat):Int)),c.e,z))) this
 ·unfold MH
  refine (cndF (df (by show ¬ (c.ss.length:Int) < (c.ss.length:Int);omega))).trans ?_
  exact (congrArg dnO (bdS (Agy hl hx))).trans (dnS _)
def Nd.adopt (n:Nd) (s:Int):Nd×Int:=cond (n.next != 0 || n.role != 1) (n,8) (cond (decide (s < 1) || decide (s > 4611686018427387904)) (n,1) ({ n with role:=3,steps:=s },0))
theorem AgB (n:Nd) (s:Int):o128 s n.e=some ((n.adopt s).2,(n.adopt s).1.e):=by
 unfold o128 Nd.adopt
 refine (bdS (t:=(s,n.next != 0 || n.role != 1,n.e)) ?_).trans ?_
 ·show cnd (n.next != 0) _ _=_
  cases (n.next != 0) <;> rfl
 refine As (F:=fun x:Nd×Int=>(x.2,x.1.e)) rfl ?_
 refine (bdS (t:=(s,decide (s < 1) || decide (s > 4611686018427387904),n.e)) ?_).trans ?_
 ·show cnd (decide (s < 1)) _ _=_
  cases decide (s < 1) <;> rfl
 exact As (F:=fun x:Nd×Int=>(x.2,x.1.e)) rfl rfl
def crcS (r:Int):Int:=cond ((landK .u32 r 1)==(1:Int)) (lxorK .u32 (shrK .u32 r 1) 3988292384) (shrK .u32 r 1)
def crcB (r:Int) (b:Int):Int:=crcS (crcS (crcS (crcS (crcS (crcS (crcS (crcS (lxorK .u32 r b))))))))
def crcR (r:Int) (p:List UInt8):Int:=p.foldl (fun r b=>crcB r ((b.toNat:Nat):Int)) r
def crcI (p:List UInt8):Int:=lxorK .u32 4294967295 (crcR (lxorK .u32 4294967295 0) p)
theorem Aaz {α:Type} (c:Bool) (x y:α):cnd c x y=cond c x y:=by cases c <;> rfl
def itS (n:Nat) (r:Int):Int:=Nat.rec r (fun _ x=>crcS x) n
theorem AgC (r b:Int):o161 r b=some (crcB r (IntKind.u32.wrap b)):=by
 unfold o161
 refine AJ (r:=crcB r (IntKind.u32.wrap b)) (fun i=>(itS i (lxorK .u32 r (IntKind.u32.wrap b)),(i:Int))) 8 rfl (fun i hi=>?_) ?_ (by omega)
 ·unfold Mz
  dsimp only
  rw [cndT (dt (by omega)),AM (x:=(i:Int)+1) (by omega),Aaz]
  show _=some (Ctl.go (crcS (itS i _),_))
  unfold crcS
  cases (landK .u32 (itS i (lxorK .u32 r (IntKind.u32.wrap b))) 1==1) <;> rfl
 ·unfold Mz
  dsimp only
  rw [cndF (df (by omega))]
  rfl
theorem AgD (c:Int) (p:List UInt8) (h:p.length≤1000000):o158 c p=some (lxorK .u32 4294967295 (crcR (lxorK .u32 4294967295 c) p)):=by
 unfold o158
 refine AJ (fun i=>((crcR (lxorK .u32 4294967295 c) (p.take i),p),(p.length:Int),(i:Int))) p.length rfl (fun i hi=>?_) ?_ (by omega)
 ·unfold MA
  dsimp only
  have hb:=UInt8.toNat_lt (p.getD i 0)
  rw [cndT (dt (by omega)),gdT (dt (by omega)),Int.toNat_natCast,bdS (AgC _ _),AM (by omega),XD (by omega)]
  rw [List.take_succ_eq_append_getElem hi]
  unfold crcR
  rw [List.foldl_append]
  simp [List.getD_eq_getElem?_getD,List.getElem?_eq_getElem hi]
 ·unfold MA
  dsimp only
  rw [cndF (df (by omega)),List.take_length]
  rfl
theorem Ux (p:List UInt8) (h:p.length≤1000000):o146 p=some (crcI p):=by
 unfold o146
 rw [bdS (AgD _ _ h)]
 rfl
def IJ (c:Int):List UInt8:=[u8 (IntKind.u8.wrap c),u8 (IntKind.u8.wrap (shrK .u32 c 8)),u8 (IntKind.u8.wrap (shrK .u32 c 16)),u8 (IntKind.u8.wrap (shrK .u32 c 24))]
def sealB (p:List UInt8):List UInt8:=p++IJ (crcI p)
theorem AgE (p:List UInt8) (h:p.length≤1000000):o108 p=some (sealB p):=by
 unfold o108
 rw [bdS (Ux _ h),bdS (Bu (by omega)),gdT (dt (by simp;omega))]
 rfl
theorem Ct {b:UInt8} {z:Int} (h:0≤z∧z≤255):((b.toNat:Nat):Int)=z↔b=u8 z:=by
 constructor
 ·intro e
  rw [← e,Pc]
 ·rintro rfl
  exact Pb h
def opn (q:List UInt8):Int×List UInt8:=if q.length < 4 then (4,[]) else if q.drop (q.length - 4)=IJ (crcI (q.take (q.length - 4))) then (0,q.take (q.length - 4)) else (12,[])
theorem Anq {q:List UInt8} {m:Nat} (h:q.length=m+4):q.drop m=[q.getD m 0,q.getD (m+1) 0,q.getD (m+2) 0,q.getD (m+3) 0]:=by
 refine List.ext_getElem (by simp [h]) fun i h1 h2=>?_
 have:i < 4:=by simpa using h2
 rw [List.getElem_drop]
 have e:∀ j (hj:j < q.length),q.getD j 0=q[j]:=fun j hj=>by rw [List.getD_eq_getElem?_getD,List.getElem?_eq_getElem hj];rfl
 rw [e m (by omega),e (m+1) (by omega),e (m+2) (by omega),e (m+3) (by omega)]
 match i,this with
 | 0,_=>rfl
 | 1,_=>rfl
 | 2,_=>rfl
 | 3,_=>rfl
theorem AgF {q:List UInt8} (hq:q.length≤1000000):o147 q=some (opn q):=by
 unfold o147 opn
 have w0:IntKind.i64.wrap (((q.length:Nat):Int) - (4:Int))=(q.length:Int) - 4:=AM (by omega)
 simp only [w0]
 by_cases h4:q.length < 4
 ·rw [cndT (dt (by omega)),if_pos h4]
 rw [cndF (df (by omega)),if_neg h4]
 obtain ⟨m,hm⟩:∃ m,q.length=m+4:=⟨q.length - 4,by omega⟩
 have e0:(q.length:Int) - 4=(m:Int):=by omega
 have em:q.length - 4=m:=by omega
 rw [e0,em]
 have w1:IntKind.i64.wrap ((m:Int)+1)=((m+1:Nat):Int):=by rw [AM (by omega)];omega
 have w2:IntKind.i64.wrap ((m:Int)+2)=((m+2:Nat):Int):=by rw [AM (by omega)];omega
 have w3:IntKind.i64.wrap ((m:Int)+3)=((m+3:Nat):Int):=by rw [AM (by omega)];omega
 rw [w1,w2,w3,gdT (dt (by omega)),Int.toNat_natCast,bdS (Ux _ (by simp;omega)),gdT (dt (by omega)),gdT (dt (by omega)),gdT (dt (by omega)),gdT (dt (by omega)),Anq hm,Int.toNat_natCast,Int.toNat_natCast,Int.toNat_natCast]
 generalize crcI (q.take m)=c
 unfold IJ
 have hf:∀ {b:Bool},b=true→bd (some (q,(m:Int),b)) (fun v2=>(cnd v2.2.2 (some ((12:Int),([]:List UInt8))) (gd (decide ((0:Int)≤v2.2.1∧v2.2.1≤((v2.1.length:Nat):Int))) (bd (α:=(List UInt8)) (o33 (List.take v2.2.1.toNat v2.1)) (fun v3=>(some ((0:Int),v3)))))))=some (12,[]):=by
  rintro b rfl;rfl
 have ht:bd (some (q,(m:Int),false)) (fun v2=>(cnd v2.2.2 (some ((12:Int),([]:List UInt8))) (gd (decide ((0:Int)≤v2.2.1∧v2.2.1≤((v2.1.length:Nat):Int))) (bd (α:=(List UInt8)) (o33 (List.take v2.2.1.toNat v2.1)) (fun v3=>(some ((0:Int),v3)))))))=some (0,q.take m):=by
  rw [bdI,cndF rfl]
  dsimp only
  rw [gdT (dt (by omega)),Int.toNat_natCast,bdS (Bu (by simp;omega))]
 by_cases h0:q.getD m 0=u8 (IntKind.u8.wrap c)
 ·rw [cndF (AF ((Ct (Cf _)).2 h0))]
  by_cases h1:q.getD (m+1) 0=u8 (IntKind.u8.wrap (shrK .u32 c 8))
  ·rw [cndF (AF ((Ct (Cf _)).2 h1))]
   by_cases h2:q.getD (m+2) 0=u8 (IntKind.u8.wrap (shrK .u32 c 16))
   ·rw [cndF (AF ((Ct (Cf _)).2 h2))]
    by_cases h3:q.getD (m+3) 0=u8 (IntKind.u8.wrap (shrK .u32 c 24))
    ·rw [AF ((Ct (Cf _)).2 h3),if_pos (by rw [h0,h1,h2,h3])]
     exact ht
    ·rw [Bb (fun e=>h3 ((Ct (Cf _)).1 e)),if_neg (fun e=>h3 (by injection e with _ e;injection e with _ e;injection e with _ e;injection e with e))]
     exact hf rfl
   ·rw [cndT (Bb (fun e=>h2 ((Ct (Cf _)).1 e))),if_neg (fun e=>h2 (by injection e with _ e;injection e with _ e;injection e with e))]
    exact hf rfl
  ·rw [cndT (Bb (fun e=>h1 ((Ct (Cf _)).1 e))),if_neg (fun e=>h1 (by injection e with _ e;injection e with e))]
   exact hf rfl
 ·rw [cndT (Bb (fun e=>h0 ((Ct (Cf _)).1 e))),if_neg (fun e=>h0 (by injection e with e))]
  exact hf rfl
def hdrB (f:Frm):List UInt8:=[u8 f.label,u8 f.from_]++putB f.cycle 8++putB (f.payload.length:Int) 2++f.payload
def encF (f:Frm):Int×List UInt8:=cond (decide ((f.payload.length:Int) > 1000)) (3,[]) (0,sealB (hdrB f))
theorem Wd (n:Int):[u8 (IntKind.u8.wrap n),u8 (IntKind.u8.wrap (shrK .i64 n 8))]=putB n 2:=by
 have h0:byteAt n 0=u8 (IntKind.u8.wrap n):=by
  unfold byteAt
  rw [IU n 0 (by decide),Int.pow_zero,Int.ediv_one]
 have h1:byteAt n 1=u8 (IntKind.u8.wrap (shrK .i64 n 8)):=rfl
 rw [Cm,Cm,Is,h0,h1];rfl
theorem Akf (f:Frm):o69 f.e=some (encF f):=by
 unfold o69 encF
 refine (?_:cnd (decide ((f.payload.length:Int) > 1000)) _ _=_)
 by_cases h:((f.payload.length:Nat):Int) > 1000
 ·rw [cndT (dt h),dt h];rfl
 rw [cndF (df h),df h,cond_false]
 refine AJ (fun k=>(((k:Nat):Int),f.e,[u8 f.label,u8 f.from_]++putB f.cycle k)) 8 rfl (fun k hk=>?_) ?_ (by omega)
 ·unfold SK
  refine (cndT (dt (by show (k:Int) < 8;omega))).trans ((gdT (dt (by show (0:Int)≤IntKind.i64.wrap (8*(k:Int));rw [AM (by omega)];omega))).trans ((gdT (dt (by show (([u8 f.label,u8 f.from_]++putB f.cycle k).length+1)*1≤140737488355328;rw [List.length_append,Av];simp;omega))).trans ?_))
  dsimp only
  rw [AM (by omega),AM (by omega),Cm,← List.append_assoc]
  rfl
 ·unfold SK
  refine (cndF (df (by show ¬ ((8:Nat):Int) < 8;decide))).trans ?_
  show dnO (gd _ (gd _ (bd (o108 (([u8 f.label,u8 f.from_]++putB f.cycle 8++[u8 (IntKind.u8.wrap ((f.payload.length:Nat):Int)),u8 (IntKind.u8.wrap (shrK .i64 ((f.payload.length:Nat):Int) 8))])++f.payload)) _)))=_
  rw [gdT (dt (by simp [Av])),gdT (dt (by show (_+f.payload.length)*1≤140737488355328;simp [Av];omega)),Wd,AgE _ (by simp [Av];omega),bdI,dnS]
  rfl
def decF (q:List UInt8):Frm×Int :=
 cond ((opn q).1 != 0) (noFrm,(opn q).1) (cond (decide (((opn q).2.length:Int) < 12)) (noFrm,4)
  (cond (decide ((natL ((opn q).2.drop 10) 2:Int) > 1000) || (((opn q).2.length:Int) != 12+(natL ((opn q).2.drop 10) 2:Int))) (noFrm,4)
   (⟨(((opn q).2.getD 0 0).toNat:Int),(((opn q).2.getD 1 0).toNat:Int),getI ((opn q).2.drop 2) 8,(opn q).2.drop 12⟩,0)))
def frmE (x:Frm×Int):=((x.1.label,x.1.from_),x.1.cycle,x.1.payload,x.2)
theorem MN (q:List UInt8):(opn q).2.length≤q.length:=by
 unfold opn
 split
 ·simp
 ·split
  ·simp
  ·simp
theorem AgG {q:List UInt8} (hq:q.length≤1000000):o110 q=some (frmE (decF q)):=by
 unfold o110 decF
 refine (bdS (AgF hq)).trans ?_
 have hl:=MN q
 generalize opn q=O at hl ⊢
 obtain ⟨e,p⟩:=O
 dsimp only at hl ⊢
 refine As (F:=frmE) rfl ?_
 by_cases h:((p.length:Nat):Int) < 12
 ·rw [cndT (dt h),dt h];rfl
 rw [cndF (df h),df h,cond_false]
 have d:(10:Int).toNat=10∧(11:Int).toNat=11∧(12:Int).toNat=12∧(0:Int).toNat=0∧(1:Int).toNat=1:=⟨rfl,rfl,rfl,rfl,rfl⟩
 obtain ⟨d10,d11,d12,d0,d1⟩:=d
 have hb:∀ i,IntKind.i64.wrap ((p.getD i 0).toNat:Int)=((p.getD i 0).toNat:Int):=fun i=>AM (by have:=(p.getD i 0).toNat_lt;omega)
 have hn:((p.getD 10 0).toNat:Int)+256*((p.getD 11 0).toNat:Int)=(natL (p.drop 10) 2:Int):=by rw [Ki,Db,Db]
 rw [gdT (dt (by omega)),gdT (dt (by omega)),d10,d11,hb,hb,MM,hn]
 have hlt:=Dd (p.drop 10) 2
 have hw:IntKind.i64.wrap (12+((natL (p.drop 10) 2:Nat):Int))=12+((natL (p.drop 10) 2:Nat):Int):=AM (by omega)
 rw [hw]
 have ej:(cnd (decide ((natL (p.drop 10) 2:Int) > 1000)) (some (true,p,((0:Int),(0:Int)),(0:Int),([]:List UInt8))) (some ((((p.length:Nat):Int) != 12+(natL (p.drop 10) 2:Int)),p,((0:Int),(0:Int)),(0:Int),([]:List UInt8))))
   = some (decide ((natL (p.drop 10) 2:Int) > 1000) || (((p.length:Nat):Int) != 12+(natL (p.drop 10) 2:Int)),p,((0:Int),(0:Int)),(0:Int),([]:List UInt8)):=by
  cases decide ((natL (p.drop 10) 2:Int) > 1000) <;> rfl
 rw [ej,bdI]
 refine As (F:=frmE) rfl ?_
 dsimp only
 rw [gdT (dt (by omega)),gdT (dt (by omega)),gdT (dt (by omega)),d0,d1,d12]
 have ht:List.take (p.length - 12) (List.drop 12 p)=p.drop 12:=List.take_of_length_le (by simp)
 rw [ht]
 refine AJ (fun k=>((p,((k:Nat):Int)),(((0:Int),(0:Int)),(0:Int),([]:List UInt8)),(((p.getD 0 0).toNat:Int),((p.getD 1 0).toNat:Int)),IntKind.i64.wrap (getK (p.drop 2) k),p.drop 12)) 8 rfl (fun k hk=>?_) ?_ (by omega)
 ·have hbk:=((p.drop 2).getD k 0).toNat_lt
  have h2:IntKind.i64.wrap (2+(k:Int))=((2+k:Nat):Int):=by rw [AM (by omega)];omega
  unfold MC
  refine (cndT (dt (by show (k:Int) < 8;omega))).trans ((gdT (dt (by show (0:Int)≤IntKind.i64.wrap (2+(k:Int))∧IntKind.i64.wrap (2+(k:Int)) < (p.length:Int);rw [h2];omega))).trans ((gdT (dt (by show (0:Int)≤IntKind.i64.wrap (8*(k:Int));rw [AM (by omega)];omega))).trans ?_))
  dsimp only
  rw [h2,show ((2+k:Nat):Int).toNat=2+k from rfl,← Db,show IntKind.i64.wrap ((k:Int)+1)=(k:Int)+1 from AM (by omega),show IntKind.i64.wrap (8*(k:Int))=8*(k:Int) from AM (by omega),IntWalk.u64_in _ (by omega),Uw]
  rfl
 ·unfold MC
  refine (cndF (df (by show ¬ ((8:Nat):Int) < 8;decide))).trans ?_
  dsimp only
  rw [Hh (p.drop 2) 8 (by decide),dnS]
  rfl
structure Ft where
 lost:Bool
 bit:Int
 pat:Int
def Ft.e (f:Ft):Bool×Int×Int:=(f.lost,f.bit,f.pat)
def Uy (d:List UInt8) (i:Int):List UInt8:=d.set (IntKind.i64.wrap (Int.tdiv i 8)).toNat (u8 (lxorK .u8 (((d.getD (IntKind.i64.wrap (Int.tdiv i 8)).toNat 0).toNat:Nat):Int) (shlK .u8 1 (Int.tmod i 8))))
def flips (f:Ft) (n:Int) (k:Nat):Bool:=((landK .u32 (shrK .u32 f.pat (k:Int)) 1)==1)&&(decide (IntKind.i64.wrap (f.bit+(k:Int))≥0)&&decide (IntKind.i64.wrap (f.bit+(k:Int)) < IntKind.i64.wrap (8*n)))
def flipL (f:Ft) (b:List UInt8):Nat→List UInt8
 | 0=>b
 | k+1=>cond (flips f (b.length:Int) k) (Uy (flipL f b k) (IntKind.i64.wrap (f.bit+(k:Int)))) (flipL f b k)
theorem EF (f:Ft) (b:List UInt8):∀ k,(flipL f b k).length=b.length
 | 0=>rfl
 | k+1=>by
  unfold flipL
  cases flips f (b.length:Int) k with
  | false=>exact EF f b k
  | true=>simp only [cond_true,Uy,List.length_set];exact EF f b k
def carry (b:List UInt8) (f:Ft):Bool×List UInt8:=cond f.lost (false,[]) (cond (decide (f.bit < -31) || decide (f.bit≥IntKind.i64.wrap (8*(b.length:Int)))) (true,b) (true,flipL f b 32))
theorem It (b:List UInt8) (f:Ft):(carry b f).2.length≤b.length:=by
 unfold carry
 cases f.lost with
 | true=>simp
 | false =>
  cases (decide (f.bit < -31) || decide (f.bit≥IntKind.i64.wrap (8*(b.length:Int)))) with
  | true=>simp
  | false=>simp [EF]
theorem AgH {b:List UInt8} {f:Ft} (hb:b.length≤1000000):o109 b f.e=some (carry b f):=by
 unfold o109 carry
 refine As (c:=f.lost) (F:=fun x=>x) rfl ?_
 refine (bdS (Bu (by omega))).trans ?_
 refine (bdS (t:=((b,decide (f.bit < -31) || decide (f.bit≥IntKind.i64.wrap (8*(b.length:Int)))),f.e,b)) ?_).trans ?_
 ·show cnd (decide (f.bit < -31)) _ _=_
  cases decide (f.bit < -31) <;> rfl
 refine As (F:=fun x=>x) rfl ?_
 refine AJ (fun k=>((b,((k:Nat):Int)),f.e,flipL f b k)) 32 rfl (fun k hk=>?_) ?_ (by omega)
 ·unfold MB
  refine (cndT (dt (by show (k:Int) < 32;omega))).trans ?_
  refine (bdS (t:=((b,IntKind.i64.wrap (f.bit+(k:Int)),(k:Int)),flips f (b.length:Int) k,f.e,flipL f b k)) ?_).trans ?_
  ·refine (gdT (dt (by show (0:Int)≤k;omega))).trans ?_
   unfold flips
   show cnd ((landK .u32 (shrK .u32 f.pat (k:Int)) 1)==1) (cnd (decide (IntKind.i64.wrap (f.bit+(k:Int))≥0)) _ _) _=_
   cases ((landK .u32 (shrK .u32 f.pat (k:Int)) 1)==1) <;> cases decide (IntKind.i64.wrap (f.bit+(k:Int))≥0) <;> rfl
  have hw:IntKind.i64.wrap ((k:Int)+1)=((k+1:Nat):Int):=by rw [AM (by omega)];omega
  by_cases hf:flips f (b.length:Int) k=true
  ·refine (cndT hf).trans ?_
   have hr:0≤IntKind.i64.wrap (f.bit+(k:Int))∧IntKind.i64.wrap (f.bit+(k:Int)) < 8*(b.length:Int):=by
    unfold flips at hf
    simp only [Bool.and_eq_true,decide_eq_true_eq] at hf
    rw [AM (x:=8*(b.length:Int)) (by omega)] at hf
    exact ⟨hf.2.1,hf.2.2⟩
   have hd:IntKind.i64.wrap (Int.tdiv (IntKind.i64.wrap (f.bit+(k:Int))) 8)=IntKind.i64.wrap (f.bit+(k:Int)) / 8:=by
    rw [Int.tdiv_eq_ediv_of_nonneg hr.1,AM (by omega)]
   have hm:0≤Int.tmod (IntKind.i64.wrap (f.bit+(k:Int))) 8:=by rw [Int.tmod_eq_emod_of_nonneg hr.1];omega
   have hi:(0:Int)≤IntKind.i64.wrap (Int.tdiv (IntKind.i64.wrap (f.bit+(k:Int))) 8)∧IntKind.i64.wrap (Int.tdiv (IntKind.i64.wrap (f.bit+(k:Int))) 8) < (((flipL f b k).length:Nat):Int):=by
    rw [hd,EF];omega
   refine (gdT (dt hi)).trans ((gdT (dt hm)).trans ((gdT (dt hi)).trans ?_))
   dsimp only
   rw [hw]
   show some (Ctl.go (_,_,Uy (flipL f b k) (IntKind.i64.wrap (f.bit+(k:Int)))))=some (Ctl.go (_,_,cond (flips f (b.length:Int) k) _ _))
   rw [hf]
   rfl
  ·have hf:flips f (b.length:Int) k=false:=by simpa using hf
   refine (cndF hf).trans ?_
   dsimp only
   rw [hw]
   show some (Ctl.go (_,_,flipL f b k))=some (Ctl.go (_,_,cond (flips f (b.length:Int) k) _ _))
   rw [hf]
   rfl
 ·unfold MB
  refine (cndF (df (by show ¬ ((32:Nat):Int) < 32;decide))).trans ?_
  exact dnS _
def arrived (q:List UInt8) (label from_ cycle:Int):Frm×Bool :=
 cond ((decF q).2 != 0 || ((decF q).1.label != label || ((decF q).1.from_ != from_ || (decF q).1.cycle != cycle))) (noFrm,false) ((decF q).1,true)
def receive (b:List UInt8) (f:Ft) (label from_ cycle:Int):Frm×Bool:=cond (carry b f).1 (arrived (carry b f).2 label from_ cycle) (noFrm,false)
def rcvE (x:Frm×Bool):=((x.1.label,x.1.from_),x.1.cycle,x.1.payload,x.2)
theorem Akg {b:List UInt8} {f:Ft} {label from_ cycle:Int} (hb:b.length≤1000000):o70 b f.e label from_ cycle=some (rcvE (receive b f label from_ cycle)):=by
 unfold o70 receive
 refine (bdS (AgH hb)).trans ?_
 refine Bw (F:=rcvE) ?_ rfl
 refine (bdS (AgG (Nat.le_trans (It b f) hb))).trans ?_
 unfold arrived
 generalize decF (carry b f).2=D
 obtain ⟨x,e⟩:=D
 refine (bdS (t:=(e != 0 || (x.label != label || (x.from_ != from_ || x.cycle != cycle)),(((0:Int),(0:Int)),(0:Int),([]:List UInt8)),(x.label,x.from_),x.cycle,x.payload)) ?_).trans ?_
 ·show cnd (e != 0) _ (cnd (x.label != label) _ (cnd (x.from_ != from_) _ _))=_
  cases (e != 0) <;> cases (x.label != label) <;> cases (x.from_ != from_) <;> rfl
 ·exact As (F:=rcvE) rfl rfl
structure Mc where
 sum:Int
 count:Int
 pad:Int
def Mc.e (m:Mc):Int×Int×Int:=(m.sum,m.count,m.pad)
theorem AaA (n:Int):o85 n 8=some (putB n 8):=by
 unfold o85
 refine AJ (fun k=>((n,(8:Int)),((k:Nat):Int),putB n k)) 8 rfl (fun k hk=>?_) ?_ (by omega)
 ·unfold JE
  refine (cndT (dt (by show (k:Int) < 8;omega))).trans ((gdT (dt (by show (0:Int)≤IntKind.i64.wrap (8*(k:Int));rw [AM (by omega)];omega))).trans ((gdT (dt (by show ((putB n k).length+1)*1≤140737488355328;rw [Av];omega))).trans ?_))
  dsimp only
  rw [show IntKind.i64.wrap ((k:Int)+1)=(k:Int)+1 from AM (by omega),show IntKind.i64.wrap (8*(k:Int))=8*(k:Int) from AM (by omega),Pd n k (by omega),Cm]
  rfl
 ·unfold JE
  refine (cndF (df (by show ¬ ((8:Nat):Int) < 8;decide))).trans ?_
  exact dnS _
def padB (s:Int) (i:Nat):UInt8:=u8 (IntKind.u8.wrap (IntKind.u8.wrap (shrK .u64 s (IntKind.i64.wrap (Int.tmod (i:Int) 8*8)))+IntKind.u8.wrap (i:Int)))
def saveB (m:Mc):List UInt8:=putB (IntKind.i64.wrap m.sum) 8++putB m.count 8++(List.range m.pad.toNat).map (padB m.sum)
theorem EG (m:Mc):(saveB m).length=16+m.pad.toNat:=by simp [saveB,Av];omega
theorem AaB {m:Mc} (h0:0≤m.pad) (h1:m.pad≤1000000):o48 m.e=some (saveB m):=by
 unfold o48
 refine (bdS (AaA (IntKind.i64.wrap m.sum))).trans ((bdS (AaA m.count)).trans ((gdT (dt (by rw [Av,Av];decide))).trans ?_))
 refine AJ (fun i=>(((i:Nat):Int),m.e,putB (IntKind.i64.wrap m.sum) 8++putB m.count 8++(List.range i).map (padB m.sum))) m.pad.toNat (by simp) (fun i hi=>?_) ?_ (by omega)
 ·unfold SI
  refine (cndT (dt (by show (i:Int) < m.pad;omega))).trans ((gdT (dt ?_)).trans ((gdT (dt ?_)).trans ?_))
  ·show (0:Int)≤IntKind.i64.wrap (Int.tmod (i:Int) 8*8)
   rw [Int.tmod_eq_emod_of_nonneg (by omega),AM (by omega)]
   omega
  ·show ((putB (IntKind.i64.wrap m.sum) 8++putB m.count 8++(List.range i).map (padB m.sum)).length+1)*1≤140737488355328
   simp [Av];omega
  ·dsimp only
   rw [show IntKind.i64.wrap ((i:Int)+1)=(i:Int)+1 from AM (by omega),List.range_succ,List.map_append,← List.append_assoc]
   rfl
 ·unfold SI
  refine (cndF (df (by show ¬ (((m.pad.toNat:Nat):Int) < m.pad);omega))).trans ?_
  exact dnS _
theorem De {m:Mc} (h0:0≤m.pad) (h1:m.pad≤1000000):o180 m.e=some (saveB m):=by
 unfold o180
 exact bdS (AaB h0 h1)
def mix (s:Int) (b:Int):Int:=IntKind.u64.wrap (IntKind.u64.wrap (s*31)+IntKind.u64.wrap b)
def sumF (s:Int) (l:List UInt8):Int:=l.foldl (fun s b=>mix s ((b.toNat:Nat):Int)) s
def Mc.stepM (m:Mc) (cy:Int) (l:List UInt8):Mc:=⟨sumF (mix m.sum cy) l,IntKind.i64.wrap (m.count+1),m.pad⟩
def Mc.tg (m:Mc):Tg:=⟨IntKind.u8.wrap (Int.tmod m.sum 7),IntKind.u8.wrap (Int.tmod m.sum 9),IntKind.u8.wrap (Int.tmod m.count 9),IntKind.i64.wrap (IntKind.i64.wrap (Int.tmod m.sum 6001) - 3000),IntKind.i64.wrap (Int.tmod (shrK .u64 m.sum 13) 1000),IntKind.i64.wrap (IntKind.i64.wrap (Int.tmod (shrK .u64 m.sum 23) 6000000) - 1000),IntKind.i64.wrap (IntKind.i64.wrap (Int.tmod (shrK .u64 m.sum 33) 12000) - 6000)⟩
theorem GE (m:Mc) (cy:Int) {l:List UInt8} (hl:l.length≤100000000):o56 m.e cy l=some ((((m.stepM cy l).sum,(m.stepM cy l).count),(m.stepM cy l).pad,(m.stepM cy l).tg.lat,(m.stepM cy l).tg.ver),((m.stepM cy l).tg.ph,(m.stepM cy l).tg.bank),(m.stepM cy l).tg.speed,(m.stepM cy l).tg.alt,(m.stepM cy l).tg.vs):=by
 unfold o56
 refine AJ (fun i=>((l,(l.length:Int)),((i:Nat):Int),sumF (mix m.sum cy) (l.take i),m.count,m.pad)) l.length rfl (fun i hi=>?_) ?_ (by omega)
 ·unfold SN
  refine (cndT (dt (by show (i:Int) < (l.length:Int);omega))).trans ((gdT (dt (by show (0:Int)≤i∧(i:Int) < (l.length:Int);omega))).trans ?_)
  dsimp only
  rw [show IntKind.i64.wrap ((i:Int)+1)=((i+1:Nat):Int) by rw [AM (by omega)];omega,List.take_succ_eq_append_getElem hi]
  unfold sumF
  rw [List.foldl_append,show (i:Int).toNat=i from rfl,BX hi]
  rfl
 ·unfold SN
  refine (cndF (df (by show ¬ (l.length:Int) < (l.length:Int);omega))).trans ?_
  dsimp only
  rw [List.take_length]
  exact dnS _
theorem Ef (m:Mc) (cy:Int) {l:List UInt8} (hl:l.length≤100000000):o181 cy l m.e=some ((m.stepM cy l).tg.e,(m.stepM cy l).e):=by
 unfold o181
 exact bdS (GE m cy hl)
theorem IV {p:List UInt8} (h:p.length≤8):o137 p=some (getI p p.length):=by
 unfold o137
 refine AJ (fun i=>((getK p i,p),(p.length:Int),((i:Nat):Int))) p.length rfl (fun i hi=>?_) ?_ (by omega)
 ·refine (cndT (dt ?_)).trans ((gdT (dt ?_)).trans ((gdT (dt ?_)).trans ?_))
  ·show (i:Int) < (p.length:Int);omega
  ·show (0:Int)≤(i:Int)∧(i:Int) < (p.length:Int);omega
  ·show (0:Int)≤IntKind.i64.wrap (8*(i:Int));rw [AM (by omega)];omega
  ·show some (Ctl.go ((lorK .u64 (getK p i) (shlK .u64 (IntKind.u64.wrap ((p.getD (i:Int).toNat 0).toNat:Int)) (IntKind.i64.wrap (8*(i:Int)))),p),(p.length:Int),IntKind.i64.wrap ((i:Int)+1)))=_
   have hb:=(p.getD (i:Int).toNat 0).toNat_lt
   rw [AM (by omega),AM (by omega),IntWalk.u64_in _ (by omega)]
   rfl
 ·refine (cndF (df (by show ¬ (p.length:Int) < (p.length:Int);omega))).trans ?_
  refine (dnS _).trans ?_
  show some (Ctl.done (IntKind.i64.wrap (getK p p.length)))=_
  rw [Hh p _ h]
  rfl
def Mc.read (m:Mc) (p:List UInt8):Mc:=⟨IntKind.u64.wrap (getI p 8),getI (p.drop 8) 8,m.pad⟩
def Mc.load (m:Mc) (p:List UInt8):Mc×Int:=cond ((p.length:Int) != 16+m.pad) (m,4) (cond (saveB (m.read p)==p) (m.read p,0) (m,4))
theorem LU (a b c:Int) (h0:0≤c) (h1:c≤1000000):o48 (a,b,c)=some (saveB ⟨a,b,c⟩):=AaB (m:=⟨a,b,c⟩) h0 h1
theorem MO {m:Mc} {p:List UInt8} (h0:0≤m.pad) (h1:m.pad≤1000000):o103 m.e p=some (((m.load p).1.sum,(m.load p).1.count),(m.load p).1.pad,(m.load p).2):=by
 unfold o103 Mc.load
 have hw:IntKind.i64.wrap (16+m.pad)=16+m.pad:=AM (by omega)
 show cnd ((p.length:Int) != IntKind.i64.wrap (16+m.pad)) _ _=_
 rw [hw]
 by_cases hp:(p.length:Int)=16+m.pad
 ·rw [cndF (AF hp),AF hp,cond_false]
  have d8:(8:Int).toNat=8:=rfl
  have d16:(16:Int).toNat - 8=8:=rfl
  have g1:o137 (p.take 8)=some (getI p 8):=by
   have hl:(p.take 8).length=8:=by simp;omega
   rw [IV (by omega),hl,Gg]
  have g2:o137 ((p.drop 8).take 8)=some (getI (p.drop 8) 8):=by
   have hl:((p.drop 8).take 8).length=8:=by simp;omega
   rw [IV (by omega),hl,Gg]
  rw [d8,d16,gdT (dt (by omega)),g1,bdI,gdT (dt (by omega)),g2,bdI]
  rw [show o48 (IntKind.u64.wrap (getI p 8),getI (p.drop 8) 8,m.e.2.2)=some (saveB (m.read p)) from LU _ _ _ h0 h1,bdI]
  exact Bw (c:=saveB (m.read p)==p) (F:=fun x:Mc×Int=>((x.1.sum,x.1.count),x.1.pad,x.2)) rfl rfl
 ·rw [cndT (Bb hp),Bb hp];rfl
theorem Eg {m:Mc} {p:List UInt8} (h0:0≤m.pad) (h1:m.pad≤1000000):o179 p m.e=some ((m.load p).2,(m.load p).1.e):=by
 unfold o179
 exact bdS (MO h0 h1)
theorem PE {k:Int} {b:Bool} {x y:Mc×Int} (hx:x.1.pad=k) (hy:y.1.pad=k):(cond b x y).1.pad=k:=by cases b <;> assumption
theorem AaC (a b c:Int):(Mc.mk a b c).pad=c:=rfl
theorem PF (m:Mc) (p:List UInt8):(m.read p).pad=m.pad:=AaC _ _ _
theorem Iu (m:Mc) (cy:Int) (l:List UInt8):(m.stepM cy l).pad=m.pad:=AaC _ _ _
theorem PG (m:Mc) (p:List UInt8):(m.load p).1.pad=m.pad:=by
 unfold Mc.load
 exact PE rfl (PE (PF m p) rfl)
def toward (last want rate:Int):Int :=
 cond (decide (want≥last)) (cond (decide (IntKind.u64.wrap (IntKind.u64.wrap want - IntKind.u64.wrap last)≤IntKind.u64.wrap (maxI rate 0))) want (IntKind.i64.wrap (last+maxI rate 0)))
  (cond (decide (IntKind.u64.wrap (IntKind.u64.wrap last - IntKind.u64.wrap want)≤IntKind.u64.wrap (maxI rate 0))) want (IntKind.i64.wrap (last - maxI rate 0)))
theorem MP (last want rate:Int):o63 last want rate=some (toward last want rate):=by
 unfold o63 toward
 exact As (F:=fun x=>x) (As (F:=fun x=>x) rfl rfl) (As (F:=fun x=>x) rfl rfl)
def limit (last want:Tg) (r1 r2 r3 r4:Int):Tg:=⟨want.lat,want.ver,want.ph,toward last.bank want.bank r1,toward last.speed want.speed r2,toward last.alt want.alt r3,toward last.vs want.vs r4⟩
theorem AaD (last want:Tg) (r1 r2 r3 r4:Int):o19 last.e want.e ((r1,r2),r3,r4)=some (limit last want r1 r2 r3 r4).e:=by
 unfold o19
 exact (bdS (MP _ _ _)).trans ((bdS (MP _ _ _)).trans ((bdS (MP _ _ _)).trans (bdS (MP _ _ _))))
def select (a b:Int):Int:=cond ((((u8 a).toNat:Nat):Int)==4 || (((u8 a).toNat:Nat):Int)==3) 1 (cond ((((u8 b).toNat:Nat):Int)==4 || (((u8 b).toNat:Nat):Int)==3) 2 0)
theorem FF (a b:Int):o20 a b=some (select a b):=by
 unfold o20 select
 have hf:fuelN=(((fuelN - 3)+1)+1)+1:=by simp [fuelN]
 rw [hf]
 cases ha:((((u8 a).toNat:Nat):Int)==4 || (((u8 a).toNat:Nat):Int)==3) with
 | true =>
  refine BE ?_
  unfold GD
  show bd (cnd ((((u8 a).toNat:Nat):Int)==4) (some (_,_,true,_)) (some (_,_,(((u8 a).toNat:Nat):Int)==3,_))) _=_
  revert ha
  cases ((((u8 a).toNat:Nat):Int)==4) <;> cases ((((u8 a).toNat:Nat):Int)==3) <;> intro ha <;> first | (cases ha;done) | rfl
 | false =>
  have s1:GD ((2:Int),(0:Int),[u8 a,u8 b])=some (.go ((2:Int),(1:Int),[u8 a,u8 b])):=by
   unfold GD
   show bd (cnd ((((u8 a).toNat:Nat):Int)==4) (some (_,_,true,_)) (some (_,_,(((u8 a).toNat:Nat):Int)==3,_))) _=_
   revert ha
   cases ((((u8 a).toNat:Nat):Int)==4) <;> cases ((((u8 a).toNat:Nat):Int)==3) <;> intro ha <;> first | (cases ha;done) | rfl
  refine (BO s1).trans ?_
  cases hb:((((u8 b).toNat:Nat):Int)==4 || (((u8 b).toNat:Nat):Int)==3) with
  | true =>
   refine BE ?_
   unfold GD
   show bd (cnd ((((u8 b).toNat:Nat):Int)==4) (some (_,_,true,_)) (some (_,_,(((u8 b).toNat:Nat):Int)==3,_))) _=_
   revert hb
   cases ((((u8 b).toNat:Nat):Int)==4) <;> cases ((((u8 b).toNat:Nat):Int)==3) <;> intro hb <;> first | (cases hb;done) | rfl
  | false =>
   have s2:GD ((2:Int),(1:Int),[u8 a,u8 b])=some (.go ((2:Int),(2:Int),[u8 a,u8 b])):=by
    unfold GD
    show bd (cnd ((((u8 b).toNat:Nat):Int)==4) (some (_,_,true,_)) (some (_,_,(((u8 b).toNat:Nat):Int)==3,_))) _=_
    revert hb
    cases ((((u8 b).toNat:Nat):Int)==4) <;> cases ((((u8 b).toNat:Nat):Int)==3) <;> intro hb <;> first | (cases hb;done) | rfl
   refine (BO s2).trans (BE ?_)
   rfl
end Go.Proofs.YtpleflcfaecojaaGreat
