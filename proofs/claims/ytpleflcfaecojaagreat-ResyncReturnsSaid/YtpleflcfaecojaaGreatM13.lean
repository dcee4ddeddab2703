/-
The bus: seals, frames as bytes, what arrives of them. Conditions: each lemma's own.
-/
import Derived.Test.YtpleflcfaecojaaGreatM12
namespace Go.Proofs.YtpleflcfaecojaaGreat
set_option linter.unusedVariables false
set_option linter.unusedSimpArgs false
set_option maxRecDepth 100000
open Go.RowKit
def crcS (r:Int):Int:=cond ((landK .u32 r 1)==(1:Int)) (lxorK .u32 (shrK .u32 r 1) 3988292384) (shrK .u32 r 1)
def crcB (r:Int) (b:Int):Int:=crcS (crcS (crcS (crcS (crcS (crcS (crcS (crcS (lxorK .u32 r b))))))))
def crcR (r:Int) (p:List UInt8):Int:=p.foldl (fun r b=>crcB r ((b.toNat:Nat):Int)) r
def crcI (p:List UInt8):Int:=lxorK .u32 4294967295 (crcR (lxorK .u32 4294967295 0) p)
theorem cnd_cond {α:Type} (c:Bool) (x y:α):cnd c x y=cond c x y:=by cases c <;> rfl
def itS (n:Nat) (r:Int):Int:=Nat.rec r (fun _ x=>crcS x) n
theorem o161_eq (r b:Int):o161 r b=some (crcB r (IntKind.u32.wrap b)):=by
 unfold o161
 refine loop_from (r:=crcB r (IntKind.u32.wrap b)) (fun i=>(itS i (lxorK .u32 r (IntKind.u32.wrap b)),(i:Int))) 8 rfl (fun i hi=>?_) ?_ (by omega)
 ·unfold o161_b0
  dsimp only
  rw [cndT (dt (by omega)),wr64 (x:=(i:Int)+1) (by omega),cnd_cond]
  show _=some (Ctl.go (crcS (itS i _),_))
  unfold crcS
  cases (landK .u32 (itS i (lxorK .u32 r (IntKind.u32.wrap b))) 1==1) <;> rfl
 ·unfold o161_b0
  dsimp only
  rw [cndF (df (by omega))]
  rfl
theorem o158_eq (c:Int) (p:List UInt8) (h:p.length≤1000000):o158 c p=some (lxorK .u32 4294967295 (crcR (lxorK .u32 4294967295 c) p)):=by
 unfold o158
 refine loop_from (fun i=>((crcR (lxorK .u32 4294967295 c) (p.take i),p),(p.length:Int),(i:Int))) p.length rfl (fun i hi=>?_) ?_ (by omega)
 ·unfold o158_b0
  dsimp only
  have hb:=UInt8.toNat_lt (p.getD i 0)
  rw [cndT (dt (by omega)),gdT (dt (by omega)),Int.toNat_natCast,bdS (o161_eq _ _),wr64 (by omega),wr_u32 (by omega)]
  rw [List.take_succ_eq_append_getElem hi]
  unfold crcR
  rw [List.foldl_append]
  simp [List.getD_eq_getElem?_getD,List.getElem?_eq_getElem hi]
 ·unfold o158_b0
  dsimp only
  rw [cndF (df (by omega)),List.take_length]
  rfl
theorem o146_eq (p:List UInt8) (h:p.length≤1000000):o146 p=some (crcI p):=by
 unfold o146
 rw [bdS (o158_eq _ _ h)]
 rfl
def seal4 (c:Int):List UInt8:=[u8 (IntKind.u8.wrap c),u8 (IntKind.u8.wrap (shrK .u32 c 8)),u8 (IntKind.u8.wrap (shrK .u32 c 16)),u8 (IntKind.u8.wrap (shrK .u32 c 24))]
def sealB (p:List UInt8):List UInt8:=p++seal4 (crcI p)
theorem o108_eq (p:List UInt8) (h:p.length≤1000000):o108 p=some (sealB p):=by
 unfold o108
 rw [bdS (o146_eq _ h),bdS (o33_eq (by omega)),gdT (dt (by simp;omega))]
 rfl
theorem u8_eq_iff {b:UInt8} {z:Int} (h:0≤z∧z≤255):((b.toNat:Nat):Int)=z↔b=u8 z:=by
 constructor
 ·intro e
  rw [← e,u8_of_toNat]
 ·rintro rfl
  exact u8_toNat h
def opn (q:List UInt8):Int×List UInt8:=if q.length < 4 then (4,[]) else if q.drop (q.length - 4)=seal4 (crcI (q.take (q.length - 4))) then (0,q.take (q.length - 4)) else (12,[])
theorem drop4 {q:List UInt8} {m:Nat} (h:q.length=m+4):q.drop m=[q.getD m 0,q.getD (m+1) 0,q.getD (m+2) 0,q.getD (m+3) 0]:=by
 refine List.ext_getElem (by simp [h]) fun i h1 h2=>?_
 have:i < 4:=by simpa using h2
 rw [List.getElem_drop]
 have e:∀ j (hj:j < q.length),q.getD j 0=q[j]:=fun j hj=>by rw [List.getD_eq_getElem?_getD,List.getElem?_eq_getElem hj];rfl
 rw [e m (by omega),e (m+1) (by omega),e (m+2) (by omega),e (m+3) (by omega)]
 match i,this with
 | 0,_=>rfl
 | 1,_=>rfl
 | 2,_=>rfl
 | 3,_=>rfl
theorem o147_eq {q:List UInt8} (hq:q.length≤1000000):o147 q=some (opn q):=by
 unfold o147 opn
 have w0:IntKind.i64.wrap (((q.length:Nat):Int) - (4:Int))=(q.length:Int) - 4:=wr64 (by omega)
 simp only [w0]
 by_cases h4:q.length < 4
 ·rw [cndT (dt (by omega)),if_pos h4]
 rw [cndF (df (by omega)),if_neg h4]
 obtain ⟨m,hm⟩:∃ m,q.length=m+4:=⟨q.length - 4,by omega⟩
 have e0:(q.length:Int) - 4=(m:Int):=by omega
 have em:q.length - 4=m:=by omega
 rw [e0,em]
 have w1:IntKind.i64.wrap ((m:Int)+1)=((m+1:Nat):Int):=by rw [wr64 (by omega)];omega
 have w2:IntKind.i64.wrap ((m:Int)+2)=((m+2:Nat):Int):=by rw [wr64 (by omega)];omega
 have w3:IntKind.i64.wrap ((m:Int)+3)=((m+3:Nat):Int):=by rw [wr64 (by omega)];omega
 rw [w1,w2,w3,gdT (dt (by omega)),Int.toNat_natCast,bdS (o146_eq _ (by simp;omega)),gdT (dt (by omega)),gdT (dt (by omega)),gdT (dt (by omega)),gdT (dt (by omega)),drop4 hm,Int.toNat_natCast,Int.toNat_natCast,Int.toNat_natCast]
 generalize crcI (q.take m)=c
 unfold seal4
 have hf:∀ {b:Bool},b=true→bd (some (q,(m:Int),b)) (fun v2=>(cnd v2.2.2 (some ((12:Int),([]:List UInt8))) (gd (decide ((0:Int)≤v2.2.1∧v2.2.1≤((v2.1.length:Nat):Int))) (bd (α:=(List UInt8)) (o33 (List.take v2.2.1.toNat v2.1)) (fun v3=>(some ((0:Int),v3)))))))=some (12,[]):=by
  rintro b rfl;rfl
 have ht:bd (some (q,(m:Int),false)) (fun v2=>(cnd v2.2.2 (some ((12:Int),([]:List UInt8))) (gd (decide ((0:Int)≤v2.2.1∧v2.2.1≤((v2.1.length:Nat):Int))) (bd (α:=(List UInt8)) (o33 (List.take v2.2.1.toNat v2.1)) (fun v3=>(some ((0:Int),v3)))))))=some (0,q.take m):=by
  rw [bdI,cndF rfl]
  dsimp only
  rw [gdT (dt (by omega)),Int.toNat_natCast,bdS (o33_eq (by simp;omega))]
 by_cases h0:q.getD m 0=u8 (IntKind.u8.wrap c)
 ·rw [cndF (neq_f ((u8_eq_iff (wrapU8_rng _)).2 h0))]
  by_cases h1:q.getD (m+1) 0=u8 (IntKind.u8.wrap (shrK .u32 c 8))
  ·rw [cndF (neq_f ((u8_eq_iff (wrapU8_rng _)).2 h1))]
   by_cases h2:q.getD (m+2) 0=u8 (IntKind.u8.wrap (shrK .u32 c 16))
   ·rw [cndF (neq_f ((u8_eq_iff (wrapU8_rng _)).2 h2))]
    by_cases h3:q.getD (m+3) 0=u8 (IntKind.u8.wrap (shrK .u32 c 24))
    ·rw [neq_f ((u8_eq_iff (wrapU8_rng _)).2 h3),if_pos (by rw [h0,h1,h2,h3])]
     exact ht
    ·rw [neq_t (fun e=>h3 ((u8_eq_iff (wrapU8_rng _)).1 e)),if_neg (fun e=>h3 (by injection e with _ e;injection e with _ e;injection e with _ e;injection e with e))]
     exact hf rfl
   ·rw [cndT (neq_t (fun e=>h2 ((u8_eq_iff (wrapU8_rng _)).1 e))),if_neg (fun e=>h2 (by injection e with _ e;injection e with _ e;injection e with e))]
    exact hf rfl
  ·rw [cndT (neq_t (fun e=>h1 ((u8_eq_iff (wrapU8_rng _)).1 e))),if_neg (fun e=>h1 (by injection e with _ e;injection e with e))]
   exact hf rfl
 ·rw [cndT (neq_t (fun e=>h0 ((u8_eq_iff (wrapU8_rng _)).1 e))),if_neg (fun e=>h0 (by injection e with e))]
  exact hf rfl
def hdrB (f:Frm):List UInt8:=[u8 f.label,u8 f.from_]++putB f.cycle 8++putB (f.payload.length:Int) 2++f.payload
def encF (f:Frm):Int×List UInt8:=cond (decide ((f.payload.length:Int) > 1000)) (3,[]) (0,sealB (hdrB f))
theorem two_bytes (n:Int):[u8 (IntKind.u8.wrap n),u8 (IntKind.u8.wrap (shrK .i64 n 8))]=putB n 2:=by
 have h0:byteAt n 0=u8 (IntKind.u8.wrap n):=by
  unfold byteAt
  rw [shr_i64 n 0 (by decide),Int.pow_zero,Int.ediv_one]
 have h1:byteAt n 1=u8 (IntKind.u8.wrap (shrK .i64 n 8)):=rfl
 rw [putB_succ,putB_succ,putB_zero,h0,h1];rfl
theorem o69_eq (f:Frm):o69 f.e=some (encF f):=by
 unfold o69 encF
 refine (?_:cnd (decide ((f.payload.length:Int) > 1000)) _ _=_)
 by_cases h:((f.payload.length:Nat):Int) > 1000
 ·rw [cndT (dt h),dt h];rfl
 rw [cndF (df h),df h,cond_false]
 refine loop_from (fun k=>(((k:Nat):Int),f.e,[u8 f.label,u8 f.from_]++putB f.cycle k)) 8 rfl (fun k hk=>?_) ?_ (by omega)
 ·unfold o69_b0
  refine (cndT (dt (by show (k:Int) < 8;omega))).trans ((gdT (dt (by show (0:Int)≤IntKind.i64.wrap (8*(k:Int));rw [wr64 (by omega)];omega))).trans ((gdT (dt (by show (([u8 f.label,u8 f.from_]++putB f.cycle k).length+1)*1≤140737488355328;rw [List.length_append,putB_len];simp;omega))).trans ?_))
  dsimp only
  rw [wr64 (by omega),wr64 (by omega),putB_succ,← List.append_assoc]
  rfl
 ·unfold o69_b0
  refine (cndF (df (by show ¬ ((8:Nat):Int) < 8;decide))).trans ?_
  show dnO (gd _ (gd _ (bd (o108 (([u8 f.label,u8 f.from_]++putB f.cycle 8++[u8 (IntKind.u8.wrap ((f.payload.length:Nat):Int)),u8 (IntKind.u8.wrap (shrK .i64 ((f.payload.length:Nat):Int) 8))])++f.payload)) _)))=_
  rw [gdT (dt (by simp [putB_len])),gdT (dt (by show (_+f.payload.length)*1≤140737488355328;simp [putB_len];omega)),two_bytes,o108_eq _ (by simp [putB_len];omega),bdI,dnS]
  rfl
def decF (q:List UInt8):Frm×Int :=
 cond ((opn q).1 != 0) (noFrm,(opn q).1) (cond (decide (((opn q).2.length:Int) < 12)) (noFrm,4)
  (cond (decide ((natL ((opn q).2.drop 10) 2:Int) > 1000) || (((opn q).2.length:Int) != 12+(natL ((opn q).2.drop 10) 2:Int))) (noFrm,4)
   (⟨(((opn q).2.getD 0 0).toNat:Int),(((opn q).2.getD 1 0).toNat:Int),getI ((opn q).2.drop 2) 8,(opn q).2.drop 12⟩,0)))
def frmE (x:Frm×Int):=((x.1.label,x.1.from_),x.1.cycle,x.1.payload,x.2)
theorem opn_len (q:List UInt8):(opn q).2.length≤q.length:=by
 unfold opn
 split
 ·simp
 ·split
  ·simp
  ·simp
theorem o110_eq {q:List UInt8} (hq:q.length≤1000000):o110 q=some (frmE (decF q)):=by
 unfold o110 decF
 refine (bdS (o147_eq hq)).trans ?_
 have hl:=opn_len q
 generalize opn q=O at hl ⊢
 obtain ⟨e,p⟩:=O
 dsimp only at hl ⊢
 refine cnd_ext (F:=frmE) rfl ?_
 by_cases h:((p.length:Nat):Int) < 12
 ·rw [cndT (dt h),dt h];rfl
 rw [cndF (df h),df h,cond_false]
 have d:(10:Int).toNat=10∧(11:Int).toNat=11∧(12:Int).toNat=12∧(0:Int).toNat=0∧(1:Int).toNat=1:=⟨rfl,rfl,rfl,rfl,rfl⟩
 obtain ⟨d10,d11,d12,d0,d1⟩:=d
 have hb:∀ i,IntKind.i64.wrap ((p.getD i 0).toNat:Int)=((p.getD i 0).toNat:Int):=fun i=>wr64 (by have:=(p.getD i 0).toNat_lt;omega)
 have hn:((p.getD 10 0).toNat:Int)+256*((p.getD 11 0).toNat:Int)=(natL (p.drop 10) 2:Int):=by rw [natL_two,getD_drop,getD_drop]
 rw [gdT (dt (by omega)),gdT (dt (by omega)),d10,d11,hb,hb,two_i64,hn]
 have hlt:=natL_lt (p.drop 10) 2
 have hw:IntKind.i64.wrap (12+((natL (p.drop 10) 2:Nat):Int))=12+((natL (p.drop 10) 2:Nat):Int):=wr64 (by omega)
 rw [hw]
 have ej:(cnd (decide ((natL (p.drop 10) 2:Int) > 1000)) (some (true,p,((0:Int),(0:Int)),(0:Int),([]:List UInt8))) (some ((((p.length:Nat):Int) != 12+(natL (p.drop 10) 2:Int)),p,((0:Int),(0:Int)),(0:Int),([]:List UInt8))))
   = some (decide ((natL (p.drop 10) 2:Int) > 1000) || (((p.length:Nat):Int) != 12+(natL (p.drop 10) 2:Int)),p,((0:Int),(0:Int)),(0:Int),([]:List UInt8)):=by
  cases decide ((natL (p.drop 10) 2:Int) > 1000) <;> rfl
 rw [ej,bdI]
 refine cnd_ext (F:=frmE) rfl ?_
 dsimp only
 rw [gdT (dt (by omega)),gdT (dt (by omega)),gdT (dt (by omega)),d0,d1,d12]
 have ht:List.take (p.length - 12) (List.drop 12 p)=p.drop 12:=List.take_of_length_le (by simp)
 rw [ht]
 refine loop_from (fun k=>((p,((k:Nat):Int)),(((0:Int),(0:Int)),(0:Int),([]:List UInt8)),(((p.getD 0 0).toNat:Int),((p.getD 1 0).toNat:Int)),IntKind.i64.wrap (getK (p.drop 2) k),p.drop 12)) 8 rfl (fun k hk=>?_) ?_ (by omega)
 ·have hbk:=((p.drop 2).getD k 0).toNat_lt
  have h2:IntKind.i64.wrap (2+(k:Int))=((2+k:Nat):Int):=by rw [wr64 (by omega)];omega
  unfold o110_b0
  refine (cndT (dt (by show (k:Int) < 8;omega))).trans ((gdT (dt (by show (0:Int)≤IntKind.i64.wrap (2+(k:Int))∧IntKind.i64.wrap (2+(k:Int)) < (p.length:Int);rw [h2];omega))).trans ((gdT (dt (by show (0:Int)≤IntKind.i64.wrap (8*(k:Int));rw [wr64 (by omega)];omega))).trans ?_))
  dsimp only
  rw [h2,show ((2+k:Nat):Int).toNat=2+k from rfl,← getD_drop,show IntKind.i64.wrap ((k:Int)+1)=(k:Int)+1 from wr64 (by omega),show IntKind.i64.wrap (8*(k:Int))=8*(k:Int) from wr64 (by omega),IntWalk.u64_in _ (by omega),lor_i64]
  rfl
 ·unfold o110_b0
  refine (cndF (df (by show ¬ ((8:Nat):Int) < 8;decide))).trans ?_
  dsimp only
  rw [getK_eq (p.drop 2) 8 (by decide),dnS]
  rfl
structure Ft where
 lost:Bool
 bit:Int
 pat:Int
def Ft.e (f:Ft):Bool×Int×Int:=(f.lost,f.bit,f.pat)
def flip1 (d:List UInt8) (i:Int):List UInt8:=d.set (IntKind.i64.wrap (Int.tdiv i 8)).toNat (u8 (lxorK .u8 (((d.getD (IntKind.i64.wrap (Int.tdiv i 8)).toNat 0).toNat:Nat):Int) (shlK .u8 1 (Int.tmod i 8))))
def flips (f:Ft) (n:Int) (k:Nat):Bool:=((landK .u32 (shrK .u32 f.pat (k:Int)) 1)==1)&&(decide (IntKind.i64.wrap (f.bit+(k:Int))≥0)&&decide (IntKind.i64.wrap (f.bit+(k:Int)) < IntKind.i64.wrap (8*n)))
def flipL (f:Ft) (b:List UInt8):Nat→List UInt8
 | 0=>b
 | k+1=>cond (flips f (b.length:Int) k) (flip1 (flipL f b k) (IntKind.i64.wrap (f.bit+(k:Int)))) (flipL f b k)
theorem flipL_len (f:Ft) (b:List UInt8):∀ k,(flipL f b k).length=b.length
 | 0=>rfl
 | k+1=>by
  unfold flipL
  cases flips f (b.length:Int) k with
  | false=>exact flipL_len f b k
  | true=>simp only [cond_true,flip1,List.length_set];exact flipL_len f b k
def carry (b:List UInt8) (f:Ft):Bool×List UInt8:=cond f.lost (false,[]) (cond (decide (f.bit < -31) || decide (f.bit≥IntKind.i64.wrap (8*(b.length:Int)))) (true,b) (true,flipL f b 32))
theorem carry_len (b:List UInt8) (f:Ft):(carry b f).2.length≤b.length:=by
 unfold carry
 cases f.lost with
 | true=>simp
 | false =>
  cases (decide (f.bit < -31) || decide (f.bit≥IntKind.i64.wrap (8*(b.length:Int)))) with
  | true=>simp
  | false=>simp [flipL_len]
theorem o109_eq {b:List UInt8} {f:Ft} (hb:b.length≤1000000):o109 b f.e=some (carry b f):=by
 unfold o109 carry
 refine cnd_ext (c:=f.lost) (F:=fun x=>x) rfl ?_
 refine (bdS (o33_eq (by omega))).trans ?_
 refine (bdS (t:=((b,decide (f.bit < -31) || decide (f.bit≥IntKind.i64.wrap (8*(b.length:Int)))),f.e,b)) ?_).trans ?_
 ·show cnd (decide (f.bit < -31)) _ _=_
  cases decide (f.bit < -31) <;> rfl
 refine cnd_ext (F:=fun x=>x) rfl ?_
 refine loop_from (fun k=>((b,((k:Nat):Int)),f.e,flipL f b k)) 32 rfl (fun k hk=>?_) ?_ (by omega)
 ·unfold o109_b0
  refine (cndT (dt (by show (k:Int) < 32;omega))).trans ?_
  refine (bdS (t:=((b,IntKind.i64.wrap (f.bit+(k:Int)),(k:Int)),flips f (b.length:Int) k,f.e,flipL f b k)) ?_).trans ?_
  ·refine (gdT (dt (by show (0:Int)≤k;omega))).trans ?_
   unfold flips
   show cnd ((landK .u32 (shrK .u32 f.pat (k:Int)) 1)==1) (cnd (decide (IntKind.i64.wrap (f.bit+(k:Int))≥0)) _ _) _=_
   cases ((landK .u32 (shrK .u32 f.pat (k:Int)) 1)==1) <;> cases decide (IntKind.i64.wrap (f.bit+(k:Int))≥0) <;> rfl
  have hw:IntKind.i64.wrap ((k:Int)+1)=((k+1:Nat):Int):=by rw [wr64 (by omega)];omega
  by_cases hf:flips f (b.length:Int) k=true
  ·refine (cndT hf).trans ?_
   have hr:0≤IntKind.i64.wrap (f.bit+(k:Int))∧IntKind.i64.wrap (f.bit+(k:Int)) < 8*(b.length:Int):=by
    unfold flips at hf
    simp only [Bool.and_eq_true,decide_eq_true_eq] at hf
    rw [wr64 (x:=8*(b.length:Int)) (by omega)] at hf
    exact ⟨hf.2.1,hf.2.2⟩
   have hd:IntKind.i64.wrap (Int.tdiv (IntKind.i64.wrap (f.bit+(k:Int))) 8)=IntKind.i64.wrap (f.bit+(k:Int)) / 8:=by
    rw [Int.tdiv_eq_ediv_of_nonneg hr.1,wr64 (by omega)]
   have hm:0≤Int.tmod (IntKind.i64.wrap (f.bit+(k:Int))) 8:=by rw [Int.tmod_eq_emod_of_nonneg hr.1];omega
   have hi:(0:Int)≤IntKind.i64.wrap (Int.tdiv (IntKind.i64.wrap (f.bit+(k:Int))) 8)∧IntKind.i64.wrap (Int.tdiv (IntKind.i64.wrap (f.bit+(k:Int))) 8) < (((flipL f b k).length:Nat):Int):=by
    rw [hd,flipL_len];omega
   refine (gdT (dt hi)).trans ((gdT (dt hm)).trans ((gdT (dt hi)).trans ?_))
   dsimp only
   rw [hw]
   show some (Ctl.go (_,_,flip1 (flipL f b k) (IntKind.i64.wrap (f.bit+(k:Int)))))=some (Ctl.go (_,_,cond (flips f (b.length:Int) k) _ _))
   rw [hf]
   rfl
  ·have hf:flips f (b.length:Int) k=false:=by simpa using hf
   refine (cndF hf).trans ?_
   dsimp only
   rw [hw]
   show some (Ctl.go (_,_,flipL f b k))=some (Ctl.go (_,_,cond (flips f (b.length:Int) k) _ _))
   rw [hf]
   rfl
 ·unfold o109_b0
  refine (cndF (df (by show ¬ ((32:Nat):Int) < 32;decide))).trans ?_
  exact dnS _
def arrived (q:List UInt8) (label from_ cycle:Int):Frm×Bool :=
 cond ((decF q).2 != 0 || ((decF q).1.label != label || ((decF q).1.from_ != from_ || (decF q).1.cycle != cycle))) (noFrm,false) ((decF q).1,true)
def receive (b:List UInt8) (f:Ft) (label from_ cycle:Int):Frm×Bool:=cond (carry b f).1 (arrived (carry b f).2 label from_ cycle) (noFrm,false)
def rcvE (x:Frm×Bool):=((x.1.label,x.1.from_),x.1.cycle,x.1.payload,x.2)
theorem o70_eq {b:List UInt8} {f:Ft} {label from_ cycle:Int} (hb:b.length≤1000000):o70 b f.e label from_ cycle=some (rcvE (receive b f label from_ cycle)):=by
 unfold o70 receive
 refine (bdS (o109_eq hb)).trans ?_
 refine cndN_ext (F:=rcvE) ?_ rfl
 refine (bdS (o110_eq (Nat.le_trans (carry_len b f) hb))).trans ?_
 unfold arrived
 generalize decF (carry b f).2=D
 obtain ⟨x,e⟩:=D
 refine (bdS (t:=(e != 0 || (x.label != label || (x.from_ != from_ || x.cycle != cycle)),(((0:Int),(0:Int)),(0:Int),([]:List UInt8)),(x.label,x.from_),x.cycle,x.payload)) ?_).trans ?_
 ·show cnd (e != 0) _ (cnd (x.label != label) _ (cnd (x.from_ != from_) _ _))=_
  cases (e != 0) <;> cases (x.label != label) <;> cases (x.from_ != from_) <;> rfl
 ·exact cnd_ext (F:=rcvE) rfl rfl
structure Mc where
 sum:Int
 count:Int
 pad:Int
def Mc.e (m:Mc):Int×Int×Int:=(m.sum,m.count,m.pad)
theorem o85_eq (n:Int):o85 n 8=some (putB n 8):=by
 unfold o85
 refine loop_from (fun k=>((n,(8:Int)),((k:Nat):Int),putB n k)) 8 rfl (fun k hk=>?_) ?_ (by omega)
 ·unfold o85_b0
  refine (cndT (dt (by show (k:Int) < 8;omega))).trans ((gdT (dt (by show (0:Int)≤IntKind.i64.wrap (8*(k:Int));rw [wr64 (by omega)];omega))).trans ((gdT (dt (by show ((putB n k).length+1)*1≤140737488355328;rw [putB_len];omega))).trans ?_))
  dsimp only
  rw [show IntKind.i64.wrap ((k:Int)+1)=(k:Int)+1 from wr64 (by omega),show IntKind.i64.wrap (8*(k:Int))=8*(k:Int) from wr64 (by omega),byte_u64 n k (by omega),putB_succ]
  rfl
 ·unfold o85_b0
  refine (cndF (df (by show ¬ ((8:Nat):Int) < 8;decide))).trans ?_
  exact dnS _
def padB (s:Int) (i:Nat):UInt8:=u8 (IntKind.u8.wrap (IntKind.u8.wrap (shrK .u64 s (IntKind.i64.wrap (Int.tmod (i:Int) 8*8)))+IntKind.u8.wrap (i:Int)))
def saveB (m:Mc):List UInt8:=putB (IntKind.i64.wrap m.sum) 8++putB m.count 8++(List.range m.pad.toNat).map (padB m.sum)
theorem saveB_len (m:Mc):(saveB m).length=16+m.pad.toNat:=by simp [saveB,putB_len];omega
theorem o48_eq {m:Mc} (h0:0≤m.pad) (h1:m.pad≤1000000):o48 m.e=some (saveB m):=by
 unfold o48
 refine (bdS (o85_eq (IntKind.i64.wrap m.sum))).trans ((bdS (o85_eq m.count)).trans ((gdT (dt (by rw [putB_len,putB_len];decide))).trans ?_))
 refine loop_from (fun i=>(((i:Nat):Int),m.e,putB (IntKind.i64.wrap m.sum) 8++putB m.count 8++(List.range i).map (padB m.sum))) m.pad.toNat (by simp) (fun i hi=>?_) ?_ (by omega)
 ·unfold o48_b0
  refine (cndT (dt (by show (i:Int) < m.pad;omega))).trans ((gdT (dt ?_)).trans ((gdT (dt ?_)).trans ?_))
  ·show (0:Int)≤IntKind.i64.wrap (Int.tmod (i:Int) 8*8)
   rw [Int.tmod_eq_emod_of_nonneg (by omega),wr64 (by omega)]
   omega
  ·show ((putB (IntKind.i64.wrap m.sum) 8++putB m.count 8++(List.range i).map (padB m.sum)).length+1)*1≤140737488355328
   simp [putB_len];omega
  ·dsimp only
   rw [show IntKind.i64.wrap ((i:Int)+1)=(i:Int)+1 from wr64 (by omega),List.range_succ,List.map_append,← List.append_assoc]
   rfl
 ·unfold o48_b0
  refine (cndF (df (by show ¬ (((m.pad.toNat:Nat):Int) < m.pad);omega))).trans ?_
  exact dnS _
theorem o180_eq {m:Mc} (h0:0≤m.pad) (h1:m.pad≤1000000):o180 m.e=some (saveB m):=by
 unfold o180
 exact bdS (o48_eq h0 h1)
def mix (s:Int) (b:Int):Int:=IntKind.u64.wrap (IntKind.u64.wrap (s*31)+IntKind.u64.wrap b)
def sumF (s:Int) (l:List UInt8):Int:=l.foldl (fun s b=>mix s ((b.toNat:Nat):Int)) s
def Mc.stepM (m:Mc) (cy:Int) (l:List UInt8):Mc:=⟨sumF (mix m.sum cy) l,IntKind.i64.wrap (m.count+1),m.pad⟩
def Mc.tg (m:Mc):Tg:=⟨IntKind.u8.wrap (Int.tmod m.sum 7),IntKind.u8.wrap (Int.tmod m.sum 9),IntKind.u8.wrap (Int.tmod m.count 9),IntKind.i64.wrap (IntKind.i64.wrap (Int.tmod m.sum 6001) - 3000),IntKind.i64.wrap (Int.tmod (shrK .u64 m.sum 13) 1000),IntKind.i64.wrap (IntKind.i64.wrap (Int.tmod (shrK .u64 m.sum 23) 6000000) - 1000),IntKind.i64.wrap (IntKind.i64.wrap (Int.tmod (shrK .u64 m.sum 33) 12000) - 6000)⟩
theorem o56_eq (m:Mc) (cy:Int) {l:List UInt8} (hl:l.length≤100000000):o56 m.e cy l=some ((((m.stepM cy l).sum,(m.stepM cy l).count),(m.stepM cy l).pad,(m.stepM cy l).tg.lat,(m.stepM cy l).tg.ver),((m.stepM cy l).tg.ph,(m.stepM cy l).tg.bank),(m.stepM cy l).tg.speed,(m.stepM cy l).tg.alt,(m.stepM cy l).tg.vs):=by
 unfold o56
 refine loop_from (fun i=>((l,(l.length:Int)),((i:Nat):Int),sumF (mix m.sum cy) (l.take i),m.count,m.pad)) l.length rfl (fun i hi=>?_) ?_ (by omega)
 ·unfold o56_b0
  refine (cndT (dt (by show (i:Int) < (l.length:Int);omega))).trans ((gdT (dt (by show (0:Int)≤i∧(i:Int) < (l.length:Int);omega))).trans ?_)
  dsimp only
  rw [show IntKind.i64.wrap ((i:Int)+1)=((i+1:Nat):Int) by rw [wr64 (by omega)];omega,List.take_succ_eq_append_getElem hi]
  unfold sumF
  rw [List.foldl_append,show (i:Int).toNat=i from rfl,getD_of hi]
  rfl
 ·unfold o56_b0
  refine (cndF (df (by show ¬ (l.length:Int) < (l.length:Int);omega))).trans ?_
  dsimp only
  rw [List.take_length]
  exact dnS _
theorem o181_eq (m:Mc) (cy:Int) {l:List UInt8} (hl:l.length≤100000000):o181 cy l m.e=some ((m.stepM cy l).tg.e,(m.stepM cy l).e):=by
 unfold o181
 exact bdS (o56_eq m cy hl)
theorem o137_eq {p:List UInt8} (h:p.length≤8):o137 p=some (getI p p.length):=by
 unfold o137
 refine loop_from (fun i=>((getK p i,p),(p.length:Int),((i:Nat):Int))) p.length rfl (fun i hi=>?_) ?_ (by omega)
 ·refine (cndT (dt ?_)).trans ((gdT (dt ?_)).trans ((gdT (dt ?_)).trans ?_))
  ·show (i:Int) < (p.length:Int);omega
  ·show (0:Int)≤(i:Int)∧(i:Int) < (p.length:Int);omega
  ·show (0:Int)≤IntKind.i64.wrap (8*(i:Int));rw [wr64 (by omega)];omega
  ·show some (Ctl.go ((lorK .u64 (getK p i) (shlK .u64 (IntKind.u64.wrap ((p.getD (i:Int).toNat 0).toNat:Int)) (IntKind.i64.wrap (8*(i:Int)))),p),(p.length:Int),IntKind.i64.wrap ((i:Int)+1)))=_
   have hb:=(p.getD (i:Int).toNat 0).toNat_lt
   rw [wr64 (by omega),wr64 (by omega),IntWalk.u64_in _ (by omega)]
   rfl
 ·refine (cndF (df (by show ¬ (p.length:Int) < (p.length:Int);omega))).trans ?_
  refine (dnS _).trans ?_
  show some (Ctl.done (IntKind.i64.wrap (getK p p.length)))=_
  rw [getK_eq p _ h]
  rfl
def Mc.read (m:Mc) (p:List UInt8):Mc:=⟨IntKind.u64.wrap (getI p 8),getI (p.drop 8) 8,m.pad⟩
def Mc.load (m:Mc) (p:List UInt8):Mc×Int:=cond ((p.length:Int) != 16+m.pad) (m,4) (cond (saveB (m.read p)==p) (m.read p,0) (m,4))
theorem o48_t (a b c:Int) (h0:0≤c) (h1:c≤1000000):o48 (a,b,c)=some (saveB ⟨a,b,c⟩):=o48_eq (m:=⟨a,b,c⟩) h0 h1
theorem o103_eq {m:Mc} {p:List UInt8} (h0:0≤m.pad) (h1:m.pad≤1000000):o103 m.e p=some (((m.load p).1.sum,(m.load p).1.count),(m.load p).1.pad,(m.load p).2):=by
 unfold o103 Mc.load
 have hw:IntKind.i64.wrap (16+m.pad)=16+m.pad:=wr64 (by omega)
 show cnd ((p.length:Int) != IntKind.i64.wrap (16+m.pad)) _ _=_
 rw [hw]
 by_cases hp:(p.length:Int)=16+m.pad
 ·rw [cndF (neq_f hp),neq_f hp,cond_false]
  have d8:(8:Int).toNat=8:=rfl
  have d16:(16:Int).toNat - 8=8:=rfl
  have g1:o137 (p.take 8)=some (getI p 8):=by
   have hl:(p.take 8).length=8:=by simp;omega
   rw [o137_eq (by omega),hl,getI_take]
  have g2:o137 ((p.drop 8).take 8)=some (getI (p.drop 8) 8):=by
   have hl:((p.drop 8).take 8).length=8:=by simp;omega
   rw [o137_eq (by omega),hl,getI_take]
  rw [d8,d16,gdT (dt (by omega)),g1,bdI,gdT (dt (by omega)),g2,bdI]
  rw [show o48 (IntKind.u64.wrap (getI p 8),getI (p.drop 8) 8,m.e.2.2)=some (saveB (m.read p)) from o48_t _ _ _ h0 h1,bdI]
  exact cndN_ext (c:=saveB (m.read p)==p) (F:=fun x:Mc×Int=>((x.1.sum,x.1.count),x.1.pad,x.2)) rfl rfl
 ·rw [cndT (neq_t hp),neq_t hp];rfl
theorem o179_eq {m:Mc} {p:List UInt8} (h0:0≤m.pad) (h1:m.pad≤1000000):o179 p m.e=some ((m.load p).2,(m.load p).1.e):=by
 unfold o179
 exact bdS (o103_eq h0 h1)
theorem cond_pad {k:Int} {b:Bool} {x y:Mc×Int} (hx:x.1.pad=k) (hy:y.1.pad=k):(cond b x y).1.pad=k:=by cases b <;> assumption
theorem mk_pad (a b c:Int):(Mc.mk a b c).pad=c:=rfl
theorem read_pad (m:Mc) (p:List UInt8):(m.read p).pad=m.pad:=mk_pad _ _ _
theorem stepM_pad (m:Mc) (cy:Int) (l:List UInt8):(m.stepM cy l).pad=m.pad:=mk_pad _ _ _
theorem load_pad (m:Mc) (p:List UInt8):(m.load p).1.pad=m.pad:=by
 unfold Mc.load
 exact cond_pad rfl (cond_pad (read_pad m p) rfl)
def toward (last want rate:Int):Int :=
 cond (decide (want≥last)) (cond (decide (IntKind.u64.wrap (IntKind.u64.wrap want - IntKind.u64.wrap last)≤IntKind.u64.wrap (maxI rate 0))) want (IntKind.i64.wrap (last+maxI rate 0)))
  (cond (decide (IntKind.u64.wrap (IntKind.u64.wrap last - IntKind.u64.wrap want)≤IntKind.u64.wrap (maxI rate 0))) want (IntKind.i64.wrap (last - maxI rate 0)))
theorem o63_eq (last want rate:Int):o63 last want rate=some (toward last want rate):=by
 unfold o63 toward
 exact cnd_ext (F:=fun x=>x) (cnd_ext (F:=fun x=>x) rfl rfl) (cnd_ext (F:=fun x=>x) rfl rfl)
def limit (last want:Tg) (r1 r2 r3 r4:Int):Tg:=⟨want.lat,want.ver,want.ph,toward last.bank want.bank r1,toward last.speed want.speed r2,toward last.alt want.alt r3,toward last.vs want.vs r4⟩
theorem o19_eq (last want:Tg) (r1 r2 r3 r4:Int):o19 last.e want.e ((r1,r2),r3,r4)=some (limit last want r1 r2 r3 r4).e:=by
 unfold o19
 exact (bdS (o63_eq _ _ _)).trans ((bdS (o63_eq _ _ _)).trans ((bdS (o63_eq _ _ _)).trans (bdS (o63_eq _ _ _))))
def select (a b:Int):Int:=cond ((((u8 a).toNat:Nat):Int)==4 || (((u8 a).toNat:Nat):Int)==3) 1 (cond ((((u8 b).toNat:Nat):Int)==4 || (((u8 b).toNat:Nat):Int)==3) 2 0)
theorem o20_eq (a b:Int):o20 a b=some (select a b):=by
 unfold o20 select
 have hf:fuelN=(((fuelN - 3)+1)+1)+1:=by simp [fuelN]
 rw [hf]
 cases ha:((((u8 a).toNat:Nat):Int)==4 || (((u8 a).toNat:Nat):Int)==3) with
 | true =>
  refine loopO_done ?_
  unfold o20_b0
  show bd (cnd ((((u8 a).toNat:Nat):Int)==4) (some (_,_,true,_)) (some (_,_,(((u8 a).toNat:Nat):Int)==3,_))) _=_
  revert ha
  cases ((((u8 a).toNat:Nat):Int)==4) <;> cases ((((u8 a).toNat:Nat):Int)==3) <;> intro ha <;> first | (cases ha;done) | rfl
 | false =>
  have s1:o20_b0 ((2:Int),(0:Int),[u8 a,u8 b])=some (.go ((2:Int),(1:Int),[u8 a,u8 b])):=by
   unfold o20_b0
   show bd (cnd ((((u8 a).toNat:Nat):Int)==4) (some (_,_,true,_)) (some (_,_,(((u8 a).toNat:Nat):Int)==3,_))) _=_
   revert ha
   cases ((((u8 a).toNat:Nat):Int)==4) <;> cases ((((u8 a).toNat:Nat):Int)==3) <;> intro ha <;> first | (cases ha;done) | rfl
  refine (loopO_go s1).trans ?_
  cases hb:((((u8 b).toNat:Nat):Int)==4 || (((u8 b).toNat:Nat):Int)==3) with
  | true =>
   refine loopO_done ?_
   unfold o20_b0
   show bd (cnd ((((u8 b).toNat:Nat):Int)==4) (some (_,_,true,_)) (some (_,_,(((u8 b).toNat:Nat):Int)==3,_))) _=_
   revert hb
   cases ((((u8 b).toNat:Nat):Int)==4) <;> cases ((((u8 b).toNat:Nat):Int)==3) <;> intro hb <;> first | (cases hb;done) | rfl
  | false =>
   have s2:o20_b0 ((2:Int),(1:Int),[u8 a,u8 b])=some (.go ((2:Int),(2:Int),[u8 a,u8 b])):=by
    unfold o20_b0
    show bd (cnd ((((u8 b).toNat:Nat):Int)==4) (some (_,_,true,_)) (some (_,_,(((u8 b).toNat:Nat):Int)==3,_))) _=_
    revert hb
    cases ((((u8 b).toNat:Nat):Int)==4) <;> cases ((((u8 b).toNat:Nat):Int)==3) <;> intro hb <;> first | (cases hb;done) | rfl
   refine (loopO_go s2).trans (loopO_done ?_)
   rfl
end Go.Proofs.YtpleflcfaecojaaGreat
