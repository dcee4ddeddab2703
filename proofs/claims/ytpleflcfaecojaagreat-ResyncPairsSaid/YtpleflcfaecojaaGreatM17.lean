/-
The reference's frames on the bus: the same as the program's. Conditions: each lemma's own.
-/
import Derived.Test.YtpleflcfaecojaaGreatM16
namespace Go.Proofs.YtpleflcfaecojaaGreat
set_option linter.unusedVariables false
set_option linter.unusedSimpArgs false
set_option maxRecDepth 100000
open Go.RowKit
theorem AhW (r b:Int):o162 r b=some (crcB r (IntKind.u32.wrap b)):=by
 unfold o162
 refine AJ (r:=crcB r (IntKind.u32.wrap b)) (fun i=>(itS i (lxorK .u32 r (IntKind.u32.wrap b)),(i:Int))) 8 rfl (fun i hi=>?_) ?_ (by omega)
 ·unfold Ni
  dsimp only
  rw [cndT (dt (by omega)),AM (x:=(i:Int)+1) (by omega)]
  show _=some (Ctl.go (crcS (itS i _),_))
  unfold crcS
  cases (landK .u32 (itS i (lxorK .u32 r (IntKind.u32.wrap b))) 1==1) <;> rfl
 ·unfold Ni
  dsimp only
  rw [cndF (df (by omega))]
  rfl
theorem AhX (c:Int) (p:List UInt8) (h:p.length≤1000000):o160 c p=some (lxorK .u32 4294967295 (crcR (lxorK .u32 4294967295 c) p)):=by
 unfold o160
 refine AJ (fun i=>((crcR (lxorK .u32 4294967295 c) (p.take i),p),(p.length:Int),(i:Int))) p.length rfl (fun i hi=>?_) ?_ (by omega)
 ·unfold Nj
  dsimp only
  have hb:=UInt8.toNat_lt (p.getD i 0)
  rw [cndT (dt (by omega)),gdT (dt (by omega)),Int.toNat_natCast,bdS (AhW _ _),AM (by omega),XD (by omega)]
  rw [List.take_succ_eq_append_getElem hi]
  unfold crcR
  rw [List.foldl_append]
  simp [List.getD_eq_getElem?_getD,List.getElem?_eq_getElem hi]
 ·unfold Nj
  dsimp only
  rw [cndF (df (by omega)),List.take_length]
  rfl
theorem UU (p:List UInt8) (h:p.length≤1000000):o154 p=some (crcI p):=by
 unfold o154
 rw [bdS (AhX _ _ h)]
 rfl
theorem UV (c:Int):o153 c=some (IJ c):=rfl
theorem AhY (p:List UInt8) (h:p.length≤1000000):o130 p=some (sealB p):=by
 unfold o130
 exact (gdT (dt (by simp;omega))).trans ((bdS (UU p h)).trans ((bdS (UV _)).trans ((gdT (dt (by simp [IJ];omega))).trans rfl)))
theorem Ma {l:List UInt8} {i:Nat} (h:i < l.length):l.drop i=l.getD i 0::l.drop (i+1):=by
 rw [BX h];exact List.drop_eq_getElem_cons h
theorem AhZ (q:List UInt8) (h:q.length≤1000000):o155 q=some (opn q):=by
 unfold o155 opn
 by_cases h4:q.length < 4
 ·rw [if_pos h4]
  exact cndT (dt (by omega))
 rw [if_neg h4]
 refine (cndF (df (by omega))).trans ?_
 have e4:IntKind.i64.wrap (((q.length:Nat):Int) - 4)=((q.length - 4:Nat):Int):=by rw [AM (by omega)];omega
 obtain ⟨k,hk⟩:∃ k,q.length - 4=k:=⟨_,rfl⟩
 rw [show IntKind.wrap .i64 (((q.length:Nat):Int) - 4)=_ from e4,hk,show ((k:Nat):Int).toNat=k from rfl]
 refine (gdT (dt (by omega))).trans ((bdS (UU _ (by simp;omega))).trans ((bdS (UV _)).trans ?_))
 obtain ⟨s,hs⟩:∃ s,IJ (crcI (q.take k))=s:=⟨_,rfl⟩
 have hl:s.length=4:=by rw [← hs];rfl
 rw [hs]
 have key:=Zr (B:=IW) (fun (i:Nat) (_:Unit)=>((q,((k:Nat):Int)),((i:Nat):Int),s)) (fun i _=>if q.drop (k+i)=s.drop i then ((0:Int),q.take k) else (12,[])) (fun _ _=>True) (n:=4) (t0:=()) (fun i _ hi _=>?_) (fun _ _=>?_) (by decide) trivial
 ·exact key
 ·have w1:IntKind.i64.wrap (((k:Nat):Int)+((i:Nat):Int))=((k+i:Nat):Int):=by rw [AM (by omega)];omega
  have w2:IntKind.i64.wrap (((i:Nat):Int)+1)=((i+1:Nat):Int):=by rw [AM (by omega)];omega
  have hq:=Ma (l:=q) (i:=k+i) (by omega)
  have hx:=Ma (l:=s) (i:=i) (by omega)
  unfold IW
  dsimp only
  rw [cndT (dt (by omega)),show IntKind.wrap .i64 (((k:Nat):Int)+((i:Nat):Int))=_ from w1,gdT (dt (by omega)),gdT (dt (by omega)),show ((k+i:Nat):Int).toNat=k+i from rfl,show ((i:Nat):Int).toNat=i from rfl,hq,hx]
  by_cases hb:q.getD (k+i) 0=s.getD i 0
  ·left
   refine ⟨(),?_,?_,trivial⟩
   ·rw [hb,AF rfl,cndF rfl,show IntKind.wrap .i64 (((i:Nat):Int)+1)=_ from w2]
   ·rw [hb,Nat.add_assoc]
    by_cases ht:q.drop (k+(i+1))=s.drop (i+1)
    ·rw [if_pos ht,if_pos (by rw [ht])]
    ·rw [if_neg ht,if_neg (fun e=>ht (List.cons.inj e).2)]
  ·right
   rw [Bb (fun e=>hb (UInt8.toNat_inj.1 (by omega))),cndT rfl,if_neg (fun e=>hb (List.cons.inj e).1)]
   exact dnS _
 ·unfold IW
  dsimp only
  rw [if_pos (by rw [List.drop_of_length_le (by omega),List.drop_of_length_le (by omega)])]
  refine (cndF (df (by omega))).trans ?_
  refine (congrArg dnO ((gdT (dt (by omega))).trans ((gdT (dt ?_)).trans rfl))).trans (dnS _)
  show (([]:List UInt8).length+(List.take k q).length)*1≤140737488355328
  simp;omega
theorem AkR (f:Frm):o90 f.e=some (encF f):=by
 unfold o90 encF
 by_cases h:((f.payload.length:Nat):Int) > 1000
 ·exact (cndT (dt h)).trans (by rw [dt h];rfl)
 ·refine (cndF (df h)).trans ?_
  rw [df h,cond_false]
  refine (bdS (Gu f.cycle)).trans ((gdT (dt (by simp [Av]))).trans ((bdS (KW ((f.payload.length:Nat):Int))).trans ((gdT (dt (by simp [Av]))).trans ((gdT (dt ?_)).trans ((bdS (AhY _ ?_)).trans rfl)))))
  ·show (((([u8 f.label,u8 f.from_]:List UInt8)++putB f.cycle 8)++putB ((f.payload.length:Nat):Int) 2).length+f.payload.length)*1≤140737488355328
   simp [Av];omega
  ·show (((([u8 f.label,u8 f.from_]:List UInt8)++putB f.cycle 8)++putB ((f.payload.length:Nat):Int) 2)++f.payload).length≤1000000
   simp [Av];omega
theorem Aia {q:List UInt8} (hq:q.length≤1000000):o132 q=some ((((decF q).1.label,(decF q).1.from_),(decF q).1.cycle,(decF q).2),(decF q).1.payload):=by
 have hl:=MN q
 unfold o132 decF
 refine (bdS (AhZ q hq)).trans ?_
 generalize opn q=D at hl
 obtain ⟨e,p⟩:=D
 dsimp only at hl ⊢
 by_cases he:e=0
 rotate_left
 ·refine (cndT (Bb he)).trans ?_
  rw [Bb he];rfl
 refine (cndF (AF he)).trans ?_
 rw [AF he,cond_false]
 by_cases h12:((p.length:Nat):Int) < 12
 ·refine (bdS (cndT (dt h12))).trans ?_
  rw [dt h12];rfl
 have w:IntKind.i64.wrap (((p.length:Nat):Int) - 12)=((p.length:Nat):Int) - 12:=AM (by omega)
 have g1:o137 (List.take ((12:Int).toNat - (10:Int).toNat) (List.drop (10:Int).toNat p))=some (getI (p.drop 10) 2):=Ea (j:=10) (k:=2) (by omega) (by decide)
 have g2:o137 (List.take ((10:Int).toNat - (2:Int).toNat) (List.drop (2:Int).toNat p))=some (getI (p.drop 2) 8):=Ea (j:=2) (k:=8) (by omega) (by decide)
 have hn:=Dd (p.drop 10) 2
 have hg:getI (p.drop 10) 2=((natL (p.drop 10) 2:Nat):Int):=by unfold getI;rw [AM (by omega)]
 rw [df h12,cond_false]
 have hb:(decide (((natL (p.drop 10) 2:Nat):Int) > 1000) || (((p.length:Nat):Int) != 12+((natL (p.drop 10) 2:Nat):Int)))=(decide (((p.length:Nat):Int) - 12 > 1000) || (getI (p.drop 10) 2 != ((p.length:Nat):Int) - 12)):=by
  rw [hg]
  by_cases h1:((p.length:Nat):Int)=12+((natL (p.drop 10) 2:Nat):Int)
  ·rw [AF h1,AF (by omega),Bool.or_false,Bool.or_false]
   by_cases h2:((natL (p.drop 10) 2:Nat):Int) > 1000
   ·rw [dt h2,dt (by omega)]
   ·rw [df h2,df (by omega)]
  ·rw [Bb h1,Bb (by omega),Bool.or_true,Bool.or_true]
 rw [hb]
 refine (bdS (t:=(decide (((p.length:Nat):Int) - 12 > 1000) || (getI (p.drop 10) 2 != ((p.length:Nat):Int) - 12),((0,0),0,[]),p)) ?_).trans ?_
 ·refine (cndF rfl).trans ?_
  rw [show IntKind.wrap .i64 (((p.length:Nat):Int) - 12)=_ from w,gdT (dt (by omega)),g1,bdI]
  cases decide (((p.length:Nat):Int) - 12 > 1000) <;> rfl
 ·dsimp only
  cases (decide (((p.length:Nat):Int) - 12 > 1000) || (getI (p.drop 10) 2 != ((p.length:Nat):Int) - 12)) with
  | true=>rfl
  | false =>
   have ht:List.take (p.length - (12:Int).toNat) (List.drop (12:Int).toNat p)=p.drop 12:=List.take_of_length_le (by simp)
   rw [cndF rfl,gdT (dt (by omega)),gdT (dt (by omega)),gdT (dt (by omega)),g2,bdI,gdT (dt (by omega)),ht,gdT (dt (by simp;omega))]
   rfl
theorem Aib {b:List UInt8} {f:Ft} (hb:b.length≤1000000):o131 b f.e=some (carry b f):=by
 unfold o131 carry
 cases hl:f.lost with
 | true=>exact cndT hl
 | false =>
 refine (cndF hl).trans ((gdT (dt (by simp;omega))).trans ?_)
 rw [cond_false]
 have w8:IntKind.i64.wrap (8*((b.length:Nat):Int))=8*((b.length:Nat):Int):=AM (by omega)
 by_cases hr: -31≤f.bit∧f.bit < 8*((b.length:Nat):Int)
 ·rw [w8,df (by omega:¬ f.bit < -31),df (by omega:¬ f.bit≥8*((b.length:Nat):Int)),Bool.or_false,cond_false]
  refine AJ (fun i=>((b,((i:Nat):Int)),f.e,flipL f b i)) 32 rfl (fun i hi=>?_) ?_ (by omega)
  ·have w1:IntKind.i64.wrap (0 - ((i:Nat):Int)) = - ((i:Nat):Int):=by rw [AM (by omega)];omega
   have w2:IntKind.i64.wrap (8*((b.length:Nat):Int) - ((i:Nat):Int))=8*((b.length:Nat):Int) - ((i:Nat):Int):=AM (by omega)
   have w3:IntKind.i64.wrap (f.bit+((i:Nat):Int))=f.bit+((i:Nat):Int):=AM (by omega)
   have w4:IntKind.i64.wrap (((i:Nat):Int)+1)=((i+1:Nat):Int):=by rw [AM (by omega)];omega
   have hfl:flips f ((b.length:Nat):Int) i=((landK .u32 (shrK .u32 f.pat ((i:Nat):Int)) 1==1)&&(decide (f.bit ≥ - ((i:Nat):Int))&&decide (f.bit < 8*((b.length:Nat):Int) - ((i:Nat):Int)))):=by
    unfold flips
    rw [w3,w8,show decide (f.bit+((i:Nat):Int)≥0)=decide (f.bit ≥ - ((i:Nat):Int)) from decide_eq_decide.2 (by omega),show decide (f.bit+((i:Nat):Int) < 8*((b.length:Nat):Int))=decide (f.bit < 8*((b.length:Nat):Int) - ((i:Nat):Int)) from decide_eq_decide.2 (by omega)]
   unfold HD
   dsimp only
   refine (cndT (dt (by omega))).trans ?_
   refine (bdS (t:=((b,((i:Nat):Int)),flips f ((b.length:Nat):Int) i,f.e,flipL f b i)) ?_).trans ?_
   ·rw [hfl]
    refine (gdT (dt (by omega))).trans ?_
    show cnd (landK .u32 (shrK .u32 f.pat ((i:Nat):Int)) 1==1) (cnd (decide (f.bit≥IntKind.i64.wrap (0 - ((i:Nat):Int)))) (some (_,decide (f.bit < IntKind.i64.wrap (IntKind.i64.wrap (8*((b.length:Nat):Int)) - ((i:Nat):Int))),_)) _) _=_
    rw [w1,w8,w2]
    cases (landK .u32 (shrK .u32 f.pat ((i:Nat):Int)) 1==1) <;> cases decide (f.bit ≥ - ((i:Nat):Int)) <;> rfl
   ·have hlen:=EF f b i
    have hu:flipL f b (i+1)=cond (flips f ((b.length:Nat):Int) i) (Uy (flipL f b i) (IntKind.i64.wrap (f.bit+((i:Nat):Int)))) (flipL f b i):=rfl
    rw [hu]
    cases hc:flips f ((b.length:Nat):Int) i with
    | false =>
     rw [cndF rfl,show IntKind.wrap .i64 (((i:Nat):Int)+1)=_ from w4];rfl
    | true =>
     rw [hfl] at hc
     simp only [Bool.and_eq_true,decide_eq_true_eq] at hc
     have h8:Int.tdiv (f.bit+((i:Nat):Int)) 8=(f.bit+((i:Nat):Int)) / 8:=Int.tdiv_eq_ediv_of_nonneg (by omega)
     have h9:Int.tmod (f.bit+((i:Nat):Int)) 8=(f.bit+((i:Nat):Int)) % 8:=Int.tmod_eq_emod_of_nonneg (by omega)
     have w5:IntKind.i64.wrap ((f.bit+((i:Nat):Int)) / 8)=(f.bit+((i:Nat):Int)) / 8:=AM (by omega)
     rw [cndT rfl,cond_true]
     have q1:0≤IntKind.wrap .i64 (Int.tdiv (IntKind.wrap .i64 (f.bit+((i:Nat):Int))) 8)∧IntKind.wrap .i64 (Int.tdiv (IntKind.wrap .i64 (f.bit+((i:Nat):Int))) 8) < (((flipL f b i).length:Nat):Int):=by
      rw [w3,h8,w5,hlen];omega
     have q2:0≤Int.tmod (IntKind.wrap .i64 (f.bit+((i:Nat):Int))) 8:=by rw [w3,h9];omega
     refine (gdT (dt q1)).trans ((gdT (dt q2)).trans ((gdT (dt q1)).trans ?_))
     rw [show IntKind.wrap .i64 (((i:Nat):Int)+1)=_ from w4]
     rfl
  ·unfold HD
   refine (cndF (df (by show ¬ ((32:Nat):Int) < 32;decide))).trans ?_
   exact dnS _
 ·have hc:(decide (f.bit < -31) || decide (f.bit≥IntKind.i64.wrap (8*((b.length:Nat):Int))))=true:=by
   rw [w8]
   by_cases h1:f.bit < -31
   ·rw [dt h1];rfl
   ·rw [dt (by omega:f.bit≥8*((b.length:Nat):Int))];simp
  rw [hc,cond_true]
  refine AJ (fun i=>((b,((i:Nat):Int)),f.e,b)) 32 rfl (fun i hi=>?_) ?_ (by omega)
  ·have w1:IntKind.i64.wrap (0 - ((i:Nat):Int)) = - ((i:Nat):Int):=by rw [AM (by omega)];omega
   have w2:IntKind.i64.wrap (8*((b.length:Nat):Int) - ((i:Nat):Int))=8*((b.length:Nat):Int) - ((i:Nat):Int):=AM (by omega)
   have w4:IntKind.i64.wrap (((i:Nat):Int)+1)=((i+1:Nat):Int):=by rw [AM (by omega)];omega
   unfold HD
   dsimp only
   refine (cndT (dt (by omega))).trans ?_
   refine (bdS (t:=((b,((i:Nat):Int)),false,f.e,b)) ?_).trans ?_
   ·refine (gdT (dt (by omega))).trans ?_
    show cnd (landK .u32 (shrK .u32 f.pat ((i:Nat):Int)) 1==1) (cnd (decide (f.bit≥IntKind.i64.wrap (0 - ((i:Nat):Int)))) (some (_,decide (f.bit < IntKind.i64.wrap (IntKind.i64.wrap (8*((b.length:Nat):Int)) - ((i:Nat):Int))),_)) _) _=_
    rw [w1,w8,w2]
    by_cases h2:f.bit ≥ - ((i:Nat):Int)
    ·rw [dt h2,df (by omega:¬ f.bit < 8*((b.length:Nat):Int) - ((i:Nat):Int))]
     cases (landK .u32 (shrK .u32 f.pat ((i:Nat):Int)) 1==1) <;> rfl
    ·rw [df h2]
     cases (landK .u32 (shrK .u32 f.pat ((i:Nat):Int)) 1==1) <;> rfl
   ·rw [cndF rfl,show IntKind.wrap .i64 (((i:Nat):Int)+1)=_ from w4]
  ·unfold HD
   refine (cndF (df (by show ¬ ((32:Nat):Int) < 32;decide))).trans ?_
   exact dnS _
theorem AkS {b:List UInt8} {f:Ft} {label from_ cycle:Int} (hb:b.length≤1000000):o91 b f.e label from_ cycle=some (rcvE (receive b f label from_ cycle)):=by
 unfold o91 receive
 refine (bdS (Aib hb)).trans ?_
 refine Bw (F:=rcvE) ?_ rfl
 refine (bdS (Aia (Nat.le_trans (It b f) hb))).trans ?_
 unfold arrived
 generalize decF (carry b f).2=D
 obtain ⟨x,e⟩:=D
 dsimp only
 refine (bdS (t:=((e != 0 || (x.label != label || (x.from_ != from_ || x.cycle != cycle))),((0,0),0,[]),(x.label,x.from_),x.cycle,x.payload)) ?_).trans ?_
 ·cases (e != 0) <;> cases (x.label != label) <;> cases (x.from_ != from_) <;> rfl
 ·dsimp only
  cases (e != 0 || (x.label != label || (x.from_ != from_ || x.cycle != cycle))) <;> rfl
theorem AkT (f:Frm) (ok:Bool) (ft:Ft) (lab frm cy:Int):o52 f.e ok ft.e lab frm cy=some (rcvE (wire f ok ft lab (IntKind.u8.wrap frm) cy)):=by
 unfold o52 wire
 refine Bw (F:=rcvE) ?_ rfl
 refine (bdS (AkR f)).trans ?_
 refine As (c:=(encF f).1 != 0) (F:=rcvE) rfl ?_
 exact (bdS (AkS (Nat.le_trans (Kz f) (by decide)))).trans rfl
theorem KX {p:List UInt8}:getI p 2=((natL p 2:Nat):Int):=by
 have:=Dd p 2
 unfold getI
 rw [AM (by omega)]
theorem UW {p:List UInt8} {is:Bool} (h:p.length≤1000000):o157 p is=some (((inputC p is).2.1,(inputC p is).2.2),(inputC p is).1):=by
 unfold o157 inputC
 refine As (c:=!is) (F:=fun z:List UInt8×List UInt8×Bool=>((z.2.1,z.2.2),z.1)) rfl ?_
 by_cases h2:((p.length:Nat):Int) < 2
 ·exact (cndT (dt h2)).trans (by rw [dt h2];rfl)
 have hn:=Dd p 2
 have g:=AhT (p:=p) (k:=2) (by omega) (by decide)
 rw [KX] at g
 have w:IntKind.i64.wrap (((p.length:Nat):Int) - 2)=((p.length:Nat):Int) - 2:=AM (by omega)
 refine (cndF (df h2)).trans ((gdT (dt (by omega))).trans ((bdS g).trans ?_))
 rw [df h2,cond_false]
 refine (bdS (t:=(p,((natL p 2:Nat):Int),decide (((natL p 2:Nat):Int) > 400) || decide (((natL p 2:Nat):Int) > ((p.length:Nat):Int) - 2))) ?_).trans ?_
 ·rw [show IntKind.wrap .i64 (((p.length:Nat):Int) - 2)=_ from w]
  cases decide (((natL p 2:Nat):Int) > 400) <;> rfl
 by_cases hb:(decide (((natL p 2:Nat):Int) > 400) || decide (((natL p 2:Nat):Int) > ((p.length:Nat):Int) - 2))=true
 ·exact (cndT hb).trans (by rw [hb];rfl)
 ·have hb:=Bool.eq_false_iff.2 hb
  have hb2:=hb
  simp only [Bool.or_eq_false_iff,decide_eq_false_iff_not] at hb2
  have w2:IntKind.i64.wrap (2+((natL p 2:Nat):Int))=((2+natL p 2:Nat):Int):=by rw [AM (by omega)];omega
  refine (cndF hb).trans ?_
  rw [hb,cond_false]
  dsimp only
  rw [show IntKind.wrap .i64 (2+((natL p 2:Nat):Int))=_ from w2,show ((2+natL p 2:Nat):Int).toNat=2+natL p 2 from rfl,show (2:Int).toNat=2 from rfl,Nat.add_sub_cancel_left]
  refine (gdT (dt (by omega))).trans ((gdT (dt ?_)).trans ((gdT (dt (by omega))).trans rfl))
  simp;omega
theorem Mb {p:List UInt8} (h:p.length≤1000000):KH p=some (unpackC p).e:=by
 unfold KH unpackC
 have hd:(p.drop 1).length≤1000000:=by simp;omega
 refine (bdS (t:=(p,(((p.length:Nat):Int)==0 || decide (((p.getD 0 0).toNat:Int) > 3)))) ?_).trans ?_
 ·by_cases h0:((p.length:Nat):Int)=0
  ·exact (cndT (CF h0)).trans (by rw [CF h0];rfl)
  ·refine (cndF (BN h0)).trans ((gdT (dt (by omega))).trans ?_)
   rw [BN h0,Bool.false_or];rfl
 by_cases hb:(((p.length:Nat):Int)==0 || decide (((p.getD 0 0).toNat:Int) > 3))=true
 ·exact (cndT hb).trans (by rw [hb];rfl)
 have hb:=Bool.eq_false_iff.2 hb
 have hb2:=hb
 simp only [Bool.or_eq_false_iff,beq_eq_false_iff_ne] at hb2
 have hne:=hb2.1
 have d0:(0:Int).toNat=0:=rfl
 have d1:(1:Int).toNat=1:=rfl
 refine (cndF hb).trans ?_
 rw [hb,cond_false]
 dsimp only
 rw [d0,d1,gdT (dt (by omega)),gdT (dt (by omega)),gdT (dt (by omega)),bdS (UW hd)]
 have hl:=JW (p:=p.drop 1) (is:=landK .u8 ((p.getD 0 0).toNat:Int) 1==1)
 generalize inputC (p.drop 1) (landK .u8 ((p.getD 0 0).toNat:Int) 1==1)=A at hl ⊢
 refine As (c:=!A.2.2) (F:=Un.e) rfl ?_
 rw [bdS (UW (Nat.le_trans hl hd))]
 generalize inputC A.2.1 (landK .u8 ((p.getD 0 0).toNat:Int) 2==2)=B
 have hz:(((B.2.1.length:Nat):Int) != 0)=decide (((B.2.1.length:Nat):Int) > 0):=by
  by_cases hq:((B.2.1.length:Nat):Int)=0
  ·rw [AF hq,df (by omega)]
  ·rw [Bb hq,dt (by omega)]
 rw [hz]
 cases B.2.2 with
 | false=>rfl
 | true =>
  dsimp only
  cases decide (((B.2.1.length:Nat):Int) > 0) <;> rfl
theorem Aic {x:Se} (h:x.in_.length≤1000000):o135 x.e=some (putSet x):=by
 unfold o135 putSet
 by_cases h1:x.steps < 0
 ·exact (cndT (dt h1)).trans (by rw [dt h1];rfl)
 refine (cndF (df h1)).trans ?_
 rw [df h1,cond_false]
 refine (bdS (Mb h)).trans ?_
 refine As (c:=(unpackC x.in_).err != 0) (F:=fun z=>z) rfl ?_
 refine (bdS (t:=(cond x.fresh 1 0,x.e)) ?_).trans ((bdS (Gu x.steps)).trans ((gdT (dt (by simp [Av]))).trans ((gdT (dt ?_)).trans rfl)))
 ·show cnd x.fresh _ _=_
  cases x.fresh <;> rfl
 ·show ((putB x.steps 8++[u8 (cond x.fresh 1 0)]).length+x.in_.length)*1≤140737488355328
  simp [Av];omega
theorem Tj {cycle:Int} {p:List UInt8} (h:p.length≤1000000):o96 cycle p=some ((((getSet cycle p).1.steps,(getSet cycle p).1.cycle),(getSet cycle p).1.fresh,(getSet cycle p).2),(getSet cycle p).1.in_):=by
 unfold o96 getSet
 by_cases h1:((p.length:Nat):Int) < 9
 ·refine (bdS (cndT (dt h1))).trans ?_
  rw [dt h1];rfl
 have g:=AhT (p:=p) (k:=8) (by omega) (by decide)
 have hu:=Pf (p.drop 9)
 have hp:putSet ⟨getI p 8,cycle,((p.getD 8 0).toNat:Int)==1,p.drop 9⟩=cond (decide (getI p 8 < 0)) (1,[]) (cond ((unpackC (p.drop 9)).err != 0) ((unpackC (p.drop 9)).err,[]) (0,setB ⟨getI p 8,cycle,((p.getD 8 0).toNat:Int)==1,p.drop 9⟩)):=rfl
 rw [df h1,cond_false,hp]
 refine (bdS (t:=((cycle,p),(decide (getI p 8 < 0) || decide (((p.getD 8 0).toNat:Int) > 1)),false)) ?_).trans ?_
 ·refine (cndF (rfl:false=false)).trans ((gdT (dt (by omega))).trans ((bdS g).trans ?_))
  rw [gdT (dt (by omega))]
  cases decide (getI p 8 < 0) <;> rfl
 dsimp only
 cases hs:decide (getI p 8 < 0) with
 | true =>
  cases decide (((p.getD 8 0).toNat:Int) > 1) <;> rfl
 | false =>
  cases hq:decide (((p.getD 8 0).toNat:Int) > 1) with
  | true=>rfl
  | false =>
   refine (cndF rfl).trans ((gdT (dt (by omega))).trans ((bdS (Mb (by simp;omega))).trans ?_))
   show cnd ((unpackC (p.drop 9)).err != 0) _ _=_
   rcases hu with e | e
   ·rw [e,AF rfl]
    refine (cndF rfl).trans ((gdT (dt (by omega))).trans ((bdS g).trans ((gdT (dt (by omega))).trans ((gdT (dt (by omega))).trans ((gdT (dt (by simp;omega))).trans rfl)))))
   ·rw [e];rfl
theorem Aid (s:Int) (t:Tg):o139 (((s,t.lat),t.ver,t.ph),(t.bank,t.speed),t.alt,t.vs)=some (putRes s t):=by
 unfold o139
 exact (bdS (Gu s)).trans ((gdT (dt (by simp [Av]))).trans ((bdS (Gu t.bank)).trans ((gdT (dt (by simp [Av]))).trans ((bdS (Gu t.speed)).trans ((gdT (dt (by simp [Av]))).trans ((bdS (Gu t.alt)).trans ((gdT (dt (by simp [Av]))).trans ((bdS (Gu t.vs)).trans ((gdT (dt (by simp [Av]))).trans rfl)))))))))
theorem Aie (p:List UInt8):o140 p=some (resE (getRes p)):=by
 unfold o140 getRes
 by_cases h:((p.length:Nat):Int)=43
 rotate_left
 ·exact (cndT (Bb h)).trans (by rw [Bb h];rfl)
 have g0:=AhT (p:=p) (k:=8) (by omega) (by decide)
 have g1:o137 (List.take ((19:Int).toNat - (11:Int).toNat) (List.drop (11:Int).toNat p))=some (getI (p.drop 11) 8):=Ea (j:=11) (k:=8) (by omega) (by decide)
 have g2:o137 (List.take ((27:Int).toNat - (19:Int).toNat) (List.drop (19:Int).toNat p))=some (getI (p.drop 19) 8):=Ea (j:=19) (k:=8) (by omega) (by decide)
 have g3:o137 (List.take ((35:Int).toNat - (27:Int).toNat) (List.drop (27:Int).toNat p))=some (getI (p.drop 27) 8):=Ea (j:=27) (k:=8) (by omega) (by decide)
 have g4:o137 (List.take ((43:Int).toNat - (35:Int).toNat) (List.drop (35:Int).toNat p))=some (getI (p.drop 35) 8):=Ea (j:=35) (k:=8) (by omega) (by decide)
 refine (cndF (AF h)).trans ?_
 rw [AF h,cond_false]
 exact (gdT (dt (by omega))).trans ((gdT (dt (by omega))).trans ((gdT (dt (by omega))).trans ((gdT (dt (by omega))).trans ((bdS g1).trans ((gdT (dt (by omega))).trans ((bdS g2).trans ((gdT (dt (by omega))).trans ((bdS g3).trans ((gdT (dt (by omega))).trans ((bdS g4).trans ((gdT (dt (by omega))).trans ((bdS g0).trans rfl))))))))))))
theorem WL (b i c:Int) (d:List UInt8):(decide (b < 1) || (decide (b > 2305843009213693952) || (decide (c < 1) || (decide (c > 874) || (decide (i < 0) || (decide (i≥c) || decide (((d.length:Nat):Int) > 600))))))) = !validP (b,i,c,d):=by
 have n:∀ {p q:Prop} [Decidable p] [Decidable q],(p↔¬ q)→decide p = !decide q:=fun h=>by
  rename_i p q _ _
  by_cases hq:q
  ·rw [dt hq,df (fun hp=>(h.1 hp) hq)];rfl
  ·rw [df hq,dt (h.2 hq)];rfl
 unfold validP
 simp only [Bool.not_and]
 rw [n (p:=b < 1) (q:=b≥1) (by omega),n (p:=b > 2305843009213693952) (q:=b≤2305843009213693952) (by omega),n (p:=c < 1) (q:=c≥1) (by omega),n (p:=c > 874) (q:=c≤874) (by omega),n (p:=i < 0) (q:=i≥0) (by omega),n (p:=i≥c) (q:=i < c) (by omega),n (p:=((d.length:Nat):Int) > 600) (q:=((d.length:Nat):Int)≤600) (by omega)]
theorem Nn (b i c:Int) (d:List UInt8):o101 ((b,i),c,d)=some (encP (b,i,c,d)):=by
 unfold o101 encP
 refine (bdS (t:=(!validP (b,i,c,d),((b,i),c,d))) ?_).trans ?_
 ·rw [← WL]
  simp only [SQ]
 cases hv:validP (b,i,c,d) with
 | false=>rfl
 | true =>
  obtain ⟨-,-,-,hd⟩:=DD hv
  dsimp only at hd
  refine (cndF rfl).trans ((bdS (Gu b)).trans ((bdS (KW i)).trans ((gdT (dt (by simp [Av]))).trans ((bdS (KW c)).trans ((gdT (dt (by simp [Av]))).trans ((gdT (dt ?_)).trans rfl))))))
  show (((putB b 8++putB i 2)++putB c 2).length+d.length)*1≤140737488355328
  simp [Av];omega
theorem Aif {p:List UInt8} (h:p.length≤1000000):o142 p=some (decE (decP p)):=by
 unfold o142 decP
 by_cases h1:((p.length:Nat):Int) < 12
 ·exact (cndT (dt h1)).trans (by rw [dt h1];rfl)
 have g0:=AhT (p:=p) (k:=8) (by omega) (by decide)
 have g1:o137 (List.take ((10:Int).toNat - (8:Int).toNat) (List.drop (8:Int).toNat p))=some (getI (p.drop 8) 2):=Ea (j:=8) (k:=2) (by omega) (by decide)
 have g2:o137 (List.take ((12:Int).toNat - (10:Int).toNat) (List.drop (10:Int).toNat p))=some (getI (p.drop 10) 2):=Ea (j:=10) (k:=2) (by omega) (by decide)
 rw [df h1,cond_false]
 refine (cndF rfl).trans ((gdT (dt (by omega))).trans ((bdS g0).trans ((gdT (dt (by omega))).trans ((bdS g1).trans ((gdT (dt (by omega))).trans ((bdS g2).trans ((gdT (dt (by omega))).trans ((gdT (dt (by simp;omega))).trans ((bdS (Nn _ _ _ _)).trans ?_)))))))))
 have hr:(getI p 8,getI (p.drop 8) 2,getI (p.drop 10) 2,p.drop 12)=rawP p:=by unfold rawP;rw [KX,KX]
 show cnd ((encP (getI p 8,getI (p.drop 8) 2,getI (p.drop 10) 2,p.drop 12)).1 != 0) _ (some (decE ((getI p 8,getI (p.drop 8) 2,getI (p.drop 10) 2,p.drop 12),0)))=_
 rw [hr]
 unfold encP
 cases validP (rawP p) <;> rfl
theorem Aig (base:Int) (save:List UInt8):o141 base save=some (split base save):=by
 unfold o141 split
 refine (bdS (t:=(base,save,decide (base < 1) || decide (base > 2305843009213693952))) ?_).trans ?_
 ·cases decide (base < 1) <;> rfl
 refine As (F:=fun x=>x) rfl ?_
 by_cases hl:((save.length:Nat):Int) > 524288
 ·exact (cndT (dt hl)).trans (by rw [dt hl];rfl)
 refine (cndF (df hl)).trans ?_
 rw [df hl,cond_false]
 have hq:IntKind.i64.wrap (Int.tdiv (IntKind.i64.wrap (IntKind.i64.wrap (((save.length:Nat):Int)+600) - 1)) 600)=(((save.length+599) / 600:Nat):Int):=by
  rw [show IntKind.i64.wrap (((save.length:Nat):Int)+600)=(save.length:Int)+600 from AM (by omega),show IntKind.i64.wrap ((save.length:Int)+600 - 1)=(save.length:Int)+599 by rw [AM (by omega)];omega,Int.tdiv_eq_ediv_of_nonneg (by omega),AM (by omega)]
  omega
 refine (bdS (t:=(base,save,((pieces save:Nat):Int))) ?_).trans ?_
 ·show cnd (IntKind.i64.wrap (Int.tdiv (IntKind.i64.wrap (IntKind.i64.wrap (((save.length:Nat):Int)+600) - 1)) 600)==0) _ (some (base,save,IntKind.i64.wrap (Int.tdiv (IntKind.i64.wrap (IntKind.i64.wrap (((save.length:Nat):Int)+600) - 1)) 600)))=_
  rw [hq]
  unfold pieces
  by_cases h0:(save.length+599) / 600=0
  ·rw [h0];rfl
  ·rw [BN (by omega),show max ((save.length+599) / 600) 1=(save.length+599) / 600 by omega];rfl
 have hb:pieces save≤874:=by unfold pieces;omega
 have hq:600*pieces save≤save.length+600:=by unfold pieces;omega
 refine AJ (fun i=>((base,save),((pieces save:Nat):Int),((i:Nat):Int),(List.range i).map (pcAt base save))) (pieces save) rfl (fun i hi=>?_) ?_ (by omega)
 ·have h1:IntKind.i64.wrap ((i:Int)*600)=((600*i:Nat):Int):=by rw [AM (by omega)];omega
  have h2:IntKind.i64.wrap ((i:Int)+1)=((i+1:Nat):Int):=by rw [AM (by omega)];omega
  have h3:IntKind.i64.wrap (((i+1:Nat):Int)*600)=((600*(i+1):Nat):Int):=by rw [AM (by omega)];omega
  have hi6:600*i≤save.length:=by unfold pieces at hi;omega
  unfold Nk
  refine (cndT (dt (by show (i:Int) < (pieces save:Int);omega))).trans ?_
  dsimp only
  rw [h1,h2,h3]
  refine (bdS (t:=((base,save,((pieces save:Nat):Int)),(((i:Nat):Int),((600*i:Nat):Int)),((min (600*(i+1)) save.length:Nat):Int),(List.range i).map (pcAt base save))) ?_).trans ?_
  ·by_cases hx:((600*(i+1):Nat):Int) > ((save.length:Nat):Int)
   ·rw [cndT (dt hx),show min (600*(i+1)) save.length=save.length by omega]
   ·rw [cndF (df hx),show min (600*(i+1)) save.length=600*(i+1) by omega]
  ·dsimp only
   rw [h2,gdT (dt (by omega)),show ((min (600*(i+1)) save.length:Nat):Int).toNat=min (600*(i+1)) save.length from rfl,show ((600*i:Nat):Int).toNat=600*i from rfl,gdT (dt (by simp;omega)),gdT (dt (by simp;omega)),List.range_succ,List.map_append]
   rfl
 ·unfold Nk
  refine (cndF (df (by show ¬ (pieces save:Int) < (pieces save:Int);omega))).trans ?_
  exact dnS _
theorem WM (ps:List PT) (base have_ steps:Int) (save:List UInt8):Nl ps (base,have_) steps save=some (((serve ps base have_ steps save).1,(serve ps base have_ steps save).2.1.1,(serve ps base have_ steps save).2.1.2.1),(serve ps base have_ steps save).2.1.2.2.1,(serve ps base have_ steps save).2.1.2.2.2,(serve ps base have_ steps save).2.2):=by
 unfold Nl serve
 have d0:(0:Int).toNat=0:=rfl
 refine (bdS (t:=((steps,save),hit ps base have_,ps,base,have_)) ?_).trans ?_
 ·unfold hit
  dsimp only
  by_cases h:((ps.length:Nat):Int) > 0
  ·rw [cndT (dt h),dt h,gdT (dt (by omega)),d0,Bool.true_and]
   have hs:((ps.getD 0 ((0:Int),(0:Int),(0:Int),([]:List UInt8))).1==base)=(base==(ps.getD 0 ((0:Int),(0:Int),(0:Int),([]:List UInt8))).1):=by
    by_cases e:base=(ps.getD 0 ((0:Int),(0:Int),(0:Int),([]:List UInt8))).1
    ·rw [CF e,CF e.symm]
    ·rw [BN e,BN (fun x=>e x.symm)]
   rw [← hs]
   cases ((ps.getD 0 ((0:Int),(0:Int),(0:Int),([]:List UInt8))).1==base) <;> cases decide (have_≥0) <;> rfl
  ·rw [cndF (df h),df h];rfl
 by_cases hh:hit ps base have_=true
 ·refine (cndT hh).trans ?_
  rw [hh,cond_true]
  have hr:0≤have_∧have_ < (ps.length:Int):=by
   unfold hit at hh
   simp only [Bool.and_eq_true,decide_eq_true_eq] at hh
   exact ⟨hh.2.2.1,hh.2.2.2⟩
  exact (gdT (dt hr)).trans rfl
 ·have hh:hit ps base have_=false:=by simpa using hh
  refine (cndF hh).trans ?_
  rw [hh,cond_false]
  refine (bdS (Aig steps save)).trans ?_
  have hs:(split steps save).1=0→(split steps save).2=splitL steps save:=by
   unfold split
   cases (decide (steps < 1) || decide (steps > 2305843009213693952)) with
   | true=>intro h;cases h
   | false =>
    cases decide ((save.length:Int) > 524288) with
    | true=>intro h;cases h
    | false=>exact fun _=>rfl
  by_cases hz:(split steps save).1=0
  ·refine (cndF (AF hz)).trans ?_
   rw [AF hz,cond_false]
   have hpos:=Kh save
   refine (gdT (dt ?_)).trans rfl
   show 0≤0∧(0:Int) < (((split steps save).2.length:Nat):Int)
   rw [hs hz,Kg];omega
  ·refine (cndT (Bb hz)).trans ?_
   rw [Bb hz];rfl
theorem Adk (c:Co):AcN c.e=some c.want:=rfl
theorem HL {c:Co} {x:Se} {came:Bool} (hc:c.ss.length≤1000000):UT c.e x.e came=some (c.note x came).e:=by
 unfold UT Co.note
 refine As (c:=(c.ps.length:Int)==0) (F:=Co.e) rfl ?_
 refine (bdS (t:=(c.misses x came,c.e,x.e)) ?_).trans ?_
 ·unfold Co.misses
  show cnd (!came) _ (cnd (x.steps != IntKind.i64.wrap (c.base+(c.ss.length:Int))) _ (cnd x.fresh _ _))=_
  cases came <;> cases (x.steps != IntKind.i64.wrap (c.base+(c.ss.length:Int))) <;> cases hf:x.fresh <;> rfl
 ·refine As (F:=Co.e) rfl ?_
  refine (gdT (dt ?_)).trans ((gdT (dt ?_)).trans rfl)
  ·show (([]:List ST).length+c.ss.length)*48≤140737488355328
   simp;omega
  ·show (([]++c.ss).length+1)*48≤140737488355328
   simp;omega
theorem WN {c:Co} (b i n:Int) (d:List UInt8) (hc:c.ps.length≤1000000):KO c.e ((b,i),n,d)=some (c.take (b,i,n,d)).e:=by
 unfold KO Co.take
 refine (bdS (Nn b i n d)).trans ?_
 have he:((encP (b,i,n,d)).1 != 0) = !validP (b,i,n,d):=by unfold encP;cases validP (b,i,n,d) <;> rfl
 show cnd ((encP (b,i,n,d)).1 != 0) _ _=_
 rw [he]
 refine Bw (c:=validP (b,i,n,d)) (F:=Co.e) ?_ rfl
 refine (bdS (t:=(c.fitsP (b,i,n,d),c.e,(b,i),n,d)) ?_).trans ?_
 ·unfold Co.fitsP
  show cnd (decide ((c.ps.length:Int) > 0)) (cnd (b==c.base) (cnd (n==c.count) _ _) _) _=_
  cases decide ((c.ps.length:Int) > 0) <;> cases (b==c.base) <;> cases (n==c.count) <;> rfl
 ·refine As (F:=Co.e) ?_ ?_
  ·refine (gdT (dt ?_)).trans ((gdT (dt ?_)).trans rfl)
   ·show (([]:List (List UInt8)).length+c.ps.length)*24≤140737488355328
    simp;omega
   ·show (([]++c.ps).length+1)*24≤140737488355328
    simp;omega
  ·exact As (F:=Co.e) rfl rfl
theorem WO {c:Co} (hl:c.ps.length≤2000) (hx:∀ x∈c.ps,x.length≤1000) (hn:((c.ps.length:Nat):Int)≤c.count∨c.ps=[]):Nm c.e=some (cond c.ready ((c.base,c.ss,true),c.ps.flatten) ((0,[],false),[])):=by
 have hr:(((c.ps.length:Nat):Int)==0 || decide (((c.ps.length:Nat):Int) < c.count)) = !c.ready:=by
  unfold Co.ready
  rw [Bool.not_not]
  by_cases h0:((c.ps.length:Nat):Int)=0
  ·rw [CF h0];rfl
  ·rw [BN h0,Bool.false_or,Bool.false_or]
   rcases hn with hn | hn
   ·by_cases h1:((c.ps.length:Nat):Int)=c.count
    ·rw [AF h1,df (by omega)]
    ·rw [Bb h1,dt (by omega)]
   ·rw [hn] at h0;exact absurd rfl h0
 unfold Nm
 refine (bdS (t:=(!c.ready,c.e)) ?_).trans ?_
 ·rw [← hr]
  show cnd (((c.ps.length:Nat):Int)==0) _ _=_
  cases (((c.ps.length:Nat):Int)==0) <;> rfl
 refine Bw (c:=c.ready) (F:=fun z=>z) ?_ rfl
 refine AJ (fun i=>((c.ps,((c.ps.length:Nat):Int)),((i:Nat):Int),(c.base,c.ss),(c.ps.take i).flatten)) c.ps.length rfl (fun i hi=>?_) ?_ (by omega)
 ·have h3:=Cs c.ps i hx
  have h2:(c.ps.getD i []).length≤1000:=by rw [BX hi];exact hx _ (List.getElem_mem hi)
  unfold Iz
  refine (cndT (dt (by show (i:Int) < (c.ps.length:Int);omega))).trans ((gdT (dt (by show (0:Int)≤i∧(i:Int) < (c.ps.length:Int);omega))).trans ((gdT (dt ?_)).trans ?_))
  ·show ((c.ps.take i).flatten.length+(c.ps.getD i []).length)*1≤140737488355328
   omega
  ·dsimp only
   rw [show (i:Int).toNat=i from rfl,← CL c.ps hi,show IntKind.wrap .i64 ((i:Int)+1)=((i+1:Nat):Int) by rw [show IntKind.wrap .i64 ((i:Int)+1)=(i:Int)+1 from AM (by omega)];omega]
 ·unfold Iz
  refine (cndF (df (by show ¬ (c.ps.length:Int) < (c.ps.length:Int);omega))).trans ?_
  dsimp only
  rw [List.take_length]
  exact dnS _
def rNd (n:Nd) (fr:Bool):=((((n.number,n.role),n.steps,n.alone,n.next),(n.cycle,n.input,fr),n.is,n.hd.role,n.hd.steps),((n.hd.base,n.hd.have_),n.hd.input,n.has,n.tt.lat),(n.tt.ver,n.tt.ph,n.tt.bank),n.tt.speed,n.tt.alt,n.tt.vs)
def WP (n:Nd) (fr:Bool) (f:Frm) (e:Int):=(((((n.number,n.role,n.steps),n.alone,n.next,n.cycle),(n.input,fr,n.is),(n.hd.role,n.hd.steps),n.hd.base,n.hd.have_),((n.hd.input,n.has,n.tt.lat),n.tt.ver,n.tt.ph,n.tt.bank),(n.tt.speed,n.tt.alt,n.tt.vs),(f.label,f.from_),f.cycle,e),f.payload)
def AkU (n:Nd) (fr:Bool) (h:Hd) (is:Bool) (e:Int):=((((n.number,n.role,n.steps),(n.alone,n.next),n.cycle,n.input),(fr,n.is,n.hd.role),(n.hd.steps,n.hd.base),n.hd.have_,n.hd.input),((n.has,n.tt.lat,n.tt.ver),(n.tt.ph,n.tt.bank),n.tt.speed,n.tt.alt),((n.tt.vs,h.role),h.steps,h.base),(h.have_,h.input),is,e)
def Ll (n:Nd) (fr:Bool) (f:Frm) (ok:Bool) (e:Int):=(((((n.number,n.role,n.steps),n.alone,n.next,n.cycle),(n.input,fr,n.is),(n.hd.role,n.hd.steps),n.hd.base,n.hd.have_),((n.hd.input,n.has,n.tt.lat),(n.tt.ver,n.tt.ph),n.tt.bank,n.tt.speed),(n.tt.alt,n.tt.vs,f.label),(f.from_,f.cycle),ok,e),f.payload)
def Adl (n:Nd) (fr:Bool) (x:Se) (ok:Bool) (e:Int):=(((((n.number,n.role,n.steps),n.alone,n.next,n.cycle),(n.input,fr,n.is),(n.hd.role,n.hd.steps),n.hd.base,n.hd.have_),((n.hd.input,n.has,n.tt.lat),(n.tt.ver,n.tt.ph),n.tt.bank,n.tt.speed),(n.tt.alt,n.tt.vs,x.steps),(x.cycle,x.fresh),ok,e),x.in_)
def Adm (n:Nd) (fr:Bool) (s e:Int):=((((n.number,n.role,n.steps),n.alone,n.next,n.cycle),(n.input,fr,n.is),n.hd.role,n.hd.steps,n.hd.base),((n.hd.have_,n.hd.input,n.has),n.tt.lat,n.tt.ver,n.tt.ph),(n.tt.bank,n.tt.speed,n.tt.alt),n.tt.vs,s,e)
def QX (n:Nd) (fr:Bool) (e:Int):=((((n.number,n.role),n.steps,n.alone,n.next),(n.cycle,n.input,fr),n.is,n.hd.role,n.hd.steps),((n.hd.base,n.hd.have_,n.hd.input),n.has,n.tt.lat,n.tt.ver),(n.tt.ph,n.tt.bank,n.tt.speed),n.tt.alt,n.tt.vs,e)
theorem KY (n:Nd) (fr:Bool) (f:Frm) (came:Bool) (l:Int):EP (rNd n fr) f.e came l=some (n.fits f came l):=by
 unfold EP Nd.fits
 refine (bdS (t:=came&&(f.label==l&&(f.from_==IntKind.u8.wrap (IntKind.i64.wrap (3 - n.number))&&f.cycle==n.cycle))) ?_).trans rfl
 show cnd came (cnd (f.label==l) (cnd (f.from_==IntKind.u8.wrap (IntKind.i64.wrap (3 - n.number))) _ _) _) _=_
 cases came <;> cases (f.label==l) <;> cases (f.from_==IntKind.u8.wrap (IntKind.i64.wrap (3 - n.number))) <;> rfl
theorem UX (one:List UInt8) (isOne:Bool) (two:List UInt8) (isTwo:Bool):o156 one isOne two isTwo=some (packC one isOne two isTwo):=by
 unfold o156 packC
 refine (bdS (t:=((one,isOne),two,isTwo,long one isOne two isTwo)) ?_).trans ?_
 ·unfold long
  cases isOne <;> cases isTwo <;> cases decide (((one.length:Nat):Int) > (400:Int)) <;> rfl
 cases hb:long one isOne two isTwo with
 | true=>rfl
 | false =>
  unfold long at hb
  simp only [Bool.or_eq_false_iff,Bool.and_eq_false_iff,decide_eq_false_iff_not] at hb
  have h1:isOne=true→one.length≤400:=fun e=>by
   rcases hb.1 with h | h
   ·rw [e] at h;cases h
   ·omega
  have h2:isTwo=true→two.length≤400:=fun e=>by
   rcases hb.2 with h | h
   ·rw [e] at h;cases h
   ·omega
  refine (cndF rfl).trans ?_
  cases isOne with
  | false =>
   cases isTwo with
   | false=>rfl
   | true =>
    have:=h2 rfl
    refine (bdS (t:=((one,false),two,true,(0:Int))) rfl).trans ((bdS (t:=((one,false),two,true,(2:Int))) rfl).trans ((bdS (t:=(two,true,[(2:UInt8)])) rfl).trans ((cndT rfl).trans ?_)))
    exact (bdS (KW _)).trans ((gdT (dt (by simp [Av]))).trans ((gdT (dt (by simp [Av];omega))).trans rfl))
  | true =>
   have q1:=h1 rfl
   have g:∀ z:UInt8,bd (o85 ((one.length:Nat):Int) 2) (fun v4=>gd (decide ((([z]:List UInt8).length+v4.length)*1≤140737488355328)) (gd (decide (((([z]:List UInt8)++v4).length+one.length)*1≤140737488355328)) (some (two,isTwo,((([z]:List UInt8)++v4)++one)))))=some (two,isTwo,[z]++Cx one true):=fun z =>
    (bdS (KW _)).trans ((gdT (dt (by simp [Av]))).trans ((gdT (dt (by simp [Av];omega))).trans (by simp [Cx])))
   cases isTwo with
   | false =>
    refine (bdS (g 1)).trans ?_
    show some ((0:Int),[(1:UInt8)]++Cx one true)=_
    simp [Cx,flagB]
   | true =>
    have q2:=h2 rfl
    refine (bdS (g 3)).trans ?_
    exact (cndT rfl).trans ((bdS (KW _)).trans ((gdT (dt (by simp [Cx,Av];omega))).trans ((gdT (dt (by simp [Cx,Av];omega))).trans (by simp [Cx,flagB]))))
theorem Np (n:Nd) (fr:Bool):o136 (rNd n fr)=some ((n.steps,n.cycle,fr),n.packed):=by
 unfold o136 Nd.packed
 refine (bdS (t:=(n.foll,rNd n fr,false)) ?_).trans ?_
 ·unfold Nd.foll
  show cnd n.is (some (n.hd.role==3,rNd n fr,false)) (some (false,rNd n fr,false))=_
  cases n.is <;> rfl
 have hp:∀ (x:List UInt8) (b:Bool) (y:List UInt8),packC x true (cond b y []) b=packC x true y b∧packC (cond b y []) b x true=packC y b x true:=by
  intro x b y
  cases b <;> exact ⟨rfl,rfl⟩
 have h1:=(hp n.input n.foll n.hd.input)
 show cnd (n.number==1) (bd (o156 n.input true n.hd.input n.foll) _) (bd (o156 n.hd.input n.foll n.input true) _)=_
 unfold Nd.other
 rw [h1.1,h1.2,bdS (UX _ _ _ _),bdS (UX _ _ _ _)]
 exact As (c:=n.number==1) (F:=fun z:Int×List UInt8=>((n.steps,n.cycle,fr),z.2)) rfl rfl
theorem AkV (n:Nd) (fr:Bool) (cy:Int) {inp:List UInt8} (hi:inp.length≤1000) (b h:Int):UP (rNd n fr) cy inp (b,h)=some (WP (n.hello cy inp b h).1 (cond ((n.hello cy inp b h).2.2==0) false fr) (n.hello cy inp b h).2.1 (n.hello cy inp b h).2.2):=by
 have hF:∀ z:Nd×Frm×Int,(fun s:Nd×Frm×Int=>WP s.1 (cond (s.2.2==0) false fr) s.2.1 s.2.2) z=WP z.1 (cond (z.2.2==0) false fr) z.2.1 z.2.2:=fun _=>rfl
 rw [← hF]
 unfold UP Nd.hello
 refine As (c:=n.next != 0) (F:=fun s:Nd×Frm×Int=>WP s.1 (cond (s.2.2==0) false fr) s.2.1 s.2.2) rfl ?_
 refine As (c:=decide (cy < 0)) (F:=fun s:Nd×Frm×Int=>WP s.1 (cond (s.2.2==0) false fr) s.2.1 s.2.2) rfl ?_
 refine (bdS (AhU ⟨n.role,n.steps,b,h,inp⟩)).trans ?_
 by_cases he:(putHello ⟨n.role,n.steps,b,h,inp⟩).1=0
 ·refine (cndF (AF he)).trans ((gdT (dt (by simp;omega))).trans ?_)
  rw [AF he];rfl
 ·refine (cndT (Bb he)).trans ?_
  rw [Bb he,cond_true]
  show _=some (WP n (cond ((putHello ⟨n.role,n.steps,b,h,inp⟩).1==0) false fr) noFrm _)
  rw [BN he];rfl
theorem AkW (n:Nd):o93 (rNd n n.fresh)=some (Ll n.share.1 n.fresh n.share.2.1 n.share.2.2.1 n.share.2.2.2):=by
 have hF:∀ z:Nd×Frm×Bool×Int,(fun s:Nd×Frm×Bool×Int=>Ll s.1 n.fresh s.2.1 s.2.2.1 s.2.2.2) z=Ll z.1 n.fresh z.2.1 z.2.2.1 z.2.2.2:=fun _=>rfl
 rw [← hF]
 unfold o93 Nd.share
 refine As (c:=n.next != 2) (F:=fun s:Nd×Frm×Bool×Int=>Ll s.1 n.fresh s.2.1 s.2.2.1 s.2.2.2) rfl ?_
 refine As (c:=n.role != 2) (F:=fun s:Nd×Frm×Bool×Int=>Ll s.1 n.fresh s.2.1 s.2.2.1 s.2.2.2) rfl ?_
 exact (bdS (Np { n with next:=3 } n.fresh)).trans ((bdS (Aic (x:=n.shared.se) (Nat.le_trans (Nd.packed_len n) (by decide)))).trans rfl)
theorem AkX (n:Nd) (fr:Bool) (t:Tg):o98 (rNd n fr) t.e=some (Ll (n.tell t).1 fr (n.tell t).2.1 (n.tell t).2.2.1 (n.tell t).2.2.2):=by
 have hF:∀ z:Nd×Frm×Bool×Int,(fun s:Nd×Frm×Bool×Int=>Ll s.1 fr s.2.1 s.2.2.1 s.2.2.2) z=Ll z.1 fr z.2.1 z.2.2.1 z.2.2.2:=fun _=>rfl
 rw [← hF]
 unfold o98 Nd.tell
 refine As (c:=n.next != 4) (F:=fun s:Nd×Frm×Bool×Int=>Ll s.1 fr s.2.1 s.2.2.1 s.2.2.2) rfl ?_
 exact Bw (c:=n.has) (F:=fun s:Nd×Frm×Bool×Int=>Ll s.1 fr s.2.1 s.2.2.1 s.2.2.2) ((bdS (Aid n.steps t)).trans rfl) rfl
theorem Aih (n r s a:Int) (h:Bool) (o t:Int):o134 n r s a h o t=some (decR n r s a h o t):=by
 unfold o134 decR JP
 by_cases h2:o=2
 ·subst h2
  refine (bdS (t:=((n,r,s),(a,h),(2:Int),t)) rfl).trans ?_
  dsimp only
  by_cases r2:r=2
  ·subst r2
   cases h <;> cases decide (t > s) <;> cases (t==s) <;> cases (n==2) <;> rfl
  ·rw [BN r2,cndF rfl,cond_false]
   by_cases r3:r=3
   ·subst r3
    cases h with
    | false=>rfl
    | true =>
     refine (cndT rfl).trans ((bdS (t:=((n,s),(2:Int),t,false)) rfl).trans ?_)
     dsimp only
     cases (t==s) <;> rfl
   ·rw [BN r3,cndF rfl,cond_false]
    cases h <;> cases decide (a≥3) <;> rfl
 ·by_cases h3:o=3
  ·subst h3
   refine (bdS (t:=((n,r,s),(a,h),(3:Int),t)) rfl).trans ?_
   dsimp only
   by_cases r2:r=2
   ·subst r2
    cases h <;> rfl
   ·rw [BN r2,cndF rfl,cond_false]
    by_cases r3:r=3
    ·subst r3
     cases h with
     | false=>rfl
     | true =>
      refine (cndT rfl).trans ((bdS (t:=((n,s),(3:Int),t,false)) rfl).trans ?_)
      dsimp only
      cases decide (t > s) <;> cases decide (t < s) <;> cases (n==1) <;> rfl
    ·rw [BN r3,cndF rfl,cond_false]
     cases h <;> cases decide (a≥3) <;> rfl
  ·have e2:(o==2)=false:=BN h2
   have n2:(o != 2)=true:=Bb h2
   have n3:(o != 3)=true:=Bb h3
   refine (bdS (t:=((n,r,s),(a,h),(1:Int),t)) ?_).trans ?_
   ·rw [n2,n3];rfl
   dsimp only
   rw [e2,n2,n3]
   by_cases r2:r=2
   ·subst r2
    cases h <;> rfl
   ·rw [BN r2,cndF rfl,cond_false]
    by_cases r3:r=3
    ·subst r3
     cases h <;> rfl
    ·rw [BN r3,cndF rfl,cond_false]
     cases h <;> cases decide (a≥3) <;> cases (n==1) <;> rfl
theorem jdG {α ρ:Type} {x:Option (Ctl α ρ)} {t:α} {k:α→Option ρ} (h:x=some (.go t)):jd x k=k t:=by subst h;rfl
theorem jdD {α ρ:Type} {x:Option (Ctl α ρ)} {r:ρ} {k:α→Option ρ} (h:x=some (.done r)):jd x k=some r:=by subst h;rfl
theorem Apw {n:Nd} (hh:n.has=true) {α:Type} (x y:α):cond n.has x y=x:=by rw [hh];rfl
theorem Gv {n:Nd} (hh:n.has=false) {α:Type} (x y:α):cond n.has x y=y:=by rw [hh];rfl
theorem AkY {n:Nd} {f:Frm} {came:Bool} (hh:n.has=false) (hr:n.role=1∨n.role=2∨n.role=3) (hs:n.role=2→n.se=n.shared.se) (hf:f.payload.length≤1000000) :
  o94 (rNd n n.fresh) f.e came=some (Adl (n.step f came).1 n.fresh (n.step f came).2.1 (n.step f came).2.2.1 (n.step f came).2.2.2):=by
 have hF:∀ z:Nd×Se×Bool×Int,(fun s:Nd×Se×Bool×Int=>Adl s.1 n.fresh s.2.1 s.2.2.1 s.2.2.2) z=Adl z.1 n.fresh z.2.1 z.2.2.1 z.2.2.2:=fun _=>rfl
 rw [← hF]
 unfold o94 Nd.step
 refine As (c:=n.next != 3) (F:=fun s:Nd×Se×Bool×Int=>Adl s.1 n.fresh s.2.1 s.2.2.1 s.2.2.2) rfl ?_
 rcases hr with r | r | r
 ·refine (cndT (CF r)).trans ?_
  have hst:n.stepped f came={ n with next:=4 }:=by
   unfold Nd.stepped
   rw [BN (by omega:n.role≠2),cond_false,BN (by omega:n.role≠3),cond_false]
  rw [hst,Gv (n:={ n with next:=4 }) hh]
  rfl
 ·refine Eq.trans (cndF (BN (show n.role≠1 by omega))) (Eq.trans (bdS (Np { n with next:=4 } n.fresh)) (Eq.trans (jdG (cndF (BN (show n.role≠3 by omega)))) ?_))
  have hst:n.stepped f came={ n with next:=4,has:=true }:=by
   unfold Nd.stepped
   rw [CF r,cond_true]
  rw [hst]
  show _=some (Adl _ _ n.se true 0)
  rw [hs r];rfl
 ·refine Eq.trans (cndF (BN (show n.role≠1 by omega))) (Eq.trans (bdS (Np { n with next:=4 } n.fresh)) ?_)
  have hst:n.stepped f came=cond (n.took f came).has (n.took f came) (n.took f came).out:=by
   unfold Nd.stepped
   rw [BN (by omega:n.role≠2),cond_false,CF r,cond_true]
  rw [hst]
  unfold Nd.took
  have hfit:EP (rNd { n with next:=4 } n.fresh) f.e came 2=some (n.fits f came 2):=KY { n with next:=4 } n.fresh f came 2
  cases hc:n.fits f came 2 with
  | false =>
   rw [hc] at hfit
   refine Eq.trans (jdD (Eq.trans (cndT (CF r)) (Eq.trans (bdS (Eq.trans (bdS hfit) (cndF rfl))) (Eq.trans (bdS (cndT rfl)) (Eq.trans (cndT rfl) (dnS _)))))) ?_
   rw [cond_false]
   rw [Gv (n:={ n with next:=4 }) hh,Gv (n:=Nd.out { n with next:=4 }) hh]
   rfl
  | true =>
   rw [hc] at hfit
   rw [cond_true]
   unfold Nd.okSet
   have g:=Tj (cycle:=n.cycle) hf
   generalize getSet n.cycle f.payload=S at g
   obtain ⟨x,e⟩:=S
   dsimp only at g ⊢
   by_cases he:e=0
   ·subst he
    by_cases hfr:x.fresh=true
    ·refine Eq.trans (jdD (Eq.trans (cndT (CF r)) (Eq.trans (bdS (Eq.trans (bdS hfit) (Eq.trans (cndT rfl) (bdS g)))) (Eq.trans (bdS (Eq.trans (cndF rfl) (cndT hfr))) (Eq.trans (cndT rfl) (dnS _)))))) ?_
     have hok:(((0:Int)==0)&&(!x.fresh&&x.steps==n.steps))=false:=by rw [hfr];rfl
     rw [hok,cond_false,Gv (n:={ n with next:=4 }) hh,Gv (n:=Nd.out { n with next:=4 }) hh]
     rfl
    ·have hfr:=Bool.eq_false_iff.2 hfr
     by_cases hsx:x.steps=n.steps
     ·refine Eq.trans (jdG (Eq.trans (cndT (CF r)) (Eq.trans (bdS (Eq.trans (bdS hfit) (Eq.trans (cndT rfl) (bdS g)))) (Eq.trans (bdS (Eq.trans (cndF rfl) (cndF hfr))) (cndF (AF hsx)))))) ?_
      have hok:(((0:Int)==0)&&(!x.fresh&&x.steps==n.steps))=true:=by rw [hfr,CF hsx];rfl
      rw [hok,cond_true]
      rfl
     ·refine Eq.trans (jdD (Eq.trans (cndT (CF r)) (Eq.trans (bdS (Eq.trans (bdS hfit) (Eq.trans (cndT rfl) (bdS g)))) (Eq.trans (bdS (Eq.trans (cndF rfl) (cndF hfr))) (Eq.trans (cndT (Bb hsx)) (dnS _)))))) ?_
      have hok:(((0:Int)==0)&&(!x.fresh&&x.steps==n.steps))=false:=by rw [hfr,BN hsx];rfl
      rw [hok,cond_false,Gv (n:={ n with next:=4 }) hh,Gv (n:=Nd.out { n with next:=4 }) hh]
      rfl
   ·refine Eq.trans (jdD (Eq.trans (cndT (CF r)) (Eq.trans (bdS (Eq.trans (bdS hfit) (Eq.trans (cndT rfl) (bdS g)))) (Eq.trans (bdS (cndT (Bb he))) (Eq.trans (cndT rfl) (dnS _)))))) ?_
    have hok:((e==0)&&(!x.fresh&&x.steps==n.steps))=false:=by rw [BN he];rfl
    rw [hok,cond_false,Gv (n:={ n with next:=4 }) hh,Gv (n:=Nd.out { n with next:=4 }) hh]
    rfl
theorem Apx {β:Type} (A B C:Bool) (G:Bool→β):cnd A (some (G true)) (cnd B (some (G C)) (some (G false)))=some (G (cond A true (B&&C))):=by cases A <;> cases B <;> rfl
theorem Apy {β:Type} (A B C:Bool) (G:Bool→β):cnd A (cnd B (some (G C)) (some (G false))) (some (G false))=some (G (A&&(B&&C))):=by cases A <;> cases B <;> rfl
def rJ (m:Nd) (fr:Bool):=((((m.number,m.role),m.steps,m.alone,m.cycle),(m.input,fr),m.is,m.hd.role,m.hd.steps),((m.hd.base,m.hd.have_),m.hd.input,m.has,m.tt.lat),(m.tt.ver,m.tt.ph,m.tt.bank),m.tt.speed,m.tt.alt,m.tt.vs)
theorem AkZ {n:Nd} (fr:Bool) {f:Frm} {came:Bool} (ht:n.has=true→n.ts=n.steps):o99 (rNd n fr) f.e came=some (Adm (n.judge f came).1 fr (n.judge f came).2.1 (n.judge f came).2.2):=by
 have hF:∀ z:Nd×Int×Int,(fun s:Nd×Int×Int=>Adm s.1 fr s.2.1 s.2.2) z=Adm z.1 fr z.2.1 z.2.2:=fun _=>rfl
 rw [← hF]
 unfold o99 Nd.judge
 refine As (c:=n.next != 5) (F:=fun s:Nd×Int×Int=>Adm s.1 fr s.2.1 s.2.2) rfl ?_
 by_cases hh:n.has=true
 rotate_left
 ·have hh:=Bool.eq_false_iff.2 hh
  rw [Gv hh]
  exact cndT (by show (!n.has)=true;rw [hh];rfl)
 ·refine (cndF (by show (!n.has)=false;rw [hh];rfl)).trans ?_
  rw [Apw hh]
  have hfit:EP (rNd { n with next:=0 } fr) f.e came 3=some (n.fits f came 3):=KY { n with next:=0 } fr f came 3
  cases hc:n.fits f came 3 with
  | false =>
   rw [hc] at hfit
   exact Eq.trans (bdS (Eq.trans (bdS hfit) (cndF rfl))) (Eq.trans (cndT rfl) rfl)
  | true =>
   rw [hc] at hfit
   have g:=Aie f.payload
   unfold Nd.verdict
   generalize getRes f.payload=S at g
   obtain ⟨s,t,e⟩:=S
   dsimp only
   by_cases he:e=0
   rotate_left
   ·refine Eq.trans (bdS (Eq.trans (bdS hfit) (Eq.trans (cndT rfl) (bdS g)))) (Eq.trans (cndT (Bb he)) ?_)
    rw [BN he];rfl
   subst he
   refine Eq.trans (bdS (Eq.trans (bdS hfit) (Eq.trans (cndT rfl) (bdS g)))) (Eq.trans (cndF rfl) ?_)
   rw [ht hh]
   have hp:cond (n.role==3) (sameRes s t n.steps n.tt) (n.foll&&sameRes s t n.steps n.tt)=(cond (n.role==3) true n.foll&&sameRes s t n.steps n.tt):=by cases (n.role==3) <;> rfl
   rw [hp]
   refine Eq.trans (bdS (Apx (n.role==3) n.is (n.hd.role==3) (fun z=>((z,rJ n fr),((false,false,false),((s,t.lat),t.ver,t.ph),(t.bank,t.speed),t.alt,t.vs))))) ?_
   refine Eq.trans (bdS (Apy (cond (n.role==3) true (n.is&&n.hd.role==3)) (s==n.steps) ((t.lat==n.tt.lat)&&((t.ver==n.tt.ver)&&((t.ph==n.tt.ph)&&((t.bank==n.tt.bank)&&((t.speed==n.tt.speed)&&((t.alt==n.tt.alt)&&(t.vs==n.tt.vs))))))) (fun z=>(z,rJ n fr,(false,false,false))))) ?_
   exact As (F:=fun z:Int=>Adm { n with next:=0 } fr z 0) rfl rfl
theorem Aii (n:Nd) (fr:Bool) (s:Int):o145 (rNd n fr) s=some (QX (n.adopt s).1 fr (n.adopt s).2):=by
 have hF:∀ z:Nd×Int,(fun s:Nd×Int=>QX s.1 fr s.2) z=QX z.1 fr z.2:=fun _=>rfl
 rw [← hF]
 unfold o145 Nd.adopt
 refine (bdS (t:=((s,(n.next != 0 || n.role != 1)),rNd n fr,false,false,false)) ?_).trans ?_
 ·show cnd (n.next != 0) _ (some ((s,(n.role != 1)),_))=_
  cases (n.next != 0) <;> rfl
 refine As (c:=(n.next != 0 || n.role != 1)) (F:=fun s:Nd×Int=>QX s.1 fr s.2) rfl ?_
 refine (bdS (t:=((s,(decide (s < 1) || decide (s > 4611686018427387904))),rNd n fr,false,false,false)) ?_).trans ?_
 ·show cnd (decide (s < 1)) _ _=_
  cases decide (s < 1) <;> rfl
 exact As (c:=(decide (s < 1) || decide (s > 4611686018427387904))) (F:=fun s:Nd×Int=>QX s.1 fr s.2) rfl rfl
def rX (m:Nd):=(rJ m false,false,false,false)
theorem Ala {n:Nd} {f:Frm} {came:Bool} (h1:n.next=1) (hi:n.is=false) (hd:n.hd=noHd):UQ (rNd n false) f.e came=some (AkU (n.hear f came).1 (n.hear f came).1.fresh (n.hear f came).2.1 (n.hear f came).2.2.1 (n.hear f came).2.2.2):=by
 unfold UQ Nd.hear
 refine (cndF (AF h1)).trans ?_
 rw [AF h1,cond_false]
 have hfit:EP (rNd { n with alone:=IntKind.i64.wrap (n.alone+1),next:=2 } false) f.e came 1=some (n.fits f came 1):=KY { n with alone:=IntKind.i64.wrap (n.alone+1),next:=2 } false f came 1
 have hm:bd (EP (rNd { n with alone:=IntKind.i64.wrap (n.alone+1),next:=2 } false) f.e came 1) (fun v1=>cnd v1 (bd (o133 f.payload) (fun v2=>cnd (v2.1.2.2.2==0) (some (rX { n with alone:=0,is:=true,hd:=⟨v2.1.1.1,v2.1.1.2,v2.1.2.1,v2.1.2.2.1,v2.2⟩ })) (some (rX { n with alone:=IntKind.i64.wrap (n.alone+1) })))) (some (rX { n with alone:=IntKind.i64.wrap (n.alone+1) })))=some (rX (n.heard1 f came).heard2):=by
  refine (bdS hfit).trans ?_
  unfold Nd.heard1
  cases n.fits f came 1 with
  | false =>
   obtain ⟨number,role,steps,alone,next,cycle,input,hd0,is,fresh,se,has,ts,tt⟩:=n
   dsimp only at hi hd
   subst hi;subst hd
   rfl
  | true =>
   rw [cndT rfl,cond_true,bdS (AhV f.payload)]
   generalize getHello f.payload=S
   obtain ⟨h,e⟩:=S
   obtain ⟨number,role,steps,alone,next,cycle,input,hd0,is,fresh,se,has,ts,tt⟩:=n
   dsimp only at hi hd ⊢
   subst hi;subst hd
   unfold Nd.heard2
   by_cases he:e=0
   ·subst he;rfl
   ·rw [BN he];rfl
 refine Eq.trans (bdS hm) ?_
 have e1:(n.heard1 f came).heard2.next=2:=by unfold Nd.heard2;cases (n.heard1 f came).is <;> rfl
 have e2:(n.heard1 f came).heard2.role=n.role:=by
  have:(n.heard1 f came).role=n.role:=by unfold Nd.heard1;cases n.fits f came 1 <;> rfl
  unfold Nd.heard2;cases (n.heard1 f came).is <;> exact this
 have e3:IntKind.i64.wrap 0=0:=rfl
 generalize (n.heard1 f came).heard2=m at e1 e2
 refine (bdS (Aih m.number m.role m.steps m.alone m.is m.hd.role m.hd.steps)).trans ?_
 have e4:m.newRole=decR m.number m.role m.steps m.alone m.is m.hd.role m.hd.steps:=rfl
 rw [← e4,← e2]
 generalize m.newRole=r
 unfold Nd.heard3
 obtain ⟨number,role,steps,alone,next,cycle,input,hd,is,fresh,se,has,ts,tt⟩:=m
 dsimp only at e1
 subst e1
 by_cases r1:r=1
 ·subst r1
  have e:Nd.heard4 (cond ((1:Int)==1) (Nd.out ⟨number,1,steps,alone,2,cycle,input,hd,is,fresh,se,has,ts,tt⟩) ⟨number,1,steps,alone,2,cycle,input,hd,is,fresh,se,has,ts,tt⟩) role=⟨number,1,0,alone,2,cycle,input,hd,is,false,se,has,ts,tt⟩:=by
   have z:(role==1&&(1:Int)==2)=false:=Bool.and_false _
   show (⟨number,1,cond (role==1&&(1:Int)==2) 0 0,alone,2,cycle,input,hd,is,(role==1&&(1:Int)==2),se,has,ts,tt⟩:Nd)=_
   rw [z];rfl
  show _=some (AkU (Nd.heard4 (cond ((1:Int)==1) (Nd.out ⟨number,1,steps,alone,2,cycle,input,hd,is,fresh,se,has,ts,tt⟩) ⟨number,1,steps,alone,2,cycle,input,hd,is,fresh,se,has,ts,tt⟩) role) (Nd.heard4 (cond ((1:Int)==1) (Nd.out ⟨number,1,steps,alone,2,cycle,input,hd,is,fresh,se,has,ts,tt⟩) ⟨number,1,steps,alone,2,cycle,input,hd,is,fresh,se,has,ts,tt⟩) role).fresh (Nd.heard4 (cond ((1:Int)==1) (Nd.out ⟨number,1,steps,alone,2,cycle,input,hd,is,fresh,se,has,ts,tt⟩) ⟨number,1,steps,alone,2,cycle,input,hd,is,fresh,se,has,ts,tt⟩) role).hd (Nd.heard4 (cond ((1:Int)==1) (Nd.out ⟨number,1,steps,alone,2,cycle,input,hd,is,fresh,se,has,ts,tt⟩) ⟨number,1,steps,alone,2,cycle,input,hd,is,fresh,se,has,ts,tt⟩) role).is 0)
  rw [e]
  rfl
 ·have e:Nd.heard4 (cond (r==1) (Nd.out ⟨number,r,steps,alone,2,cycle,input,hd,is,fresh,se,has,ts,tt⟩) ⟨number,r,steps,alone,2,cycle,input,hd,is,fresh,se,has,ts,tt⟩) role=⟨number,r,cond (role==1&&r==2) 0 steps,alone,2,cycle,input,hd,is,(role==1&&r==2),se,has,ts,tt⟩:=by rw [BN r1];rfl
  show _=some (AkU (Nd.heard4 (cond (r==1) (Nd.out ⟨number,r,steps,alone,2,cycle,input,hd,is,fresh,se,has,ts,tt⟩) ⟨number,r,steps,alone,2,cycle,input,hd,is,fresh,se,has,ts,tt⟩) role) (Nd.heard4 (cond (r==1) (Nd.out ⟨number,r,steps,alone,2,cycle,input,hd,is,fresh,se,has,ts,tt⟩) ⟨number,r,steps,alone,2,cycle,input,hd,is,fresh,se,has,ts,tt⟩) role).fresh (Nd.heard4 (cond (r==1) (Nd.out ⟨number,r,steps,alone,2,cycle,input,hd,is,fresh,se,has,ts,tt⟩) ⟨number,r,steps,alone,2,cycle,input,hd,is,fresh,se,has,ts,tt⟩) role).hd (Nd.heard4 (cond (r==1) (Nd.out ⟨number,r,steps,alone,2,cycle,input,hd,is,fresh,se,has,ts,tt⟩) ⟨number,r,steps,alone,2,cycle,input,hd,is,fresh,se,has,ts,tt⟩) role).is 0)
  rw [e]
  refine Eq.trans (bdS (cndF (BN r1))) ?_
  by_cases r2:r=2
  ·subst r2
   by_cases o1:role=1
   ·subst o1;rfl
   ·rw [BN o1]
    refine Eq.trans (bdS (Eq.trans (bdS (cndT rfl)) (cndF (BN o1)))) ?_
    rfl
  ·rw [BN r2,Bool.and_false]
   refine Eq.trans (bdS (Eq.trans (bdS (cndF rfl)) (cndF rfl))) ?_
   rfl
def rC (c:Cp) (fr ak:Bool):=((((c.nd.number,c.nd.role,c.nd.steps),(c.nd.alone,c.nd.next),c.nd.cycle,c.nd.input),(fr,c.nd.is,c.nd.hd.role),(c.nd.hd.steps,c.nd.hd.base),c.nd.hd.have_,c.nd.hd.input),((c.nd.has,c.nd.tt.lat,c.nd.tt.ver),(c.nd.tt.ph,c.nd.tt.bank),c.nd.tt.speed,c.nd.tt.alt),((c.nd.tt.vs,c.ps),c.co.base,c.co.count),(c.co.ps,c.co.ss),ak,c.next)
def Aij (c:Cp) (fr ak:Bool) (f:Frm) (e:Int):=(((((c.nd.number,c.nd.role),c.nd.steps,c.nd.alone),(c.nd.next,c.nd.cycle),c.nd.input,fr),((c.nd.is,c.nd.hd.role),c.nd.hd.steps,c.nd.hd.base),(c.nd.hd.have_,c.nd.hd.input),c.nd.has,c.nd.tt.lat,c.nd.tt.ver),(((c.nd.tt.ph,c.nd.tt.bank),c.nd.tt.speed,c.nd.tt.alt),(c.nd.tt.vs,c.ps),c.co.base,c.co.count),((c.co.ps,c.co.ss),ak,c.next),(f.label,f.from_),f.cycle,f.payload,e)
def Alb (c:Cp) (fr ak:Bool) (e:Int):=((((c.nd.number,c.nd.role,c.nd.steps),(c.nd.alone,c.nd.next),c.nd.cycle,c.nd.input),((fr,c.nd.is),c.nd.hd.role,c.nd.hd.steps),(c.nd.hd.base,c.nd.hd.have_),c.nd.hd.input,c.nd.has),((c.nd.tt.lat,c.nd.tt.ver,c.nd.tt.ph),(c.nd.tt.bank,c.nd.tt.speed),c.nd.tt.alt,c.nd.tt.vs),((c.ps,c.co.base),c.co.count,c.co.ps),(c.co.ss,ak),c.next,e)
def Nq (c:Cp) (fr ak:Bool) (f:Frm) (ok:Bool) (e:Int):=((((((c.nd.number,c.nd.role),c.nd.steps,c.nd.alone),(c.nd.next,c.nd.cycle),c.nd.input,fr),((c.nd.is,c.nd.hd.role),c.nd.hd.steps,c.nd.hd.base),(c.nd.hd.have_,c.nd.hd.input),c.nd.has,c.nd.tt.lat,c.nd.tt.ver),(((c.nd.tt.ph,c.nd.tt.bank),c.nd.tt.speed,c.nd.tt.alt),(c.nd.tt.vs,c.ps),c.co.base,c.co.count),((c.co.ps,c.co.ss),ak,c.next),(f.label,f.from_),f.cycle,ok,e),f.payload)
def Alc (c:Cp) (fr ak:Bool) (x:Se) (ok:Bool) (e:Int):=((((((c.nd.number,c.nd.role),c.nd.steps,c.nd.alone),(c.nd.next,c.nd.cycle),c.nd.input,fr),((c.nd.is,c.nd.hd.role),c.nd.hd.steps,c.nd.hd.base),(c.nd.hd.have_,c.nd.hd.input),c.nd.has,c.nd.tt.lat,c.nd.tt.ver),(((c.nd.tt.ph,c.nd.tt.bank),c.nd.tt.speed,c.nd.tt.alt),(c.nd.tt.vs,c.ps),c.co.base,c.co.count),((c.co.ps,c.co.ss),ak,c.next),(x.steps,x.cycle),x.fresh,ok,e),x.in_)
def Ald (c:Cp) (fr ak:Bool) (s e:Int):=((((c.nd.number,c.nd.role,c.nd.steps),(c.nd.alone,c.nd.next),c.nd.cycle,c.nd.input),((fr,c.nd.is),c.nd.hd.role,c.nd.hd.steps),(c.nd.hd.base,c.nd.hd.have_),c.nd.hd.input,c.nd.has),(((c.nd.tt.lat,c.nd.tt.ver),c.nd.tt.ph,c.nd.tt.bank),(c.nd.tt.speed,c.nd.tt.alt),c.nd.tt.vs,c.ps),((c.co.base,c.co.count),c.co.ps,c.co.ss),(ak,c.next),s,e)
def Adn (c:Cp) (fr ak:Bool) (j:JobT) (ok:Bool) (e:Int):=((((((c.nd.number,c.nd.role),c.nd.steps,c.nd.alone),(c.nd.next,c.nd.cycle),c.nd.input,fr),((c.nd.is,c.nd.hd.role),c.nd.hd.steps,c.nd.hd.base),(c.nd.hd.have_,c.nd.hd.input),c.nd.has,c.nd.tt.lat),(((c.nd.tt.ver,c.nd.tt.ph),c.nd.tt.bank,c.nd.tt.speed),(c.nd.tt.alt,c.nd.tt.vs),c.ps,c.co.base),((c.co.count,c.co.ps),c.co.ss,ak),(c.next,j.1),j.2.2,ok,e),j.2.1)
def AsH (c:Cp) (fr:Bool):=((((c.nd.number,c.nd.alone),c.nd.cycle,c.nd.input,fr),(c.nd.is,c.nd.hd.role),c.nd.hd.steps,c.nd.hd.base,c.nd.hd.have_),((c.nd.hd.input,c.nd.has),c.nd.tt.lat,c.nd.tt.ver,c.nd.tt.ph),(c.nd.tt.bank,c.nd.tt.speed),c.nd.tt.alt,c.nd.tt.vs,false)
structure CoK (c:Co):Prop where
 ok:c.ps=[]∨(1≤c.base∧c.base≤2305843009213693952∧((c.ps.length:Nat):Int)≤c.count)
def EU (fr:Bool) (e:Int):Bool:=cond (e==0) false fr
theorem KZ (n:Nd) (cy:Int) (inp:List UInt8) (b h:Int):(n.hello cy inp b h).2.2=0∨(n.hello cy inp b h).1=n:=by
 unfold Nd.hello
 exact Ai (P:=fun z:Nd×Frm×Int=>z.2.2=0∨z.1=n) (.inr rfl) (Ai (P:=fun z:Nd×Frm×Int=>z.2.2=0∨z.1=n) (.inr rfl) (Ai (P:=fun z:Nd×Frm×Int=>z.2.2=0∨z.1=n) (.inr rfl) (.inl rfl)))
theorem Ado (c:Cp) (fr ak:Bool) (cy:Int) {inp:List UInt8} (hi:inp.length≤1000):QR (rC c fr ak) cy inp=some (Aij (c.hello cy inp).1 (EU fr (c.hello cy inp).2.2) ak (c.hello cy inp).2.1 (c.hello cy inp).2.2):=by
 have hF:∀ z:Cp×Frm×Int,(fun s:Cp×Frm×Int=>Aij s.1 (EU fr s.2.2) ak s.2.1 s.2.2) z=Aij z.1 (EU fr z.2.2) ak z.2.1 z.2.2:=fun _=>rfl
 rw [← hF]
 unfold QR Cp.hello
 refine As (c:=c.next != 0) (F:=fun s:Cp×Frm×Int=>Aij s.1 (EU fr s.2.2) ak s.2.1 s.2.2) rfl ?_
 have e:=AkV c.nd fr cy hi c.w.1 c.w.2
 unfold Cp.began
 by_cases r:c.nd.role=1
 ·have hw:c.w=c.co.want:=by unfold Cp.w;rw [CF r];rfl
  refine Eq.trans (bdS (Eq.trans (cndT (CF r)) (bdS (Adk c.co)))) ?_
  rw [hw] at e
  refine Eq.trans (bdS e) ?_
  rw [hw]
  have hx:=KZ c.nd cy inp c.co.want.1 c.co.want.2
  generalize c.nd.hello cy inp c.co.want.1 c.co.want.2=x at hx ⊢
  obtain ⟨n,f,er⟩:=x
  dsimp only at hx ⊢
  by_cases he:er=0
  ·subst he
   exact Eq.trans (bdS (cndT rfl)) rfl
  ·have hn:n=c.nd:=hx.resolve_left he
   subst hn
   rw [Bf (α:=Cp×Frm×Int) (BN he)]
   refine Eq.trans (bdS (cndF (BN he))) ?_
   dsimp only
   rw [show EU fr er=fr by unfold EU;rw [BN he];rfl]
   rfl
 ·have hw:c.w=(0,0):=by unfold Cp.w;rw [BN r];rfl
  refine Eq.trans (bdS (cndF (BN r))) ?_
  rw [hw] at e
  refine Eq.trans (bdS e) ?_
  rw [hw]
  have hx:=KZ c.nd cy inp ((0:Int),(0:Int)).1 ((0:Int),(0:Int)).2
  generalize c.nd.hello cy inp ((0:Int),(0:Int)).1 ((0:Int),(0:Int)).2=x at hx ⊢
  obtain ⟨n,f,er⟩:=x
  dsimp only at hx ⊢
  by_cases he:er=0
  ·subst he
   exact Eq.trans (bdS (cndT rfl)) rfl
  ·have hn:n=c.nd:=hx.resolve_left he
   subst hn
   rw [Bf (α:=Cp×Frm×Int) (BN he)]
   refine Eq.trans (bdS (cndF (BN he))) ?_
   dsimp only
   rw [show EU fr er=fr by unfold EU;rw [BN he];rfl]
   rfl
def I1 (c:Cp) (fr:Bool):Prop:=c.next=1→c.nd.next=1∧c.nd.is=false∧c.nd.hd=noHd∧fr=false
theorem Adp {c:Cp} {fr ak:Bool} {f:Frm} {came:Bool} (h:I1 c fr):QT (rC c fr ak) f.e came=some (Alb (c.hear f came).1 (cond ((c.hear f came).2==0) (c.hear f came).1.nd.fresh fr) (cond ((c.hear f came).2==0) (c.hear f came).1.asked ak) (c.hear f came).2):=by
 have hF:∀ z:Cp×Int,(fun s:Cp×Int=>Alb s.1 (cond (s.2==0) s.1.nd.fresh fr) (cond (s.2==0) s.1.asked ak) s.2) z=Alb z.1 (cond (z.2==0) z.1.nd.fresh fr) (cond (z.2==0) z.1.asked ak) z.2:=fun _=>rfl
 rw [← hF]
 unfold QT Cp.hear
 by_cases h1:c.next=1
 rotate_left
 ·rw [Bv (Bb h1)]
  exact Eq.trans (cndT (Bb h1)) rfl
 obtain ⟨a1,a2,a3,rfl⟩:=h h1
 rw [Bf (AF h1)]
 refine Eq.trans (cndF (AF h1)) (Eq.trans (bdS (Ala a1 a2 a3)) ?_)
 have he:(c.nd.hear f came).2.2.2=0:=by unfold Nd.hear;rw [AF a1];rfl
 have h21:(c.nd.hear f came).2.1=(c.nd.hear f came).1.hd∧(c.nd.hear f came).2.2.1=(c.nd.hear f came).1.is:=by unfold Nd.hear;rw [AF a1];exact ⟨rfl,rfl⟩
 unfold Cp.heard
 rw [Bf (AF he)]
 generalize c.nd.hear f came=x at he h21
 obtain ⟨n,hd,is,er⟩:=x
 dsimp only at he h21 ⊢
 obtain ⟨rfl,rfl⟩:=h21
 subst he
 unfold Cp.heard1 Cp.heard2
 dsimp only
 by_cases hr:n.role=c.nd.role
 ·rw [Bf (α:=Cp) (AF hr)]
  refine Eq.trans (bdS (cndF (AF hr))) ?_
  by_cases r2:n.role=2
  ·by_cases hi:n.is=true
   ·refine Eq.trans (bdS (Eq.trans (cndT (CF r2)) (cndT hi))) ?_
    have ha:(n.role==2&&(n.is&&n.hd.role==1))=(n.hd.role==1):=by rw [CF r2,hi];rfl
    rw [ha];rfl
   ·have hi:=Bool.eq_false_iff.2 hi
    refine Eq.trans (bdS (Eq.trans (cndT (CF r2)) (cndF hi))) ?_
    have ha:(n.role==2&&(n.is&&n.hd.role==1))=false:=by rw [hi,Bool.false_and,Bool.and_false]
    rw [ha];rfl
  ·refine Eq.trans (bdS (cndF (BN r2))) ?_
   have ha:(n.role==2&&(n.is&&n.hd.role==1))=false:=by rw [BN r2];rfl
   rw [ha];rfl
 ·rw [Bv (α:=Cp) (Bb hr)]
  refine Eq.trans (bdS (cndT (Bb hr))) ?_
  by_cases r2:n.role=2
  ·by_cases hi:n.is=true
   ·refine Eq.trans (bdS (Eq.trans (cndT (CF r2)) (cndT hi))) ?_
    have ha:(n.role==2&&(n.is&&n.hd.role==1))=(n.hd.role==1):=by rw [CF r2,hi];rfl
    rw [ha];rfl
   ·have hi:=Bool.eq_false_iff.2 hi
    refine Eq.trans (bdS (Eq.trans (cndT (CF r2)) (cndF hi))) ?_
    have ha:(n.role==2&&(n.is&&n.hd.role==1))=false:=by rw [hi,Bool.false_and,Bool.and_false]
    rw [ha];rfl
  ·refine Eq.trans (bdS (cndF (BN r2))) ?_
   have ha:(n.role==2&&(n.is&&n.hd.role==1))=false:=by rw [BN r2];rfl
   rw [ha];rfl
theorem Tk {n:Nd} (h:n.next=2):n.share.2.2.2=0:=by
 unfold Nd.share
 rw [Bf (AF h)]
 exact Ai (P:=fun z:Nd×Frm×Bool×Int=>z.2.2.2=0) rfl rfl
theorem WQ {n:Nd} (h:n.next=4) (t:Tg):(n.tell t).2.2.2=0:=by
 unfold Nd.tell
 rw [Bf (AF h)]
 exact Ai (P:=fun z:Nd×Frm×Bool×Int=>z.2.2.2=0) rfl rfl
theorem Tl {n:Nd} (h:n.next=5) (f:Frm) (came:Bool):(n.judge f came).2.2=0:=by
 unfold Nd.judge
 rw [Bf (AF h)]
theorem WR {n:Nd} (h:n.next=3) (f:Frm) (came:Bool):(n.step f came).2.2.2=0:=by
 unfold Nd.step
 rw [Bf (AF h)]
 exact Ai (P:=fun z:Nd×Se×Bool×Int=>z.2.2.2=0) rfl rfl
theorem Adq {c:Cp} {fr:Bool} (ak:Bool) (h:c.next=2→c.nd.next=2∧fr=c.nd.fresh):QU (rC c fr ak)=some (Nq c.share.1 fr ak c.share.2.1 c.share.2.2.1 c.share.2.2.2):=by
 have hF:∀ z:Cp×Frm×Bool×Int,(fun s:Cp×Frm×Bool×Int=>Nq s.1 fr ak s.2.1 s.2.2.1 s.2.2.2) z=Nq z.1 fr ak z.2.1 z.2.2.1 z.2.2.2:=fun _=>rfl
 rw [← hF]
 unfold QU Cp.share
 by_cases h2:c.next=2
 ·obtain ⟨hn,rfl⟩:=h h2
  rw [Bf (AF h2)]
  refine Eq.trans (cndF (AF h2)) (Eq.trans (bdS (AkW c.nd)) ?_)
  have he:=Tk hn
  generalize c.nd.fresh=fr
  generalize c.nd.share=x at he
  obtain ⟨n,f,ok,e⟩:=x
  dsimp only at he
  subst he
  rfl
 ·rw [Bv (Bb h2)]
  exact Eq.trans (cndT (Bb h2)) rfl
theorem Adr {c:Cp} (fr ak:Bool) (t:Tg) (h:c.next=4→c.nd.next=4):QJ (rC c fr ak) t.e=some (Nq (c.tell t).1 fr ak (c.tell t).2.1 (c.tell t).2.2.1 (c.tell t).2.2.2):=by
 have hF:∀ z:Cp×Frm×Bool×Int,(fun s:Cp×Frm×Bool×Int=>Nq s.1 fr ak s.2.1 s.2.2.1 s.2.2.2) z=Nq z.1 fr ak z.2.1 z.2.2.1 z.2.2.2:=fun _=>rfl
 rw [← hF]
 unfold QJ Cp.tell
 by_cases h2:c.next=4
 ·rw [Bf (AF h2)]
  refine Eq.trans (cndF (AF h2)) (Eq.trans (bdS (AkX c.nd fr t)) ?_)
  have he:=WQ (h h2) t
  generalize c.nd.tell t=x at he
  obtain ⟨n,f,ok,e⟩:=x
  dsimp only at he
  subst he
  rfl
 ·rw [Bv (Bb h2)]
  exact Eq.trans (cndT (Bb h2)) rfl
theorem Ads {c:Cp} (fr ak:Bool) {f:Frm} {came:Bool} (h:c.next=5→c.nd.next=5∧(c.nd.has=true→c.nd.ts=c.nd.steps)):QK (rC c fr ak) f.e came=some (Ald (c.judge f came).1 fr ak (c.judge f came).2.1 (c.judge f came).2.2):=by
 have hF:∀ z:Cp×Int×Int,(fun s:Cp×Int×Int=>Ald s.1 fr ak s.2.1 s.2.2) z=Ald z.1 fr ak z.2.1 z.2.2:=fun _=>rfl
 rw [← hF]
 unfold QK Cp.judge
 by_cases h2:c.next=5
 ·rw [Bf (AF h2)]
  refine Eq.trans (cndF (AF h2)) (Eq.trans (bdS (AkZ fr (h h2).2)) ?_)
  have he:=Tl (h h2).1 f came
  generalize c.nd.judge f came=x at he
  obtain ⟨n,s,e⟩:=x
  dsimp only at he
  subst he
  rfl
 ·rw [Bv (Bb h2)]
  exact Eq.trans (cndT (Bb h2)) rfl
theorem Nr (c:Cp) (fr ak:Bool):LY (rC c fr ak)=some (AsH c fr):=rfl
theorem WS (ps:List PT) (b h s:Int) (save:List UInt8):(serve ps b h s save).2.2=0∨(serve ps b h s save).1=ps:=by
 unfold serve
 exact Ai (P:=fun z:List PT×PT×Int=>z.2.2=0∨z.1=ps) (.inl rfl) (Ai (P:=fun z:List PT×PT×Int=>z.2.2=0∨z.1=ps) (.inr rfl) (.inl rfl))
theorem Adt {c:Cp} (fr:Bool) {ak:Bool} (save:List UInt8) (h:c.next=6→ak=c.asked∧c.wb=c.nd.hd.base∧c.wh=c.nd.hd.have_∧c.number=c.nd.number∧c.cycle=c.nd.cycle):QL (rC c fr ak) save=some (Nq (c.serve save).1 fr ak (c.serve save).2.1 (c.serve save).2.2.1 (c.serve save).2.2.2):=by
 have hF:∀ z:Cp×Frm×Bool×Int,(fun s:Cp×Frm×Bool×Int=>Nq s.1 fr ak s.2.1 s.2.2.1 s.2.2.2) z=Nq z.1 fr ak z.2.1 z.2.2.1 z.2.2.2:=fun _=>rfl
 rw [← hF]
 unfold QL Cp.serve
 by_cases h2:c.next=6
 rotate_left
 ·rw [Bv (Bb h2)]
  exact Eq.trans (cndT (Bb h2)) rfl
 rw [Bf (AF h2)]
 refine Eq.trans (cndF (AF h2)) ?_
 obtain ⟨rfl,a1,a2,a3,a4⟩:=h h2
 by_cases ha:c.asked=true
 rotate_left
 ·have ha:=Bool.eq_false_iff.2 ha
  rw [Bf (α:=Cp×Frm×Bool×Int) ha]
  exact Eq.trans (cndT (by show (!c.asked)=true;rw [ha];rfl)) rfl
 rw [Bv (α:=Cp×Frm×Bool×Int) ha]
 refine Eq.trans (cndF (by show (!c.asked)=false;rw [ha];rfl)) ?_
 refine Eq.trans (bdS (WM c.ps c.nd.hd.base c.nd.hd.have_ c.nd.steps save)) ?_
 rw [a1,a2]
 have he:=WS c.ps c.nd.hd.base c.nd.hd.have_ c.nd.steps save
 generalize Go.Proofs.YtpleflcfaecojaaGreat.serve c.ps c.nd.hd.base c.nd.hd.have_ c.nd.steps save=x at he
 obtain ⟨l,p,e⟩:=x
 unfold Cp.served
 dsimp only at he ⊢
 by_cases e0:e=0
 ·subst e0
  refine Eq.trans (cndF rfl) ?_
  rw [Bf (α:=Cp×Frm×Bool×Int) (b:=((0:Int) != 0)) rfl]
  refine Eq.trans (bdS (Nn p.1 p.2.1 p.2.2.1 p.2.2.2)) ?_
  rw [a3,a4]
  rfl
 ·obtain rfl:=he.resolve_left e0
  rw [Bv (α:=Cp×Frm×Bool×Int) (Bb e0)]
  exact Eq.trans (cndT (Bb e0)) rfl
theorem QY (n:Nd) (f:Frm) (came:Bool):(n.step f came).1.cycle=n.cycle:=by
 have ht:(n.took f came).cycle=n.cycle:=Ai (P:=fun z:Nd=>z.cycle=n.cycle) (Ai (P:=fun z:Nd=>z.cycle=n.cycle) rfl rfl) rfl
 have hs:(n.stepped f came).cycle=n.cycle:=Ai (P:=fun z:Nd=>z.cycle=n.cycle) rfl (Ai (P:=fun z:Nd=>z.cycle=n.cycle) (Ai (P:=fun z:Nd=>z.cycle=n.cycle) ht ht) rfl)
 unfold Nd.step
 exact Ai (P:=fun z:Nd×Se×Bool×Int=>z.1.cycle=n.cycle) rfl (Ai (P:=fun z:Nd×Se×Bool×Int=>z.1.cycle=n.cycle) hs hs)
theorem La {d:Cp} {n:Nd} {f:Frm} {came:Bool} (hn:n.number=d.number) (hc:n.cycle=d.cycle):d.setFits f came=(n.fits f came 2&&(getSet n.cycle f.payload).2==0):=by
 unfold Cp.setFits Nd.fits
 rw [← hn,← hc]
 cases came <;> cases (f.label==2) <;> cases (f.from_==IntKind.u8.wrap (IntKind.i64.wrap (3 - n.number))) <;> cases (f.cycle==n.cycle) <;> rfl
theorem UY {d:Cp} {n:Nd} {f:Frm} {came:Bool} (hn:n.number=d.number) (hc:n.cycle=d.cycle) (h:n.fits f came 2=true):d.noted f came={ d with co:=d.co.note (getSet n.cycle f.payload).1 ((getSet n.cycle f.payload).2==0) }:=by
 unfold Cp.noted
 rw [La hn hc,h,hc];rfl
theorem UZ {d:Cp} {n:Nd} {f:Frm} {came:Bool} (hn:n.number=d.number) (hc:n.cycle=d.cycle) (h:n.fits f came 2=false):d.noted f came={ d with co:=d.co.note noSe ((4:Int)==0) }:=by
 unfold Cp.noted
 rw [La hn hc,h];rfl
theorem Adu {c:Cp} (ak:Bool) {f:Frm} {came:Bool} {fr:Bool} (h:c.next=3→c.nd.next=3∧fr=c.nd.fresh∧c.nd.has=false∧(c.nd.role=1∨c.nd.role=2∨c.nd.role=3)∧(c.nd.role=2→c.nd.se=c.nd.shared.se)∧c.nd.number=c.number∧c.nd.cycle=c.cycle) (hss:c.co.ss.length≤1000000) (hf:f.payload.length≤1000000) :
  QW (rC c fr ak) f.e came=some (Alc (c.step f came).1 fr ak (c.step f came).2.1 (c.step f came).2.2.1 (c.step f came).2.2.2):=by
 have hF:∀ z:Cp×Se×Bool×Int,(fun s:Cp×Se×Bool×Int=>Alc s.1 fr ak s.2.1 s.2.2.1 s.2.2.2) z=Alc z.1 fr ak z.2.1 z.2.2.1 z.2.2.2:=fun _=>rfl
 rw [← hF]
 unfold QW Cp.step
 by_cases h2:c.next=3
 rotate_left
 ·rw [Bv (Bb h2)]
  exact Eq.trans (cndT (Bb h2)) rfl
 rw [Bf (AF h2)]
 obtain ⟨b0,rfl,b1,b2,b3,b4,b5⟩:=h h2
 refine Eq.trans (cndF (AF h2)) (Eq.trans (bdS (AkY b1 b2 b3 hf)) ?_)
 have hn:=(LV c.nd f came).trans b4
 have hc:=(QY c.nd f came).trans b5
 have he:=WR b0 f came
 generalize c.nd.fresh=fr
 generalize c.nd.step f came=x at hn hc he
 obtain ⟨n,s,ok,e⟩:=x
 dsimp only at hn hc he ⊢
 subst he
 unfold Cp.stepped
 dsimp only
 by_cases r1:n.role=1
 rotate_left
 ·rw [Bf (α:=Cp) (BN r1)]
  exact Eq.trans (bdS (cndF (BN r1))) rfl
 rw [Bv (α:=Cp) (CF r1)]
 have hfit:=KY n fr f came 2
 by_cases w1:c.nd.role=1
 ·rw [Bv (α:=Cp) (CF w1)]
  cases hft:n.fits f came 2 with
  | true =>
   rw [hft] at hfit
   rw [UY (d:={ c with next:=4,nd:=n }) hn hc hft]
   exact Eq.trans (bdS (Eq.trans (cndT (CF r1)) (Eq.trans (bdS (cndF (AF w1))) (Eq.trans (bdS (Eq.trans (bdS hfit) (Eq.trans (cndT rfl) (bdS (Tj hf))))) (bdS (HL (c:=c.co) (x:=(getSet n.cycle f.payload).1) (came:=((getSet n.cycle f.payload).2==0)) hss)))))) rfl
  | false =>
   rw [hft] at hfit
   rw [UZ (d:={ c with next:=4,nd:=n }) hn hc hft]
   exact Eq.trans (bdS (Eq.trans (cndT (CF r1)) (Eq.trans (bdS (cndF (AF w1))) (Eq.trans (bdS (Eq.trans (bdS hfit) (cndF rfl))) (bdS (HL (c:=c.co) (x:=noSe) (came:=((4:Int)==0)) hss)))))) rfl
 ·rw [Bf (α:=Cp) (BN w1)]
  cases hft:n.fits f came 2 with
  | true =>
   rw [hft] at hfit
   rw [UY (d:=({ c with next:=4,nd:=n }:Cp).reset) hn hc hft]
   exact Eq.trans (bdS (Eq.trans (cndT (CF r1)) (Eq.trans (bdS (cndT (Bb w1))) (Eq.trans (bdS (Eq.trans (bdS hfit) (Eq.trans (cndT rfl) (bdS (Tj hf))))) (bdS (HL (c:=noCo) (x:=(getSet n.cycle f.payload).1) (came:=((getSet n.cycle f.payload).2==0)) (Nat.zero_le _))))))) rfl
  | false =>
   rw [hft] at hfit
   rw [UZ (d:=({ c with next:=4,nd:=n }:Cp).reset) hn hc hft]
   exact Eq.trans (bdS (Eq.trans (cndT (CF r1)) (Eq.trans (bdS (cndT (Bb w1))) (Eq.trans (bdS (Eq.trans (bdS hfit) (cndF rfl))) (bdS (HL (c:=noCo) (x:=noSe) (came:=((4:Int)==0)) (Nat.zero_le _))))))) rfl
theorem Adv {c:Co} (h:CoK c) (p:PT):CoK (c.take p):=by
 unfold Co.take
 refine BZ (P:=CoK) (fun hv=>?_) fun _=>h
 obtain ⟨v1,v2,v3,v4⟩:=DD hv
 refine BZ (P:=CoK) (fun hf=>?_) fun _=>Ai (P:=CoK) ?_ h
 ·unfold Co.fitsP at hf
  simp only [Bool.and_eq_true,decide_eq_true_eq,beq_iff_eq] at hf
  refine ⟨.inr ⟨?_,?_,?_⟩⟩
  ·show 1≤c.base;omega
  ·show c.base≤_;omega
  ·show (((c.ps++[p.2.2.2]).length:Nat):Int)≤c.count
   rw [List.length_append,List.length_singleton];omega
 ·refine ⟨.inr ⟨?_,?_,?_⟩⟩
  ·show 1≤p.1;omega
  ·show p.1≤_;omega
  ·show (((1:Nat)):Int)≤p.2.2.1;omega
theorem Va {c:Cp} (h:CoK c.co) (f:Frm) (came:Bool):CoK (c.got f came).co:=by
 unfold Cp.got
 exact Ai (P:=fun z:Cp=>CoK z.co) (Ai (P:=fun z:Cp=>CoK z.co) (Adv h _) h) h
def r4 (c:Cp) (fr ak:Bool):=(((rC c fr ak).1,(rC c fr ak).2.1,(c.nd.tt.vs,c.ps,c.co.base),(c.co.count,c.co.ps),c.co.ss,ak),(false,false),false,false)
theorem Vb {c:Cp} (fr ak:Bool) {f:Frm} {came:Bool} (hk:c.ok) (hk2:(c.got f came).ok) (hc:CoK c.co) (h:c.next=7→c.nd.next=0∧c.nd.number=c.number∧c.nd.cycle=c.cycle) (hf:f.payload.length≤1000000) :
  KQ (rC c fr ak) f.e came=some (Adn (c.take f came).1 fr ak (c.take f came).2.1 (c.take f came).2.2.1 (c.take f came).2.2.2):=by
 have hF:∀ z:Cp×JobT×Bool×Int,(fun s:Cp×JobT×Bool×Int=>Adn s.1 fr ak s.2.1 s.2.2.1 s.2.2.2) z=Adn z.1 fr ak z.2.1 z.2.2.1 z.2.2.2:=fun _=>rfl
 rw [← hF]
 unfold KQ Cp.take
 by_cases h7:c.next=7
 rotate_left
 ·rw [Bv (Bb h7)]
  exact Eq.trans (cndT (Bb h7)) rfl
 obtain ⟨a1,a2,a3⟩:=h h7
 rw [Bf (AF h7)]
 refine Eq.trans (cndF (AF h7)) ?_
 by_cases r:c.nd.role=1
 rotate_left
 ·rw [Bf (BN r)]
  exact Eq.trans (cndT (Bb r)) rfl
 rw [Bv (CF r)]
 refine Eq.trans (cndF (AF r)) ?_
 have hfit:=KY c.nd fr f came 4
 have hpf:c.pieceFits f came=c.nd.fits f came 4:=by unfold Cp.pieceFits Nd.fits;rw [a2,a3]
 have hv4:bd (EP (rNd c.nd fr) f.e came 4) (fun v1=>cnd v1 (bd (o142 f.payload) (fun v2=>cnd (v2.1.2.2==0) (bd (KO c.co.e (v2.1.1,v2.1.2.1,v2.2)) (fun v3=>some (((rC c fr ak).1,(rC c fr ak).2.1,(c.nd.tt.vs,c.ps,v3.1.1),(v3.1.2,v3.2.1),v3.2.2,ak),(false,false),false,false))) (some (r4 c fr ak)))) (some (r4 c fr ak)))=some (r4 (c.got f came) fr ak):=by
  refine Eq.trans (bdS hfit) ?_
  unfold Cp.got
  rw [hpf]
  cases c.nd.fits f came 4 with
  | false=>rfl
  | true =>
   refine Eq.trans (cndT rfl) (Eq.trans (bdS (Aif hf)) ?_)
   rw [cond_true]
   by_cases he:(decP f.payload).2=0
   ·rw [Bv (CF he)]
    exact Eq.trans (cndT (CF he)) (Eq.trans (bdS (WN (c:=c.co) _ _ _ _ (Nat.le_trans hk.cps (by decide)))) rfl)
   ·rw [Bf (BN he)]
    exact Eq.trans (cndF (BN he)) rfl
 refine Eq.trans (bdS hv4) ?_
 have hnd:(c.got f came).nd=c.nd:=by
  unfold Cp.got
  exact Ai (P:=fun z:Cp=>z.nd=c.nd) (Ai (P:=fun z:Cp=>z.nd=c.nd) rfl rfl) rfl
 have hnx:(c.got f came).next=0:=by
  unfold Cp.got
  exact Ai (P:=fun z:Cp=>z.next=0) (Ai (P:=fun z:Cp=>z.next=0) rfl rfl) rfl
 have hck:=Va hc f came
 rw [← hnd] at a1 r
 generalize c.got f came=d at hk2 hck a1 r hnx
 obtain ⟨number,next,cycle,asked,wb,wh,nd,ps,co⟩:=d
 dsimp only at hnx a1 r
 subst hnx
 have g:=WO (c:=co) (Nat.le_trans hk2.cps (by decide)) (fun x hx=>Nat.le_trans (hk2.cpd x hx) (by decide)) (by rcases hck.ok with e | e;exact .inr e;exact .inl e.2.2)
 cases hr:co.ready with
 | false =>
  rw [hr] at g
  exact Eq.trans (bdS g) (Eq.trans (cndT rfl) rfl)
 | true =>
  rw [hr] at g
  refine Eq.trans (bdS g) (Eq.trans (cndF rfl) ?_)
  refine Eq.trans (bdS (Aii nd fr (IntKind.i64.wrap (co.base+(co.ss.length:Int))))) ?_
  have hss:co.ss.length≤874:=hk2.css
  have hb:1≤co.base∧co.base≤2305843009213693952:=by
   rcases hck.ok with e | e
   ·have:co.ready=false:=by unfold Co.ready;rw [show co.ps=[] from e];rfl
    rw [this] at hr;cases hr
   ·exact ⟨e.1,e.2.1⟩
  have hw:IntKind.i64.wrap (co.base+(co.ss.length:Int))=co.base+(co.ss.length:Int):=AM (by omega)
  have ha:(nd.adopt (IntKind.i64.wrap (co.base+(co.ss.length:Int)))).2=0:=by
   unfold Nd.adopt
   rw [hw,AF a1,AF r,df (by omega),df (by omega)];rfl
  unfold Cp.jobDone
  dsimp only
  rw [cond_true]
  generalize nd.adopt (IntKind.i64.wrap (co.base+(co.ss.length:Int)))=y at ha
  obtain ⟨n,e⟩:=y
  dsimp only at ha
  subst ha
  rfl
end Go.Proofs.YtpleflcfaecojaaGreat
