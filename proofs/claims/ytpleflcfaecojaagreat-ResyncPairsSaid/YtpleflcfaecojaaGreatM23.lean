/-
ResyncPairs returns true for every input. Conditions: none.
-/
import Derived.Test.YtpleflcfaecojaaGreatM22
import Derived.Test.YtpleflcfaecojaaGreatRows
namespace Go.Proofs.YtpleflcfaecojaaGreat
set_option linter.unusedVariables false
set_option linter.unusedSimpArgs false
set_option maxRecDepth 100000
open Go.RowKit
noncomputable section
def HC.o1:HC→HC
 | .on _ x _=>x
 | h=>h


noncomputable def c5:Code:=cOf Tryz.f5
noncomputable def cd5:Code:=cq2 (cq2 (cq2 (cq2 (cq2 (cq2 c5)))))
noncomputable def a5:Code:=clp (cbk (cq2 (cq1 cd5)))
noncomputable def C5 (a:Code):Code:= .seq (cq1 c5) (.seq (cq1 (cq2 c5)) (.seq (cq1 (cq2 (cq2 c5))) (.seq (cq1 (cq2 (cq2 (cq2 c5)))) (.seq (cq1 (cq2 (cq2 (cq2 (cq2 c5))))) (.seq (cq1 (cq2 (cq2 (cq2 (cq2 (cq2 c5)))))) (.seq (.seq (cq1 (cq1 cd5)) (.block 0 (.loop a))) (cq2 cd5)))))))
theorem ApN:Tryz.f5.body=some (C5 a5):=by kernel_rfl
noncomputable def gA:HC:=(HC.o1 h5.s2.s2.s2.s2).s2.s2
noncomputable def gB:HC:=(HC.o2 h5.s2.s2.s2.s2).s2.s2
noncomputable def KF5:Exit→HSt→Option (ALT r5):=KF Tryz.prog Tryz.f5 0 r5
noncomputable def KO5 (g:HC):Exit→HSt→Option Bool:=KB 0 (KS (stpT Tryz.prog Nu RG) Tryz.f5.ntmps 0 (cq2 cd5) g.s2 KF5)
noncomputable def LA5 (a:Code):AW×CA→Option (Ctl (AW×CA) Bool):=LBk (stpT Tryz.prog Nu RG) Tryz.f5.ntmps 0 a gA.s1.s2.b1.l1 [AiL] (KO5 gA)
noncomputable def LB5 (a:Code):(Ck ⊕ Bl ⊕ Cl ⊕ Bl)→Option (Ctl (Ck ⊕ Bl ⊕ Cl ⊕ Bl) Bool):=LBk (stpT Tryz.prog Nu RG) Tryz.f5.ntmps 0 a gB.s1.s2.b1.l1 [Tn,To,Tp,Tq] (KO5 gB)
noncomputable def evX (a:Code) (t:HT p5.tr):Option (ALT r5):=match conT p5 t with
 | some st0=>evC (stpT Tryz.prog Nu RG) Tryz.f5.ntmps st0.bl.length (C5 a) h5 st0 (fun e st'=>match e with
  | .normal=>absA Tryz.prog Tryz.f5.results.toList st0.bl.length st' r5
  | .ret=>absA Tryz.prog Tryz.f5.results.toList st0.bl.length st' r5
  | _=>none)
 | none=>none
theorem e5X (a:Code) (t:AW):evX a t=o5K (LA5 a) (LB5 a) t:=by kernel_rfl
theorem AlC (t:AW):evF (stpT Tryz.prog Nu RG) Tryz.f5 p5 r5 h5 t=evX a5 t:=by
 unfold evF evX
 rw [ApN]
 cases conT p5 t <;> rfl
noncomputable def x5:Code:=cbk (cq1 (cq2 a5))
noncomputable def b5:Code:=cq2 (cq2 (cq2 x5))
noncomputable def A5 (b:Code):Code:= .seq (cq1 a5) (.seq (.block 1 (.seq (cq1 x5) (.seq (cq1 (cq2 x5)) (.seq (cq1 (cq2 (cq2 x5))) b)))) (cq2 (cq2 a5)))
theorem ApO:a5=A5 b5:=by kernel_rfl
noncomputable def y5:HC:=(HC.o1 gB.s1.s2.b1.l1).s2
noncomputable def KT5:Exit→HSt→Option (Ctl (Ck ⊕ Bl ⊕ Cl ⊕ Bl) Bool):=KB 1 (KS (stpT Tryz.prog Nu RG) Tryz.f5.ntmps 0 (cq2 (cq2 a5)) y5.s2 (KLp 0 [Tn,To,Tp,Tq] (KO5 gB)))
noncomputable def TB5 (b:Code):(CQ ⊕ Br ⊕ CR ⊕ Br)→Option (Ctl (Ck ⊕ Bl ⊕ Cl ⊕ Bl) Bool):=TBg (stpT Tryz.prog Nu RG) Tryz.f5.ntmps 0 b y5.s1.b1.s2.s2.s2 [RR,RS,Lf,Lg] KT5
theorem lA5:LA5 a5=AiM:=by kernel_rfl
theorem AsI v:TB5 b5 (Sum.inl v)=CS (Sum.inl v):=by kernel_rfl
theorem AsJ v:TB5 b5 (Sum.inr (Sum.inl v))=CS (Sum.inr (Sum.inl v)):=by kernel_rfl
theorem AsK v:TB5 b5 (Sum.inr (Sum.inr (Sum.inl v)))=CS (Sum.inr (Sum.inr (Sum.inl v))):=by kernel_rfl
theorem AsL v:TB5 b5 (Sum.inr (Sum.inr (Sum.inr v)))=CS (Sum.inr (Sum.inr (Sum.inr v))):=by kernel_rfl
theorem t5:TB5 b5=CS:=funext fun v=>by
 rcases v with v | v | v | v
 ·exact AsI v
 ·exact AsJ v
 ·exact AsK v
 ·exact AsL v
theorem AsM b v:LB5 (A5 b) (Sum.inl v)=Lh (TB5 b) (Sum.inl v):=by kernel_rfl
theorem AsN b v:LB5 (A5 b) (Sum.inr (Sum.inl v))=Lh (TB5 b) (Sum.inr (Sum.inl v)):=by kernel_rfl
theorem AsO b v:LB5 (A5 b) (Sum.inr (Sum.inr (Sum.inl v)))=Lh (TB5 b) (Sum.inr (Sum.inr (Sum.inl v))):=by kernel_rfl
theorem AsP b v:LB5 (A5 b) (Sum.inr (Sum.inr (Sum.inr v)))=Lh (TB5 b) (Sum.inr (Sum.inr (Sum.inr v))):=by kernel_rfl
theorem l5:LB5 a5=Gw:=funext fun v=>by
 unfold Gw
 rw [← t5,ApO]
 rcases v with v | v | v | v
 ·exact AsM b5 v
 ·exact AsN b5 v
 ·exact AsO b5 v
 ·exact AsP b5 v
theorem e5 (t:AW):evF (stpT Tryz.prog Nu RG) Tryz.f5 p5 r5 h5 t=(o5 t):=(AlC t).trans ((e5X a5 t).trans (by unfold o5;rw [lA5,l5]))
noncomputable def n5:FSp:=⟨p5,r5,fun t=>(o5 t)⟩
theorem fo5:FOk Tryz.prog 5 n5:=fk e5
end
open Go.RowKit Go.WideShapes Go.ChangeShapes Go.ChangeAt
theorem ApP:Opens Tryz.prog 25 (Cd.ty (.p (.i .i64) (.p (.i .i64) (.p (.i .i64) (.i .i64))))) (fun _=>True):=by
 intro H enc w base spare held fuel cs d pl h hw
 obtain ⟨hlen,hf⟩:=Cw Tryz.underlying25 h hw
 rw [show Tryz.prog.cellsOf 25=4 by kernel_rfl] at hlen
 match cs,hlen with
 | [c0,c1,c2,c3],_ =>
  obtain ⟨n0,d0,p0,h0,w0⟩:=hf 0 _ rfl
  simp [show Tryz.prog.cellsOf 2=1 by kernel_rfl] at h0
  obtain ⟨x0,r0,_⟩:=(opIR Tryz.underlying2) h0 w0
  obtain ⟨n1,d1,p1,h1,w1⟩:=hf 1 _ rfl
  simp [show Tryz.prog.cellsOf 2=1 by kernel_rfl] at h1
  obtain ⟨x1,r1,_⟩:=(opIR Tryz.underlying2) h1 w1
  obtain ⟨n2,d2,p2,h2,w2⟩:=hf 2 _ rfl
  simp [show Tryz.prog.cellsOf 2=1 by kernel_rfl] at h2
  obtain ⟨x2,r2,_⟩:=(opIR Tryz.underlying2) h2 w2
  obtain ⟨n3,d3,p3,h3,w3⟩:=hf 3 _ rfl
  simp [show Tryz.prog.cellsOf 2=1 by kernel_rfl] at h3
  obtain ⟨x3,r3,_⟩:=(opIR Tryz.underlying2) h3 w3
  exact ⟨(x0,x1,x2,x3),⟨[c0],[c1]++[c2]++[c3],rfl,r0,⟨[c1],[c2]++[c3],rfl,r1,⟨[c2],[c3],rfl,r2,r3⟩⟩⟩,trivial⟩
theorem AeX:Opens Tryz.prog 34 (Cd.ty (.p .b .b)) (fun _=>True):=by
 intro H enc w base spare held fuel cs d pl h hw
 obtain ⟨hlen,hf⟩:=Dw Tryz.underlying34 h hw
 rw [show Tryz.prog.cellsOf 34=2 by kernel_rfl] at hlen
 match cs,hlen with
 | [c0,c1],_ =>
  obtain ⟨n0,d0,p0,h0,w0⟩:=hf 0 (by decide)
  simp [show Tryz.prog.cellsOf 4=1 by kernel_rfl] at h0
  obtain ⟨x0,r0,_⟩:=(opBR Tryz.underlying4) h0 w0
  obtain ⟨n1,d1,p1,h1,w1⟩:=hf 1 (by decide)
  simp [show Tryz.prog.cellsOf 4=1 by kernel_rfl] at h1
  obtain ⟨x1,r1,_⟩:=(opBR Tryz.underlying4) h1 w1
  exact ⟨(x0,x1),⟨[c0],[c1],rfl,r0,r1⟩,trivial⟩
theorem ApQ:Opens Tryz.prog 35 (Cd.ty (.p (.i .i64) (.i .i64))) (fun _=>True):=by
 intro H enc w base spare held fuel cs d pl h hw
 obtain ⟨hlen,hf⟩:=Dw Tryz.underlying35 h hw
 rw [show Tryz.prog.cellsOf 35=2 by kernel_rfl] at hlen
 match cs,hlen with
 | [c0,c1],_ =>
  obtain ⟨n0,d0,p0,h0,w0⟩:=hf 0 (by decide)
  simp [show Tryz.prog.cellsOf 2=1 by kernel_rfl] at h0
  obtain ⟨x0,r0,_⟩:=(opIR Tryz.underlying2) h0 w0
  obtain ⟨n1,d1,p1,h1,w1⟩:=hf 1 (by decide)
  simp [show Tryz.prog.cellsOf 2=1 by kernel_rfl] at h1
  obtain ⟨x1,r1,_⟩:=(opIR Tryz.underlying2) h1 w1
  exact ⟨(x0,x1),⟨[c0],[c1],rfl,r0,r1⟩,trivial⟩
theorem Vo:Opens Tryz.prog 38 (Cd.ty (.p .b (.p (.i .i64) (.i .u32)))) (fun _=>True):=by
 intro H enc w base spare held fuel cs d pl h hw
 obtain ⟨hlen,hf⟩:=Cw Tryz.underlying38 h hw
 rw [show Tryz.prog.cellsOf 38=3 by kernel_rfl] at hlen
 match cs,hlen with
 | [c0,c1,c2],_ =>
  obtain ⟨n0,d0,p0,h0,w0⟩:=hf 0 _ rfl
  simp [show Tryz.prog.cellsOf 4=1 by kernel_rfl] at h0
  obtain ⟨x0,r0,_⟩:=(opBR Tryz.underlying4) h0 w0
  obtain ⟨n1,d1,p1,h1,w1⟩:=hf 1 _ rfl
  simp [show Tryz.prog.cellsOf 3=1 by kernel_rfl] at h1
  obtain ⟨x1,r1,_⟩:=(opIR Tryz.underlying3) h1 w1
  obtain ⟨n2,d2,p2,h2,w2⟩:=hf 2 _ rfl
  simp [show Tryz.prog.cellsOf 36=1 by kernel_rfl] at h2
  obtain ⟨x2,r2,_⟩:=(opIR Tryz.underlying36) h2 w2
  exact ⟨(x0,x1,x2),⟨[c0],[c1]++[c2],rfl,r0,⟨[c1],[c2],rfl,r1,r2⟩⟩,trivial⟩
theorem AiN:Opens Tryz.prog 39 (Cd.ty (.p (.p .b (.p (.i .i64) (.i .u32))) (.p (.p .b (.p (.i .i64) (.i .u32))) (.p (.p .b (.p (.i .i64) (.i .u32))) (.p .b (.p (.i .i64) (.i .u32))))))) (fun _=>True):=by
 intro H enc w base spare held fuel cs d pl h hw
 obtain ⟨hlen,hf⟩:=Dw Tryz.underlying39 h hw
 rw [show Tryz.prog.cellsOf 39=12 by kernel_rfl] at hlen
 match cs,hlen with
 | [c0,c1,c2,c3,c4,c5,c6,c7,c8,c9,c10,c11],_ =>
  obtain ⟨n0,d0,p0,h0,w0⟩:=hf 0 (by decide)
  simp [show Tryz.prog.cellsOf 38=3 by kernel_rfl] at h0
  obtain ⟨x0,r0,_⟩:=Vo h0 w0
  obtain ⟨n1,d1,p1,h1,w1⟩:=hf 1 (by decide)
  simp [show Tryz.prog.cellsOf 38=3 by kernel_rfl] at h1
  obtain ⟨x1,r1,_⟩:=Vo h1 w1
  obtain ⟨n2,d2,p2,h2,w2⟩:=hf 2 (by decide)
  simp [show Tryz.prog.cellsOf 38=3 by kernel_rfl] at h2
  obtain ⟨x2,r2,_⟩:=Vo h2 w2
  obtain ⟨n3,d3,p3,h3,w3⟩:=hf 3 (by decide)
  simp [show Tryz.prog.cellsOf 38=3 by kernel_rfl] at h3
  obtain ⟨x3,r3,_⟩:=Vo h3 w3
  exact ⟨(x0,x1,x2,x3),⟨[c0,c1,c2],[c3,c4,c5]++[c6,c7,c8]++[c9,c10,c11],rfl,r0,⟨[c3,c4,c5],[c6,c7,c8]++[c9,c10,c11],rfl,r1,⟨[c6,c7,c8],[c9,c10,c11],rfl,r2,r3⟩⟩⟩,trivial⟩
theorem ApR:Opens Tryz.prog 40 (Cd.ty (.p (.p (.p .b (.p (.i .i64) (.i .u32))) (.p (.p .b (.p (.i .i64) (.i .u32))) (.p (.p .b (.p (.i .i64) (.i .u32))) (.p .b (.p (.i .i64) (.i .u32)))))) (.p (.p .b (.p (.i .i64) (.i .u32))) (.p (.p .b (.p (.i .i64) (.i .u32))) (.p (.p .b (.p (.i .i64) (.i .u32))) (.p .b (.p (.i .i64) (.i .u32)))))))) (fun _=>True):=by
 intro H enc w base spare held fuel cs d pl h hw
 obtain ⟨hlen,hf⟩:=Dw Tryz.underlying40 h hw
 rw [show Tryz.prog.cellsOf 40=24 by kernel_rfl] at hlen
 match cs,hlen with
 | [c0,c1,c2,c3,c4,c5,c6,c7,c8,c9,c10,c11,c12,c13,c14,c15,c16,c17,c18,c19,c20,c21,c22,c23],_ =>
  obtain ⟨n0,d0,p0,h0,w0⟩:=hf 0 (by decide)
  simp [show Tryz.prog.cellsOf 39=12 by kernel_rfl] at h0
  obtain ⟨x0,r0,_⟩:=AiN h0 w0
  obtain ⟨n1,d1,p1,h1,w1⟩:=hf 1 (by decide)
  simp [show Tryz.prog.cellsOf 39=12 by kernel_rfl] at h1
  obtain ⟨x1,r1,_⟩:=AiN h1 w1
  exact ⟨(x0,x1),⟨[c0,c1,c2,c3,c4,c5,c6,c7,c8,c9,c10,c11],[c12,c13,c14,c15,c16,c17,c18,c19,c20,c21,c22,c23],rfl,r0,r1⟩,trivial⟩
theorem ApS:Opens Tryz.prog 42 (Cd.ty (.p (.p .b .b) (.p (.p .b .b) (.p (.p .b .b) (.p (.p (.i .i64) (.i .i64)) (.p (.p (.p .b (.p (.i .i64) (.i .u32))) (.p (.p .b (.p (.i .i64) (.i .u32))) (.p (.p .b (.p (.i .i64) (.i .u32))) (.p .b (.p (.i .i64) (.i .u32)))))) (.p (.p .b (.p (.i .i64) (.i .u32))) (.p (.p .b (.p (.i .i64) (.i .u32))) (.p (.p .b (.p (.i .i64) (.i .u32))) (.p .b (.p (.i .i64) (.i .u32)))))))))))) (fun _=>True):=by
 intro H enc w base spare held fuel cs d pl h hw
 obtain ⟨hlen,hf⟩:=Cw Tryz.underlying42 h hw
 rw [show Tryz.prog.cellsOf 42=32 by kernel_rfl] at hlen
 match cs,hlen with
 | [c0,c1,c2,c3,c4,c5,c6,c7,c8,c9,c10,c11,c12,c13,c14,c15,c16,c17,c18,c19,c20,c21,c22,c23,c24,c25,c26,c27,c28,c29,c30,c31],_ =>
  obtain ⟨n0,d0,p0,h0,w0⟩:=hf 0 _ rfl
  simp [show Tryz.prog.cellsOf 34=2 by kernel_rfl] at h0
  obtain ⟨x0,r0,_⟩:=AeX h0 w0
  obtain ⟨n1,d1,p1,h1,w1⟩:=hf 1 _ rfl
  simp [show Tryz.prog.cellsOf 34=2 by kernel_rfl] at h1
  obtain ⟨x1,r1,_⟩:=AeX h1 w1
  obtain ⟨n2,d2,p2,h2,w2⟩:=hf 2 _ rfl
  simp [show Tryz.prog.cellsOf 34=2 by kernel_rfl] at h2
  obtain ⟨x2,r2,_⟩:=AeX h2 w2
  obtain ⟨n3,d3,p3,h3,w3⟩:=hf 3 _ rfl
  simp [show Tryz.prog.cellsOf 35=2 by kernel_rfl] at h3
  obtain ⟨x3,r3,_⟩:=ApQ h3 w3
  obtain ⟨n4,d4,p4,h4,w4⟩:=hf 4 _ rfl
  simp [show Tryz.prog.cellsOf 40=24 by kernel_rfl] at h4
  obtain ⟨x4,r4,_⟩:=ApR h4 w4
  exact ⟨(x0,x1,x2,x3,x4),⟨[c0,c1],[c2,c3]++[c4,c5]++[c6,c7]++[c8,c9,c10,c11,c12,c13,c14,c15,c16,c17,c18,c19,c20,c21,c22,c23,c24,c25,c26,c27,c28,c29,c30,c31],rfl,r0,⟨[c2,c3],[c4,c5]++[c6,c7]++[c8,c9,c10,c11,c12,c13,c14,c15,c16,c17,c18,c19,c20,c21,c22,c23,c24,c25,c26,c27,c28,c29,c30,c31],rfl,r1,⟨[c4,c5],[c6,c7]++[c8,c9,c10,c11,c12,c13,c14,c15,c16,c17,c18,c19,c20,c21,c22,c23,c24,c25,c26,c27,c28,c29,c30,c31],rfl,r2,⟨[c6,c7],[c8,c9,c10,c11,c12,c13,c14,c15,c16,c17,c18,c19,c20,c21,c22,c23,c24,c25,c26,c27,c28,c29,c30,c31],rfl,r3,r4⟩⟩⟩⟩,trivial⟩
theorem Xo {α:Type} {cs:List α} (n m:Nat) (h:cs.length=n+m):∃ a b,cs=a++b∧a.length=n∧b.length=m:=⟨cs.take n,cs.drop n,(List.take_append_drop n cs).symm,by rw [List.length_take];omega,by rw [List.length_drop];omega⟩
theorem ApT:Opens Tryz.prog 44 (Cd.ty (.p (.a .y) (.p (.a .y) (.p (.p .b .b) (.p (.p .b .b) (.p (.p .b .b) (.p (.p (.i .i64) (.i .i64)) (.p (.p (.p .b (.p (.i .i64) (.i .u32))) (.p (.p .b (.p (.i .i64) (.i .u32))) (.p (.p .b (.p (.i .i64) (.i .u32))) (.p .b (.p (.i .i64) (.i .u32)))))) (.p (.p .b (.p (.i .i64) (.i .u32))) (.p (.p .b (.p (.i .i64) (.i .u32))) (.p (.p .b (.p (.i .i64) (.i .u32))) (.p .b (.p (.i .i64) (.i .u32)))))))))))))) (fun _=>True):=by
 intro H enc w base spare held fuel cs d pl h hw
 obtain ⟨hlen,hf⟩:=Cw Tryz.underlying44 h hw
 rw [show Tryz.prog.cellsOf 44=34 by kernel_rfl] at hlen
 obtain ⟨ca,cb,rfl,ha,hb⟩:=Xo 4 30 hlen
 match ca,ha,cb,hb with
 | [c0,c1,c2,c3],_,[c4,c5,c6,c7,c8,c9,c10,c11,c12,c13,c14,c15,c16,c17,c18,c19,c20,c21,c22,c23,c24,c25,c26,c27,c28,c29,c30,c31,c32,c33],_ =>
  obtain ⟨n0,d0,p0,h0,w0⟩:=hf 0 _ rfl
  simp [show Tryz.prog.cellsOf 33=1 by kernel_rfl] at h0
  obtain ⟨x0,r0,_⟩:=(Fp 1 (by kernel_rfl) (ND Tryz.underlying5) Tryz.underlying33 (by kernel_rfl) (by kernel_rfl)) h0 w0
  obtain ⟨n1,d1,p1,h1,w1⟩:=hf 1 _ rfl
  simp [show Tryz.prog.cellsOf 33=1 by kernel_rfl] at h1
  obtain ⟨x1,r1,_⟩:=(Fp 1 (by kernel_rfl) (ND Tryz.underlying5) Tryz.underlying33 (by kernel_rfl) (by kernel_rfl)) h1 w1
  obtain ⟨n2,d2,p2,h2,w2⟩:=hf 2 _ rfl
  simp [show Tryz.prog.cellsOf 42=32 by kernel_rfl] at h2
  obtain ⟨x2,r2,_⟩:=ApS h2 w2
  exact ⟨(x0,x1,x2),⟨[c0],[c1]++[c2,c3,c4,c5,c6,c7,c8,c9,c10,c11,c12,c13,c14,c15,c16,c17,c18,c19,c20,c21,c22,c23,c24,c25,c26,c27,c28,c29,c30,c31,c32,c33],rfl,r0,⟨[c1],[c2,c3,c4,c5,c6,c7,c8,c9,c10,c11,c12,c13,c14,c15,c16,c17,c18,c19,c20,c21,c22,c23,c24,c25,c26,c27,c28,c29,c30,c31,c32,c33],rfl,r1,r2⟩⟩,trivial⟩
theorem ApU:Opens Tryz.prog 28 (Cd.ty (.p (.i .u64) (.p (.i .u16) (.p (.p (.i .i64) (.p (.i .i64) (.p (.i .i64) (.i .i64)))) (.a (.p (.a .y) (.p (.a .y) (.p (.p .b .b) (.p (.p .b .b) (.p (.p .b .b) (.p (.p (.i .i64) (.i .i64)) (.p (.p (.p .b (.p (.i .i64) (.i .u32))) (.p (.p .b (.p (.i .i64) (.i .u32))) (.p (.p .b (.p (.i .i64) (.i .u32))) (.p .b (.p (.i .i64) (.i .u32)))))) (.p (.p .b (.p (.i .i64) (.i .u32))) (.p (.p .b (.p (.i .i64) (.i .u32))) (.p (.p .b (.p (.i .i64) (.i .u32))) (.p .b (.p (.i .i64) (.i .u32)))))))))))))))))) (fun _=>True):=by
 intro H enc w base spare held fuel cs d pl h hw
 obtain ⟨hlen,hf⟩:=Cw Tryz.underlying28 h hw
 rw [show Tryz.prog.cellsOf 28=7 by kernel_rfl] at hlen
 match cs,hlen with
 | [c0,c1,c2,c3,c4,c5,c6],_ =>
  obtain ⟨n0,d0,p0,h0,w0⟩:=hf 0 _ rfl
  simp [show Tryz.prog.cellsOf 22=1 by kernel_rfl] at h0
  obtain ⟨x0,r0,_⟩:=(opIR Tryz.underlying22) h0 w0
  obtain ⟨n1,d1,p1,h1,w1⟩:=hf 1 _ rfl
  simp [show Tryz.prog.cellsOf 23=1 by kernel_rfl] at h1
  obtain ⟨x1,r1,_⟩:=(opIR Tryz.underlying23) h1 w1
  obtain ⟨n2,d2,p2,h2,w2⟩:=hf 2 _ rfl
  simp [show Tryz.prog.cellsOf 25=4 by kernel_rfl] at h2
  obtain ⟨x2,r2,_⟩:=ApP h2 w2
  obtain ⟨n3,d3,p3,h3,w3⟩:=hf 3 _ rfl
  simp [show Tryz.prog.cellsOf 26=1 by kernel_rfl] at h3
  obtain ⟨x3,r3,_⟩:=(Fp 264 (by kernel_rfl) ApT Tryz.underlying26 (by kernel_rfl) (by kernel_rfl)) h3 w3
  exact ⟨(x0,x1,x2,x3),⟨[c0],[c1]++[c2,c3,c4,c5]++[c6],rfl,r0,⟨[c1],[c2,c3,c4,c5]++[c6],rfl,r1,⟨[c2,c3,c4,c5],[c6],rfl,r2,r3⟩⟩⟩,trivial⟩
theorem GF (os:Os) (started:os.Started) (H:Type) (enc:TypeId×Value→H) :
  ReturnsInHanded {} Tryz.checked os 5 .any (Rows.resyncPairsSpec.pre6 enc Tryz.prog Tryz.f5 Rows.resyncPairsRow.domain false) (Rows.resyncPairsSpec.post enc Tryz.prog Tryz.f5 false true false false):=by
 refine returnsInHanded_of_change_sized (C:=Tryz.checked) Tryz.own started (by kernel_rfl) Tryz.func5
  (ChangeSpec.witness6 (enc:=enc) (C:=Tryz.checked) false ⟨#[],#[.agg #[.int .u64 0,.int .u16 0,.int .i64 0,.int .i64 0,.int .i64 0,.int .i64 0,.slice none 0 0]],[]⟩ 8 (by kernel_rfl) (by kernel_rfl) (by kernel_rfl) (by kernel_rfl)) ?_
 intro W base args ds gs before hval0 hW hcnd hsz0 _
 have hval:∀ (j:Nat) t v,Tryz.f5.params[j]? = some t→args[j]? = some v→Value.okWide Tryz.prog W .any base t v:=hval0
 have hW':=hW
 obtain ⟨p,q,hA0,hV,rfl,hfz,hnd⟩:=hW
 have hA:DataW.TrodAll enc Tryz.prog W 0 (fun _=>true) true Tryz.f5.params.toList args.toList ds p:=hA0
 have hA1:=hA
 rw [Tryz.params5] at hA hval
 obtain ⟨v0,vs0,d0,ds0,p0,q0,hargs,rfl,rfl,h0,r0⟩:=trodAll_cons hA
 obtain ⟨rfl,rfl,rfl⟩:=trodAll_nil r0
 obtain rfl:args = #[v0]:=by cases args;simp_all
 obtain ⟨rfl,rfl⟩:=trodVars_none hV
 have hsz:∀ m∈DataW.weightsEach Tryz.prog [28] [d0],m≤reachBytes:=fun m hm=>by
  have h9:(DataW.weightsEach Tryz.prog (Tryz.f5.params.toList++[]) ([d0]++[])).all (·≤reachBytes)=true:=hsz0
  rw [Tryz.params5,List.append_nil,List.append_nil] at h9
  have:=List.all_eq_true.1 h9 m hm
  simpa using this
 obtain ⟨u0,rfl,_⟩:=okWide_struct Tryz.underlying28 (hval 0 28 v0 rfl rfl)
 obtain ⟨f0,g0⟩:=h0
 obtain ⟨x0,z0,k0⟩:=ApU g0 (fun m hm=>hsz m (DataW.weights_mem_each (j:=0) rfl rfl m hm))
 simp only [List.append_nil] at hW' hA1
 have hrun:=Ts fo5 (t:=((x0.1,(x0.2.1,x0.2.2.1.1)),((x0.2.2.1.2.1,x0.2.2.1.2.2.1),(x0.2.2.1.2.2.2,x0.2.2.2)))) ((Xn z0)) [.v (.agg (Cd.cv (.p (.i .u64) (.p (.i .u16) (.p (.p (.i .i64) (.p (.i .i64) (.p (.i .i64) (.i .i64)))) (.a (.p (.a .y) (.p (.a .y) (.p (.p .b .b) (.p (.p .b .b) (.p (.p .b .b) (.p (.p (.i .i64) (.i .i64)) (.p (.p (.p .b (.p (.i .i64) (.i .u32))) (.p (.p .b (.p (.i .i64) (.i .u32))) (.p (.p .b (.p (.i .i64) (.i .u32))) (.p .b (.p (.i .i64) (.i .u32)))))) (.p (.p .b (.p (.i .i64) (.i .u32))) (.p (.p .b (.p (.i .i64) (.i .u32))) (.p (.p .b (.p (.i .i64) (.i .u32))) (.p .b (.p (.i .i64) (.i .u32))))))))))))))))) x0))] rfl (W:=W) (ApM W) (vs:=[.agg u0]) (⟨⟨u0.toList,by simp,Cd.cv_real (.p (.i .u64) (.p (.i .u16) (.p (.p (.i .i64) (.p (.i .i64) (.p (.i .i64) (.i .i64)))) (.a (.p (.a .y) (.p (.a .y) (.p (.p .b .b) (.p (.p .b .b) (.p (.p .b .b) (.p (.p (.i .i64) (.i .i64)) (.p (.p (.p .b (.p (.i .i64) (.i .u32))) (.p (.p .b (.p (.i .i64) (.i .u32))) (.p (.p .b (.p (.i .i64) (.i .u32))) (.p .b (.p (.i .i64) (.i .u32)))))) (.p (.p .b (.p (.i .i64) (.i .u32))) (.p (.p .b (.p (.i .i64) (.i .u32))) (.p (.p .b (.p (.i .i64) (.i .u32))) (.p .b (.p (.i .i64) (.i .u32))))))))))))))))) z0⟩,trivial⟩) rfl
 refine hrun.mono fun e W' ⟨he,hg⟩=>?_
 subst he
 exact ⟨_,rfl,XB Tryz.laidOut (by intro t ht;simp only [Tryz.params5] at ht;revert t;decide +kernel) rfl rfl Tryz.underlying4 rfl hW' hA1 hg⟩
theorem resyncPairs_holds:Rows.ResyncPairsSaid :=
 OpenClaim.holds_of_wide 5 Tryz.f5 rfl rfl rfl rfl rfl rfl rfl ⟨rfl,rfl,rfl,rfl,rfl⟩ rfl rfl rfl rfl rfl (by kernel_rfl) Tryz.func5 (by kernel_rfl)
  (of_decide_eq_true (by kernel_rfl)) (by unfold Func.isWrapper;first | (rw [if_pos (by decide +kernel)];kernel_rfl) | (rw [if_neg (by decide +kernel)];exact ⟨rfl,rfl⟩))
  (fun os started H enc _=>GF os started H enc)
end Go.Proofs.YtpleflcfaecojaaGreat
