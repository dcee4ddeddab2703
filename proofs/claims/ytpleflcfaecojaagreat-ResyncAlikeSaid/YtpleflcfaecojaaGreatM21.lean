/-
The same, told. Conditions: each theorem's own.
-/
import Derived.Test.YtpleflcfaecojaaGreatM20
namespace Go.Proofs.YtpleflcfaecojaaGreat
set_option linter.unusedVariables false
set_option linter.unusedSimpArgs false
set_option maxRecDepth 100000
open Go.RowKit
noncomputable section
noncomputable def c3:Code:=cq2 (cq2 (cq2 (cq2 (cOf Tryz.f3))))
noncomputable def g3:HC:=(HC.o2 h3.s2.s2.s2).s2
noncomputable def a3:Code:=clp (cbk (cq2 (cq1 c3)))
noncomputable def KO3:Exit→HSt→Option Bool:=KB 0 (KS (stpT Tryz.prog T182 K182) Tryz.f3.ntmps 0 (cq2 c3) g3.s2 (KF Tryz.prog Tryz.f3 0 r3))
noncomputable def LB3:(Bh ⊕ Bi ⊕ AE ⊕ AE)→Option (Ctl (Bh ⊕ Bi ⊕ AE ⊕ AE) Bool):=LBk (stpT Tryz.prog T182 K182) Tryz.f3.ntmps 0 a3 g3.s1.s2.b1.l1 [o3_s22,o3_s23,o3_s24,o3_s25] KO3
noncomputable def HC.o1:HC→HC
  | .on _ x _=>x
  | h=>h
noncomputable def x3:HC:=g3.s1.s2.b1.l1.o1
noncomputable def y3:HC:=g3.s1.s2.b1.l1.o2.o2.o1
noncomputable def KT3 (x:HC):Exit→HSt→Option (Ctl (Bh ⊕ Bi ⊕ AE ⊕ AE) Bool):=KB 1 (KS (stpT Tryz.prog T182 K182) Tryz.f3.ntmps 0 (cq2 (cq2 a3)) x.s2.s2 (KLp 0 [o3_s22,o3_s23,o3_s24,o3_s25] KO3))
noncomputable def TBa:(Bs ⊕ AK ⊕ AK ⊕ Bu)→Option (Ctl (Bh ⊕ Bi ⊕ AE ⊕ AE) (Bool)):=TBg (stpT Tryz.prog T182 K182) Tryz.f3.ntmps 0 (cq2 (cq2 (cbk (cq1 (cq2 a3))))) x3.s2.s1.b1.s2.s2 [o3_s3,o3_s4,o3_s5,o3_s6] (KT3 x3)
theorem TBa_0 v:TBa (Sum.inl v)=Bp (Sum.inl v):=by kernel_rfl
theorem TBa_1 v:TBa (Sum.inr (Sum.inl v))=Bp (Sum.inr (Sum.inl v)):=by kernel_rfl
theorem TBa_2 v:TBa (Sum.inr (Sum.inr (Sum.inl v)))=Bp (Sum.inr (Sum.inr (Sum.inl v))):=by kernel_rfl
theorem TBa_3 v:TBa (Sum.inr (Sum.inr (Sum.inr v)))=Bp (Sum.inr (Sum.inr (Sum.inr v))):=by kernel_rfl
theorem TBa_eq:TBa=Bp:=funext fun v=>by
  rcases v with v | v | v | v
  · exact TBa_0 v
  · exact TBa_1 v
  · exact TBa_2 v
  · exact TBa_3 v
noncomputable def TBb:(Bs ⊕ AK ⊕ AK ⊕ Bu)→Option (Ctl (Bh ⊕ Bi ⊕ AE ⊕ AE) (Bool)):=TBg (stpT Tryz.prog T182 K182) Tryz.f3.ntmps 0 (cq2 (cq2 (cbk (cq1 (cq2 a3))))) y3.s2.s1.b1.s2.s2 [o3_s3,o3_s5,o3_s4,o3_s6] (KT3 y3)
theorem TBb_0 v:TBb (Sum.inl v)=Bq (Sum.inl v):=by kernel_rfl
theorem TBb_1 v:TBb (Sum.inr (Sum.inl v))=Bq (Sum.inr (Sum.inl v)):=by kernel_rfl
theorem TBb_2 v:TBb (Sum.inr (Sum.inr (Sum.inl v)))=Bq (Sum.inr (Sum.inr (Sum.inl v))):=by kernel_rfl
theorem TBb_3 v:TBb (Sum.inr (Sum.inr (Sum.inr v)))=Bq (Sum.inr (Sum.inr (Sum.inr v))):=by kernel_rfl
theorem TBb_eq:TBb=Bq:=funext fun v=>by
  rcases v with v | v | v | v
  · exact TBb_0 v
  · exact TBb_1 v
  · exact TBb_2 v
  · exact TBb_3 v
noncomputable def o3_bL (v9:Bh ⊕ Bi ⊕ AE ⊕ AE):Option (Ctl (Bh ⊕ Bi ⊕ AE ⊕ AE) Bool) :=
 (sm v9 (fun v10=>(bd (α:=Em) (cnd (decide (v10.1.1.1.1 < ((v10.1.1.1.2.2.2.2.length:Nat):Int))) (some ((((v10.1.1.1.1,(decide (v10.1.1.1.1 < (24:Int)))),v10.1.1.1.2,v10.1.1.2.1),(v10.1.1.2.2,v10.1.2.1.1),v10.1.2.1.2,v10.1.2.2),v10.2)) (some ((((v10.1.1.1.1,false),v10.1.1.1.2,v10.1.1.2.1),(v10.1.1.2.2,v10.1.2.1.1),v10.1.2.1.2,v10.1.2.2),v10.2))) (fun v12=>(cnd v12.1.1.1.2 (gd (decide ((0:Int)≤v12.1.1.1.1∧v12.1.1.1.1 < ((v12.1.1.2.1.2.2.2.length:Nat):Int))) (bd (α:=Bs ⊕ AK ⊕ AK ⊕ Bu) (bd (α:=(Bt)) (o10 ((List.getD v12.1.1.2.1.2.2.2 v12.1.1.1.1.toNat dCy).1) (20:Int)) (fun v22=>(bd (α:=(Bt)) (o10 ((List.getD v12.1.1.2.1.2.2.2 v12.1.1.1.1.toNat dCy).2.1) (20:Int)) (fun v23=>(bd (α:=((Ah×Af)×(I3)×I3) ⊕ Ar ⊕ Ar ⊕ AH) (o9 v22 v23 ((((((List.getD v12.1.1.2.1.2.2.2 v12.1.1.1.1.toNat dCy).2.2.1.1,(List.getD v12.1.1.2.1.2.2.2 v12.1.1.1.1.toNat dCy).2.2.1.2),(List.getD v12.1.1.2.1.2.2.2 v12.1.1.1.1.toNat dCy).2.2.2.1.1,(List.getD v12.1.1.2.1.2.2.2 v12.1.1.1.1.toNat dCy).2.2.2.1.2),((List.getD v12.1.1.2.1.2.2.2 v12.1.1.1.1.toNat dCy).2.2.2.2.1.1,(List.getD v12.1.1.2.1.2.2.2 v12.1.1.1.1.toNat dCy).2.2.2.2.1.2),(List.getD v12.1.1.2.1.2.2.2 v12.1.1.1.1.toNat dCy).2.2.2.2.2.1.1,(List.getD v12.1.1.2.1.2.2.2 v12.1.1.1.1.toNat dCy).2.2.2.2.2.1.2),(((List.getD v12.1.1.2.1.2.2.2 v12.1.1.1.1.toNat dCy).2.2.2.2.2.2.1.1.1,(List.getD v12.1.1.2.1.2.2.2 v12.1.1.1.1.toNat dCy).2.2.2.2.2.2.1.1.2.1),(List.getD v12.1.1.2.1.2.2.2 v12.1.1.1.1.toNat dCy).2.2.2.2.2.2.1.1.2.2,(List.getD v12.1.1.2.1.2.2.2 v12.1.1.1.1.toNat dCy).2.2.2.2.2.2.1.2.1.1),((List.getD v12.1.1.2.1.2.2.2 v12.1.1.1.1.toNat dCy).2.2.2.2.2.2.1.2.1.2.1,(List.getD v12.1.1.2.1.2.2.2 v12.1.1.1.1.toNat dCy).2.2.2.2.2.2.1.2.1.2.2),(List.getD v12.1.1.2.1.2.2.2 v12.1.1.1.1.toNat dCy).2.2.2.2.2.2.1.2.2.1.1,(List.getD v12.1.1.2.1.2.2.2 v12.1.1.1.1.toNat dCy).2.2.2.2.2.2.1.2.2.1.2.1),((((List.getD v12.1.1.2.1.2.2.2 v12.1.1.1.1.toNat dCy).2.2.2.2.2.2.1.2.2.1.2.2,(List.getD v12.1.1.2.1.2.2.2 v12.1.1.1.1.toNat dCy).2.2.2.2.2.2.1.2.2.2.1),(List.getD v12.1.1.2.1.2.2.2 v12.1.1.1.1.toNat dCy).2.2.2.2.2.2.1.2.2.2.2.1,(List.getD v12.1.1.2.1.2.2.2 v12.1.1.1.1.toNat dCy).2.2.2.2.2.2.1.2.2.2.2.2),((List.getD v12.1.1.2.1.2.2.2 v12.1.1.1.1.toNat dCy).2.2.2.2.2.2.2.1.1,(List.getD v12.1.1.2.1.2.2.2 v12.1.1.1.1.toNat dCy).2.2.2.2.2.2.2.1.2.1),(List.getD v12.1.1.2.1.2.2.2 v12.1.1.1.1.toNat dCy).2.2.2.2.2.2.2.1.2.2,(List.getD v12.1.1.2.1.2.2.2 v12.1.1.1.1.toNat dCy).2.2.2.2.2.2.2.2.1.1),(((List.getD v12.1.1.2.1.2.2.2 v12.1.1.1.1.toNat dCy).2.2.2.2.2.2.2.2.1.2.1,(List.getD v12.1.1.2.1.2.2.2 v12.1.1.1.1.toNat dCy).2.2.2.2.2.2.2.2.1.2.2),(List.getD v12.1.1.2.1.2.2.2 v12.1.1.1.1.toNat dCy).2.2.2.2.2.2.2.2.2.1.1,(List.getD v12.1.1.2.1.2.2.2 v12.1.1.1.1.toNat dCy).2.2.2.2.2.2.2.2.2.1.2.1),((List.getD v12.1.1.2.1.2.2.2 v12.1.1.1.1.toNat dCy).2.2.2.2.2.2.2.2.2.1.2.2,(List.getD v12.1.1.2.1.2.2.2 v12.1.1.1.1.toNat dCy).2.2.2.2.2.2.2.2.2.2.1),(List.getD v12.1.1.2.1.2.2.2 v12.1.1.1.1.toNat dCy).2.2.2.2.2.2.2.2.2.2.2.1,(List.getD v12.1.1.2.1.2.2.2 v12.1.1.1.1.toNat dCy).2.2.2.2.2.2.2.2.2.2.2.2) v12.1.1.2.2 v12.1.2.1.1 v12.1.2.1.2 v12.1.2.2.1 v12.1.2.2.2.2 v12.2.1.1.1 v12.2.1.1.2 v12.2.2.1.2 v12.2.2.2.1 v12.1.2.2.2.1 v12.2.1.2.1 v12.2.1.2.2 v12.2.2.1.1 v12.2.2.2.2.1 v12.2.2.2.2.2) (fun v24=>(sm v24 (fun v25=>(some (Sum.inl ((v12.1.1.1.1,v12.1.1.2.1,v25.1.2),v25.1.1,v25.2)))) (fun v26=>(sm v26 (fun v27=>(some (Sum.inr (Sum.inl (((v12.1.1.1.1,v12.1.1.2.1,v27.1.1.2),v27.1.1.1,v27.1.2.1,v27.1.2.2.1),(v27.1.2.2.2,v27.2.1),v27.2.2))))) (fun v28=>(sm v28 (fun v29=>(some (Sum.inr (Sum.inr (Sum.inl (((v12.1.1.1.1,v12.1.1.2.1,v29.1.1.2),v29.1.1.1,v29.1.2.1,v29.1.2.2.1),(v29.1.2.2.2,v29.2.1),v29.2.2)))))) (fun v30=>(some (Sum.inr (Sum.inr (Sum.inr ((((v12.1.1.1.1,v12.1.1.2.1),v30.1.1.1.2,v30.1.1.1.1),v30.1.1.2,v30.1.2.1.1,v30.1.2.1.2,v30.1.2.2.1),((v30.1.2.2.2,v30.2.1.1.1),v30.2.1.1.2,v30.2.1.2.1),(v30.2.1.2.2,v30.2.2.1.1),v30.2.2.1.2,v30.2.2.2))))))))))))))))) TBa)) (dnO (some true)))))) (fun v11=>(sm v11 (fun v74=>(bd (α:=En) (cnd (decide (v74.1.1 < ((v74.1.2.2.2.2.length:Nat):Int))) (some ((v74.1.1,(decide (v74.1.1 < (24:Int))),v74.1.2),v74.2)) (some ((v74.1.1,false,v74.1.2),v74.2))) (fun v76=>(cnd v76.1.2.1 (gd (decide ((0:Int)≤v76.1.1∧v76.1.1 < ((v76.1.2.2.2.2.2.length:Nat):Int))) (bd (α:=Bs ⊕ AK ⊕ AK ⊕ Bu) (bd (α:=(Bt)) (o10 ((List.getD v76.1.2.2.2.2.2 v76.1.1.toNat dCy).1) (20:Int)) (fun v86=>(bd (α:=(Bt)) (o10 ((List.getD v76.1.2.2.2.2.2 v76.1.1.toNat dCy).2.1) (20:Int)) (fun v87=>(bd (α:=((Ah×Af)×(I3)×I3) ⊕ Ar ⊕ Ar ⊕ AH) (o9v1 v86 v87 ((((((List.getD v76.1.2.2.2.2.2 v76.1.1.toNat dCy).2.2.1.1,(List.getD v76.1.2.2.2.2.2 v76.1.1.toNat dCy).2.2.1.2),(List.getD v76.1.2.2.2.2.2 v76.1.1.toNat dCy).2.2.2.1.1,(List.getD v76.1.2.2.2.2.2 v76.1.1.toNat dCy).2.2.2.1.2),((List.getD v76.1.2.2.2.2.2 v76.1.1.toNat dCy).2.2.2.2.1.1,(List.getD v76.1.2.2.2.2.2 v76.1.1.toNat dCy).2.2.2.2.1.2),(List.getD v76.1.2.2.2.2.2 v76.1.1.toNat dCy).2.2.2.2.2.1.1,(List.getD v76.1.2.2.2.2.2 v76.1.1.toNat dCy).2.2.2.2.2.1.2),(((List.getD v76.1.2.2.2.2.2 v76.1.1.toNat dCy).2.2.2.2.2.2.1.1.1,(List.getD v76.1.2.2.2.2.2 v76.1.1.toNat dCy).2.2.2.2.2.2.1.1.2.1),(List.getD v76.1.2.2.2.2.2 v76.1.1.toNat dCy).2.2.2.2.2.2.1.1.2.2,(List.getD v76.1.2.2.2.2.2 v76.1.1.toNat dCy).2.2.2.2.2.2.1.2.1.1),((List.getD v76.1.2.2.2.2.2 v76.1.1.toNat dCy).2.2.2.2.2.2.1.2.1.2.1,(List.getD v76.1.2.2.2.2.2 v76.1.1.toNat dCy).2.2.2.2.2.2.1.2.1.2.2),(List.getD v76.1.2.2.2.2.2 v76.1.1.toNat dCy).2.2.2.2.2.2.1.2.2.1.1,(List.getD v76.1.2.2.2.2.2 v76.1.1.toNat dCy).2.2.2.2.2.2.1.2.2.1.2.1),((((List.getD v76.1.2.2.2.2.2 v76.1.1.toNat dCy).2.2.2.2.2.2.1.2.2.1.2.2,(List.getD v76.1.2.2.2.2.2 v76.1.1.toNat dCy).2.2.2.2.2.2.1.2.2.2.1),(List.getD v76.1.2.2.2.2.2 v76.1.1.toNat dCy).2.2.2.2.2.2.1.2.2.2.2.1,(List.getD v76.1.2.2.2.2.2 v76.1.1.toNat dCy).2.2.2.2.2.2.1.2.2.2.2.2),((List.getD v76.1.2.2.2.2.2 v76.1.1.toNat dCy).2.2.2.2.2.2.2.1.1,(List.getD v76.1.2.2.2.2.2 v76.1.1.toNat dCy).2.2.2.2.2.2.2.1.2.1),(List.getD v76.1.2.2.2.2.2 v76.1.1.toNat dCy).2.2.2.2.2.2.2.1.2.2,(List.getD v76.1.2.2.2.2.2 v76.1.1.toNat dCy).2.2.2.2.2.2.2.2.1.1),(((List.getD v76.1.2.2.2.2.2 v76.1.1.toNat dCy).2.2.2.2.2.2.2.2.1.2.1,(List.getD v76.1.2.2.2.2.2 v76.1.1.toNat dCy).2.2.2.2.2.2.2.2.1.2.2),(List.getD v76.1.2.2.2.2.2 v76.1.1.toNat dCy).2.2.2.2.2.2.2.2.2.1.1,(List.getD v76.1.2.2.2.2.2 v76.1.1.toNat dCy).2.2.2.2.2.2.2.2.2.1.2.1),((List.getD v76.1.2.2.2.2.2 v76.1.1.toNat dCy).2.2.2.2.2.2.2.2.2.1.2.2,(List.getD v76.1.2.2.2.2.2 v76.1.1.toNat dCy).2.2.2.2.2.2.2.2.2.2.1),(List.getD v76.1.2.2.2.2.2 v76.1.1.toNat dCy).2.2.2.2.2.2.2.2.2.2.2.1,(List.getD v76.1.2.2.2.2.2 v76.1.1.toNat dCy).2.2.2.2.2.2.2.2.2.2.2.2) v76.2.1 v76.2.2.1 v76.2.2.2) (fun v88=>(sm v88 (fun v89=>(some (Sum.inl ((v76.1.1,v76.1.2.2,v89.1.2),v89.1.1,v89.2)))) (fun v90=>(sm v90 (fun v91=>(some (Sum.inr (Sum.inl (((v76.1.1,v76.1.2.2,v91.1.1.2),v91.1.1.1,v91.1.2.1,v91.1.2.2.1),(v91.1.2.2.2,v91.2.1),v91.2.2))))) (fun v92=>(sm v92 (fun v93=>(some (Sum.inr (Sum.inr (Sum.inl (((v76.1.1,v76.1.2.2,v93.1.1.2),v93.1.1.1,v93.1.2.1,v93.1.2.2.1),(v93.1.2.2.2,v93.2.1),v93.2.2)))))) (fun v94=>(some (Sum.inr (Sum.inr (Sum.inr ((((v76.1.1,v76.1.2.2),v94.1.1.1.2,v94.1.1.1.1),v94.1.1.2,v94.1.2.1.1,v94.1.2.1.2,v94.1.2.2.1),((v94.1.2.2.2,v94.2.1.1.1),v94.2.1.1.2,v94.2.1.2.1),(v94.2.1.2.2,v94.2.2.1.1),v94.2.2.1.2,v94.2.2.2))))))))))))))))) TBa)) (dnO (some true)))))) (fun v75=>(sm v75 (fun v138=>(bd (α:=Cg) (cnd (decide (v138.1.1.1 < ((v138.1.1.2.2.2.2.length:Nat):Int))) (some (((v138.1.1.1,(decide (v138.1.1.1 < (24:Int))),v138.1.1.2),v138.1.2),v138.2)) (some (((v138.1.1.1,false,v138.1.1.2),v138.1.2),v138.2))) (fun v140=>(cnd v140.1.1.2.1 (gd (decide ((0:Int)≤v140.1.1.1∧v140.1.1.1 < ((v140.1.1.2.2.2.2.2.length:Nat):Int))) (bd (α:=Bs ⊕ AK ⊕ AK ⊕ Bu) (bd (α:=(Bt)) (o10 ((List.getD v140.1.1.2.2.2.2.2 v140.1.1.1.toNat dCy).1) (20:Int)) (fun v150=>(bd (α:=(Bt)) (o10 ((List.getD v140.1.1.2.2.2.2.2 v140.1.1.1.toNat dCy).2.1) (20:Int)) (fun v151=>(bd (α:=((Ah×Af)×(I3)×I3) ⊕ Ar ⊕ Ar ⊕ AH) (o9v2 v150 v151 ((((((List.getD v140.1.1.2.2.2.2.2 v140.1.1.1.toNat dCy).2.2.1.1,(List.getD v140.1.1.2.2.2.2.2 v140.1.1.1.toNat dCy).2.2.1.2),(List.getD v140.1.1.2.2.2.2.2 v140.1.1.1.toNat dCy).2.2.2.1.1,(List.getD v140.1.1.2.2.2.2.2 v140.1.1.1.toNat dCy).2.2.2.1.2),((List.getD v140.1.1.2.2.2.2.2 v140.1.1.1.toNat dCy).2.2.2.2.1.1,(List.getD v140.1.1.2.2.2.2.2 v140.1.1.1.toNat dCy).2.2.2.2.1.2),(List.getD v140.1.1.2.2.2.2.2 v140.1.1.1.toNat dCy).2.2.2.2.2.1.1,(List.getD v140.1.1.2.2.2.2.2 v140.1.1.1.toNat dCy).2.2.2.2.2.1.2),(((List.getD v140.1.1.2.2.2.2.2 v140.1.1.1.toNat dCy).2.2.2.2.2.2.1.1.1,(List.getD v140.1.1.2.2.2.2.2 v140.1.1.1.toNat dCy).2.2.2.2.2.2.1.1.2.1),(List.getD v140.1.1.2.2.2.2.2 v140.1.1.1.toNat dCy).2.2.2.2.2.2.1.1.2.2,(List.getD v140.1.1.2.2.2.2.2 v140.1.1.1.toNat dCy).2.2.2.2.2.2.1.2.1.1),((List.getD v140.1.1.2.2.2.2.2 v140.1.1.1.toNat dCy).2.2.2.2.2.2.1.2.1.2.1,(List.getD v140.1.1.2.2.2.2.2 v140.1.1.1.toNat dCy).2.2.2.2.2.2.1.2.1.2.2),(List.getD v140.1.1.2.2.2.2.2 v140.1.1.1.toNat dCy).2.2.2.2.2.2.1.2.2.1.1,(List.getD v140.1.1.2.2.2.2.2 v140.1.1.1.toNat dCy).2.2.2.2.2.2.1.2.2.1.2.1),((((List.getD v140.1.1.2.2.2.2.2 v140.1.1.1.toNat dCy).2.2.2.2.2.2.1.2.2.1.2.2,(List.getD v140.1.1.2.2.2.2.2 v140.1.1.1.toNat dCy).2.2.2.2.2.2.1.2.2.2.1),(List.getD v140.1.1.2.2.2.2.2 v140.1.1.1.toNat dCy).2.2.2.2.2.2.1.2.2.2.2.1,(List.getD v140.1.1.2.2.2.2.2 v140.1.1.1.toNat dCy).2.2.2.2.2.2.1.2.2.2.2.2),((List.getD v140.1.1.2.2.2.2.2 v140.1.1.1.toNat dCy).2.2.2.2.2.2.2.1.1,(List.getD v140.1.1.2.2.2.2.2 v140.1.1.1.toNat dCy).2.2.2.2.2.2.2.1.2.1),(List.getD v140.1.1.2.2.2.2.2 v140.1.1.1.toNat dCy).2.2.2.2.2.2.2.1.2.2,(List.getD v140.1.1.2.2.2.2.2 v140.1.1.1.toNat dCy).2.2.2.2.2.2.2.2.1.1),(((List.getD v140.1.1.2.2.2.2.2 v140.1.1.1.toNat dCy).2.2.2.2.2.2.2.2.1.2.1,(List.getD v140.1.1.2.2.2.2.2 v140.1.1.1.toNat dCy).2.2.2.2.2.2.2.2.1.2.2),(List.getD v140.1.1.2.2.2.2.2 v140.1.1.1.toNat dCy).2.2.2.2.2.2.2.2.2.1.1,(List.getD v140.1.1.2.2.2.2.2 v140.1.1.1.toNat dCy).2.2.2.2.2.2.2.2.2.1.2.1),((List.getD v140.1.1.2.2.2.2.2 v140.1.1.1.toNat dCy).2.2.2.2.2.2.2.2.2.1.2.2,(List.getD v140.1.1.2.2.2.2.2 v140.1.1.1.toNat dCy).2.2.2.2.2.2.2.2.2.2.1),(List.getD v140.1.1.2.2.2.2.2 v140.1.1.1.toNat dCy).2.2.2.2.2.2.2.2.2.2.2.1,(List.getD v140.1.1.2.2.2.2.2 v140.1.1.1.toNat dCy).2.2.2.2.2.2.2.2.2.2.2.2) v140.1.2.1 v140.1.2.2.1 v140.1.2.2.2 v140.2.1.1 v140.2.1.2.1 v140.2.1.2.2 v140.2.2.1 v140.2.2.2.1 v140.2.2.2.2) (DB v140)))))) TBb)) (dnO (some true)))))) (fun v139=>(bd (α:=Cg) (cnd (decide (v139.1.1.1 < ((v139.1.1.2.2.2.2.length:Nat):Int))) (some (((v139.1.1.1,(decide (v139.1.1.1 < (24:Int))),v139.1.1.2),v139.1.2),v139.2)) (some (((v139.1.1.1,false,v139.1.1.2),v139.1.2),v139.2))) (fun v202=>(cnd v202.1.1.2.1 (gd (decide ((0:Int)≤v202.1.1.1∧v202.1.1.1 < ((v202.1.1.2.2.2.2.2.length:Nat):Int))) (bd (α:=Bs ⊕ AK ⊕ AK ⊕ Bu) (bd (α:=(Bt)) (o10 ((List.getD v202.1.1.2.2.2.2.2 v202.1.1.1.toNat dCy).1) (20:Int)) (fun v212=>(bd (α:=(Bt)) (o10 ((List.getD v202.1.1.2.2.2.2.2 v202.1.1.1.toNat dCy).2.1) (20:Int)) (fun v213=>(bd (α:=((Ah×Af)×(I3)×I3) ⊕ Ar ⊕ Ar ⊕ AH) (o9v3 v212 v213 ((((((List.getD v202.1.1.2.2.2.2.2 v202.1.1.1.toNat dCy).2.2.1.1,(List.getD v202.1.1.2.2.2.2.2 v202.1.1.1.toNat dCy).2.2.1.2),(List.getD v202.1.1.2.2.2.2.2 v202.1.1.1.toNat dCy).2.2.2.1.1,(List.getD v202.1.1.2.2.2.2.2 v202.1.1.1.toNat dCy).2.2.2.1.2),((List.getD v202.1.1.2.2.2.2.2 v202.1.1.1.toNat dCy).2.2.2.2.1.1,(List.getD v202.1.1.2.2.2.2.2 v202.1.1.1.toNat dCy).2.2.2.2.1.2),(List.getD v202.1.1.2.2.2.2.2 v202.1.1.1.toNat dCy).2.2.2.2.2.1.1,(List.getD v202.1.1.2.2.2.2.2 v202.1.1.1.toNat dCy).2.2.2.2.2.1.2),(((List.getD v202.1.1.2.2.2.2.2 v202.1.1.1.toNat dCy).2.2.2.2.2.2.1.1.1,(List.getD v202.1.1.2.2.2.2.2 v202.1.1.1.toNat dCy).2.2.2.2.2.2.1.1.2.1),(List.getD v202.1.1.2.2.2.2.2 v202.1.1.1.toNat dCy).2.2.2.2.2.2.1.1.2.2,(List.getD v202.1.1.2.2.2.2.2 v202.1.1.1.toNat dCy).2.2.2.2.2.2.1.2.1.1),((List.getD v202.1.1.2.2.2.2.2 v202.1.1.1.toNat dCy).2.2.2.2.2.2.1.2.1.2.1,(List.getD v202.1.1.2.2.2.2.2 v202.1.1.1.toNat dCy).2.2.2.2.2.2.1.2.1.2.2),(List.getD v202.1.1.2.2.2.2.2 v202.1.1.1.toNat dCy).2.2.2.2.2.2.1.2.2.1.1,(List.getD v202.1.1.2.2.2.2.2 v202.1.1.1.toNat dCy).2.2.2.2.2.2.1.2.2.1.2.1),((((List.getD v202.1.1.2.2.2.2.2 v202.1.1.1.toNat dCy).2.2.2.2.2.2.1.2.2.1.2.2,(List.getD v202.1.1.2.2.2.2.2 v202.1.1.1.toNat dCy).2.2.2.2.2.2.1.2.2.2.1),(List.getD v202.1.1.2.2.2.2.2 v202.1.1.1.toNat dCy).2.2.2.2.2.2.1.2.2.2.2.1,(List.getD v202.1.1.2.2.2.2.2 v202.1.1.1.toNat dCy).2.2.2.2.2.2.1.2.2.2.2.2),((List.getD v202.1.1.2.2.2.2.2 v202.1.1.1.toNat dCy).2.2.2.2.2.2.2.1.1,(List.getD v202.1.1.2.2.2.2.2 v202.1.1.1.toNat dCy).2.2.2.2.2.2.2.1.2.1),(List.getD v202.1.1.2.2.2.2.2 v202.1.1.1.toNat dCy).2.2.2.2.2.2.2.1.2.2,(List.getD v202.1.1.2.2.2.2.2 v202.1.1.1.toNat dCy).2.2.2.2.2.2.2.2.1.1),(((List.getD v202.1.1.2.2.2.2.2 v202.1.1.1.toNat dCy).2.2.2.2.2.2.2.2.1.2.1,(List.getD v202.1.1.2.2.2.2.2 v202.1.1.1.toNat dCy).2.2.2.2.2.2.2.2.1.2.2),(List.getD v202.1.1.2.2.2.2.2 v202.1.1.1.toNat dCy).2.2.2.2.2.2.2.2.2.1.1,(List.getD v202.1.1.2.2.2.2.2 v202.1.1.1.toNat dCy).2.2.2.2.2.2.2.2.2.1.2.1),((List.getD v202.1.1.2.2.2.2.2 v202.1.1.1.toNat dCy).2.2.2.2.2.2.2.2.2.1.2.2,(List.getD v202.1.1.2.2.2.2.2 v202.1.1.1.toNat dCy).2.2.2.2.2.2.2.2.2.2.1),(List.getD v202.1.1.2.2.2.2.2 v202.1.1.1.toNat dCy).2.2.2.2.2.2.2.2.2.2.2.1,(List.getD v202.1.1.2.2.2.2.2 v202.1.1.1.toNat dCy).2.2.2.2.2.2.2.2.2.2.2.2) v202.1.2.1 v202.1.2.2.1 v202.1.2.2.2 v202.2.1.1 v202.2.1.2.1 v202.2.1.2.2 v202.2.2.1 v202.2.2.2.1 v202.2.2.2.2) (DB v202)))))) TBb)) (dnO (some true)))))))))))
theorem l3_0 v:LB3 (Sum.inl v)=o3_bL (Sum.inl v):=by kernel_rfl
theorem l3_1 v:LB3 (Sum.inr (Sum.inl v))=o3_bL (Sum.inr (Sum.inl v)):=by kernel_rfl
theorem l3_2 v:LB3 (Sum.inr (Sum.inr (Sum.inl v)))=o3_bL (Sum.inr (Sum.inr (Sum.inl v))):=by kernel_rfl
theorem l3_3 v:LB3 (Sum.inr (Sum.inr (Sum.inr v)))=o3_bL (Sum.inr (Sum.inr (Sum.inr v))):=by kernel_rfl
theorem l3:LB3=o3_b0:=funext fun v=>by
  have h:LB3 v=o3_bL v:=by
    rcases v with v | v | v | v
    · exact l3_0 v
    · exact l3_1 v
    · exact l3_2 v
    · exact l3_3 v
  rw [h]
  unfold o3_bL o3_b0
  rw [TBa_eq,TBb_eq]
noncomputable def o3L (a0:AA):Option Bool :=
 (bd (α:=Bool) o7 (fun v1=>(cnd (!v1) (some false) (bd (α:=AA ⊕ GE) (bd (α:=((I2)×I2) ⊕ CA) (o8 a0) (fun v2=>(sm v2 (fun v3=>(some (Sum.inl a0))) (fun v4=>(some (Sum.inr ((((a0,v4.1.1.1.2),v4.1.1.2),v4.1.2),v4.2))))))) (fun v5=>(sm v5 (fun v6=>(some false)) (fun v7=>(loopO (σ:=Bh ⊕ Bi ⊕ AE ⊕ AE) fuelN LB3 (Sum.inl (((((0:Int),v7.1.1.1.1),v7.1.1.1.2,v7.1.1.2.1),(v7.1.1.2.2,v7.1.2.1.1),v7.1.2.1.2,v7.1.2.2.1),((v7.1.2.2.2,v7.2.1.1.1),v7.2.1.1.2,v7.2.1.2.1),(v7.2.1.2.2,v7.2.2.1.1),v7.2.2.1.2,v7.2.2.2))))))))))
theorem e3L (t:AA):evF (stpT Tryz.prog T182 K182) Tryz.f3 p3 r3 h3 t=(o3L t):=by kernel_rfl
theorem e3 (t:AA):evF (stpT Tryz.prog T182 K182) Tryz.f3 p3 r3 h3 t=(o3 t):=(e3L t).trans (by unfold o3L o3;rw [l3])
def n3:FSp:=⟨p3,r3,fun t=>(o3 t)⟩
theorem fo3:FOk Tryz.prog 3 n3:=fk e3
end
def tgSame (t u:Tg):Bool:=(t.lat==u.lat)&&((t.ver==u.ver)&&((t.ph==u.ph)&&((t.bank==u.bank)&&((t.speed==u.speed)&&((t.alt==u.alt)&&(t.vs==u.vs))))))
theorem tg_eq {t u:Tg} (h:t=u):(!tgSame t u)=false:=by subst h;simp [tgSame]
def pairB (q:W):Bool:=(q.r.role1==2&&q.r.role2==3) || (q.r.role1==3&&q.r.role2==2)
theorem pair_eq {α:Type} (a b c d:Bool) (F:Bool→α):cnd a (cnd b (some (F true)) (cnd c (some (F d)) (some (F false)))) (cnd c (some (F d)) (some (F false)))=some (F ((a&&b) || (c&&d))):=by cases a <;> cases b <;> cases c <;> cases d <;> rfl
def AlikeA (q:W):Prop:=q.r.st1=4→q.r.st2=4→q.r.t1=q.r.t2
def saveOf (c:Cp) (m:Mc):List UInt8:=cond (c.nd.role==1) [] (saveB m)
def SameB (q:W):Prop:=pairB q=true→q.r.steps1=q.r.steps2→saveOf q.c1 q.m1=saveOf q.c2 q.m2∧saveOf q.c1 q.m1≠[]
theorem len_ne {s:List UInt8} (h:s≠[]):(((s.length:Nat):Int)==0)=false:=by
 have:s.length≠0:=fun e=>h (List.length_eq_zero_iff.1 e)
 exact by rw [beq_eq_false_iff_ne];omega
theorem save1_eq {w:W} (h:w.ok true true):o11v6 w.p.e w.m1.e w.m2.e w.c1.h w.c1.nd.e w.c1.ps (w.c1.cz,w.c1.co.ps,w.c1.co.ss) w.c2.h w.c2.nd.e w.c2.ps (w.c2.cz,w.c2.co.ps,w.c2.co.ss)=some (saveOf w.c1 w.m1):=by
 have hl:=saveB_len w.m1
 have hp:=h.p1
 unfold o11v6
 refine (bdS (o46_eq w.c1 _)).trans ?_
 refine cnd_ext (c:=w.c1.nd.role==1) (F:=fun z=>z) rfl ?_
 exact (bdS (o180_eq hp.1 (by omega))).trans (bdS (o33_eq (by omega)))
theorem save2_eq {w:W} (h:w.ok true true):o11v7 w.p.e w.m1.e w.m2.e w.c1.h w.c1.nd.e w.c1.ps (w.c1.cz,w.c1.co.ps,w.c1.co.ss) w.c2.h w.c2.nd.e w.c2.ps (w.c2.cz,w.c2.co.ps,w.c2.co.ss)=some (saveOf w.c2 w.m2):=by
 have hl:=saveB_len w.m2
 have hp:=h.p2
 unfold o11v7
 refine (bdS (o46_eq w.c2 _)).trans ?_
 refine cnd_ext (c:=w.c2.nd.role==1) (F:=fun z=>z) rfl ?_
 exact (bdS (o180_eq hp.1 (by omega))).trans (bdS (o33_eq (by omega)))
def encAl (a b:Bool) (i:Int) (wo:WoT) (w:W):Bh ⊕ Bi ⊕ AE ⊕ AE :=
 cond a (cond b (Sum.inl ((((i,wo),w.p.e,w.m1.e),(w.m2.e,w.c1.h),w.c2.h,w.c1.nd.e),((w.c1.ps,w.c1.cz),w.c2.nd.e,w.c2.ps),(w.c2.cz,w.c1.co.ps),w.c1.co.ss,w.c2.co.ps,w.c2.co.ss)) (Sum.inr (Sum.inr (Sum.inr (((i,wo),w.p.e,w.m1.e,w.m2.e),(w.c1.h,w.c1.nd.e,w.c1.ps),w.c1.cz,w.c1.co.ps,w.c1.co.ss))))) (cond b (Sum.inr (Sum.inr (Sum.inl (((i,wo),w.p.e,w.m1.e,w.m2.e),(w.c2.h,w.c2.nd.e,w.c2.ps),w.c2.cz,w.c2.co.ps,w.c2.co.ss)))) (Sum.inr (Sum.inl ((i,wo),w.p.e,w.m1.e,w.m2.e))))
theorem tAl_7a3d4f_11 {wo:WoT} {k:Nat} (h20:((k:Nat):Int) < 24) {q:W} (hA:AlikeA q) (hok:q.ok true true) (hB:SameB q):Bp (Sum.inr (Sum.inr (Sum.inr ((((((k:Nat):Int),wo),q.p.e,(((q.r.cycle,q.r.role1,q.r.role2),(q.r.st1,q.r.st2),q.r.steps1,q.r.steps2),(q.r.t1.lat,q.r.t1.ver,q.r.t1.ph),(q.r.t1.bank,q.r.t1.speed),q.r.t1.alt,q.r.t1.vs),((q.r.t2.lat,q.r.t2.ver,q.r.t2.ph),(q.r.t2.bank,q.r.t2.speed),q.r.t2.alt,q.r.t2.vs),((q.r.src,q.p.use.lat),(q.p.use.ver,q.p.use.ph)),((q.p.use.bank,q.p.use.speed),q.p.use.alt,q.p.use.vs)),(q.m1.e,q.m2.e),q.c1.h,q.c2.h,q.c1.nd.e),((q.c1.ps,q.c1.cz),q.c2.nd.e,q.c2.ps),(q.c2.cz,q.c1.co.ps),q.c1.co.ss,q.c2.co.ps,q.c2.co.ss))))=some (Ctl.go (encAl true true ((k+1:Nat):Int) wo q)):=by
 unfold Bp
 refine (smR _ _ _).trans ((smR _ _ _).trans ((smR _ _ _).trans (?_)))
 refine (bdS (t:=((((((k:Nat):Int),false),wo,q.p.e),(((((q.r.cycle,q.r.role1,q.r.role2),(q.r.st1,q.r.st2),q.r.steps1,q.r.steps2),(q.r.t1.lat,q.r.t1.ver,q.r.t1.ph),(q.r.t1.bank,q.r.t1.speed),q.r.t1.alt,q.r.t1.vs),((q.r.t2.lat,q.r.t2.ver,q.r.t2.ph),(q.r.t2.bank,q.r.t2.speed),q.r.t2.alt,q.r.t2.vs),((q.r.src,q.p.use.lat),(q.p.use.ver,q.p.use.ph)),((q.p.use.bank,q.p.use.speed),q.p.use.alt,q.p.use.vs)),q.m1.e),q.m2.e,q.c1.h,q.c2.h),((q.c1.nd.e,q.c1.ps),q.c1.cz,q.c2.nd.e,q.c2.ps),(q.c2.cz,q.c1.co.ps),q.c1.co.ss,q.c2.co.ps,q.c2.co.ss)) ?_).trans ((cndF rfl).trans ?_)
 ·by_cases h1:(q.r.st1==4)=true
  rotate_left
  ·exact (cndF (Bool.eq_false_iff.2 h1)).trans rfl
  ·refine (cndT h1).trans ?_
   by_cases h2:(q.r.st2==4)=true
   rotate_left
   ·exact (cndF (Bool.eq_false_iff.2 h2)).trans rfl
   ·refine (cndT h2).trans ?_
    exact congrArg (fun z:Bool=>some ((((((k:Nat):Int),z),wo,q.p.e),(((((q.r.cycle,q.r.role1,q.r.role2),(q.r.st1,q.r.st2),q.r.steps1,q.r.steps2),(q.r.t1.lat,q.r.t1.ver,q.r.t1.ph),(q.r.t1.bank,q.r.t1.speed),q.r.t1.alt,q.r.t1.vs),((q.r.t2.lat,q.r.t2.ver,q.r.t2.ph),(q.r.t2.bank,q.r.t2.speed),q.r.t2.alt,q.r.t2.vs),((q.r.src,q.p.use.lat),(q.p.use.ver,q.p.use.ph)),((q.p.use.bank,q.p.use.speed),q.p.use.alt,q.p.use.vs)),q.m1.e),q.m2.e,q.c1.h,q.c2.h),((q.c1.nd.e,q.c1.ps),q.c1.cz,q.c2.nd.e,q.c2.ps),(q.c2.cz,q.c1.co.ps),q.c1.co.ss,q.c2.co.ps,q.c2.co.ss)) (tg_eq (hA (by simpa using h1) (by simpa using h2)))
 refine (bdS (t:=((((((k:Nat):Int),pairB q),wo,q.p.e),(((((q.r.cycle,q.r.role1,q.r.role2),(q.r.st1,q.r.st2),q.r.steps1,q.r.steps2),(q.r.t1.lat,q.r.t1.ver,q.r.t1.ph),(q.r.t1.bank,q.r.t1.speed),q.r.t1.alt,q.r.t1.vs),((q.r.t2.lat,q.r.t2.ver,q.r.t2.ph),(q.r.t2.bank,q.r.t2.speed),q.r.t2.alt,q.r.t2.vs),((q.r.src,q.p.use.lat),(q.p.use.ver,q.p.use.ph)),((q.p.use.bank,q.p.use.speed),q.p.use.alt,q.p.use.vs)),q.m1.e),q.m2.e,q.c1.h,q.c2.h),((q.c1.nd.e,q.c1.ps),q.c1.cz,q.c2.nd.e,q.c2.ps),(q.c2.cz,q.c1.co.ps),q.c1.co.ss,q.c2.co.ps,q.c2.co.ss)) ?_).trans ?_
 ·exact pair_eq (q.r.role1==2) (q.r.role2==3) (q.r.role1==3) (q.r.role2==2) (fun z:Bool=>((((((k:Nat):Int),z),wo,q.p.e),(((((q.r.cycle,q.r.role1,q.r.role2),(q.r.st1,q.r.st2),q.r.steps1,q.r.steps2),(q.r.t1.lat,q.r.t1.ver,q.r.t1.ph),(q.r.t1.bank,q.r.t1.speed),q.r.t1.alt,q.r.t1.vs),((q.r.t2.lat,q.r.t2.ver,q.r.t2.ph),(q.r.t2.bank,q.r.t2.speed),q.r.t2.alt,q.r.t2.vs),((q.r.src,q.p.use.lat),(q.p.use.ver,q.p.use.ph)),((q.p.use.bank,q.p.use.speed),q.p.use.alt,q.p.use.vs)),q.m1.e),q.m2.e,q.c1.h,q.c2.h),((q.c1.nd.e,q.c1.ps),q.c1.cz,q.c2.nd.e,q.c2.ps),(q.c2.cz,q.c1.co.ps),q.c1.co.ss,q.c2.co.ps,q.c2.co.ss))
 refine (bdS (t:=((((((k:Nat):Int),false),wo,q.p.e),(q.m1.e,q.m2.e),q.c1.h,q.c2.h,q.c1.nd.e),((q.c1.ps,q.c1.cz),q.c2.nd.e,q.c2.ps),(q.c2.cz,q.c1.co.ps),q.c1.co.ss,q.c2.co.ps,q.c2.co.ss)) ?_).trans ((cndF rfl).trans ?_)
 ·by_cases hp:pairB q=true
  rotate_left
  ·exact (cndF (Bool.eq_false_iff.2 hp)).trans rfl
  ·refine (cndT hp).trans ?_
   by_cases hs:(q.r.steps1==q.r.steps2)=true
   rotate_left
   ·exact (cndF (Bool.eq_false_iff.2 hs)).trans rfl
   ·refine (cndT hs).trans ?_
    obtain ⟨e1,e2⟩:=hB hp (by simpa using hs)
    refine (bdS (save1_eq (w:=q) hok)).trans ((bdS (save2_eq (w:=q) hok)).trans ((cndF (by rw [e1];simp)).trans ((bdS (save1_eq (w:=q) hok)).trans ?_)))
    exact congrArg (fun z:Bool=>some ((((((k:Nat):Int),z),wo,q.p.e),(q.m1.e,q.m2.e),q.c1.h,q.c2.h,q.c1.nd.e),((q.c1.ps,q.c1.cz),q.c2.nd.e,q.c2.ps),(q.c2.cz,q.c1.co.ps),q.c1.co.ss,q.c2.co.ps,q.c2.co.ss)) (len_ne e2)
 exact go_i (z:=IntKind.i64.wrap (((k:Nat):Int)+1)) (z':=((k+1:Nat):Int)) (by rw [wr64 (by omega)];rfl) (fun i:Int=>(Sum.inl ((((i,wo),q.p.e,q.m1.e),(q.m2.e,q.c1.h),q.c2.h,q.c1.nd.e),((q.c1.ps,q.c1.cz),q.c2.nd.e,q.c2.ps),(q.c2.cz,q.c1.co.ps),q.c1.co.ss,q.c2.co.ps,q.c2.co.ss)))
theorem tAl_7a3d4f_10 {wo:WoT} {k:Nat} (h20:((k:Nat):Int) < 24) {q:W} (hA:AlikeA q) (hB:pairB q=false):Bp (Sum.inr (Sum.inr (Sum.inl (((((k:Nat):Int),wo,q.p.e),((((q.r.cycle,q.r.role1,q.r.role2),(q.r.st1,q.r.st2),q.r.steps1,q.r.steps2),(q.r.t1.lat,q.r.t1.ver,q.r.t1.ph),(q.r.t1.bank,q.r.t1.speed),q.r.t1.alt,q.r.t1.vs),((q.r.t2.lat,q.r.t2.ver,q.r.t2.ph),(q.r.t2.bank,q.r.t2.speed),q.r.t2.alt,q.r.t2.vs),((q.r.src,q.p.use.lat),(q.p.use.ver,q.p.use.ph)),((q.p.use.bank,q.p.use.speed),q.p.use.alt,q.p.use.vs)),q.m1.e,q.m2.e),(q.c1.h,q.c1.nd.e,q.c1.ps),q.c1.cz,q.c1.co.ps,q.c1.co.ss))))=some (Ctl.go (encAl true false ((k+1:Nat):Int) wo q)):=by
 unfold Bp
 refine (smR _ _ _).trans ((smR _ _ _).trans ((smL _ _ _).trans (?_)))
 refine (bdS (t:=(((((k:Nat):Int),false,wo),q.p.e,((((q.r.cycle,q.r.role1,q.r.role2),(q.r.st1,q.r.st2),q.r.steps1,q.r.steps2),(q.r.t1.lat,q.r.t1.ver,q.r.t1.ph),(q.r.t1.bank,q.r.t1.speed),q.r.t1.alt,q.r.t1.vs),((q.r.t2.lat,q.r.t2.ver,q.r.t2.ph),(q.r.t2.bank,q.r.t2.speed),q.r.t2.alt,q.r.t2.vs),((q.r.src,q.p.use.lat),(q.p.use.ver,q.p.use.ph)),((q.p.use.bank,q.p.use.speed),q.p.use.alt,q.p.use.vs)),q.m1.e),(q.m2.e,q.c1.h,q.c1.nd.e),(q.c1.ps,q.c1.cz),q.c1.co.ps,q.c1.co.ss)) ?_).trans ((cndF rfl).trans ?_)
 ·by_cases h1:(q.r.st1==4)=true
  rotate_left
  ·exact (cndF (Bool.eq_false_iff.2 h1)).trans rfl
  ·refine (cndT h1).trans ?_
   by_cases h2:(q.r.st2==4)=true
   rotate_left
   ·exact (cndF (Bool.eq_false_iff.2 h2)).trans rfl
   ·refine (cndT h2).trans ?_
    exact congrArg (fun z:Bool=>some (((((k:Nat):Int),z,wo),q.p.e,((((q.r.cycle,q.r.role1,q.r.role2),(q.r.st1,q.r.st2),q.r.steps1,q.r.steps2),(q.r.t1.lat,q.r.t1.ver,q.r.t1.ph),(q.r.t1.bank,q.r.t1.speed),q.r.t1.alt,q.r.t1.vs),((q.r.t2.lat,q.r.t2.ver,q.r.t2.ph),(q.r.t2.bank,q.r.t2.speed),q.r.t2.alt,q.r.t2.vs),((q.r.src,q.p.use.lat),(q.p.use.ver,q.p.use.ph)),((q.p.use.bank,q.p.use.speed),q.p.use.alt,q.p.use.vs)),q.m1.e),(q.m2.e,q.c1.h,q.c1.nd.e),(q.c1.ps,q.c1.cz),q.c1.co.ps,q.c1.co.ss)) (tg_eq (hA (by simpa using h1) (by simpa using h2)))
 refine (bdS (t:=(((((k:Nat):Int),pairB q,wo),q.p.e,((((q.r.cycle,q.r.role1,q.r.role2),(q.r.st1,q.r.st2),q.r.steps1,q.r.steps2),(q.r.t1.lat,q.r.t1.ver,q.r.t1.ph),(q.r.t1.bank,q.r.t1.speed),q.r.t1.alt,q.r.t1.vs),((q.r.t2.lat,q.r.t2.ver,q.r.t2.ph),(q.r.t2.bank,q.r.t2.speed),q.r.t2.alt,q.r.t2.vs),((q.r.src,q.p.use.lat),(q.p.use.ver,q.p.use.ph)),((q.p.use.bank,q.p.use.speed),q.p.use.alt,q.p.use.vs)),q.m1.e),(q.m2.e,q.c1.h,q.c1.nd.e),(q.c1.ps,q.c1.cz),q.c1.co.ps,q.c1.co.ss)) ?_).trans ?_
 ·exact pair_eq (q.r.role1==2) (q.r.role2==3) (q.r.role1==3) (q.r.role2==2) (fun z:Bool=>(((((k:Nat):Int),z,wo),q.p.e,((((q.r.cycle,q.r.role1,q.r.role2),(q.r.st1,q.r.st2),q.r.steps1,q.r.steps2),(q.r.t1.lat,q.r.t1.ver,q.r.t1.ph),(q.r.t1.bank,q.r.t1.speed),q.r.t1.alt,q.r.t1.vs),((q.r.t2.lat,q.r.t2.ver,q.r.t2.ph),(q.r.t2.bank,q.r.t2.speed),q.r.t2.alt,q.r.t2.vs),((q.r.src,q.p.use.lat),(q.p.use.ver,q.p.use.ph)),((q.p.use.bank,q.p.use.speed),q.p.use.alt,q.p.use.vs)),q.m1.e),(q.m2.e,q.c1.h,q.c1.nd.e),(q.c1.ps,q.c1.cz),q.c1.co.ps,q.c1.co.ss))
 refine (bdS (t:=(((((k:Nat):Int),false,wo),q.p.e,q.m1.e,q.m2.e),(q.c1.h,q.c1.nd.e,q.c1.ps),q.c1.cz,q.c1.co.ps,q.c1.co.ss)) ?_).trans ((cndF rfl).trans ?_)
 ·exact (cndF hB).trans rfl
 exact go_i (z:=IntKind.i64.wrap (((k:Nat):Int)+1)) (z':=((k+1:Nat):Int)) (by rw [wr64 (by omega)];rfl) (fun i:Int=>(Sum.inr (Sum.inr (Sum.inr (((i,wo),q.p.e,q.m1.e,q.m2.e),(q.c1.h,q.c1.nd.e,q.c1.ps),q.c1.cz,q.c1.co.ps,q.c1.co.ss)))))
theorem tAl_7a3d4f_01 {wo:WoT} {k:Nat} (h20:((k:Nat):Int) < 24) {q:W} (hA:AlikeA q) (hB:pairB q=false):Bp (Sum.inr (Sum.inl (((((k:Nat):Int),wo,q.p.e),((((q.r.cycle,q.r.role1,q.r.role2),(q.r.st1,q.r.st2),q.r.steps1,q.r.steps2),(q.r.t1.lat,q.r.t1.ver,q.r.t1.ph),(q.r.t1.bank,q.r.t1.speed),q.r.t1.alt,q.r.t1.vs),((q.r.t2.lat,q.r.t2.ver,q.r.t2.ph),(q.r.t2.bank,q.r.t2.speed),q.r.t2.alt,q.r.t2.vs),((q.r.src,q.p.use.lat),(q.p.use.ver,q.p.use.ph)),((q.p.use.bank,q.p.use.speed),q.p.use.alt,q.p.use.vs)),q.m1.e,q.m2.e),(q.c2.h,q.c2.nd.e,q.c2.ps),q.c2.cz,q.c2.co.ps,q.c2.co.ss)))=some (Ctl.go (encAl false true ((k+1:Nat):Int) wo q)):=by
 unfold Bp
 refine (smR _ _ _).trans ((smL _ _ _).trans (?_))
 refine (bdS (t:=(((((k:Nat):Int),false,wo),q.p.e,((((q.r.cycle,q.r.role1,q.r.role2),(q.r.st1,q.r.st2),q.r.steps1,q.r.steps2),(q.r.t1.lat,q.r.t1.ver,q.r.t1.ph),(q.r.t1.bank,q.r.t1.speed),q.r.t1.alt,q.r.t1.vs),((q.r.t2.lat,q.r.t2.ver,q.r.t2.ph),(q.r.t2.bank,q.r.t2.speed),q.r.t2.alt,q.r.t2.vs),((q.r.src,q.p.use.lat),(q.p.use.ver,q.p.use.ph)),((q.p.use.bank,q.p.use.speed),q.p.use.alt,q.p.use.vs)),q.m1.e),(q.m2.e,q.c2.h,q.c2.nd.e),(q.c2.ps,q.c2.cz),q.c2.co.ps,q.c2.co.ss)) ?_).trans ((cndF rfl).trans ?_)
 ·by_cases h1:(q.r.st1==4)=true
  rotate_left
  ·exact (cndF (Bool.eq_false_iff.2 h1)).trans rfl
  ·refine (cndT h1).trans ?_
   by_cases h2:(q.r.st2==4)=true
   rotate_left
   ·exact (cndF (Bool.eq_false_iff.2 h2)).trans rfl
   ·refine (cndT h2).trans ?_
    exact congrArg (fun z:Bool=>some (((((k:Nat):Int),z,wo),q.p.e,((((q.r.cycle,q.r.role1,q.r.role2),(q.r.st1,q.r.st2),q.r.steps1,q.r.steps2),(q.r.t1.lat,q.r.t1.ver,q.r.t1.ph),(q.r.t1.bank,q.r.t1.speed),q.r.t1.alt,q.r.t1.vs),((q.r.t2.lat,q.r.t2.ver,q.r.t2.ph),(q.r.t2.bank,q.r.t2.speed),q.r.t2.alt,q.r.t2.vs),((q.r.src,q.p.use.lat),(q.p.use.ver,q.p.use.ph)),((q.p.use.bank,q.p.use.speed),q.p.use.alt,q.p.use.vs)),q.m1.e),(q.m2.e,q.c2.h,q.c2.nd.e),(q.c2.ps,q.c2.cz),q.c2.co.ps,q.c2.co.ss)) (tg_eq (hA (by simpa using h1) (by simpa using h2)))
 refine (bdS (t:=(((((k:Nat):Int),pairB q,wo),q.p.e,((((q.r.cycle,q.r.role1,q.r.role2),(q.r.st1,q.r.st2),q.r.steps1,q.r.steps2),(q.r.t1.lat,q.r.t1.ver,q.r.t1.ph),(q.r.t1.bank,q.r.t1.speed),q.r.t1.alt,q.r.t1.vs),((q.r.t2.lat,q.r.t2.ver,q.r.t2.ph),(q.r.t2.bank,q.r.t2.speed),q.r.t2.alt,q.r.t2.vs),((q.r.src,q.p.use.lat),(q.p.use.ver,q.p.use.ph)),((q.p.use.bank,q.p.use.speed),q.p.use.alt,q.p.use.vs)),q.m1.e),(q.m2.e,q.c2.h,q.c2.nd.e),(q.c2.ps,q.c2.cz),q.c2.co.ps,q.c2.co.ss)) ?_).trans ?_
 ·exact pair_eq (q.r.role1==2) (q.r.role2==3) (q.r.role1==3) (q.r.role2==2) (fun z:Bool=>(((((k:Nat):Int),z,wo),q.p.e,((((q.r.cycle,q.r.role1,q.r.role2),(q.r.st1,q.r.st2),q.r.steps1,q.r.steps2),(q.r.t1.lat,q.r.t1.ver,q.r.t1.ph),(q.r.t1.bank,q.r.t1.speed),q.r.t1.alt,q.r.t1.vs),((q.r.t2.lat,q.r.t2.ver,q.r.t2.ph),(q.r.t2.bank,q.r.t2.speed),q.r.t2.alt,q.r.t2.vs),((q.r.src,q.p.use.lat),(q.p.use.ver,q.p.use.ph)),((q.p.use.bank,q.p.use.speed),q.p.use.alt,q.p.use.vs)),q.m1.e),(q.m2.e,q.c2.h,q.c2.nd.e),(q.c2.ps,q.c2.cz),q.c2.co.ps,q.c2.co.ss))
 refine (bdS (t:=(((((k:Nat):Int),false,wo),q.p.e,q.m1.e,q.m2.e),(q.c2.h,q.c2.nd.e,q.c2.ps),q.c2.cz,q.c2.co.ps,q.c2.co.ss)) ?_).trans ((cndF rfl).trans ?_)
 ·exact (cndF hB).trans rfl
 exact go_i (z:=IntKind.i64.wrap (((k:Nat):Int)+1)) (z':=((k+1:Nat):Int)) (by rw [wr64 (by omega)];rfl) (fun i:Int=>(Sum.inr (Sum.inr (Sum.inl (((i,wo),q.p.e,q.m1.e,q.m2.e),(q.c2.h,q.c2.nd.e,q.c2.ps),q.c2.cz,q.c2.co.ps,q.c2.co.ss)))))
theorem tAl_7a3d4f_00 {wo:WoT} {k:Nat} (h20:((k:Nat):Int) < 24) {q:W} (hA:AlikeA q) (hB:pairB q=false):Bp (Sum.inl ((((k:Nat):Int),wo,q.p.e),((((q.r.cycle,q.r.role1,q.r.role2),(q.r.st1,q.r.st2),q.r.steps1,q.r.steps2),(q.r.t1.lat,q.r.t1.ver,q.r.t1.ph),(q.r.t1.bank,q.r.t1.speed),q.r.t1.alt,q.r.t1.vs),((q.r.t2.lat,q.r.t2.ver,q.r.t2.ph),(q.r.t2.bank,q.r.t2.speed),q.r.t2.alt,q.r.t2.vs),((q.r.src,q.p.use.lat),(q.p.use.ver,q.p.use.ph)),((q.p.use.bank,q.p.use.speed),q.p.use.alt,q.p.use.vs)),q.m1.e,q.m2.e))=some (Ctl.go (encAl false false ((k+1:Nat):Int) wo q)):=by
 unfold Bp
 refine (smL _ _ _).trans (?_)
 refine (bdS (t:=((((k:Nat):Int),false,wo),(q.p.e,(((q.r.cycle,q.r.role1,q.r.role2),(q.r.st1,q.r.st2),q.r.steps1,q.r.steps2),(q.r.t1.lat,q.r.t1.ver,q.r.t1.ph),(q.r.t1.bank,q.r.t1.speed),q.r.t1.alt,q.r.t1.vs),((q.r.t2.lat,q.r.t2.ver,q.r.t2.ph),(q.r.t2.bank,q.r.t2.speed),q.r.t2.alt,q.r.t2.vs),((q.r.src,q.p.use.lat),(q.p.use.ver,q.p.use.ph)),((q.p.use.bank,q.p.use.speed),q.p.use.alt,q.p.use.vs)),q.m1.e,q.m2.e)) ?_).trans ((cndF rfl).trans ?_)
 ·by_cases h1:(q.r.st1==4)=true
  rotate_left
  ·exact (cndF (Bool.eq_false_iff.2 h1)).trans rfl
  ·refine (cndT h1).trans ?_
   by_cases h2:(q.r.st2==4)=true
   rotate_left
   ·exact (cndF (Bool.eq_false_iff.2 h2)).trans rfl
   ·refine (cndT h2).trans ?_
    exact congrArg (fun z:Bool=>some ((((k:Nat):Int),z,wo),(q.p.e,(((q.r.cycle,q.r.role1,q.r.role2),(q.r.st1,q.r.st2),q.r.steps1,q.r.steps2),(q.r.t1.lat,q.r.t1.ver,q.r.t1.ph),(q.r.t1.bank,q.r.t1.speed),q.r.t1.alt,q.r.t1.vs),((q.r.t2.lat,q.r.t2.ver,q.r.t2.ph),(q.r.t2.bank,q.r.t2.speed),q.r.t2.alt,q.r.t2.vs),((q.r.src,q.p.use.lat),(q.p.use.ver,q.p.use.ph)),((q.p.use.bank,q.p.use.speed),q.p.use.alt,q.p.use.vs)),q.m1.e,q.m2.e)) (tg_eq (hA (by simpa using h1) (by simpa using h2)))
 refine (bdS (t:=((((k:Nat):Int),pairB q,wo),(q.p.e,(((q.r.cycle,q.r.role1,q.r.role2),(q.r.st1,q.r.st2),q.r.steps1,q.r.steps2),(q.r.t1.lat,q.r.t1.ver,q.r.t1.ph),(q.r.t1.bank,q.r.t1.speed),q.r.t1.alt,q.r.t1.vs),((q.r.t2.lat,q.r.t2.ver,q.r.t2.ph),(q.r.t2.bank,q.r.t2.speed),q.r.t2.alt,q.r.t2.vs),((q.r.src,q.p.use.lat),(q.p.use.ver,q.p.use.ph)),((q.p.use.bank,q.p.use.speed),q.p.use.alt,q.p.use.vs)),q.m1.e,q.m2.e)) ?_).trans ?_
 ·exact pair_eq (q.r.role1==2) (q.r.role2==3) (q.r.role1==3) (q.r.role2==2) (fun z:Bool=>((((k:Nat):Int),z,wo),(q.p.e,(((q.r.cycle,q.r.role1,q.r.role2),(q.r.st1,q.r.st2),q.r.steps1,q.r.steps2),(q.r.t1.lat,q.r.t1.ver,q.r.t1.ph),(q.r.t1.bank,q.r.t1.speed),q.r.t1.alt,q.r.t1.vs),((q.r.t2.lat,q.r.t2.ver,q.r.t2.ph),(q.r.t2.bank,q.r.t2.speed),q.r.t2.alt,q.r.t2.vs),((q.r.src,q.p.use.lat),(q.p.use.ver,q.p.use.ph)),((q.p.use.bank,q.p.use.speed),q.p.use.alt,q.p.use.vs)),q.m1.e,q.m2.e))
 refine (bdS (t:=((((k:Nat):Int),false,wo),q.p.e,q.m1.e,q.m2.e)) ?_).trans ((cndF rfl).trans ?_)
 ·exact (cndF hB).trans rfl
 exact go_i (z:=IntKind.i64.wrap (((k:Nat):Int)+1)) (z':=((k+1:Nat):Int)) (by rw [wr64 (by omega)];rfl) (fun i:Int=>(Sum.inr (Sum.inl ((i,wo),q.p.e,q.m1.e,q.m2.e))))
theorem tAl_37c390_11 {wo:WoT} {k:Nat} (h20:((k:Nat):Int) < 24) {q:W} (hA:AlikeA q) (hok:q.ok true true) (hB:SameB q):Bq (Sum.inr (Sum.inr (Sum.inr ((((((k:Nat):Int),wo),q.p.e,(((q.r.cycle,q.r.role1,q.r.role2),(q.r.st1,q.r.st2),q.r.steps1,q.r.steps2),(q.r.t1.lat,q.r.t1.ver,q.r.t1.ph),(q.r.t1.bank,q.r.t1.speed),q.r.t1.alt,q.r.t1.vs),((q.r.t2.lat,q.r.t2.ver,q.r.t2.ph),(q.r.t2.bank,q.r.t2.speed),q.r.t2.alt,q.r.t2.vs),((q.r.src,q.p.use.lat),(q.p.use.ver,q.p.use.ph)),((q.p.use.bank,q.p.use.speed),q.p.use.alt,q.p.use.vs)),(q.m1.e,q.m2.e),q.c1.h,q.c2.h,q.c1.nd.e),((q.c1.ps,q.c1.cz),q.c2.nd.e,q.c2.ps),(q.c2.cz,q.c1.co.ps),q.c1.co.ss,q.c2.co.ps,q.c2.co.ss))))=some (Ctl.go (encAl true true ((k+1:Nat):Int) wo q)):=by
 unfold Bq
 refine (smR _ _ _).trans ((smR _ _ _).trans ((smR _ _ _).trans (?_)))
 refine (bdS (t:=((((((k:Nat):Int),false),wo,q.p.e),(((((q.r.cycle,q.r.role1,q.r.role2),(q.r.st1,q.r.st2),q.r.steps1,q.r.steps2),(q.r.t1.lat,q.r.t1.ver,q.r.t1.ph),(q.r.t1.bank,q.r.t1.speed),q.r.t1.alt,q.r.t1.vs),((q.r.t2.lat,q.r.t2.ver,q.r.t2.ph),(q.r.t2.bank,q.r.t2.speed),q.r.t2.alt,q.r.t2.vs),((q.r.src,q.p.use.lat),(q.p.use.ver,q.p.use.ph)),((q.p.use.bank,q.p.use.speed),q.p.use.alt,q.p.use.vs)),q.m1.e),q.m2.e,q.c1.h,q.c2.h),((q.c1.nd.e,q.c1.ps),q.c1.cz,q.c2.nd.e,q.c2.ps),(q.c2.cz,q.c1.co.ps),q.c1.co.ss,q.c2.co.ps,q.c2.co.ss)) ?_).trans ((cndF rfl).trans ?_)
 ·by_cases h1:(q.r.st1==4)=true
  rotate_left
  ·exact (cndF (Bool.eq_false_iff.2 h1)).trans rfl
  ·refine (cndT h1).trans ?_
   by_cases h2:(q.r.st2==4)=true
   rotate_left
   ·exact (cndF (Bool.eq_false_iff.2 h2)).trans rfl
   ·refine (cndT h2).trans ?_
    exact congrArg (fun z:Bool=>some ((((((k:Nat):Int),z),wo,q.p.e),(((((q.r.cycle,q.r.role1,q.r.role2),(q.r.st1,q.r.st2),q.r.steps1,q.r.steps2),(q.r.t1.lat,q.r.t1.ver,q.r.t1.ph),(q.r.t1.bank,q.r.t1.speed),q.r.t1.alt,q.r.t1.vs),((q.r.t2.lat,q.r.t2.ver,q.r.t2.ph),(q.r.t2.bank,q.r.t2.speed),q.r.t2.alt,q.r.t2.vs),((q.r.src,q.p.use.lat),(q.p.use.ver,q.p.use.ph)),((q.p.use.bank,q.p.use.speed),q.p.use.alt,q.p.use.vs)),q.m1.e),q.m2.e,q.c1.h,q.c2.h),((q.c1.nd.e,q.c1.ps),q.c1.cz,q.c2.nd.e,q.c2.ps),(q.c2.cz,q.c1.co.ps),q.c1.co.ss,q.c2.co.ps,q.c2.co.ss)) (tg_eq (hA (by simpa using h1) (by simpa using h2)))
 refine (bdS (t:=((((((k:Nat):Int),pairB q),wo,q.p.e),(((((q.r.cycle,q.r.role1,q.r.role2),(q.r.st1,q.r.st2),q.r.steps1,q.r.steps2),(q.r.t1.lat,q.r.t1.ver,q.r.t1.ph),(q.r.t1.bank,q.r.t1.speed),q.r.t1.alt,q.r.t1.vs),((q.r.t2.lat,q.r.t2.ver,q.r.t2.ph),(q.r.t2.bank,q.r.t2.speed),q.r.t2.alt,q.r.t2.vs),((q.r.src,q.p.use.lat),(q.p.use.ver,q.p.use.ph)),((q.p.use.bank,q.p.use.speed),q.p.use.alt,q.p.use.vs)),q.m1.e),q.m2.e,q.c1.h,q.c2.h),((q.c1.nd.e,q.c1.ps),q.c1.cz,q.c2.nd.e,q.c2.ps),(q.c2.cz,q.c1.co.ps),q.c1.co.ss,q.c2.co.ps,q.c2.co.ss)) ?_).trans ?_
 ·exact pair_eq (q.r.role1==2) (q.r.role2==3) (q.r.role1==3) (q.r.role2==2) (fun z:Bool=>((((((k:Nat):Int),z),wo,q.p.e),(((((q.r.cycle,q.r.role1,q.r.role2),(q.r.st1,q.r.st2),q.r.steps1,q.r.steps2),(q.r.t1.lat,q.r.t1.ver,q.r.t1.ph),(q.r.t1.bank,q.r.t1.speed),q.r.t1.alt,q.r.t1.vs),((q.r.t2.lat,q.r.t2.ver,q.r.t2.ph),(q.r.t2.bank,q.r.t2.speed),q.r.t2.alt,q.r.t2.vs),((q.r.src,q.p.use.lat),(q.p.use.ver,q.p.use.ph)),((q.p.use.bank,q.p.use.speed),q.p.use.alt,q.p.use.vs)),q.m1.e),q.m2.e,q.c1.h,q.c2.h),((q.c1.nd.e,q.c1.ps),q.c1.cz,q.c2.nd.e,q.c2.ps),(q.c2.cz,q.c1.co.ps),q.c1.co.ss,q.c2.co.ps,q.c2.co.ss))
 refine (bdS (t:=((((((k:Nat):Int),false),wo,q.p.e),(q.m1.e,q.m2.e),q.c1.h,q.c2.h,q.c1.nd.e),((q.c1.ps,q.c1.cz),q.c2.nd.e,q.c2.ps),(q.c2.cz,q.c1.co.ps),q.c1.co.ss,q.c2.co.ps,q.c2.co.ss)) ?_).trans ((cndF rfl).trans ?_)
 ·by_cases hp:pairB q=true
  rotate_left
  ·exact (cndF (Bool.eq_false_iff.2 hp)).trans rfl
  ·refine (cndT hp).trans ?_
   by_cases hs:(q.r.steps1==q.r.steps2)=true
   rotate_left
   ·exact (cndF (Bool.eq_false_iff.2 hs)).trans rfl
   ·refine (cndT hs).trans ?_
    obtain ⟨e1,e2⟩:=hB hp (by simpa using hs)
    refine (bdS (save1_eq (w:=q) hok)).trans ((bdS (save2_eq (w:=q) hok)).trans ((cndF (by rw [e1];simp)).trans ((bdS (save1_eq (w:=q) hok)).trans ?_)))
    exact congrArg (fun z:Bool=>some ((((((k:Nat):Int),z),wo,q.p.e),(q.m1.e,q.m2.e),q.c1.h,q.c2.h,q.c1.nd.e),((q.c1.ps,q.c1.cz),q.c2.nd.e,q.c2.ps),(q.c2.cz,q.c1.co.ps),q.c1.co.ss,q.c2.co.ps,q.c2.co.ss)) (len_ne e2)
 exact go_i (z:=IntKind.i64.wrap (((k:Nat):Int)+1)) (z':=((k+1:Nat):Int)) (by rw [wr64 (by omega)];rfl) (fun i:Int=>(Sum.inl ((((i,wo),q.p.e,q.m1.e),(q.m2.e,q.c1.h),q.c2.h,q.c1.nd.e),((q.c1.ps,q.c1.cz),q.c2.nd.e,q.c2.ps),(q.c2.cz,q.c1.co.ps),q.c1.co.ss,q.c2.co.ps,q.c2.co.ss)))
theorem tAl_37c390_10 {wo:WoT} {k:Nat} (h20:((k:Nat):Int) < 24) {q:W} (hA:AlikeA q) (hB:pairB q=false):Bq (Sum.inr (Sum.inl (((((k:Nat):Int),wo,q.p.e),((((q.r.cycle,q.r.role1,q.r.role2),(q.r.st1,q.r.st2),q.r.steps1,q.r.steps2),(q.r.t1.lat,q.r.t1.ver,q.r.t1.ph),(q.r.t1.bank,q.r.t1.speed),q.r.t1.alt,q.r.t1.vs),((q.r.t2.lat,q.r.t2.ver,q.r.t2.ph),(q.r.t2.bank,q.r.t2.speed),q.r.t2.alt,q.r.t2.vs),((q.r.src,q.p.use.lat),(q.p.use.ver,q.p.use.ph)),((q.p.use.bank,q.p.use.speed),q.p.use.alt,q.p.use.vs)),q.m1.e,q.m2.e),(q.c1.h,q.c1.nd.e,q.c1.ps),q.c1.cz,q.c1.co.ps,q.c1.co.ss)))=some (Ctl.go (encAl true false ((k+1:Nat):Int) wo q)):=by
 unfold Bq
 refine (smR _ _ _).trans ((smL _ _ _).trans (?_))
 refine (bdS (t:=(((((k:Nat):Int),false,wo),q.p.e,((((q.r.cycle,q.r.role1,q.r.role2),(q.r.st1,q.r.st2),q.r.steps1,q.r.steps2),(q.r.t1.lat,q.r.t1.ver,q.r.t1.ph),(q.r.t1.bank,q.r.t1.speed),q.r.t1.alt,q.r.t1.vs),((q.r.t2.lat,q.r.t2.ver,q.r.t2.ph),(q.r.t2.bank,q.r.t2.speed),q.r.t2.alt,q.r.t2.vs),((q.r.src,q.p.use.lat),(q.p.use.ver,q.p.use.ph)),((q.p.use.bank,q.p.use.speed),q.p.use.alt,q.p.use.vs)),q.m1.e),(q.m2.e,q.c1.h,q.c1.nd.e),(q.c1.ps,q.c1.cz),q.c1.co.ps,q.c1.co.ss)) ?_).trans ((cndF rfl).trans ?_)
 ·by_cases h1:(q.r.st1==4)=true
  rotate_left
  ·exact (cndF (Bool.eq_false_iff.2 h1)).trans rfl
  ·refine (cndT h1).trans ?_
   by_cases h2:(q.r.st2==4)=true
   rotate_left
   ·exact (cndF (Bool.eq_false_iff.2 h2)).trans rfl
   ·refine (cndT h2).trans ?_
    exact congrArg (fun z:Bool=>some (((((k:Nat):Int),z,wo),q.p.e,((((q.r.cycle,q.r.role1,q.r.role2),(q.r.st1,q.r.st2),q.r.steps1,q.r.steps2),(q.r.t1.lat,q.r.t1.ver,q.r.t1.ph),(q.r.t1.bank,q.r.t1.speed),q.r.t1.alt,q.r.t1.vs),((q.r.t2.lat,q.r.t2.ver,q.r.t2.ph),(q.r.t2.bank,q.r.t2.speed),q.r.t2.alt,q.r.t2.vs),((q.r.src,q.p.use.lat),(q.p.use.ver,q.p.use.ph)),((q.p.use.bank,q.p.use.speed),q.p.use.alt,q.p.use.vs)),q.m1.e),(q.m2.e,q.c1.h,q.c1.nd.e),(q.c1.ps,q.c1.cz),q.c1.co.ps,q.c1.co.ss)) (tg_eq (hA (by simpa using h1) (by simpa using h2)))
 refine (bdS (t:=(((((k:Nat):Int),pairB q,wo),q.p.e,((((q.r.cycle,q.r.role1,q.r.role2),(q.r.st1,q.r.st2),q.r.steps1,q.r.steps2),(q.r.t1.lat,q.r.t1.ver,q.r.t1.ph),(q.r.t1.bank,q.r.t1.speed),q.r.t1.alt,q.r.t1.vs),((q.r.t2.lat,q.r.t2.ver,q.r.t2.ph),(q.r.t2.bank,q.r.t2.speed),q.r.t2.alt,q.r.t2.vs),((q.r.src,q.p.use.lat),(q.p.use.ver,q.p.use.ph)),((q.p.use.bank,q.p.use.speed),q.p.use.alt,q.p.use.vs)),q.m1.e),(q.m2.e,q.c1.h,q.c1.nd.e),(q.c1.ps,q.c1.cz),q.c1.co.ps,q.c1.co.ss)) ?_).trans ?_
 ·exact pair_eq (q.r.role1==2) (q.r.role2==3) (q.r.role1==3) (q.r.role2==2) (fun z:Bool=>(((((k:Nat):Int),z,wo),q.p.e,((((q.r.cycle,q.r.role1,q.r.role2),(q.r.st1,q.r.st2),q.r.steps1,q.r.steps2),(q.r.t1.lat,q.r.t1.ver,q.r.t1.ph),(q.r.t1.bank,q.r.t1.speed),q.r.t1.alt,q.r.t1.vs),((q.r.t2.lat,q.r.t2.ver,q.r.t2.ph),(q.r.t2.bank,q.r.t2.speed),q.r.t2.alt,q.r.t2.vs),((q.r.src,q.p.use.lat),(q.p.use.ver,q.p.use.ph)),((q.p.use.bank,q.p.use.speed),q.p.use.alt,q.p.use.vs)),q.m1.e),(q.m2.e,q.c1.h,q.c1.nd.e),(q.c1.ps,q.c1.cz),q.c1.co.ps,q.c1.co.ss))
 refine (bdS (t:=(((((k:Nat):Int),false,wo),q.p.e,q.m1.e,q.m2.e),(q.c1.h,q.c1.nd.e,q.c1.ps),q.c1.cz,q.c1.co.ps,q.c1.co.ss)) ?_).trans ((cndF rfl).trans ?_)
 ·exact (cndF hB).trans rfl
 exact go_i (z:=IntKind.i64.wrap (((k:Nat):Int)+1)) (z':=((k+1:Nat):Int)) (by rw [wr64 (by omega)];rfl) (fun i:Int=>(Sum.inr (Sum.inr (Sum.inr (((i,wo),q.p.e,q.m1.e,q.m2.e),(q.c1.h,q.c1.nd.e,q.c1.ps),q.c1.cz,q.c1.co.ps,q.c1.co.ss)))))
theorem tAl_37c390_01 {wo:WoT} {k:Nat} (h20:((k:Nat):Int) < 24) {q:W} (hA:AlikeA q) (hB:pairB q=false):Bq (Sum.inr (Sum.inr (Sum.inl (((((k:Nat):Int),wo,q.p.e),((((q.r.cycle,q.r.role1,q.r.role2),(q.r.st1,q.r.st2),q.r.steps1,q.r.steps2),(q.r.t1.lat,q.r.t1.ver,q.r.t1.ph),(q.r.t1.bank,q.r.t1.speed),q.r.t1.alt,q.r.t1.vs),((q.r.t2.lat,q.r.t2.ver,q.r.t2.ph),(q.r.t2.bank,q.r.t2.speed),q.r.t2.alt,q.r.t2.vs),((q.r.src,q.p.use.lat),(q.p.use.ver,q.p.use.ph)),((q.p.use.bank,q.p.use.speed),q.p.use.alt,q.p.use.vs)),q.m1.e,q.m2.e),(q.c2.h,q.c2.nd.e,q.c2.ps),q.c2.cz,q.c2.co.ps,q.c2.co.ss))))=some (Ctl.go (encAl false true ((k+1:Nat):Int) wo q)):=by
 unfold Bq
 refine (smR _ _ _).trans ((smR _ _ _).trans ((smL _ _ _).trans (?_)))
 refine (bdS (t:=(((((k:Nat):Int),false,wo),q.p.e,((((q.r.cycle,q.r.role1,q.r.role2),(q.r.st1,q.r.st2),q.r.steps1,q.r.steps2),(q.r.t1.lat,q.r.t1.ver,q.r.t1.ph),(q.r.t1.bank,q.r.t1.speed),q.r.t1.alt,q.r.t1.vs),((q.r.t2.lat,q.r.t2.ver,q.r.t2.ph),(q.r.t2.bank,q.r.t2.speed),q.r.t2.alt,q.r.t2.vs),((q.r.src,q.p.use.lat),(q.p.use.ver,q.p.use.ph)),((q.p.use.bank,q.p.use.speed),q.p.use.alt,q.p.use.vs)),q.m1.e),(q.m2.e,q.c2.h,q.c2.nd.e),(q.c2.ps,q.c2.cz),q.c2.co.ps,q.c2.co.ss)) ?_).trans ((cndF rfl).trans ?_)
 ·by_cases h1:(q.r.st1==4)=true
  rotate_left
  ·exact (cndF (Bool.eq_false_iff.2 h1)).trans rfl
  ·refine (cndT h1).trans ?_
   by_cases h2:(q.r.st2==4)=true
   rotate_left
   ·exact (cndF (Bool.eq_false_iff.2 h2)).trans rfl
   ·refine (cndT h2).trans ?_
    exact congrArg (fun z:Bool=>some (((((k:Nat):Int),z,wo),q.p.e,((((q.r.cycle,q.r.role1,q.r.role2),(q.r.st1,q.r.st2),q.r.steps1,q.r.steps2),(q.r.t1.lat,q.r.t1.ver,q.r.t1.ph),(q.r.t1.bank,q.r.t1.speed),q.r.t1.alt,q.r.t1.vs),((q.r.t2.lat,q.r.t2.ver,q.r.t2.ph),(q.r.t2.bank,q.r.t2.speed),q.r.t2.alt,q.r.t2.vs),((q.r.src,q.p.use.lat),(q.p.use.ver,q.p.use.ph)),((q.p.use.bank,q.p.use.speed),q.p.use.alt,q.p.use.vs)),q.m1.e),(q.m2.e,q.c2.h,q.c2.nd.e),(q.c2.ps,q.c2.cz),q.c2.co.ps,q.c2.co.ss)) (tg_eq (hA (by simpa using h1) (by simpa using h2)))
 refine (bdS (t:=(((((k:Nat):Int),pairB q,wo),q.p.e,((((q.r.cycle,q.r.role1,q.r.role2),(q.r.st1,q.r.st2),q.r.steps1,q.r.steps2),(q.r.t1.lat,q.r.t1.ver,q.r.t1.ph),(q.r.t1.bank,q.r.t1.speed),q.r.t1.alt,q.r.t1.vs),((q.r.t2.lat,q.r.t2.ver,q.r.t2.ph),(q.r.t2.bank,q.r.t2.speed),q.r.t2.alt,q.r.t2.vs),((q.r.src,q.p.use.lat),(q.p.use.ver,q.p.use.ph)),((q.p.use.bank,q.p.use.speed),q.p.use.alt,q.p.use.vs)),q.m1.e),(q.m2.e,q.c2.h,q.c2.nd.e),(q.c2.ps,q.c2.cz),q.c2.co.ps,q.c2.co.ss)) ?_).trans ?_
 ·exact pair_eq (q.r.role1==2) (q.r.role2==3) (q.r.role1==3) (q.r.role2==2) (fun z:Bool=>(((((k:Nat):Int),z,wo),q.p.e,((((q.r.cycle,q.r.role1,q.r.role2),(q.r.st1,q.r.st2),q.r.steps1,q.r.steps2),(q.r.t1.lat,q.r.t1.ver,q.r.t1.ph),(q.r.t1.bank,q.r.t1.speed),q.r.t1.alt,q.r.t1.vs),((q.r.t2.lat,q.r.t2.ver,q.r.t2.ph),(q.r.t2.bank,q.r.t2.speed),q.r.t2.alt,q.r.t2.vs),((q.r.src,q.p.use.lat),(q.p.use.ver,q.p.use.ph)),((q.p.use.bank,q.p.use.speed),q.p.use.alt,q.p.use.vs)),q.m1.e),(q.m2.e,q.c2.h,q.c2.nd.e),(q.c2.ps,q.c2.cz),q.c2.co.ps,q.c2.co.ss))
 refine (bdS (t:=(((((k:Nat):Int),false,wo),q.p.e,q.m1.e,q.m2.e),(q.c2.h,q.c2.nd.e,q.c2.ps),q.c2.cz,q.c2.co.ps,q.c2.co.ss)) ?_).trans ((cndF rfl).trans ?_)
 ·exact (cndF hB).trans rfl
 exact go_i (z:=IntKind.i64.wrap (((k:Nat):Int)+1)) (z':=((k+1:Nat):Int)) (by rw [wr64 (by omega)];rfl) (fun i:Int=>(Sum.inr (Sum.inr (Sum.inl (((i,wo),q.p.e,q.m1.e,q.m2.e),(q.c2.h,q.c2.nd.e,q.c2.ps),q.c2.cz,q.c2.co.ps,q.c2.co.ss)))))
theorem tAl_37c390_00 {wo:WoT} {k:Nat} (h20:((k:Nat):Int) < 24) {q:W} (hA:AlikeA q) (hB:pairB q=false):Bq (Sum.inl ((((k:Nat):Int),wo,q.p.e),((((q.r.cycle,q.r.role1,q.r.role2),(q.r.st1,q.r.st2),q.r.steps1,q.r.steps2),(q.r.t1.lat,q.r.t1.ver,q.r.t1.ph),(q.r.t1.bank,q.r.t1.speed),q.r.t1.alt,q.r.t1.vs),((q.r.t2.lat,q.r.t2.ver,q.r.t2.ph),(q.r.t2.bank,q.r.t2.speed),q.r.t2.alt,q.r.t2.vs),((q.r.src,q.p.use.lat),(q.p.use.ver,q.p.use.ph)),((q.p.use.bank,q.p.use.speed),q.p.use.alt,q.p.use.vs)),q.m1.e,q.m2.e))=some (Ctl.go (encAl false false ((k+1:Nat):Int) wo q)):=by
 unfold Bq
 refine (smL _ _ _).trans (?_)
 refine (bdS (t:=((((k:Nat):Int),false,wo),(q.p.e,(((q.r.cycle,q.r.role1,q.r.role2),(q.r.st1,q.r.st2),q.r.steps1,q.r.steps2),(q.r.t1.lat,q.r.t1.ver,q.r.t1.ph),(q.r.t1.bank,q.r.t1.speed),q.r.t1.alt,q.r.t1.vs),((q.r.t2.lat,q.r.t2.ver,q.r.t2.ph),(q.r.t2.bank,q.r.t2.speed),q.r.t2.alt,q.r.t2.vs),((q.r.src,q.p.use.lat),(q.p.use.ver,q.p.use.ph)),((q.p.use.bank,q.p.use.speed),q.p.use.alt,q.p.use.vs)),q.m1.e,q.m2.e)) ?_).trans ((cndF rfl).trans ?_)
 ·by_cases h1:(q.r.st1==4)=true
  rotate_left
  ·exact (cndF (Bool.eq_false_iff.2 h1)).trans rfl
  ·refine (cndT h1).trans ?_
   by_cases h2:(q.r.st2==4)=true
   rotate_left
   ·exact (cndF (Bool.eq_false_iff.2 h2)).trans rfl
   ·refine (cndT h2).trans ?_
    exact congrArg (fun z:Bool=>some ((((k:Nat):Int),z,wo),(q.p.e,(((q.r.cycle,q.r.role1,q.r.role2),(q.r.st1,q.r.st2),q.r.steps1,q.r.steps2),(q.r.t1.lat,q.r.t1.ver,q.r.t1.ph),(q.r.t1.bank,q.r.t1.speed),q.r.t1.alt,q.r.t1.vs),((q.r.t2.lat,q.r.t2.ver,q.r.t2.ph),(q.r.t2.bank,q.r.t2.speed),q.r.t2.alt,q.r.t2.vs),((q.r.src,q.p.use.lat),(q.p.use.ver,q.p.use.ph)),((q.p.use.bank,q.p.use.speed),q.p.use.alt,q.p.use.vs)),q.m1.e,q.m2.e)) (tg_eq (hA (by simpa using h1) (by simpa using h2)))
 refine (bdS (t:=((((k:Nat):Int),pairB q,wo),(q.p.e,(((q.r.cycle,q.r.role1,q.r.role2),(q.r.st1,q.r.st2),q.r.steps1,q.r.steps2),(q.r.t1.lat,q.r.t1.ver,q.r.t1.ph),(q.r.t1.bank,q.r.t1.speed),q.r.t1.alt,q.r.t1.vs),((q.r.t2.lat,q.r.t2.ver,q.r.t2.ph),(q.r.t2.bank,q.r.t2.speed),q.r.t2.alt,q.r.t2.vs),((q.r.src,q.p.use.lat),(q.p.use.ver,q.p.use.ph)),((q.p.use.bank,q.p.use.speed),q.p.use.alt,q.p.use.vs)),q.m1.e,q.m2.e)) ?_).trans ?_
 ·exact pair_eq (q.r.role1==2) (q.r.role2==3) (q.r.role1==3) (q.r.role2==2) (fun z:Bool=>((((k:Nat):Int),z,wo),(q.p.e,(((q.r.cycle,q.r.role1,q.r.role2),(q.r.st1,q.r.st2),q.r.steps1,q.r.steps2),(q.r.t1.lat,q.r.t1.ver,q.r.t1.ph),(q.r.t1.bank,q.r.t1.speed),q.r.t1.alt,q.r.t1.vs),((q.r.t2.lat,q.r.t2.ver,q.r.t2.ph),(q.r.t2.bank,q.r.t2.speed),q.r.t2.alt,q.r.t2.vs),((q.r.src,q.p.use.lat),(q.p.use.ver,q.p.use.ph)),((q.p.use.bank,q.p.use.speed),q.p.use.alt,q.p.use.vs)),q.m1.e,q.m2.e))
 refine (bdS (t:=((((k:Nat):Int),false,wo),q.p.e,q.m1.e,q.m2.e)) ?_).trans ((cndF rfl).trans ?_)
 ·exact (cndF hB).trans rfl
 exact go_i (z:=IntKind.i64.wrap (((k:Nat):Int)+1)) (z':=((k+1:Nat):Int)) (by rw [wr64 (by omega)];rfl) (fun i:Int=>(Sum.inr (Sum.inl ((i,wo),q.p.e,q.m1.e,q.m2.e))))
theorem bAl_11 {wo:WoT} {k:Nat} (hk:((k:Nat):Int) < ((wo.2.2.2.length:Nat):Int)) (h20:((k:Nat):Int) < 24) {w q:W} (h:w.ok true true) (hq:cycW true true w.p w.m1 w.m2 w.c1 w.c2 (evOf (wo.2.2.2.getD k noCy)) ((wo.2.2.2.getD k noCy).1.take 20) ((wo.2.2.2.getD k noCy).2.1.take 20)=q) (hA:AlikeA q) (hB:((evA true (evOf (wo.2.2.2.getD k noCy)).s1 (evOf (wo.2.2.2.getD k noCy)).r1)&&(evA true (evOf (wo.2.2.2.getD k noCy)).s2 (evOf (wo.2.2.2.getD k noCy)).r2))=true→q.ok true true∧SameB q) (hN:((evA true (evOf (wo.2.2.2.getD k noCy)).s1 (evOf (wo.2.2.2.getD k noCy)).r1)&&(evA true (evOf (wo.2.2.2.getD k noCy)).s2 (evOf (wo.2.2.2.getD k noCy)).r2))=false→pairB q=false) :
  o3_b0 (Sum.inl ((((((k:Nat):Int),wo),w.p.e,w.m1.e),(w.m2.e,w.c1.h),w.c2.h,w.c1.nd.e),((w.c1.ps,w.c1.cz),w.c2.nd.e,w.c2.ps),(w.c2.cz,w.c1.co.ps),w.c1.co.ss,w.c2.co.ps,w.c2.co.ss))=some (Ctl.go (encAl (evA true (evOf (wo.2.2.2.getD k noCy)).s1 (evOf (wo.2.2.2.getD k noCy)).r1) (evA true (evOf (wo.2.2.2.getD k noCy)).s2 (evOf (wo.2.2.2.getD k noCy)).r2) ((k+1:Nat):Int) wo q)):=by
 unfold o3_b0
 refine (smL _ _ _).trans (?_)
 refine (bdS (t:=((((((k:Nat):Int),decide (((k:Nat):Int) < 24)),wo,w.p.e),(w.m1.e,w.m2.e),w.c1.h,w.c2.h,w.c1.nd.e),((w.c1.ps,w.c1.cz),w.c2.nd.e,w.c2.ps),(w.c2.cz,w.c1.co.ps),w.c1.co.ss,w.c2.co.ps,w.c2.co.ss)) ?_).trans ?_
 ·exact (cndT (dt hk)).trans rfl
 refine (cndT (dt h20)).trans ((gdT (dt ⟨Int.natCast_nonneg k,hk⟩)).trans ?_)
 refine (bdS (t:=cond (evA true (evOf (wo.2.2.2.getD k noCy)).s1 (evOf (wo.2.2.2.getD k noCy)).r1) (cond (evA true (evOf (wo.2.2.2.getD k noCy)).s2 (evOf (wo.2.2.2.getD k noCy)).r2) (Sum.inr (Sum.inr (Sum.inr ((((((k:Nat):Int),wo),q.p.e,(((q.r.cycle,q.r.role1,q.r.role2),(q.r.st1,q.r.st2),q.r.steps1,q.r.steps2),(q.r.t1.lat,q.r.t1.ver,q.r.t1.ph),(q.r.t1.bank,q.r.t1.speed),q.r.t1.alt,q.r.t1.vs),((q.r.t2.lat,q.r.t2.ver,q.r.t2.ph),(q.r.t2.bank,q.r.t2.speed),q.r.t2.alt,q.r.t2.vs),((q.r.src,q.p.use.lat),(q.p.use.ver,q.p.use.ph)),((q.p.use.bank,q.p.use.speed),q.p.use.alt,q.p.use.vs)),(q.m1.e,q.m2.e),q.c1.h,q.c2.h,q.c1.nd.e),((q.c1.ps,q.c1.cz),q.c2.nd.e,q.c2.ps),(q.c2.cz,q.c1.co.ps),q.c1.co.ss,q.c2.co.ps,q.c2.co.ss)))) (Sum.inr (Sum.inr (Sum.inl (((((k:Nat):Int),wo,q.p.e),((((q.r.cycle,q.r.role1,q.r.role2),(q.r.st1,q.r.st2),q.r.steps1,q.r.steps2),(q.r.t1.lat,q.r.t1.ver,q.r.t1.ph),(q.r.t1.bank,q.r.t1.speed),q.r.t1.alt,q.r.t1.vs),((q.r.t2.lat,q.r.t2.ver,q.r.t2.ph),(q.r.t2.bank,q.r.t2.speed),q.r.t2.alt,q.r.t2.vs),((q.r.src,q.p.use.lat),(q.p.use.ver,q.p.use.ph)),((q.p.use.bank,q.p.use.speed),q.p.use.alt,q.p.use.vs)),q.m1.e,q.m2.e),(q.c1.h,q.c1.nd.e,q.c1.ps),q.c1.cz,q.c1.co.ps,q.c1.co.ss))))) (cond (evA true (evOf (wo.2.2.2.getD k noCy)).s2 (evOf (wo.2.2.2.getD k noCy)).r2) (Sum.inr (Sum.inl (((((k:Nat):Int),wo,q.p.e),((((q.r.cycle,q.r.role1,q.r.role2),(q.r.st1,q.r.st2),q.r.steps1,q.r.steps2),(q.r.t1.lat,q.r.t1.ver,q.r.t1.ph),(q.r.t1.bank,q.r.t1.speed),q.r.t1.alt,q.r.t1.vs),((q.r.t2.lat,q.r.t2.ver,q.r.t2.ph),(q.r.t2.bank,q.r.t2.speed),q.r.t2.alt,q.r.t2.vs),((q.r.src,q.p.use.lat),(q.p.use.ver,q.p.use.ph)),((q.p.use.bank,q.p.use.speed),q.p.use.alt,q.p.use.vs)),q.m1.e,q.m2.e),(q.c2.h,q.c2.nd.e,q.c2.ps),q.c2.cz,q.c2.co.ps,q.c2.co.ss))) (Sum.inl ((((k:Nat):Int),wo,q.p.e),((((q.r.cycle,q.r.role1,q.r.role2),(q.r.st1,q.r.st2),q.r.steps1,q.r.steps2),(q.r.t1.lat,q.r.t1.ver,q.r.t1.ph),(q.r.t1.bank,q.r.t1.speed),q.r.t1.alt,q.r.t1.vs),((q.r.t2.lat,q.r.t2.ver,q.r.t2.ph),(q.r.t2.bank,q.r.t2.speed),q.r.t2.alt,q.r.t2.vs),((q.r.src,q.p.use.lat),(q.p.use.ver,q.p.use.ph)),((q.p.use.bank,q.p.use.speed),q.p.use.alt,q.p.use.vs)),q.m1.e,q.m2.e)))) ?_).trans ?_
 ·refine (bdS (o10_eq _ 20)).trans ((bdS (o10_eq _ 20)).trans ((bdS (o9_eq h.init h.p1 h.p2 (h.c1 rfl) (h.c2 rfl) (evOf (wo.2.2.2.getD k noCy)) ((wo.2.2.2.getD k noCy).1.take 20) ((wo.2.2.2.getD k noCy).2.1.take 20))).trans ?_))
  rw [hq]
  cases (evA true (evOf (wo.2.2.2.getD k noCy)).s1 (evOf (wo.2.2.2.getD k noCy)).r1) <;> cases (evA true (evOf (wo.2.2.2.getD k noCy)).s2 (evOf (wo.2.2.2.getD k noCy)).r2) <;> rfl
 revert hB hN
 cases (evA true (evOf (wo.2.2.2.getD k noCy)).s1 (evOf (wo.2.2.2.getD k noCy)).r1) with
 | true =>
  cases (evA true (evOf (wo.2.2.2.getD k noCy)).s2 (evOf (wo.2.2.2.getD k noCy)).r2) with
  | true=>intro hB hN;exact tAl_7a3d4f_11 h20 hA (hB rfl).1 (hB rfl).2
  | false=>intro hB hN;exact tAl_7a3d4f_10 h20 hA (hN rfl)
 | false =>
  cases (evA true (evOf (wo.2.2.2.getD k noCy)).s2 (evOf (wo.2.2.2.getD k noCy)).r2) with
  | true=>intro hB hN;exact tAl_7a3d4f_01 h20 hA (hN rfl)
  | false=>intro hB hN;exact tAl_7a3d4f_00 h20 hA (hN rfl)
theorem eAl_11 {wo:WoT} {k:Nat} (hk:¬ (((k:Nat):Int) < ((wo.2.2.2.length:Nat):Int)∧((k:Nat):Int) < 24)) {w:W}:o3_b0 (Sum.inl ((((((k:Nat):Int),wo),w.p.e,w.m1.e),(w.m2.e,w.c1.h),w.c2.h,w.c1.nd.e),((w.c1.ps,w.c1.cz),w.c2.nd.e,w.c2.ps),(w.c2.cz,w.c1.co.ps),w.c1.co.ss,w.c2.co.ps,w.c2.co.ss))=some (Ctl.done true):=by
 unfold o3_b0
 refine (smL _ _ _).trans (?_)
 refine (bdS (t:=((((((k:Nat):Int),false),wo,w.p.e),(w.m1.e,w.m2.e),w.c1.h,w.c2.h,w.c1.nd.e),((w.c1.ps,w.c1.cz),w.c2.nd.e,w.c2.ps),(w.c2.cz,w.c1.co.ps),w.c1.co.ss,w.c2.co.ps,w.c2.co.ss)) ?_).trans ((cndF rfl).trans (dnS _))
 by_cases h1:((k:Nat):Int) < ((wo.2.2.2.length:Nat):Int)
 ·refine (cndT (dt h1)).trans ?_
  exact congrArg (fun z:Bool=>some ((((((k:Nat):Int),z),wo,w.p.e),(w.m1.e,w.m2.e),w.c1.h,w.c2.h,w.c1.nd.e),((w.c1.ps,w.c1.cz),w.c2.nd.e,w.c2.ps),(w.c2.cz,w.c1.co.ps),w.c1.co.ss,w.c2.co.ps,w.c2.co.ss)) (df (fun h2=>hk ⟨h1,h2⟩))
 ·exact (cndF (df h1)).trans rfl
theorem bAl_00 {wo:WoT} {k:Nat} (hk:((k:Nat):Int) < ((wo.2.2.2.length:Nat):Int)) (h20:((k:Nat):Int) < 24) {w q:W} (h:w.ok false false) (hq:cycW false false w.p w.m1 w.m2 w.c1 w.c2 (evOf (wo.2.2.2.getD k noCy)) ((wo.2.2.2.getD k noCy).1.take 20) ((wo.2.2.2.getD k noCy).2.1.take 20)=q) (hA:AlikeA q) (hB:((evA false (evOf (wo.2.2.2.getD k noCy)).s1 (evOf (wo.2.2.2.getD k noCy)).r1)&&(evA false (evOf (wo.2.2.2.getD k noCy)).s2 (evOf (wo.2.2.2.getD k noCy)).r2))=true→q.ok true true∧SameB q) (hN:((evA false (evOf (wo.2.2.2.getD k noCy)).s1 (evOf (wo.2.2.2.getD k noCy)).r1)&&(evA false (evOf (wo.2.2.2.getD k noCy)).s2 (evOf (wo.2.2.2.getD k noCy)).r2))=false→pairB q=false) :
  o3_b0 (Sum.inr (Sum.inl ((((k:Nat):Int),wo),w.p.e,w.m1.e,w.m2.e)))=some (Ctl.go (encAl (evA false (evOf (wo.2.2.2.getD k noCy)).s1 (evOf (wo.2.2.2.getD k noCy)).r1) (evA false (evOf (wo.2.2.2.getD k noCy)).s2 (evOf (wo.2.2.2.getD k noCy)).r2) ((k+1:Nat):Int) wo q)):=by
 unfold o3_b0
 refine (smR _ _ _).trans ((smL _ _ _).trans (?_))
 refine (bdS (t:=((((k:Nat):Int),decide (((k:Nat):Int) < 24),wo),w.p.e,w.m1.e,w.m2.e)) ?_).trans ?_
 ·exact (cndT (dt hk)).trans rfl
 refine (cndT (dt h20)).trans ((gdT (dt ⟨Int.natCast_nonneg k,hk⟩)).trans ?_)
 refine (bdS (t:=cond (evA false (evOf (wo.2.2.2.getD k noCy)).s1 (evOf (wo.2.2.2.getD k noCy)).r1) (cond (evA false (evOf (wo.2.2.2.getD k noCy)).s2 (evOf (wo.2.2.2.getD k noCy)).r2) (Sum.inr (Sum.inr (Sum.inr ((((((k:Nat):Int),wo),q.p.e,(((q.r.cycle,q.r.role1,q.r.role2),(q.r.st1,q.r.st2),q.r.steps1,q.r.steps2),(q.r.t1.lat,q.r.t1.ver,q.r.t1.ph),(q.r.t1.bank,q.r.t1.speed),q.r.t1.alt,q.r.t1.vs),((q.r.t2.lat,q.r.t2.ver,q.r.t2.ph),(q.r.t2.bank,q.r.t2.speed),q.r.t2.alt,q.r.t2.vs),((q.r.src,q.p.use.lat),(q.p.use.ver,q.p.use.ph)),((q.p.use.bank,q.p.use.speed),q.p.use.alt,q.p.use.vs)),(q.m1.e,q.m2.e),q.c1.h,q.c2.h,q.c1.nd.e),((q.c1.ps,q.c1.cz),q.c2.nd.e,q.c2.ps),(q.c2.cz,q.c1.co.ps),q.c1.co.ss,q.c2.co.ps,q.c2.co.ss)))) (Sum.inr (Sum.inr (Sum.inl (((((k:Nat):Int),wo,q.p.e),((((q.r.cycle,q.r.role1,q.r.role2),(q.r.st1,q.r.st2),q.r.steps1,q.r.steps2),(q.r.t1.lat,q.r.t1.ver,q.r.t1.ph),(q.r.t1.bank,q.r.t1.speed),q.r.t1.alt,q.r.t1.vs),((q.r.t2.lat,q.r.t2.ver,q.r.t2.ph),(q.r.t2.bank,q.r.t2.speed),q.r.t2.alt,q.r.t2.vs),((q.r.src,q.p.use.lat),(q.p.use.ver,q.p.use.ph)),((q.p.use.bank,q.p.use.speed),q.p.use.alt,q.p.use.vs)),q.m1.e,q.m2.e),(q.c1.h,q.c1.nd.e,q.c1.ps),q.c1.cz,q.c1.co.ps,q.c1.co.ss))))) (cond (evA false (evOf (wo.2.2.2.getD k noCy)).s2 (evOf (wo.2.2.2.getD k noCy)).r2) (Sum.inr (Sum.inl (((((k:Nat):Int),wo,q.p.e),((((q.r.cycle,q.r.role1,q.r.role2),(q.r.st1,q.r.st2),q.r.steps1,q.r.steps2),(q.r.t1.lat,q.r.t1.ver,q.r.t1.ph),(q.r.t1.bank,q.r.t1.speed),q.r.t1.alt,q.r.t1.vs),((q.r.t2.lat,q.r.t2.ver,q.r.t2.ph),(q.r.t2.bank,q.r.t2.speed),q.r.t2.alt,q.r.t2.vs),((q.r.src,q.p.use.lat),(q.p.use.ver,q.p.use.ph)),((q.p.use.bank,q.p.use.speed),q.p.use.alt,q.p.use.vs)),q.m1.e,q.m2.e),(q.c2.h,q.c2.nd.e,q.c2.ps),q.c2.cz,q.c2.co.ps,q.c2.co.ss))) (Sum.inl ((((k:Nat):Int),wo,q.p.e),((((q.r.cycle,q.r.role1,q.r.role2),(q.r.st1,q.r.st2),q.r.steps1,q.r.steps2),(q.r.t1.lat,q.r.t1.ver,q.r.t1.ph),(q.r.t1.bank,q.r.t1.speed),q.r.t1.alt,q.r.t1.vs),((q.r.t2.lat,q.r.t2.ver,q.r.t2.ph),(q.r.t2.bank,q.r.t2.speed),q.r.t2.alt,q.r.t2.vs),((q.r.src,q.p.use.lat),(q.p.use.ver,q.p.use.ph)),((q.p.use.bank,q.p.use.speed),q.p.use.alt,q.p.use.vs)),q.m1.e,q.m2.e)))) ?_).trans ?_
 ·refine (bdS (o10_eq _ 20)).trans ((bdS (o10_eq _ 20)).trans ((bdS (o9v1_eq (c1:=w.c1) (c2:=w.c2) h.init h.p1 h.p2 (evOf (wo.2.2.2.getD k noCy)) ((wo.2.2.2.getD k noCy).1.take 20) ((wo.2.2.2.getD k noCy).2.1.take 20))).trans ?_))
  rw [hq]
  cases (evA false (evOf (wo.2.2.2.getD k noCy)).s1 (evOf (wo.2.2.2.getD k noCy)).r1) <;> cases (evA false (evOf (wo.2.2.2.getD k noCy)).s2 (evOf (wo.2.2.2.getD k noCy)).r2) <;> rfl
 revert hB hN
 cases (evA false (evOf (wo.2.2.2.getD k noCy)).s1 (evOf (wo.2.2.2.getD k noCy)).r1) with
 | true =>
  cases (evA false (evOf (wo.2.2.2.getD k noCy)).s2 (evOf (wo.2.2.2.getD k noCy)).r2) with
  | true=>intro hB hN;exact tAl_7a3d4f_11 h20 hA (hB rfl).1 (hB rfl).2
  | false=>intro hB hN;exact tAl_7a3d4f_10 h20 hA (hN rfl)
 | false =>
  cases (evA false (evOf (wo.2.2.2.getD k noCy)).s2 (evOf (wo.2.2.2.getD k noCy)).r2) with
  | true=>intro hB hN;exact tAl_7a3d4f_01 h20 hA (hN rfl)
  | false=>intro hB hN;exact tAl_7a3d4f_00 h20 hA (hN rfl)
theorem eAl_00 {wo:WoT} {k:Nat} (hk:¬ (((k:Nat):Int) < ((wo.2.2.2.length:Nat):Int)∧((k:Nat):Int) < 24)) {w:W}:o3_b0 (Sum.inr (Sum.inl ((((k:Nat):Int),wo),w.p.e,w.m1.e,w.m2.e)))=some (Ctl.done true):=by
 unfold o3_b0
 refine (smR _ _ _).trans ((smL _ _ _).trans (?_))
 refine (bdS (t:=((((k:Nat):Int),false,wo),w.p.e,w.m1.e,w.m2.e)) ?_).trans ((cndF rfl).trans (dnS _))
 by_cases h1:((k:Nat):Int) < ((wo.2.2.2.length:Nat):Int)
 ·refine (cndT (dt h1)).trans ?_
  exact congrArg (fun z:Bool=>some ((((k:Nat):Int),z,wo),w.p.e,w.m1.e,w.m2.e)) (df (fun h2=>hk ⟨h1,h2⟩))
 ·exact (cndF (df h1)).trans rfl
theorem bAl_01 {wo:WoT} {k:Nat} (hk:((k:Nat):Int) < ((wo.2.2.2.length:Nat):Int)) (h20:((k:Nat):Int) < 24) {w q:W} (h:w.ok false true) (hq:cycW false true w.p w.m1 w.m2 w.c1 w.c2 (evOf (wo.2.2.2.getD k noCy)) ((wo.2.2.2.getD k noCy).1.take 20) ((wo.2.2.2.getD k noCy).2.1.take 20)=q) (hA:AlikeA q) (hB:((evA false (evOf (wo.2.2.2.getD k noCy)).s1 (evOf (wo.2.2.2.getD k noCy)).r1)&&(evA true (evOf (wo.2.2.2.getD k noCy)).s2 (evOf (wo.2.2.2.getD k noCy)).r2))=true→q.ok true true∧SameB q) (hN:((evA false (evOf (wo.2.2.2.getD k noCy)).s1 (evOf (wo.2.2.2.getD k noCy)).r1)&&(evA true (evOf (wo.2.2.2.getD k noCy)).s2 (evOf (wo.2.2.2.getD k noCy)).r2))=false→pairB q=false) :
  o3_b0 (Sum.inr (Sum.inr (Sum.inl (((((k:Nat):Int),wo),w.p.e,w.m1.e,w.m2.e),(w.c2.h,w.c2.nd.e,w.c2.ps),w.c2.cz,w.c2.co.ps,w.c2.co.ss))))=some (Ctl.go (encAl (evA false (evOf (wo.2.2.2.getD k noCy)).s1 (evOf (wo.2.2.2.getD k noCy)).r1) (evA true (evOf (wo.2.2.2.getD k noCy)).s2 (evOf (wo.2.2.2.getD k noCy)).r2) ((k+1:Nat):Int) wo q)):=by
 unfold o3_b0
 refine (smR _ _ _).trans ((smR _ _ _).trans ((smL _ _ _).trans (?_)))
 refine (bdS (t:=(((((k:Nat):Int),decide (((k:Nat):Int) < 24),wo),w.p.e,w.m1.e,w.m2.e),(w.c2.h,w.c2.nd.e,w.c2.ps),w.c2.cz,w.c2.co.ps,w.c2.co.ss)) ?_).trans ?_
 ·exact (cndT (dt hk)).trans rfl
 refine (cndT (dt h20)).trans ((gdT (dt ⟨Int.natCast_nonneg k,hk⟩)).trans ?_)
 refine (bdS (t:=cond (evA false (evOf (wo.2.2.2.getD k noCy)).s1 (evOf (wo.2.2.2.getD k noCy)).r1) (cond (evA true (evOf (wo.2.2.2.getD k noCy)).s2 (evOf (wo.2.2.2.getD k noCy)).r2) (Sum.inr (Sum.inr (Sum.inr ((((((k:Nat):Int),wo),q.p.e,(((q.r.cycle,q.r.role1,q.r.role2),(q.r.st1,q.r.st2),q.r.steps1,q.r.steps2),(q.r.t1.lat,q.r.t1.ver,q.r.t1.ph),(q.r.t1.bank,q.r.t1.speed),q.r.t1.alt,q.r.t1.vs),((q.r.t2.lat,q.r.t2.ver,q.r.t2.ph),(q.r.t2.bank,q.r.t2.speed),q.r.t2.alt,q.r.t2.vs),((q.r.src,q.p.use.lat),(q.p.use.ver,q.p.use.ph)),((q.p.use.bank,q.p.use.speed),q.p.use.alt,q.p.use.vs)),(q.m1.e,q.m2.e),q.c1.h,q.c2.h,q.c1.nd.e),((q.c1.ps,q.c1.cz),q.c2.nd.e,q.c2.ps),(q.c2.cz,q.c1.co.ps),q.c1.co.ss,q.c2.co.ps,q.c2.co.ss)))) (Sum.inr (Sum.inl (((((k:Nat):Int),wo,q.p.e),((((q.r.cycle,q.r.role1,q.r.role2),(q.r.st1,q.r.st2),q.r.steps1,q.r.steps2),(q.r.t1.lat,q.r.t1.ver,q.r.t1.ph),(q.r.t1.bank,q.r.t1.speed),q.r.t1.alt,q.r.t1.vs),((q.r.t2.lat,q.r.t2.ver,q.r.t2.ph),(q.r.t2.bank,q.r.t2.speed),q.r.t2.alt,q.r.t2.vs),((q.r.src,q.p.use.lat),(q.p.use.ver,q.p.use.ph)),((q.p.use.bank,q.p.use.speed),q.p.use.alt,q.p.use.vs)),q.m1.e,q.m2.e),(q.c1.h,q.c1.nd.e,q.c1.ps),q.c1.cz,q.c1.co.ps,q.c1.co.ss)))) (cond (evA true (evOf (wo.2.2.2.getD k noCy)).s2 (evOf (wo.2.2.2.getD k noCy)).r2) (Sum.inr (Sum.inr (Sum.inl (((((k:Nat):Int),wo,q.p.e),((((q.r.cycle,q.r.role1,q.r.role2),(q.r.st1,q.r.st2),q.r.steps1,q.r.steps2),(q.r.t1.lat,q.r.t1.ver,q.r.t1.ph),(q.r.t1.bank,q.r.t1.speed),q.r.t1.alt,q.r.t1.vs),((q.r.t2.lat,q.r.t2.ver,q.r.t2.ph),(q.r.t2.bank,q.r.t2.speed),q.r.t2.alt,q.r.t2.vs),((q.r.src,q.p.use.lat),(q.p.use.ver,q.p.use.ph)),((q.p.use.bank,q.p.use.speed),q.p.use.alt,q.p.use.vs)),q.m1.e,q.m2.e),(q.c2.h,q.c2.nd.e,q.c2.ps),q.c2.cz,q.c2.co.ps,q.c2.co.ss)))) (Sum.inl ((((k:Nat):Int),wo,q.p.e),((((q.r.cycle,q.r.role1,q.r.role2),(q.r.st1,q.r.st2),q.r.steps1,q.r.steps2),(q.r.t1.lat,q.r.t1.ver,q.r.t1.ph),(q.r.t1.bank,q.r.t1.speed),q.r.t1.alt,q.r.t1.vs),((q.r.t2.lat,q.r.t2.ver,q.r.t2.ph),(q.r.t2.bank,q.r.t2.speed),q.r.t2.alt,q.r.t2.vs),((q.r.src,q.p.use.lat),(q.p.use.ver,q.p.use.ph)),((q.p.use.bank,q.p.use.speed),q.p.use.alt,q.p.use.vs)),q.m1.e,q.m2.e)))) ?_).trans ?_
 ·refine (bdS (o10_eq _ 20)).trans ((bdS (o10_eq _ 20)).trans ((bdS (o9v2_eq (c1:=w.c1) h.init h.p1 h.p2 (h.c2 rfl) (evOf (wo.2.2.2.getD k noCy)) ((wo.2.2.2.getD k noCy).1.take 20) ((wo.2.2.2.getD k noCy).2.1.take 20))).trans ?_))
  rw [hq]
  cases (evA false (evOf (wo.2.2.2.getD k noCy)).s1 (evOf (wo.2.2.2.getD k noCy)).r1) <;> cases (evA true (evOf (wo.2.2.2.getD k noCy)).s2 (evOf (wo.2.2.2.getD k noCy)).r2) <;> rfl
 revert hB hN
 cases (evA false (evOf (wo.2.2.2.getD k noCy)).s1 (evOf (wo.2.2.2.getD k noCy)).r1) with
 | true =>
  cases (evA true (evOf (wo.2.2.2.getD k noCy)).s2 (evOf (wo.2.2.2.getD k noCy)).r2) with
  | true=>intro hB hN;exact tAl_37c390_11 h20 hA (hB rfl).1 (hB rfl).2
  | false=>intro hB hN;exact tAl_37c390_10 h20 hA (hN rfl)
 | false =>
  cases (evA true (evOf (wo.2.2.2.getD k noCy)).s2 (evOf (wo.2.2.2.getD k noCy)).r2) with
  | true=>intro hB hN;exact tAl_37c390_01 h20 hA (hN rfl)
  | false=>intro hB hN;exact tAl_37c390_00 h20 hA (hN rfl)
theorem eAl_01 {wo:WoT} {k:Nat} (hk:¬ (((k:Nat):Int) < ((wo.2.2.2.length:Nat):Int)∧((k:Nat):Int) < 24)) {w:W}:o3_b0 (Sum.inr (Sum.inr (Sum.inl (((((k:Nat):Int),wo),w.p.e,w.m1.e,w.m2.e),(w.c2.h,w.c2.nd.e,w.c2.ps),w.c2.cz,w.c2.co.ps,w.c2.co.ss))))=some (Ctl.done true):=by
 unfold o3_b0
 refine (smR _ _ _).trans ((smR _ _ _).trans ((smL _ _ _).trans (?_)))
 refine (bdS (t:=(((((k:Nat):Int),false,wo),w.p.e,w.m1.e,w.m2.e),(w.c2.h,w.c2.nd.e,w.c2.ps),w.c2.cz,w.c2.co.ps,w.c2.co.ss)) ?_).trans ((cndF rfl).trans (dnS _))
 by_cases h1:((k:Nat):Int) < ((wo.2.2.2.length:Nat):Int)
 ·refine (cndT (dt h1)).trans ?_
  exact congrArg (fun z:Bool=>some (((((k:Nat):Int),z,wo),w.p.e,w.m1.e,w.m2.e),(w.c2.h,w.c2.nd.e,w.c2.ps),w.c2.cz,w.c2.co.ps,w.c2.co.ss)) (df (fun h2=>hk ⟨h1,h2⟩))
 ·exact (cndF (df h1)).trans rfl
theorem bAl_10 {wo:WoT} {k:Nat} (hk:((k:Nat):Int) < ((wo.2.2.2.length:Nat):Int)) (h20:((k:Nat):Int) < 24) {w q:W} (h:w.ok true false) (hq:cycW true false w.p w.m1 w.m2 w.c1 w.c2 (evOf (wo.2.2.2.getD k noCy)) ((wo.2.2.2.getD k noCy).1.take 20) ((wo.2.2.2.getD k noCy).2.1.take 20)=q) (hA:AlikeA q) (hB:((evA true (evOf (wo.2.2.2.getD k noCy)).s1 (evOf (wo.2.2.2.getD k noCy)).r1)&&(evA false (evOf (wo.2.2.2.getD k noCy)).s2 (evOf (wo.2.2.2.getD k noCy)).r2))=true→q.ok true true∧SameB q) (hN:((evA true (evOf (wo.2.2.2.getD k noCy)).s1 (evOf (wo.2.2.2.getD k noCy)).r1)&&(evA false (evOf (wo.2.2.2.getD k noCy)).s2 (evOf (wo.2.2.2.getD k noCy)).r2))=false→pairB q=false) :
  o3_b0 (Sum.inr (Sum.inr (Sum.inr (((((k:Nat):Int),wo),w.p.e,w.m1.e,w.m2.e),(w.c1.h,w.c1.nd.e,w.c1.ps),w.c1.cz,w.c1.co.ps,w.c1.co.ss))))=some (Ctl.go (encAl (evA true (evOf (wo.2.2.2.getD k noCy)).s1 (evOf (wo.2.2.2.getD k noCy)).r1) (evA false (evOf (wo.2.2.2.getD k noCy)).s2 (evOf (wo.2.2.2.getD k noCy)).r2) ((k+1:Nat):Int) wo q)):=by
 unfold o3_b0
 refine (smR _ _ _).trans ((smR _ _ _).trans ((smR _ _ _).trans (?_)))
 refine (bdS (t:=(((((k:Nat):Int),decide (((k:Nat):Int) < 24),wo),w.p.e,w.m1.e,w.m2.e),(w.c1.h,w.c1.nd.e,w.c1.ps),w.c1.cz,w.c1.co.ps,w.c1.co.ss)) ?_).trans ?_
 ·exact (cndT (dt hk)).trans rfl
 refine (cndT (dt h20)).trans ((gdT (dt ⟨Int.natCast_nonneg k,hk⟩)).trans ?_)
 refine (bdS (t:=cond (evA true (evOf (wo.2.2.2.getD k noCy)).s1 (evOf (wo.2.2.2.getD k noCy)).r1) (cond (evA false (evOf (wo.2.2.2.getD k noCy)).s2 (evOf (wo.2.2.2.getD k noCy)).r2) (Sum.inr (Sum.inr (Sum.inr ((((((k:Nat):Int),wo),q.p.e,(((q.r.cycle,q.r.role1,q.r.role2),(q.r.st1,q.r.st2),q.r.steps1,q.r.steps2),(q.r.t1.lat,q.r.t1.ver,q.r.t1.ph),(q.r.t1.bank,q.r.t1.speed),q.r.t1.alt,q.r.t1.vs),((q.r.t2.lat,q.r.t2.ver,q.r.t2.ph),(q.r.t2.bank,q.r.t2.speed),q.r.t2.alt,q.r.t2.vs),((q.r.src,q.p.use.lat),(q.p.use.ver,q.p.use.ph)),((q.p.use.bank,q.p.use.speed),q.p.use.alt,q.p.use.vs)),(q.m1.e,q.m2.e),q.c1.h,q.c2.h,q.c1.nd.e),((q.c1.ps,q.c1.cz),q.c2.nd.e,q.c2.ps),(q.c2.cz,q.c1.co.ps),q.c1.co.ss,q.c2.co.ps,q.c2.co.ss)))) (Sum.inr (Sum.inl (((((k:Nat):Int),wo,q.p.e),((((q.r.cycle,q.r.role1,q.r.role2),(q.r.st1,q.r.st2),q.r.steps1,q.r.steps2),(q.r.t1.lat,q.r.t1.ver,q.r.t1.ph),(q.r.t1.bank,q.r.t1.speed),q.r.t1.alt,q.r.t1.vs),((q.r.t2.lat,q.r.t2.ver,q.r.t2.ph),(q.r.t2.bank,q.r.t2.speed),q.r.t2.alt,q.r.t2.vs),((q.r.src,q.p.use.lat),(q.p.use.ver,q.p.use.ph)),((q.p.use.bank,q.p.use.speed),q.p.use.alt,q.p.use.vs)),q.m1.e,q.m2.e),(q.c1.h,q.c1.nd.e,q.c1.ps),q.c1.cz,q.c1.co.ps,q.c1.co.ss)))) (cond (evA false (evOf (wo.2.2.2.getD k noCy)).s2 (evOf (wo.2.2.2.getD k noCy)).r2) (Sum.inr (Sum.inr (Sum.inl (((((k:Nat):Int),wo,q.p.e),((((q.r.cycle,q.r.role1,q.r.role2),(q.r.st1,q.r.st2),q.r.steps1,q.r.steps2),(q.r.t1.lat,q.r.t1.ver,q.r.t1.ph),(q.r.t1.bank,q.r.t1.speed),q.r.t1.alt,q.r.t1.vs),((q.r.t2.lat,q.r.t2.ver,q.r.t2.ph),(q.r.t2.bank,q.r.t2.speed),q.r.t2.alt,q.r.t2.vs),((q.r.src,q.p.use.lat),(q.p.use.ver,q.p.use.ph)),((q.p.use.bank,q.p.use.speed),q.p.use.alt,q.p.use.vs)),q.m1.e,q.m2.e),(q.c2.h,q.c2.nd.e,q.c2.ps),q.c2.cz,q.c2.co.ps,q.c2.co.ss)))) (Sum.inl ((((k:Nat):Int),wo,q.p.e),((((q.r.cycle,q.r.role1,q.r.role2),(q.r.st1,q.r.st2),q.r.steps1,q.r.steps2),(q.r.t1.lat,q.r.t1.ver,q.r.t1.ph),(q.r.t1.bank,q.r.t1.speed),q.r.t1.alt,q.r.t1.vs),((q.r.t2.lat,q.r.t2.ver,q.r.t2.ph),(q.r.t2.bank,q.r.t2.speed),q.r.t2.alt,q.r.t2.vs),((q.r.src,q.p.use.lat),(q.p.use.ver,q.p.use.ph)),((q.p.use.bank,q.p.use.speed),q.p.use.alt,q.p.use.vs)),q.m1.e,q.m2.e)))) ?_).trans ?_
 ·refine (bdS (o10_eq _ 20)).trans ((bdS (o10_eq _ 20)).trans ((bdS (o9v3_eq (c2:=w.c2) h.init h.p1 h.p2 (h.c1 rfl) (evOf (wo.2.2.2.getD k noCy)) ((wo.2.2.2.getD k noCy).1.take 20) ((wo.2.2.2.getD k noCy).2.1.take 20))).trans ?_))
  rw [hq]
  cases (evA true (evOf (wo.2.2.2.getD k noCy)).s1 (evOf (wo.2.2.2.getD k noCy)).r1) <;> cases (evA false (evOf (wo.2.2.2.getD k noCy)).s2 (evOf (wo.2.2.2.getD k noCy)).r2) <;> rfl
 revert hB hN
 cases (evA true (evOf (wo.2.2.2.getD k noCy)).s1 (evOf (wo.2.2.2.getD k noCy)).r1) with
 | true =>
  cases (evA false (evOf (wo.2.2.2.getD k noCy)).s2 (evOf (wo.2.2.2.getD k noCy)).r2) with
  | true=>intro hB hN;exact tAl_37c390_11 h20 hA (hB rfl).1 (hB rfl).2
  | false=>intro hB hN;exact tAl_37c390_10 h20 hA (hN rfl)
 | false =>
  cases (evA false (evOf (wo.2.2.2.getD k noCy)).s2 (evOf (wo.2.2.2.getD k noCy)).r2) with
  | true=>intro hB hN;exact tAl_37c390_01 h20 hA (hN rfl)
  | false=>intro hB hN;exact tAl_37c390_00 h20 hA (hN rfl)
theorem eAl_10 {wo:WoT} {k:Nat} (hk:¬ (((k:Nat):Int) < ((wo.2.2.2.length:Nat):Int)∧((k:Nat):Int) < 24)) {w:W}:o3_b0 (Sum.inr (Sum.inr (Sum.inr (((((k:Nat):Int),wo),w.p.e,w.m1.e,w.m2.e),(w.c1.h,w.c1.nd.e,w.c1.ps),w.c1.cz,w.c1.co.ps,w.c1.co.ss))))=some (Ctl.done true):=by
 unfold o3_b0
 refine (smR _ _ _).trans ((smR _ _ _).trans ((smR _ _ _).trans (?_)))
 refine (bdS (t:=(((((k:Nat):Int),false,wo),w.p.e,w.m1.e,w.m2.e),(w.c1.h,w.c1.nd.e,w.c1.ps),w.c1.cz,w.c1.co.ps,w.c1.co.ss)) ?_).trans ((cndF rfl).trans (dnS _))
 by_cases h1:((k:Nat):Int) < ((wo.2.2.2.length:Nat):Int)
 ·refine (cndT (dt h1)).trans ?_
  exact congrArg (fun z:Bool=>some (((((k:Nat):Int),z,wo),w.p.e,w.m1.e,w.m2.e),(w.c1.h,w.c1.nd.e,w.c1.ps),w.c1.cz,w.c1.co.ps,w.c1.co.ss)) (df (fun h2=>hk ⟨h1,h2⟩))
 ·exact (cndF (df h1)).trans rfl
structure Good (P K:Int) (a b:Bool) (w:W):Prop where
 ok:w.ok a b
 f1:a=true→Fit 1 K w.c1
 f2:b=true→Fit 2 K w.c2
 m1:w.m1.inR P
 m2:w.m2.inR P
 r12:a=true→Rel P w.c1 w.m1 b w.c2 w.m2
 r21:b=true→Rel P w.c2 w.m2 a w.c1 w.m1
 cyc:w.p.cycle=K
theorem tg_nice (m:Mc) (k:Int):(m.tg.wrong k).nice:=by
 have hw:∀ x,i64ok (IntKind.i64.wrap x):=fun x=>i64_in_ x
 exact ⟨u8_in_ _,u8_in_ _,u8_in_ _,by show i64ok (lxorK .i64 _ k);unfold lxorK;exact hw _,hw _,hw _,hw _⟩
theorem noTg_nice:noTg.nice:=⟨by decide,by decide,by decide,⟨by decide,by decide⟩,⟨by decide,by decide⟩,⟨by decide,by decide⟩,⟨by decide,by decide⟩⟩
theorem stepA1_n {u:W} (a:Bool) (v:Ev) (h1:u.r.t1.nice) (h2:u.r.t2.nice):(u.stepA1 a v).r.t1.nice∧(u.stepA1 a v).r.t2.nice:=by
 unfold W.stepA1
 refine cond_p (P:=fun z:W=>z.r.t1.nice∧z.r.t2.nice) ⟨?_,h2⟩ ⟨h1,h2⟩
 exact cond_p (P:=Tg.nice) (tg_nice _ _) h1
theorem stepA2_n {u:W} (a:Bool) (v:Ev) (h1:u.r.t1.nice) (h2:u.r.t2.nice):(u.stepA2 a v).r.t1.nice∧(u.stepA2 a v).r.t2.nice:=by
 unfold W.stepA2
 refine cond_p (P:=fun z:W=>z.r.t1.nice∧z.r.t2.nice) ⟨h1,?_⟩ ⟨h1,h2⟩
 exact cond_p (P:=Tg.nice) (tg_nice _ _) h2
theorem same_tg {s s2:Int} {t u:Tg} (h:sameRes s t s2 u=true):t=u:=by
 unfold sameRes at h
 simp only [Bool.and_eq_true,beq_iff_eq] at h
 obtain ⟨-,h1,h2,h3,h4,h5,h6,h7⟩:=h
 cases t;cases u
 simp only at h1 h2 h3 h4 h5 h6 h7
 subst h1;subst h2;subst h3;subst h4;subst h5;subst h6;subst h7
 rfl
theorem judge_same {w:W} {b:Bool} {K cy:Int} (h1:DFit 1 K cy w.c1) (h2:b=true→DFit 2 K cy w.c2) (hw:w.p.cycle=cy) (hc:0≤cy∧cy≤1000000) (ht:w.r.t2.nice) (v:Ev) (hs:((w.ex2 true b v).c1.judge (w.ex2 true b v).f1 (w.ex2 true b v).b1).2.1=4):w.r.t1=w.r.t2:=by
 have t1:=snd2_eq (t:=w.r.t1) h1.kk h1.nnum h1.nx h1.nnx h1.ncyc
 have e1:(w.ex2 true b v).c1=gT w.c1 w.r.t1:=by show (snd2 w.c1 w.r.t1).1=_;rw [t1]
 rw [e1,(judge_eq rfl (gT_nd w.c1 w.r.t1).2.2.2.1 _ _).2] at hs
 have hh:=(gT_nd w.c1 w.r.t1).2.2.2.2.1
 cases hz:w.c1.nd.has with
 | false=>rw [hh,hz] at hs;cases hs
 | true =>
  rw [hh,hz,cond_true] at hs
  cases hf:((gT w.c1 w.r.t1).nd.fits (w.ex2 true b v).f1 (w.ex2 true b v).b1 3&&(getRes (w.ex2 true b v).f1.payload).2.2==0) with
  | false=>rw [hf] at hs;cases hs
  | true =>
   rw [hf,cond_true] at hs
   have htt:(gT w.c1 w.r.t1).nd.tt=w.r.t1:=by
    show (cond w.c1.nd.has _ _:Nd).tt=_
    rw [hz];rfl
   have hv:sameRes (getRes (w.ex2 true b v).f1.payload).1 (getRes (w.ex2 true b v).f1.payload).2.1 (gT w.c1 w.r.t1).nd.ts (gT w.c1 w.r.t1).nd.tt=true:=by
    unfold Nd.verdict at hs
    cases hr:((gT w.c1 w.r.t1).nd.role==3) with
    | true =>
     rw [hr,cond_true] at hs
     cases hq:sameRes (getRes (w.ex2 true b v).f1.payload).1 (getRes (w.ex2 true b v).f1.payload).2.1 (gT w.c1 w.r.t1).nd.ts (gT w.c1 w.r.t1).nd.tt with
     | true=>rfl
     | false=>rw [hq] at hs;cases hs
    | false =>
     rw [hr,cond_false] at hs
     cases hq:sameRes (getRes (w.ex2 true b v).f1.payload).1 (getRes (w.ex2 true b v).f1.payload).2.1 (gT w.c1 w.r.t1).nd.ts (gT w.c1 w.r.t1).nd.tt with
     | true=>rfl
     | false=>rw [hq,Bool.and_false] at hs;cases hs
   have hsame:=same_tg hv
   rw [htt] at hsame
   have hcame:(w.ex2 true b v).b1=true:=by
    simp only [Bool.and_eq_true] at hf
    have:=hf.1
    unfold Nd.fits at this
    simp only [Bool.and_eq_true] at this
    exact this.1
   have f1:(w.ex2 true b v).f1=cond b (wire (snd2 w.c2 w.r.t2).2.1 (snd2 w.c2 w.r.t2).2.2 v.f22 3 2 w.p.cycle).1 noFrm:=rfl
   have b1:(w.ex2 true b v).b1=cond b (wire (snd2 w.c2 w.r.t2).2.1 (snd2 w.c2 w.r.t2).2.2 v.f22 3 2 w.p.cycle).2 false:=rfl
   cases hb:b with
   | false=>subst hb;cases hcame
   | true =>
    have hd:=h2 hb
    have t2:=snd2_eq (t:=w.r.t2) hd.kk hd.nnum hd.nx hd.nnx hd.ncyc
    rw [b1,t2] at hcame
    rw [f1,t2] at hsame
    rcases arrive (a:=b) (f:=cond w.c2.nd.has ⟨3,2,cy,putRes w.c2.nd.steps w.r.t2⟩ noFrm) (ok:=w.c2.nd.has) (ft:=v.f22) (lab:=3) (k:=2) (cy:=w.p.cycle) (fun _=>cond_p (P:=Frm.tidy) (tidy_of (by decide) (.inr rfl) hc) noFrm_tidy) with ⟨g1,g2⟩ | ⟨g1,g2,g3,g4,_⟩
    ·dsimp only at hcame;rw [g2] at hcame;cases hcame
    ·dsimp only at hsame
     rw [g1,g4,cond_true] at hsame
     have hst:=hd.steps
     have hK:=hd.small
     rw [getRes_put ⟨by omega,by omega⟩ ht] at hsame
     exact hsame.symm
theorem rel_false {P:Int} {ci cj cj':Cp} {mi mj mj':Mc} (h:Rel P ci mi false cj mj):Rel P ci mi false cj' mj' :=
 ⟨fun e=>(by cases (h.foll e).1),fun e1 e2=>(by cases (h.link e1 e2).1)⟩
theorem mD_in {P:Int} {m:Mc} (h:m.inR P) (init:List UInt8) (c:Cp) (cy:Int) (l:List UInt8) (o:Option Hd) (y:Option Se):(mD init c cy l o y m).inR P:=by
 unfold mD
 exact cond_p (P:=fun z:Mc=>z.inR P) (stepA_in h _ _) h
theorem side_end {P k j K cy:Int} {ci cj:Cp} {mi mj:Mc} {b:Bool} {li lj:List UInt8} {oi oj:Option Hd} {yi yj:Option Se} {init:List UInt8} {ti tj:Tg} {pi pj:Option PT} (h0:0≤P) (h1:P≤10000) (hK:0≤K) (hK2:K+1≤1000000)
  (hi:Fit k K ci) (hj:b=true→Fit j K cj) (hmi:mi.inR P) (hmj:mj.inR P) (h:RelE P ci mi b cj mj) (ho:oi=none∨(b=true∧oi=some (cj.hd0 lj))) (ho2:oj=none∨oj=some (ci.hd0 li)) (hy:∀ s,yi=some s→b=true∧RB cj cy lj oj=2∧s=seOf cj cy lj oj)
  (hp:∀ x,pi=some x→b=true∧(Dv cj cy lj oj yj).asked=true∧(svOf (Dv cj cy lj oj yj) (mD init cj cy lj oj yj mj)).2.2=0∧(svOf (Dv cj cy lj oj yj) (mD init cj cy lj oj yj mj)).2.1=x∧validP x=true) :
  Fit k (K+1) (Ee (Dv ci cy li oi yi) ti (mD init ci cy li oi yi mi) pi).1 ∧
  Rel P (Ee (Dv ci cy li oi yi) ti (mD init ci cy li oi yi mi) pi).1 (Ee (Dv ci cy li oi yi) ti (mD init ci cy li oi yi mi) pi).2 b (Ee (Dv cj cy lj oj yj) tj (mD init cj cy lj oj yj mj) pj).1 (Ee (Dv cj cy lj oj yj) tj (mD init cj cy lj oj yj mj) pj).2 ∧
  (Ee (Dv ci cy li oi yi) ti (mD init ci cy li oi yi mi) pi).2.inR P:=by
 have hM:=mid_of (init:=init) (yj:=yj) hi hj h ho ho2 hy
 have hDi:=dfit_of (cy:=cy) hi li oi yi
 have hDj:b=true→∃ j,DFit j K cy (Dv cj cy lj oj yj):=fun hb=>⟨j,dfit_of (hj hb) lj oj yj⟩
 have hmi2:=mD_in hmi init ci cy li oi yi
 have hmj2:=mD_in hmj init cj cy lj oj yj
 refine ⟨fit_end hDi hK2 (fun x hx=>?_) hK (fun hr hne=>?_),rel_end h0 h1 hDi hDj hmi2 hmj2 hM hp,?_⟩
 ·obtain ⟨g1,g2,g3,g4,g5⟩:=hp x hx
  obtain ⟨j',hd⟩:=hDj g1
  obtain ⟨bb,ss,ii,e1,e2,e3,e4,e5,e6⟩:=serve_cases (m:=mD init cj cy lj oj yj mj) hd.snd g3
  have hx1:x.1=bb:=by rw [← g4,e3];rfl
  have hst:=hd.steps
  rcases e6 with ⟨f1,f2,f3,f4⟩ | ⟨f1,f2,f3⟩ <;> omega
 ·obtain ⟨g1,g2,g3⟩:=linked_of (tj:=tj) hDi hDj hmj2 hM hp hr hne
  obtain ⟨j',hd⟩:=hDj g1
  have hst:=g3.steps
  rw [(vfacts (Dv cj cy lj oj yj) tj (mD init cj cy lj oj yj mj)).steps] at hst
  have:=hd.steps
  omega
 ·unfold Ee tookA
  exact cond_p (P:=fun z:Cp×Mc=>z.2.inR P) (cond_p (P:=fun z:Cp×Mc=>z.2.inR P) (load_in hmi2 _) (runL_in _ (load_in hmi2 _))) hmi2
theorem start_r (p:Pr) (m1 m2:Mc) (c1 c2:Cp):(start p m1 m2 c1 c2).r.t1=noTg∧(start p m1 m2 c1 c2).r.t2=noTg∧(start p m1 m2 c1 c2).r.st1=1∧(start p m1 m2 c1 c2).r.st2=1∧(start p m1 m2 c1 c2).r.role1=0∧(start p m1 m2 c1 c2).r.role2=0:=⟨rfl,rfl,rfl,rfl,rfl,rfl⟩
theorem node_r (z:W) (a b:Bool):(z.node a b).r.role1=cond a z.c1.nd.role z.r.role1∧(z.node a b).r.role2=cond b z.c2.nd.role z.r.role2∧(z.node a b).r.steps1=cond a z.c1.nd.steps z.r.steps1∧(z.node a b).r.steps2=cond b z.c2.nd.steps z.r.steps2∧(z.node a b).r.st1=z.r.st1∧(z.node a b).c1=z.c1∧(z.node a b).c2=z.c2∧(z.node a b).m1=z.m1∧(z.node a b).m2=z.m2∧(z.node a b).r.t1=z.r.t1∧(z.node a b).r.t2=z.r.t2:=⟨rfl,rfl,rfl,rfl,rfl,rfl,rfl,rfl,rfl,rfl,rfl⟩
theorem take_r (z:W) (a b:Bool):(z.take a b).r=z.r∧(z.take false b).m1=z.m1∧(z.take a false).m2=z.m2:=⟨rfl,rfl,rfl⟩
theorem ex3_r (z:W) (a b:Bool) (v:Ev):(z.ex3 a b v).r=z.r∧(z.ex3 a b v).m1=z.m1∧(z.ex3 a b v).m2=z.m2:=⟨rfl,rfl,rfl⟩
theorem ex2_r (z:W) (a b:Bool) (v:Ev):(z.ex2 a b v).r=z.r∧(z.ex2 a b v).m1=z.m1∧(z.ex2 a b v).m2=z.m2:=⟨rfl,rfl,rfl⟩
theorem judge_r (z:W) (a b:Bool):(z.judge a b).r.st1=cond a (z.c1.judge z.f1 z.b1).2.1 z.r.st1∧(z.judge a b).r.role1=z.r.role1∧(z.judge a b).r.role2=z.r.role2∧(z.judge a b).r.steps1=z.r.steps1∧(z.judge a b).r.steps2=z.r.steps2∧(z.judge a b).m1=z.m1∧(z.judge a b).m2=z.m2∧(z.judge a b).r.t1=z.r.t1∧(z.judge a b).r.t2=z.r.t2:=⟨rfl,rfl,rfl,rfl,rfl,rfl,rfl,rfl,rfl⟩
theorem late_st1 (u:W) (a b:Bool) (v:Ev):(u.late a b v).r.st1=cond a ((u.ex2 a b v).c1.judge (u.ex2 a b v).f1 (u.ex2 a b v).b1).2.1 u.r.st1:=by
 unfold W.late
 rw [(node_r _ a b).2.2.2.2.1,(take_r _ a b).1,(ex3_r _ a b v).1,(judge_r _ a b).1,(ex2_r u a b v).1]
theorem late_role (u:W) (a b:Bool) (v:Ev):(u.late a b v).r.role1=cond a (u.late a b v).c1.nd.role u.r.role1∧(u.late a b v).r.role2=cond b (u.late a b v).c2.nd.role u.r.role2∧(u.late a b v).r.steps1=cond a (u.late a b v).c1.nd.steps u.r.steps1∧(u.late a b v).r.steps2=cond b (u.late a b v).c2.nd.steps u.r.steps2:=by
 unfold W.late
 obtain ⟨e1,e2,e3,e4,-,e5,e6,-⟩:=node_r ((((u.ex2 a b v).judge a b).ex3 a b v).take a b) a b
 obtain ⟨-,j1,j2,j3,j4,-⟩:=judge_r (u.ex2 a b v) a b
 rw [e1,e2,e3,e4,e5,e6,(take_r _ a b).1,(ex3_r _ a b v).1,j1,j2,j3,j4,(ex2_r u a b v).1]
 exact ⟨rfl,rfl,rfl,rfl⟩
theorem late_m1 (u:W) (b:Bool) (v:Ev):(u.late false b v).m1=u.m1:=by
 unfold W.late
 obtain ⟨-,-,-,-,-,-,-,e,-⟩:=node_r ((((u.ex2 false b v).judge false b).ex3 false b v).take false b) false b
 rw [e,(take_r _ false b).2.1,(ex3_r _ false b v).2.1,(judge_r _ false b).2.2.2.2.2.1,(ex2_r u false b v).2.1]
theorem late_m2 (u:W) (a:Bool) (v:Ev):(u.late a false v).m2=u.m2:=by
 unfold W.late
 obtain ⟨-,-,-,-,-,-,-,-,e,-⟩:=node_r ((((u.ex2 a false v).judge a false).ex3 a false v).take a false) a false
 rw [e,(take_r _ a false).2.2,(ex3_r _ a false v).2.2,(judge_r _ a false).2.2.2.2.2.2.1,(ex2_r u a false v).2.2]
theorem step_r (u:W) (a b:Bool) (v:Ev):(u.step a b v).r.st1=u.r.st1∧(u.step a b v).r.role1=u.r.role1∧(u.step a b v).r.role2=u.r.role2:=by cases a <;> cases b <;> exact ⟨rfl,rfl,rfl⟩
end Go.Proofs.YtpleflcfaecojaaGreat
