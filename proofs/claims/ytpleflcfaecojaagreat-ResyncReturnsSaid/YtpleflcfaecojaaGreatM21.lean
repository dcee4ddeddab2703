/-
What functions compute, printed by wip/h/py. Conditions: each theorem's own.
-/
import Derived.Test.YtpleflcfaecojaaGreatM20
namespace Go.Proofs.YtpleflcfaecojaaGreat
set_option linter.unusedVariables false
set_option linter.unusedSimpArgs false
set_option maxRecDepth 100000
open Go.RowKit
noncomputable section
def Bp:BSh:= .cells 28 [.i .u64,.i .u16,.i .i64,.i .i64,.i .i64,.i .i64,.ro (.p (.a .y) (.p (.a .y) (.p (.p .b .b) (.p (.p .b .b) (.p (.p .b .b) (.p (.p (.i .i64) (.i .i64)) (.p (.p (.p .b (.p (.i .i64) (.i .u32))) (.p (.p .b (.p (.i .i64) (.i .u32))) (.p (.p .b (.p (.i .i64) (.i .u32))) (.p .b (.p (.i .i64) (.i .u32)))))) (.p (.p .b (.p (.i .i64) (.i .u32))) (.p (.p .b (.p (.i .i64) (.i .u32))) (.p (.p .b (.p (.i .i64) (.i .u32))) (.p .b (.p (.i .i64) (.i .u32))))))))))))) true]
def Id:SSh:= .v (.agg [.i .u64,.i .u16,.i .i64,.i .i64,.i .i64,.i .i64,.ro (.p (.a .y) (.p (.a .y) (.p (.p .b .b) (.p (.p .b .b) (.p (.p .b .b) (.p (.p (.i .i64) (.i .i64)) (.p (.p (.p .b (.p (.i .i64) (.i .u32))) (.p (.p .b (.p (.i .i64) (.i .u32))) (.p (.p .b (.p (.i .i64) (.i .u32))) (.p .b (.p (.i .i64) (.i .u32)))))) (.p (.p .b (.p (.i .i64) (.i .u32))) (.p (.p .b (.p (.i .i64) (.i .u32))) (.p (.p .b (.p (.i .i64) (.i .u32))) (.p .b (.p (.i .i64) (.i .u32))))))))))))) true])
def Dh:BSh:= .cells 105 [.ifc 60 (.ptr 2 0),.ifc 60 (.ptr 3 0),.ptr 4 0,.ptr 5 0,.ro .y true,.i .i64,.i .i64,.i .i64,.i .i64,.i .i64,.i .u8,.i .u8,.i .u8,.i .i64,.i .i64,.i .i64,.i .i64]
def Dk:BSh:= .cells 105 [.ifc 60 (.ptr 2 0),.ifc 60 (.ptr 3 0),.cst (.pointer none),.cst (.pointer none),.ro .y true,.i .i64,.i .i64,.i .i64,.i .i64,.i .i64,.i .u8,.i .u8,.i .u8,.i .i64,.i .i64,.i .i64,.i .i64]
abbrev BK:Type:=(((AK×Af)×(I3)×I3)×(((I3)×Bool×I2)×(I3)×Bool×I2)×Ae×List (Int×Int×Int×Bt))×(((I2)×Ae)×(List (Int×Int×Int×Bt))×I2)×(List Bt×List (Int×I4))×List Bt×List (Int×I4)
abbrev Bg:Type:=(((Int×AK)×Af×I3)×((I3)×(I3)×Bool×I2)×((I3)×Bool×I2)×Ae)×(((List (Int×Int×Int×Bt))×I2)×Ae×List (Int×Int×Int×Bt))×((I2)×List Bt)×(List (Int×I4))×List Bt×List (Int×I4)
abbrev Bh:Type:=(Int×AK)×Af×(I3)×I3
abbrev AD:Type:=((Int×AK)×Af×(I3)×I3)×(((I3)×Bool×I2)×Ae×List (Int×Int×Int×Bt))×(I2)×List Bt×List (Int×I4)
abbrev Ie:Type:=(((Int×Bool)×AK×Af)×((I3)×I3)×((I3)×Bool×I2)×((I3)×Bool×I2)×Ae)×(((List (Int×Int×Int×Bt))×I2)×Ae×List (Int×Int×Int×Bt))×((I2)×List Bt)×(List (Int×I4))×List Bt×List (Int×I4)
abbrev Ig:Type:=(Int×Bool×AK)×Af×(I3)×I3
abbrev Dm:Type:=((Int×Bool×AK)×Af×(I3)×I3)×(((I3)×Bool×I2)×Ae×List (Int×Int×Int×Bt))×(I2)×List Bt×List (Int×I4)
def BC (v31:Bh ⊕ AD ⊕ AD ⊕ Bg):Option (Ctl (Bg ⊕ Bh ⊕ AD ⊕ AD) (Bool)) :=
 (sm v31 (fun v32=>(some (Ctl.go (Sum.inr (Sum.inl (((IntKind.wrap .i64 (v32.1.1+(1:Int))),v32.1.2),v32.2)))))) (fun v33=>(sm v33 (fun v34=>(some (Ctl.go (Sum.inr (Sum.inr (Sum.inl ((((IntKind.wrap .i64 (v34.1.1.1+(1:Int))),v34.1.1.2),v34.1.2),v34.2))))))) (fun v35=>(sm v35 (fun v36=>(some (Ctl.go (Sum.inr (Sum.inr (Sum.inr ((((IntKind.wrap .i64 (v36.1.1.1+(1:Int))),v36.1.1.2),v36.1.2),v36.2))))))) (fun v37=>(some (Ctl.go (Sum.inl (((((IntKind.wrap .i64 (v37.1.1.1.1+(1:Int))),v37.1.1.1.2),v37.1.1.2),v37.1.2),v37.2))))))))))
abbrev Bx:Type:=((AK×Af)×(I3)×(I3)×(I3)×Bool×I2)×(Ae×List (Int×Int×Int×Bt))×(I2)×List Bt×List (Int×I4)
abbrev Dn:Type:=(((I2)×Int×Af)×((I3)×I3)×((I3)×Bool×I2)×((I3)×Bool×I2)×Ae)×(((List (Int×Int×Int×Bt))×I2)×Ae×List (Int×Int×Int×Bt))×((I2)×List Bt)×(List (Int×I4))×List Bt×List (Int×I4)
abbrev Ih:Type:=((I2)×I2)×(Af×Ah)×(I3)×I3
abbrev FR:Type:=((I3)×(Int×Af)×Ah×I3)×((I3)×((I3)×Bool×I2)×Ae)×((List (Int×Int×Int×Bt))×I2)×List Bt×List (Int×I4)
abbrev Ii:Type:=(((I2)×Int×Int×Af)×(Ah×I3)×(I3)×((I3)×Bool×I2)×(I3)×Bool×I2)×((Ae×List (Int×Int×Int×Bt))×(I2)×Ae×List (Int×Int×Int×Bt))×((I2)×List Bt)×(List (Int×I4))×List Bt×List (Int×I4)
abbrev Ij:Type:=(((I2)×Int×Bool)×(Af×I3)×(I3)×((I3)×Bool×I2)×(I3)×Bool×I2)×((Ae×List (Int×Int×Int×Bt))×(I2)×Ae×List (Int×Int×Int×Bt))×((I2)×List Bt)×(List (Int×I4))×List Bt×List (Int×I4)
def o4_b1 (v135:Dn):Option (Ctl Dn Bool) :=
 (cnd (decide (v135.1.1.2.1 < v135.1.1.1.2)) (bd (α:=Ih ⊕ FR ⊕ FR ⊕ Ii) (bd (α:=((Ah×Af)×(I3)×I3) ⊕ At ⊕ At ⊕ AG) (o9 ([(u8 (IntKind.wrap .u8 v135.1.1.2.1))]:Bt) ([]:Bt) (((((false,false),false,false),(false,false),(0:Int),(0:Int)),((false,(0:Int)),(0:Int),false),((0:Int),(0:Int)),false,(0:Int)),((((0:Int),false),(0:Int),(0:Int)),(false,(0:Int)),(0:Int),false),(((0:Int),(0:Int)),false,(0:Int)),((0:Int),false),(0:Int),(0:Int)) v135.1.1.2.2 v135.1.2.1.1 v135.1.2.1.2 v135.1.2.2.1 v135.1.2.2.2.2 v135.2.1.1.1 v135.2.1.1.2 v135.2.2.1.2 v135.2.2.2.1 v135.1.2.2.2.1 v135.2.1.2.1 v135.2.1.2.2 v135.2.2.1.1 v135.2.2.2.2.1 v135.2.2.2.2.2) (fun v136=>(sm v136 (fun v137=>(some (Sum.inl (((v135.1.1.1.1,v135.1.1.2.1),v135.1.1.1.2,v135.1.1.2.1),(v137.1.2,v137.1.1),v137.2)))) (fun v138=>(sm v138 (fun v139=>(some (Sum.inr (Sum.inl (((v135.1.1.1.1,v135.1.1.2.1,v135.1.1.1.2),(v135.1.1.2.1,v139.1.1.2),v139.1.1.1,v139.1.2.1),(v139.1.2.2.1,v139.1.2.2.2,v139.2.1.1),(v139.2.1.2,v139.2.2.1),v139.2.2.2))))) (fun v140=>(sm v140 (fun v141=>(some (Sum.inr (Sum.inr (Sum.inl (((v135.1.1.1.1,v135.1.1.2.1,v135.1.1.1.2),(v135.1.1.2.1,v141.1.1.2),v141.1.1.1,v141.1.2.1),(v141.1.2.2.1,v141.1.2.2.2,v141.2.1.1),(v141.2.1.2,v141.2.2.1),v141.2.2.2)))))) (fun v142=>(some (Sum.inr (Sum.inr (Sum.inr ((((v135.1.1.1.1,v135.1.1.2.1),v135.1.1.1.2,v135.1.1.2.1,v142.1.1.1.2),(v142.1.1.1.1,v142.1.1.2.1),v142.1.1.2.2,v142.1.2.1),(v142.1.2.2,v142.2.1.1.1,v142.2.1.1.2,v142.2.1.2.1),(v142.2.1.2.2,v142.2.2.1.1),v142.2.2.1.2,v142.2.2.2))))))))))))) (fun v143=>(sm v143 (fun v144=>none) (fun v145=>(sm v145 (fun v146=>none) (fun v147=>(sm v147 (fun v148=>none) (fun v149=>(bd (α:=Ij) (cnd (decide (v149.1.1.1.2≥(IntKind.wrap .i64 (v149.1.1.1.1 - (1:Int))))) (cnd (v149.1.2.1.1.1.1.2.1.1 != (4:Int)) (some ((((v149.1.1.1.1,v149.1.1.2.1),v149.1.1.2.2.1,true),(v149.1.1.2.2.2,v149.1.2.1.2),v149.1.2.2),v149.2)) (cnd (v149.1.2.1.1.1.1.2.1.2 != (4:Int)) (some ((((v149.1.1.1.1,v149.1.1.2.1),v149.1.1.2.2.1,true),(v149.1.1.2.2.2,v149.1.2.1.2),v149.1.2.2),v149.2)) (some ((((v149.1.1.1.1,v149.1.1.2.1),v149.1.1.2.2.1,(!((v149.1.2.1.1.1.2.1.1==v149.1.2.1.1.2.1.1.1)&&((v149.1.2.1.1.1.2.1.2.1==v149.1.2.1.1.2.1.1.2.1)&&((v149.1.2.1.1.1.2.1.2.2==v149.1.2.1.1.2.1.1.2.2)&&((v149.1.2.1.1.1.2.2.1.1==v149.1.2.1.1.2.1.2.1.1)&&((v149.1.2.1.1.1.2.2.1.2==v149.1.2.1.1.2.1.2.1.2)&&((v149.1.2.1.1.1.2.2.2.1==v149.1.2.1.1.2.1.2.2.1)&&(v149.1.2.1.1.1.2.2.2.2==v149.1.2.1.1.2.1.2.2.2))))))))),(v149.1.1.2.2.2,v149.1.2.1.2),v149.1.2.2),v149.2)))) (some ((((v149.1.1.1.1,v149.1.1.2.1),v149.1.1.2.2.1,false),(v149.1.1.2.2.2,v149.1.2.1.2),v149.1.2.2),v149.2))) (fun v150=>(cnd v150.1.1.2.2 (dnO (some false)) (some (Ctl.go (((v150.1.1.1,(IntKind.wrap .i64 (v150.1.1.2.1+(1:Int))),v150.1.2.1.1),(v150.1.2.1.2,v150.1.2.2.1),v150.1.2.2.2.1,v150.1.2.2.2.2,v150.2.1.1.1),((v150.2.1.1.2,v150.2.1.2.1),v150.2.1.2.2),v150.2.2)))))))))))))) (dnO (some true)))
def BD (v127:((AK×Af)×(I3)×I3) ⊕ Bx ⊕ Bx ⊕ BK):Option Bool :=
 (sm v127 (fun v128=>none) (fun v129=>(sm v129 (fun v130=>none) (fun v131=>(sm v131 (fun v132=>none) (fun v133=>(loopO (σ:=Dn) fuelN o4_b1 (((((IntKind.wrap .i64 ((IntKind.wrap .i64 (Int.tdiv (IntKind.wrap .i64 ((IntKind.wrap .i64 ((IntKind.wrap .i64 ((16:Int)+(Int.tmod (IntKind.wrap .i64 v133.1.1.1.1.1.2.1) (1900:Int))))+(600:Int))) - (1:Int))) (600:Int)))+(2:Int))),(IntKind.wrap .i64 ((IntKind.wrap .i64 ((IntKind.wrap .i64 (Int.tdiv (IntKind.wrap .i64 ((IntKind.wrap .i64 ((IntKind.wrap .i64 ((16:Int)+(Int.tmod (IntKind.wrap .i64 v133.1.1.1.1.1.2.1) (1900:Int))))+(600:Int))) - (1:Int))) (600:Int)))+(2:Int)))+(3:Int)))),(0:Int),v133.1.1.1.2),v133.1.1.2,v133.1.2.1.1,v133.1.2.1.2,v133.1.2.2.1),((v133.1.2.2.2,v133.2.1.1.1),v133.2.1.1.2,v133.2.1.2.1),(v133.2.1.2.2,v133.2.2.1.1),v133.2.2.1.2,v133.2.2.2))))))))
def FT (v68:Dm) (v80:((Ah×Af)×(I3)×I3) ⊕ At ⊕ At ⊕ AG):Option (Bh ⊕ AD ⊕ AD ⊕ Bg) :=
 (sm v80 (fun v81=>(some (Sum.inl ((v68.1.1.1,v68.1.1.2.2),v81.1.2,v81.2)))) (fun v82=>(sm v82 (fun v83=>(some (Sum.inr (Sum.inl (((v68.1.1.1,v68.1.1.2.2),v83.1.1.2,v83.1.2.1,v83.1.2.2.1),(v83.1.2.2.2,v83.2.1),v83.2.2))))) (fun v84=>(sm v84 (fun v85=>(some (Sum.inr (Sum.inr (Sum.inl (((v68.1.1.1,v68.1.1.2.2),v85.1.1.2,v85.1.2.1,v85.1.2.2.1),(v85.1.2.2.2,v85.2.1),v85.2.2)))))) (fun v86=>(some (Sum.inr (Sum.inr (Sum.inr ((((v68.1.1.1,v68.1.1.2.2),v86.1.1.1.2,v86.1.1.2.1),(v86.1.1.2.2,v86.1.2.1.1),v86.1.2.1.2,v86.1.2.2.1),((v86.1.2.2.2,v86.2.1.1.1),v86.2.1.1.2,v86.2.1.2.1),(v86.2.1.2.2,v86.2.2.1.1),v86.2.2.1.2,v86.2.2.2)))))))))))
def BE (v87:Bh ⊕ AD ⊕ AD ⊕ Bg):Option (Ctl (Bg ⊕ Bh ⊕ AD ⊕ AD) (Bool)) :=
 (sm v87 (fun v88=>(some (Ctl.go (Sum.inr (Sum.inl (((IntKind.wrap .i64 (v88.1.1+(1:Int))),v88.1.2),v88.2)))))) (fun v89=>(sm v89 (fun v90=>(some (Ctl.go (Sum.inr (Sum.inr (Sum.inr ((((IntKind.wrap .i64 (v90.1.1.1+(1:Int))),v90.1.1.2),v90.1.2),v90.2))))))) (fun v91=>(sm v91 (fun v92=>(some (Ctl.go (Sum.inr (Sum.inr (Sum.inl ((((IntKind.wrap .i64 (v92.1.1.1+(1:Int))),v92.1.1.2),v92.1.2),v92.2))))))) (fun v93=>(some (Ctl.go (Sum.inl (((((IntKind.wrap .i64 (v93.1.1.1.1+(1:Int))),v93.1.1.1.2),v93.1.1.2),v93.1.2),v93.2))))))))))
def FU (v68:Dm) (v182:((Ah×Af)×(I3)×I3) ⊕ At ⊕ At ⊕ AG):Option (((AK×Af)×(I3)×I3) ⊕ Bx ⊕ Bx ⊕ BK) :=
 (sm v182 (fun v183=>(some (Sum.inl ((v68.1.1.2.2,v183.1.2),v183.2)))) (fun v184=>(sm v184 (fun v185=>(some (Sum.inr (Sum.inl (((v68.1.1.2.2,v185.1.1.2),v185.1.2),v185.2))))) (fun v186=>(sm v186 (fun v187=>(some (Sum.inr (Sum.inr (Sum.inl (((v68.1.1.2.2,v187.1.1.2),v187.1.2),v187.2)))))) (fun v188=>(some (Sum.inr (Sum.inr (Sum.inr ((((v68.1.1.2.2,v188.1.1.1.2),v188.1.1.2),v188.1.2),v188.2)))))))))))
def o4_s0:Sch:=⟨[(1,.v (.c (.ptr 0 0))),(3,.v (.c (.cst (.pointer none))))],[Bp]⟩
def o4_s1:Sch:=⟨[(1,.v (.c (.ptr 0 0))),(3,.v (.c (.ptr 1 0)))],[Bp,Dh,Aa,Aa,AZ,Cx,Ab,Ad,Br,Ab,Ad,Ay,.row (.a .y) 33,Ac,.row (.a .y) 33,Ac]⟩
def o4_s2:Sch:=⟨[(1,.v (.c (.ptr 0 0))),(3,.v (.c (.ptr 1 0))),(5,.v (.c (.i .i64))),(27,.v (.c (.b)))],[Bp,Dh,Aa,Aa,AZ,Cx,Ab,Ad,Br,Ab,Ad,Ay,.row (.a .y) 33,Ac,.row (.a .y) 33,Ac]⟩
def o4_s3:Sch:=⟨[(1,.v (.c (.ptr 0 0))),(3,.v (.c (.ptr 1 0))),(5,.v (.c (.i .i64)))],[Bp,Dk,Aa,Aa]⟩
def o4_s4:Sch:=⟨[(1,.v (.c (.ptr 0 0))),(3,.v (.c (.ptr 1 0))),(5,.v (.c (.i .i64)))],[Bp,AU,Aa,Aa,Ak,Ab,Ad,Aq,.row (.a .y) 33,Ac]⟩
def o4_s5:Sch:=⟨[(1,.v (.c (.ptr 0 0))),(3,.v (.c (.ptr 1 0))),(5,.v (.c (.i .i64)))],[Bp,AQ,Aa,Aa,Ak,Ab,Ad,Aq,.row (.a .y) 33,Ac]⟩
def o4_s6:Sch:=⟨[(1,.v (.c (.ptr 0 0))),(3,.v (.c (.ptr 1 0))),(5,.v (.c (.i .i64)))],[Bp,Dh,Aa,Aa,AZ,Cx,Ab,Ad,Br,Ab,Ad,Ay,.row (.a .y) 33,Ac,.row (.a .y) 33,Ac]⟩
def o4_s7:Sch:=⟨[(1,.v (.c (.ptr 0 0))),(3,.v (.c (.ptr 1 0))),(5,.v (.c (.i .i64))),(27,.v (.c (.b)))],[Bp,Dk,Aa,Aa]⟩
def o4_s8:Sch:=⟨[(1,.v (.c (.ptr 0 0))),(3,.v (.c (.ptr 1 0))),(5,.v (.c (.i .i64))),(27,.v (.c (.b)))],[Bp,AU,Aa,Aa,Ak,Ab,Ad,Aq,.row (.a .y) 33,Ac]⟩
def o4_s9:Sch:=⟨[(1,.v (.c (.ptr 0 0))),(3,.v (.c (.ptr 1 0))),(5,.v (.c (.i .i64))),(27,.v (.c (.b)))],[Bp,AQ,Aa,Aa,Ak,Ab,Ad,Aq,.row (.a .y) 33,Ac]⟩
def o4_s10:Sch:=⟨[(1,.v (.c (.ptr 0 0))),(3,.v (.c (.ptr 1 0)))],[Bp,Dk,Aa,Aa]⟩
def o4_s11:Sch:=⟨[(1,.v (.c (.ptr 0 0))),(3,.v (.c (.ptr 1 0)))],[Bp,AU,Aa,Aa,Ak,Ab,Ad,Aq,.row (.a .y) 33,Ac]⟩
def o4_s12:Sch:=⟨[(1,.v (.c (.ptr 0 0))),(3,.v (.c (.ptr 1 0)))],[Bp,AQ,Aa,Aa,Ak,Ab,Ad,Aq,.row (.a .y) 33,Ac]⟩
def o4_s13:Sch:=⟨[(3,.v (.c (.ptr 0 0))),(7,.v (.c (.i .i64))),(8,.v (.c (.i .i64))),(9,.v (.c (.ptr 1 0))),(59,.v (.c (.i .i64))),(60,.v (.c (.i .i64)))],[Dk,Ag,Aa,Aa]⟩
def o4_s14:Sch:=⟨[(3,.v (.c (.ptr 0 0))),(7,.v (.c (.i .i64))),(8,.v (.c (.i .i64))),(9,.v (.c (.ptr 1 0))),(59,.v (.c (.i .i64))),(60,.v (.c (.i .i64)))],[AU,Ag,Aa,Aa,Ak,Ab,Ad,Aq,.row (.a .y) 33,Ac]⟩
def o4_s15:Sch:=⟨[(3,.v (.c (.ptr 0 0))),(7,.v (.c (.i .i64))),(8,.v (.c (.i .i64))),(9,.v (.c (.ptr 1 0))),(59,.v (.c (.i .i64))),(60,.v (.c (.i .i64)))],[AQ,Ag,Aa,Aa,Ak,Ab,Ad,Aq,.row (.a .y) 33,Ac]⟩
def o4_s16:Sch:=⟨[(3,.v (.c (.ptr 0 0))),(7,.v (.c (.i .i64))),(8,.v (.c (.i .i64))),(9,.v (.c (.ptr 1 0))),(59,.v (.c (.i .i64))),(60,.v (.c (.i .i64)))],[Dh,Ag,Aa,Aa,AZ,Cx,Ab,Ad,Br,Ab,Ad,Ay,.row (.a .y) 33,Ac,.row (.a .y) 33,Ac]⟩
def o4_s17:Sch:=⟨[(3,.v (.c (.ptr 0 0))),(7,.v (.c (.i .i64))),(59,.v (.c (.i .i64))),(60,.v (.c (.i .i64))),(93,.v (.c (.b)))],[Bd,Aa,Aa,Ak,AJ,Ab,Ad,AL,Ab,Ad,Ap,.row (.a .y) 33,Ac,.row (.a .y) 33,Ac]⟩
def o4_s18:Sch:=⟨[(3,.v (.c (.ptr 0 0))),(7,.v (.c (.i .i64))),(59,.v (.c (.i .i64))),(60,.v (.c (.i .i64)))],[Bd,Aa,Aa,Ak,AJ,Ab,Ad,AL,Ab,Ad,Ap,.row (.a .y) 33,Ac,.row (.a .y) 33,Ac]⟩
def p4:Sch:=⟨[(0,Id)],[]⟩
def r4:List Sch:=[⟨[(0,.v (.c (.b)))],[]⟩]
def o4_b0 (v9:Bg ⊕ Bh ⊕ AD ⊕ AD) :=
 (sm v9 (fun v10=>(bd (α:=Ie) (cnd (decide (v10.1.1.1.1 < ((v10.1.1.1.2.2.2.2.length:Nat):Int))) (some ((((v10.1.1.1.1,(decide (v10.1.1.1.1 < (12:Int)))),v10.1.1.1.2,v10.1.1.2.1),(v10.1.1.2.2,v10.1.2.1.1),v10.1.2.1.2,v10.1.2.2),v10.2)) (some ((((v10.1.1.1.1,false),v10.1.1.1.2,v10.1.1.2.1),(v10.1.1.2.2,v10.1.2.1.1),v10.1.2.1.2,v10.1.2.2),v10.2))) (fun v12=>(cnd v12.1.1.1.2 (gd (decide ((0:Int)≤v12.1.1.1.1∧v12.1.1.1.1 < ((v12.1.1.2.1.2.2.2.length:Nat):Int))) (bd (α:=Bh ⊕ AD ⊕ AD ⊕ Bg) (bd (α:=(Bt)) (o10 ((List.getD v12.1.1.2.1.2.2.2 v12.1.1.1.1.toNat dCy).1) (20:Int)) (fun v22=>(bd (α:=(Bt)) (o10 ((List.getD v12.1.1.2.1.2.2.2 v12.1.1.1.1.toNat dCy).2.1) (20:Int)) (fun v23=>(bd (α:=((Ah×Af)×(I3)×I3) ⊕ At ⊕ At ⊕ AG) (o9 v22 v23 ((((((List.getD v12.1.1.2.1.2.2.2 v12.1.1.1.1.toNat dCy).2.2.1.1,(List.getD v12.1.1.2.1.2.2.2 v12.1.1.1.1.toNat dCy).2.2.1.2),(List.getD v12.1.1.2.1.2.2.2 v12.1.1.1.1.toNat dCy).2.2.2.1.1,(List.getD v12.1.1.2.1.2.2.2 v12.1.1.1.1.toNat dCy).2.2.2.1.2),((List.getD v12.1.1.2.1.2.2.2 v12.1.1.1.1.toNat dCy).2.2.2.2.1.1,(List.getD v12.1.1.2.1.2.2.2 v12.1.1.1.1.toNat dCy).2.2.2.2.1.2),(List.getD v12.1.1.2.1.2.2.2 v12.1.1.1.1.toNat dCy).2.2.2.2.2.1.1,(List.getD v12.1.1.2.1.2.2.2 v12.1.1.1.1.toNat dCy).2.2.2.2.2.1.2),(((List.getD v12.1.1.2.1.2.2.2 v12.1.1.1.1.toNat dCy).2.2.2.2.2.2.1.1.1,(List.getD v12.1.1.2.1.2.2.2 v12.1.1.1.1.toNat dCy).2.2.2.2.2.2.1.1.2.1),(List.getD v12.1.1.2.1.2.2.2 v12.1.1.1.1.toNat dCy).2.2.2.2.2.2.1.1.2.2,(List.getD v12.1.1.2.1.2.2.2 v12.1.1.1.1.toNat dCy).2.2.2.2.2.2.1.2.1.1),((List.getD v12.1.1.2.1.2.2.2 v12.1.1.1.1.toNat dCy).2.2.2.2.2.2.1.2.1.2.1,(List.getD v12.1.1.2.1.2.2.2 v12.1.1.1.1.toNat dCy).2.2.2.2.2.2.1.2.1.2.2),(List.getD v12.1.1.2.1.2.2.2 v12.1.1.1.1.toNat dCy).2.2.2.2.2.2.1.2.2.1.1,(List.getD v12.1.1.2.1.2.2.2 v12.1.1.1.1.toNat dCy).2.2.2.2.2.2.1.2.2.1.2.1),((((List.getD v12.1.1.2.1.2.2.2 v12.1.1.1.1.toNat dCy).2.2.2.2.2.2.1.2.2.1.2.2,(List.getD v12.1.1.2.1.2.2.2 v12.1.1.1.1.toNat dCy).2.2.2.2.2.2.1.2.2.2.1),(List.getD v12.1.1.2.1.2.2.2 v12.1.1.1.1.toNat dCy).2.2.2.2.2.2.1.2.2.2.2.1,(List.getD v12.1.1.2.1.2.2.2 v12.1.1.1.1.toNat dCy).2.2.2.2.2.2.1.2.2.2.2.2),((List.getD v12.1.1.2.1.2.2.2 v12.1.1.1.1.toNat dCy).2.2.2.2.2.2.2.1.1,(List.getD v12.1.1.2.1.2.2.2 v12.1.1.1.1.toNat dCy).2.2.2.2.2.2.2.1.2.1),(List.getD v12.1.1.2.1.2.2.2 v12.1.1.1.1.toNat dCy).2.2.2.2.2.2.2.1.2.2,(List.getD v12.1.1.2.1.2.2.2 v12.1.1.1.1.toNat dCy).2.2.2.2.2.2.2.2.1.1),(((List.getD v12.1.1.2.1.2.2.2 v12.1.1.1.1.toNat dCy).2.2.2.2.2.2.2.2.1.2.1,(List.getD v12.1.1.2.1.2.2.2 v12.1.1.1.1.toNat dCy).2.2.2.2.2.2.2.2.1.2.2),(List.getD v12.1.1.2.1.2.2.2 v12.1.1.1.1.toNat dCy).2.2.2.2.2.2.2.2.2.1.1,(List.getD v12.1.1.2.1.2.2.2 v12.1.1.1.1.toNat dCy).2.2.2.2.2.2.2.2.2.1.2.1),((List.getD v12.1.1.2.1.2.2.2 v12.1.1.1.1.toNat dCy).2.2.2.2.2.2.2.2.2.1.2.2,(List.getD v12.1.1.2.1.2.2.2 v12.1.1.1.1.toNat dCy).2.2.2.2.2.2.2.2.2.2.1),(List.getD v12.1.1.2.1.2.2.2 v12.1.1.1.1.toNat dCy).2.2.2.2.2.2.2.2.2.2.2.1,(List.getD v12.1.1.2.1.2.2.2 v12.1.1.1.1.toNat dCy).2.2.2.2.2.2.2.2.2.2.2.2) v12.1.1.2.2 v12.1.2.1.1 v12.1.2.1.2 v12.1.2.2.1 v12.1.2.2.2.2 v12.2.1.1.1 v12.2.1.1.2 v12.2.2.1.2 v12.2.2.2.1 v12.1.2.2.2.1 v12.2.1.2.1 v12.2.1.2.2 v12.2.2.1.1 v12.2.2.2.2.1 v12.2.2.2.2.2) (fun v24=>(sm v24 (fun v25=>(some (Sum.inl ((v12.1.1.1.1,v12.1.1.2.1),v25.1.2,v25.2)))) (fun v26=>(sm v26 (fun v27=>(some (Sum.inr (Sum.inl (((v12.1.1.1.1,v12.1.1.2.1),v27.1.1.2,v27.1.2.1,v27.1.2.2.1),(v27.1.2.2.2,v27.2.1),v27.2.2))))) (fun v28=>(sm v28 (fun v29=>(some (Sum.inr (Sum.inr (Sum.inl (((v12.1.1.1.1,v12.1.1.2.1),v29.1.1.2,v29.1.2.1,v29.1.2.2.1),(v29.1.2.2.2,v29.2.1),v29.2.2)))))) (fun v30=>(some (Sum.inr (Sum.inr (Sum.inr ((((v12.1.1.1.1,v12.1.1.2.1),v30.1.1.1.2,v30.1.1.2.1),(v30.1.1.2.2,v30.1.2.1.1),v30.1.2.1.2,v30.1.2.2.1),((v30.1.2.2.2,v30.2.1.1.1),v30.2.1.1.2,v30.2.1.2.1),(v30.2.1.2.2,v30.2.2.1.1),v30.2.2.1.2,v30.2.2.2))))))))))))))))) BC)) (dnO (bd (α:=((AK×Af)×(I3)×I3) ⊕ Bx ⊕ Bx ⊕ BK) (bd (α:=((Ah×Af)×(I3)×I3) ⊕ At ⊕ At ⊕ AG) (o9 ([]:Bt) ([]:Bt) (((((false,false),true,true),(false,false),(0:Int),(0:Int)),((false,(0:Int)),(0:Int),false),((0:Int),(0:Int)),false,(0:Int)),((((0:Int),false),(0:Int),(0:Int)),(false,(0:Int)),(0:Int),false),(((0:Int),(0:Int)),false,(0:Int)),((0:Int),false),(0:Int),(0:Int)) v12.1.1.2.2 v12.1.2.1.1 v12.1.2.1.2 v12.1.2.2.1 v12.1.2.2.2.2 v12.2.1.1.1 v12.2.1.1.2 v12.2.2.1.2 v12.2.2.2.1 v12.1.2.2.2.1 v12.2.1.2.1 v12.2.1.2.2 v12.2.2.1.1 v12.2.2.2.2.1 v12.2.2.2.2.2) (fun v120=>(sm v120 (fun v121=>(some (Sum.inl ((v12.1.1.2.1,v121.1.2),v121.2)))) (fun v122=>(sm v122 (fun v123=>(some (Sum.inr (Sum.inl (((v12.1.1.2.1,v123.1.1.2),v123.1.2),v123.2))))) (fun v124=>(sm v124 (fun v125=>(some (Sum.inr (Sum.inr (Sum.inl (((v12.1.1.2.1,v125.1.1.2),v125.1.2),v125.2)))))) (fun v126=>(some (Sum.inr (Sum.inr (Sum.inr ((((v12.1.1.2.1,v126.1.1.1.2),v126.1.1.2),v126.1.2),v126.2))))))))))))) BD)))))) (fun v11=>(sm v11 (fun v38=>(bd (α:=Ig) (cnd (decide (v38.1.1 < ((v38.1.2.2.2.2.length:Nat):Int))) (some ((v38.1.1,(decide (v38.1.1 < (12:Int))),v38.1.2),v38.2)) (some ((v38.1.1,false,v38.1.2),v38.2))) (fun v40=>(cnd v40.1.2.1 (gd (decide ((0:Int)≤v40.1.1∧v40.1.1 < ((v40.1.2.2.2.2.2.length:Nat):Int))) (bd (α:=Bh ⊕ AD ⊕ AD ⊕ Bg) (bd (α:=(Bt)) (o10 ((List.getD v40.1.2.2.2.2.2 v40.1.1.toNat dCy).1) (20:Int)) (fun v50=>(bd (α:=(Bt)) (o10 ((List.getD v40.1.2.2.2.2.2 v40.1.1.toNat dCy).2.1) (20:Int)) (fun v51=>(bd (α:=((Ah×Af)×(I3)×I3) ⊕ At ⊕ At ⊕ AG) (o9v1 v50 v51 ((((((List.getD v40.1.2.2.2.2.2 v40.1.1.toNat dCy).2.2.1.1,(List.getD v40.1.2.2.2.2.2 v40.1.1.toNat dCy).2.2.1.2),(List.getD v40.1.2.2.2.2.2 v40.1.1.toNat dCy).2.2.2.1.1,(List.getD v40.1.2.2.2.2.2 v40.1.1.toNat dCy).2.2.2.1.2),((List.getD v40.1.2.2.2.2.2 v40.1.1.toNat dCy).2.2.2.2.1.1,(List.getD v40.1.2.2.2.2.2 v40.1.1.toNat dCy).2.2.2.2.1.2),(List.getD v40.1.2.2.2.2.2 v40.1.1.toNat dCy).2.2.2.2.2.1.1,(List.getD v40.1.2.2.2.2.2 v40.1.1.toNat dCy).2.2.2.2.2.1.2),(((List.getD v40.1.2.2.2.2.2 v40.1.1.toNat dCy).2.2.2.2.2.2.1.1.1,(List.getD v40.1.2.2.2.2.2 v40.1.1.toNat dCy).2.2.2.2.2.2.1.1.2.1),(List.getD v40.1.2.2.2.2.2 v40.1.1.toNat dCy).2.2.2.2.2.2.1.1.2.2,(List.getD v40.1.2.2.2.2.2 v40.1.1.toNat dCy).2.2.2.2.2.2.1.2.1.1),((List.getD v40.1.2.2.2.2.2 v40.1.1.toNat dCy).2.2.2.2.2.2.1.2.1.2.1,(List.getD v40.1.2.2.2.2.2 v40.1.1.toNat dCy).2.2.2.2.2.2.1.2.1.2.2),(List.getD v40.1.2.2.2.2.2 v40.1.1.toNat dCy).2.2.2.2.2.2.1.2.2.1.1,(List.getD v40.1.2.2.2.2.2 v40.1.1.toNat dCy).2.2.2.2.2.2.1.2.2.1.2.1),((((List.getD v40.1.2.2.2.2.2 v40.1.1.toNat dCy).2.2.2.2.2.2.1.2.2.1.2.2,(List.getD v40.1.2.2.2.2.2 v40.1.1.toNat dCy).2.2.2.2.2.2.1.2.2.2.1),(List.getD v40.1.2.2.2.2.2 v40.1.1.toNat dCy).2.2.2.2.2.2.1.2.2.2.2.1,(List.getD v40.1.2.2.2.2.2 v40.1.1.toNat dCy).2.2.2.2.2.2.1.2.2.2.2.2),((List.getD v40.1.2.2.2.2.2 v40.1.1.toNat dCy).2.2.2.2.2.2.2.1.1,(List.getD v40.1.2.2.2.2.2 v40.1.1.toNat dCy).2.2.2.2.2.2.2.1.2.1),(List.getD v40.1.2.2.2.2.2 v40.1.1.toNat dCy).2.2.2.2.2.2.2.1.2.2,(List.getD v40.1.2.2.2.2.2 v40.1.1.toNat dCy).2.2.2.2.2.2.2.2.1.1),(((List.getD v40.1.2.2.2.2.2 v40.1.1.toNat dCy).2.2.2.2.2.2.2.2.1.2.1,(List.getD v40.1.2.2.2.2.2 v40.1.1.toNat dCy).2.2.2.2.2.2.2.2.1.2.2),(List.getD v40.1.2.2.2.2.2 v40.1.1.toNat dCy).2.2.2.2.2.2.2.2.2.1.1,(List.getD v40.1.2.2.2.2.2 v40.1.1.toNat dCy).2.2.2.2.2.2.2.2.2.1.2.1),((List.getD v40.1.2.2.2.2.2 v40.1.1.toNat dCy).2.2.2.2.2.2.2.2.2.1.2.2,(List.getD v40.1.2.2.2.2.2 v40.1.1.toNat dCy).2.2.2.2.2.2.2.2.2.2.1),(List.getD v40.1.2.2.2.2.2 v40.1.1.toNat dCy).2.2.2.2.2.2.2.2.2.2.2.1,(List.getD v40.1.2.2.2.2.2 v40.1.1.toNat dCy).2.2.2.2.2.2.2.2.2.2.2.2) v40.2.1 v40.2.2.1 v40.2.2.2) (fun v52=>(sm v52 (fun v53=>(some (Sum.inl ((v40.1.1,v40.1.2.2),v53.1.2,v53.2)))) (fun v54=>(sm v54 (fun v55=>(some (Sum.inr (Sum.inl (((v40.1.1,v40.1.2.2),v55.1.1.2,v55.1.2.1,v55.1.2.2.1),(v55.1.2.2.2,v55.2.1),v55.2.2))))) (fun v56=>(sm v56 (fun v57=>(some (Sum.inr (Sum.inr (Sum.inl (((v40.1.1,v40.1.2.2),v57.1.1.2,v57.1.2.1,v57.1.2.2.1),(v57.1.2.2.2,v57.2.1),v57.2.2)))))) (fun v58=>(some (Sum.inr (Sum.inr (Sum.inr ((((v40.1.1,v40.1.2.2),v58.1.1.1.2,v58.1.1.2.1),(v58.1.1.2.2,v58.1.2.1.1),v58.1.2.1.2,v58.1.2.2.1),((v58.1.2.2.2,v58.2.1.1.1),v58.2.1.1.2,v58.2.1.2.1),(v58.2.1.2.2,v58.2.2.1.1),v58.2.2.1.2,v58.2.2.2))))))))))))))))) BC)) (dnO (bd (α:=((AK×Af)×(I3)×I3) ⊕ Bx ⊕ Bx ⊕ BK) (bd (α:=((Ah×Af)×(I3)×I3) ⊕ At ⊕ At ⊕ AG) (o9v1 ([]:Bt) ([]:Bt) (((((false,false),true,true),(false,false),(0:Int),(0:Int)),((false,(0:Int)),(0:Int),false),((0:Int),(0:Int)),false,(0:Int)),((((0:Int),false),(0:Int),(0:Int)),(false,(0:Int)),(0:Int),false),(((0:Int),(0:Int)),false,(0:Int)),((0:Int),false),(0:Int),(0:Int)) v40.2.1 v40.2.2.1 v40.2.2.2) (fun v151=>(sm v151 (fun v152=>(some (Sum.inl ((v40.1.2.2,v152.1.2),v152.2)))) (fun v153=>(sm v153 (fun v154=>(some (Sum.inr (Sum.inl (((v40.1.2.2,v154.1.1.2),v154.1.2),v154.2))))) (fun v155=>(sm v155 (fun v156=>(some (Sum.inr (Sum.inr (Sum.inl (((v40.1.2.2,v156.1.1.2),v156.1.2),v156.2)))))) (fun v157=>(some (Sum.inr (Sum.inr (Sum.inr ((((v40.1.2.2,v157.1.1.1.2),v157.1.1.2),v157.1.2),v157.2))))))))))))) BD)))))) (fun v39=>(sm v39 (fun v66=>(bd (α:=Dm) (cnd (decide (v66.1.1.1 < ((v66.1.1.2.2.2.2.length:Nat):Int))) (some (((v66.1.1.1,(decide (v66.1.1.1 < (12:Int))),v66.1.1.2),v66.1.2),v66.2)) (some (((v66.1.1.1,false,v66.1.1.2),v66.1.2),v66.2))) (fun v68=>(cnd v68.1.1.2.1 (gd (decide ((0:Int)≤v68.1.1.1∧v68.1.1.1 < ((v68.1.1.2.2.2.2.2.length:Nat):Int))) (bd (α:=Bh ⊕ AD ⊕ AD ⊕ Bg) (bd (α:=(Bt)) (o10 ((List.getD v68.1.1.2.2.2.2.2 v68.1.1.1.toNat dCy).1) (20:Int)) (fun v78=>(bd (α:=(Bt)) (o10 ((List.getD v68.1.1.2.2.2.2.2 v68.1.1.1.toNat dCy).2.1) (20:Int)) (fun v79=>(bd (α:=((Ah×Af)×(I3)×I3) ⊕ At ⊕ At ⊕ AG) (o9v2 v78 v79 ((((((List.getD v68.1.1.2.2.2.2.2 v68.1.1.1.toNat dCy).2.2.1.1,(List.getD v68.1.1.2.2.2.2.2 v68.1.1.1.toNat dCy).2.2.1.2),(List.getD v68.1.1.2.2.2.2.2 v68.1.1.1.toNat dCy).2.2.2.1.1,(List.getD v68.1.1.2.2.2.2.2 v68.1.1.1.toNat dCy).2.2.2.1.2),((List.getD v68.1.1.2.2.2.2.2 v68.1.1.1.toNat dCy).2.2.2.2.1.1,(List.getD v68.1.1.2.2.2.2.2 v68.1.1.1.toNat dCy).2.2.2.2.1.2),(List.getD v68.1.1.2.2.2.2.2 v68.1.1.1.toNat dCy).2.2.2.2.2.1.1,(List.getD v68.1.1.2.2.2.2.2 v68.1.1.1.toNat dCy).2.2.2.2.2.1.2),(((List.getD v68.1.1.2.2.2.2.2 v68.1.1.1.toNat dCy).2.2.2.2.2.2.1.1.1,(List.getD v68.1.1.2.2.2.2.2 v68.1.1.1.toNat dCy).2.2.2.2.2.2.1.1.2.1),(List.getD v68.1.1.2.2.2.2.2 v68.1.1.1.toNat dCy).2.2.2.2.2.2.1.1.2.2,(List.getD v68.1.1.2.2.2.2.2 v68.1.1.1.toNat dCy).2.2.2.2.2.2.1.2.1.1),((List.getD v68.1.1.2.2.2.2.2 v68.1.1.1.toNat dCy).2.2.2.2.2.2.1.2.1.2.1,(List.getD v68.1.1.2.2.2.2.2 v68.1.1.1.toNat dCy).2.2.2.2.2.2.1.2.1.2.2),(List.getD v68.1.1.2.2.2.2.2 v68.1.1.1.toNat dCy).2.2.2.2.2.2.1.2.2.1.1,(List.getD v68.1.1.2.2.2.2.2 v68.1.1.1.toNat dCy).2.2.2.2.2.2.1.2.2.1.2.1),((((List.getD v68.1.1.2.2.2.2.2 v68.1.1.1.toNat dCy).2.2.2.2.2.2.1.2.2.1.2.2,(List.getD v68.1.1.2.2.2.2.2 v68.1.1.1.toNat dCy).2.2.2.2.2.2.1.2.2.2.1),(List.getD v68.1.1.2.2.2.2.2 v68.1.1.1.toNat dCy).2.2.2.2.2.2.1.2.2.2.2.1,(List.getD v68.1.1.2.2.2.2.2 v68.1.1.1.toNat dCy).2.2.2.2.2.2.1.2.2.2.2.2),((List.getD v68.1.1.2.2.2.2.2 v68.1.1.1.toNat dCy).2.2.2.2.2.2.2.1.1,(List.getD v68.1.1.2.2.2.2.2 v68.1.1.1.toNat dCy).2.2.2.2.2.2.2.1.2.1),(List.getD v68.1.1.2.2.2.2.2 v68.1.1.1.toNat dCy).2.2.2.2.2.2.2.1.2.2,(List.getD v68.1.1.2.2.2.2.2 v68.1.1.1.toNat dCy).2.2.2.2.2.2.2.2.1.1),(((List.getD v68.1.1.2.2.2.2.2 v68.1.1.1.toNat dCy).2.2.2.2.2.2.2.2.1.2.1,(List.getD v68.1.1.2.2.2.2.2 v68.1.1.1.toNat dCy).2.2.2.2.2.2.2.2.1.2.2),(List.getD v68.1.1.2.2.2.2.2 v68.1.1.1.toNat dCy).2.2.2.2.2.2.2.2.2.1.1,(List.getD v68.1.1.2.2.2.2.2 v68.1.1.1.toNat dCy).2.2.2.2.2.2.2.2.2.1.2.1),((List.getD v68.1.1.2.2.2.2.2 v68.1.1.1.toNat dCy).2.2.2.2.2.2.2.2.2.1.2.2,(List.getD v68.1.1.2.2.2.2.2 v68.1.1.1.toNat dCy).2.2.2.2.2.2.2.2.2.2.1),(List.getD v68.1.1.2.2.2.2.2 v68.1.1.1.toNat dCy).2.2.2.2.2.2.2.2.2.2.2.1,(List.getD v68.1.1.2.2.2.2.2 v68.1.1.1.toNat dCy).2.2.2.2.2.2.2.2.2.2.2.2) v68.1.2.1 v68.1.2.2.1 v68.1.2.2.2 v68.2.1.1 v68.2.1.2.1 v68.2.1.2.2 v68.2.2.1 v68.2.2.2.1 v68.2.2.2.2) (FT v68)))))) BE)) (dnO (bd (α:=((AK×Af)×(I3)×I3) ⊕ Bx ⊕ Bx ⊕ BK) (bd (α:=((Ah×Af)×(I3)×I3) ⊕ At ⊕ At ⊕ AG) (o9v2 ([]:Bt) ([]:Bt) (((((false,false),true,true),(false,false),(0:Int),(0:Int)),((false,(0:Int)),(0:Int),false),((0:Int),(0:Int)),false,(0:Int)),((((0:Int),false),(0:Int),(0:Int)),(false,(0:Int)),(0:Int),false),(((0:Int),(0:Int)),false,(0:Int)),((0:Int),false),(0:Int),(0:Int)) v68.1.2.1 v68.1.2.2.1 v68.1.2.2.2 v68.2.1.1 v68.2.1.2.1 v68.2.1.2.2 v68.2.2.1 v68.2.2.2.1 v68.2.2.2.2) (FU v68)) BD)))))) (fun v67=>(bd (α:=Dm) (cnd (decide (v67.1.1.1 < ((v67.1.1.2.2.2.2.length:Nat):Int))) (some (((v67.1.1.1,(decide (v67.1.1.1 < (12:Int))),v67.1.1.2),v67.1.2),v67.2)) (some (((v67.1.1.1,false,v67.1.1.2),v67.1.2),v67.2))) (fun v94=>(cnd v94.1.1.2.1 (gd (decide ((0:Int)≤v94.1.1.1∧v94.1.1.1 < ((v94.1.1.2.2.2.2.2.length:Nat):Int))) (bd (α:=Bh ⊕ AD ⊕ AD ⊕ Bg) (bd (α:=(Bt)) (o10 ((List.getD v94.1.1.2.2.2.2.2 v94.1.1.1.toNat dCy).1) (20:Int)) (fun v104=>(bd (α:=(Bt)) (o10 ((List.getD v94.1.1.2.2.2.2.2 v94.1.1.1.toNat dCy).2.1) (20:Int)) (fun v105=>(bd (α:=((Ah×Af)×(I3)×I3) ⊕ At ⊕ At ⊕ AG) (o9v3 v104 v105 ((((((List.getD v94.1.1.2.2.2.2.2 v94.1.1.1.toNat dCy).2.2.1.1,(List.getD v94.1.1.2.2.2.2.2 v94.1.1.1.toNat dCy).2.2.1.2),(List.getD v94.1.1.2.2.2.2.2 v94.1.1.1.toNat dCy).2.2.2.1.1,(List.getD v94.1.1.2.2.2.2.2 v94.1.1.1.toNat dCy).2.2.2.1.2),((List.getD v94.1.1.2.2.2.2.2 v94.1.1.1.toNat dCy).2.2.2.2.1.1,(List.getD v94.1.1.2.2.2.2.2 v94.1.1.1.toNat dCy).2.2.2.2.1.2),(List.getD v94.1.1.2.2.2.2.2 v94.1.1.1.toNat dCy).2.2.2.2.2.1.1,(List.getD v94.1.1.2.2.2.2.2 v94.1.1.1.toNat dCy).2.2.2.2.2.1.2),(((List.getD v94.1.1.2.2.2.2.2 v94.1.1.1.toNat dCy).2.2.2.2.2.2.1.1.1,(List.getD v94.1.1.2.2.2.2.2 v94.1.1.1.toNat dCy).2.2.2.2.2.2.1.1.2.1),(List.getD v94.1.1.2.2.2.2.2 v94.1.1.1.toNat dCy).2.2.2.2.2.2.1.1.2.2,(List.getD v94.1.1.2.2.2.2.2 v94.1.1.1.toNat dCy).2.2.2.2.2.2.1.2.1.1),((List.getD v94.1.1.2.2.2.2.2 v94.1.1.1.toNat dCy).2.2.2.2.2.2.1.2.1.2.1,(List.getD v94.1.1.2.2.2.2.2 v94.1.1.1.toNat dCy).2.2.2.2.2.2.1.2.1.2.2),(List.getD v94.1.1.2.2.2.2.2 v94.1.1.1.toNat dCy).2.2.2.2.2.2.1.2.2.1.1,(List.getD v94.1.1.2.2.2.2.2 v94.1.1.1.toNat dCy).2.2.2.2.2.2.1.2.2.1.2.1),((((List.getD v94.1.1.2.2.2.2.2 v94.1.1.1.toNat dCy).2.2.2.2.2.2.1.2.2.1.2.2,(List.getD v94.1.1.2.2.2.2.2 v94.1.1.1.toNat dCy).2.2.2.2.2.2.1.2.2.2.1),(List.getD v94.1.1.2.2.2.2.2 v94.1.1.1.toNat dCy).2.2.2.2.2.2.1.2.2.2.2.1,(List.getD v94.1.1.2.2.2.2.2 v94.1.1.1.toNat dCy).2.2.2.2.2.2.1.2.2.2.2.2),((List.getD v94.1.1.2.2.2.2.2 v94.1.1.1.toNat dCy).2.2.2.2.2.2.2.1.1,(List.getD v94.1.1.2.2.2.2.2 v94.1.1.1.toNat dCy).2.2.2.2.2.2.2.1.2.1),(List.getD v94.1.1.2.2.2.2.2 v94.1.1.1.toNat dCy).2.2.2.2.2.2.2.1.2.2,(List.getD v94.1.1.2.2.2.2.2 v94.1.1.1.toNat dCy).2.2.2.2.2.2.2.2.1.1),(((List.getD v94.1.1.2.2.2.2.2 v94.1.1.1.toNat dCy).2.2.2.2.2.2.2.2.1.2.1,(List.getD v94.1.1.2.2.2.2.2 v94.1.1.1.toNat dCy).2.2.2.2.2.2.2.2.1.2.2),(List.getD v94.1.1.2.2.2.2.2 v94.1.1.1.toNat dCy).2.2.2.2.2.2.2.2.2.1.1,(List.getD v94.1.1.2.2.2.2.2 v94.1.1.1.toNat dCy).2.2.2.2.2.2.2.2.2.1.2.1),((List.getD v94.1.1.2.2.2.2.2 v94.1.1.1.toNat dCy).2.2.2.2.2.2.2.2.2.1.2.2,(List.getD v94.1.1.2.2.2.2.2 v94.1.1.1.toNat dCy).2.2.2.2.2.2.2.2.2.2.1),(List.getD v94.1.1.2.2.2.2.2 v94.1.1.1.toNat dCy).2.2.2.2.2.2.2.2.2.2.2.1,(List.getD v94.1.1.2.2.2.2.2 v94.1.1.1.toNat dCy).2.2.2.2.2.2.2.2.2.2.2.2) v94.1.2.1 v94.1.2.2.1 v94.1.2.2.2 v94.2.1.1 v94.2.1.2.1 v94.2.1.2.2 v94.2.2.1 v94.2.2.2.1 v94.2.2.2.2) (FT v94)))))) BE)) (dnO (bd (α:=((AK×Af)×(I3)×I3) ⊕ Bx ⊕ Bx ⊕ BK) (bd (α:=((Ah×Af)×(I3)×I3) ⊕ At ⊕ At ⊕ AG) (o9v3 ([]:Bt) ([]:Bt) (((((false,false),true,true),(false,false),(0:Int),(0:Int)),((false,(0:Int)),(0:Int),false),((0:Int),(0:Int)),false,(0:Int)),((((0:Int),false),(0:Int),(0:Int)),(false,(0:Int)),(0:Int),false),(((0:Int),(0:Int)),false,(0:Int)),((0:Int),false),(0:Int),(0:Int)) v94.1.2.1 v94.1.2.2.1 v94.1.2.2.2 v94.2.1.1 v94.2.1.2.1 v94.2.1.2.2 v94.2.2.1 v94.2.2.2.1 v94.2.2.2.2) (FU v94)) BD)))))))))))
def o4 (a0:AK):Option Bool :=
 (bd (α:=Bool) o7 (fun v1=>(cnd (!v1) (some false) (bd (α:=AK ⊕ BK) (bd (α:=((I2)×I2) ⊕ CA) (o8 a0) (fun v2=>(sm v2 (fun v3=>(some (Sum.inl a0))) (fun v4=>(some (Sum.inr ((((a0,v4.1.1.1.2),v4.1.1.2),v4.1.2),v4.2))))))) (fun v5=>(sm v5 (fun v6=>(some false)) (fun v7=>(loopO (σ:=Bg ⊕ Bh ⊕ AD ⊕ AD) fuelN o4_b0 (Sum.inl (((((0:Int),v7.1.1.1.1),v7.1.1.1.2,v7.1.1.2.1),(v7.1.1.2.2,v7.1.2.1.1),v7.1.2.1.2,v7.1.2.2.1),((v7.1.2.2.2,v7.2.1.1.1),v7.2.1.1.2,v7.2.1.2.1),(v7.2.1.2.2,v7.2.2.1.1),v7.2.2.1.2,v7.2.2.2))))))))))
def h4:HC:=(.s .d (.s .d (.s (.j false [o4_s0,o4_s1] .d) (.on ⟨[(3,.v (.c (.cst (.pointer none))))],[]⟩ .d (.s .d (.s (.s .d (.b (.l [o4_s6,o4_s3,o4_s4,o4_s5] (.on ⟨[(3,.v (.c (.ptr 0 0)))],[Bd,Aa,Aa,Ak,AJ,Ab,Ad,AL,Ab,Ad,Ap,.row (.a .y) 33,Ac,.row (.a .y) 33,Ac]⟩ (.s (.s (.j false [o4_s2] .d) .d) (.s (.b (.s .d (.j false [o4_s3,o4_s4,o4_s5,o4_s6] (.r 12)))) .d)) (.on ⟨[(3,.v (.c (.ptr 0 0)))],[Ar,Aa,Aa]⟩ (.s (.s (.j false [o4_s7] .d) .d) (.s (.b (.s .d (.j false [o4_s3,o4_s4,o4_s5,o4_s6] (.r 12)))) .d)) (.on ⟨[(3,.v (.c (.ptr 0 0)))],[Ax,Aa,Aa,Ai,Ab,Ad,Al,.row (.a .y) 33,Ac]⟩ (.s (.s (.j false [o4_s8] .d) .d) (.s (.b (.s .d (.j false [o4_s3,o4_s5,o4_s4,o4_s6] (.r 12)))) .d)) (.s (.s (.j false [o4_s9] .d) .d) (.s (.b (.s .d (.j false [o4_s3,o4_s5,o4_s4,o4_s6] (.r 12)))) .d)))))))) (.on ⟨[(3,.v (.c (.ptr 0 0)))],[Bd,Aa,Aa,Ak,AJ,Ab,Ad,AL,Ab,Ad,Ap,.row (.a .y) 33,Ac,.row (.a .y) 33,Ac]⟩ (.s (.j false [o4_s10,o4_s11,o4_s12,o4_s1] .d) (.on ⟨[(3,.v (.c (.ptr 0 0)))],[Ar,Aa,Aa]⟩ .cut (.on ⟨[(3,.v (.c (.ptr 0 0)))],[Bd,Aa,Aa,Ak,AJ,Ab,Ad,AL,Ab,Ad,Ap,.row (.a .y) 33,Ac,.row (.a .y) 33,Ac]⟩ (.s .d (.s (.s .d (.b (.l [o4_s18] (.s .d (.s .d (.s (.b (.s .d (.s (.j false [o4_s13,o4_s14,o4_s15,o4_s16] .d) (.on ⟨[(3,.v (.c (.ptr 0 0)))],[Ar,Aa,Aa]⟩ .cut (.on ⟨[(3,.v (.c (.ptr 0 0)))],[Bd,Aa,Aa,Ak,AJ,Ab,Ad,AL,Ab,Ad,Ap,.row (.a .y) 33,Ac,.row (.a .y) 33,Ac]⟩ (.s (.j false [o4_s17] .d) .d) .cut))))) .d)))))) .d)) .cut))) (.on ⟨[(3,.v (.c (.ptr 0 0)))],[Ax,Aa,Aa,Ai,Ab,Ad,Al,.row (.a .y) 33,Ac]⟩ (.s (.j false [o4_s10,o4_s12,o4_s11,o4_s1] .d) (.on ⟨[(3,.v (.c (.ptr 0 0)))],[Ar,Aa,Aa]⟩ .cut (.on ⟨[(3,.v (.c (.ptr 0 0)))],[Bd,Aa,Aa,Ak,AJ,Ab,Ad,AL,Ab,Ad,Ap,.row (.a .y) 33,Ac,.row (.a .y) 33,Ac]⟩ (.s .d (.s (.s .d (.b (.l [o4_s18] (.s .d (.s .d (.s (.b (.s .d (.s (.j false [o4_s13,o4_s14,o4_s15,o4_s16] .d) (.on ⟨[(3,.v (.c (.ptr 0 0)))],[Ar,Aa,Aa]⟩ .cut (.on ⟨[(3,.v (.c (.ptr 0 0)))],[Bd,Aa,Aa,Ak,AJ,Ab,Ad,AL,Ab,Ad,Ap,.row (.a .y) 33,Ac,.row (.a .y) 33,Ac]⟩ (.s (.j false [o4_s17] .d) .d) .cut))))) .d)))))) .d)) .cut))) (.on ⟨[(3,.v (.c (.ptr 0 0)))],[Ar,Aa,Aa]⟩ (.s (.j false [o4_s10,o4_s11,o4_s12,o4_s1] .d) (.on ⟨[(3,.v (.c (.ptr 0 0)))],[Ar,Aa,Aa]⟩ .cut (.on ⟨[(3,.v (.c (.ptr 0 0)))],[Bd,Aa,Aa,Ak,AJ,Ab,Ad,AL,Ab,Ad,Ap,.row (.a .y) 33,Ac,.row (.a .y) 33,Ac]⟩ (.s .d (.s (.s .d (.b (.l [o4_s18] (.s .d (.s .d (.s (.b (.s .d (.s (.j false [o4_s13,o4_s14,o4_s15,o4_s16] .d) (.on ⟨[(3,.v (.c (.ptr 0 0)))],[Ar,Aa,Aa]⟩ .cut (.on ⟨[(3,.v (.c (.ptr 0 0)))],[Bd,Aa,Aa,Ak,AJ,Ab,Ad,AL,Ab,Ad,Ap,.row (.a .y) 33,Ac,.row (.a .y) 33,Ac]⟩ (.s (.j false [o4_s17] .d) .d) .cut))))) .d)))))) .d)) .cut))) (.s (.j false [o4_s10,o4_s12,o4_s11,o4_s1] .d) (.on ⟨[(3,.v (.c (.ptr 0 0)))],[Ar,Aa,Aa]⟩ .cut (.on ⟨[(3,.v (.c (.ptr 0 0)))],[Bd,Aa,Aa,Ak,AJ,Ab,Ad,AL,Ab,Ad,Ap,.row (.a .y) 33,Ac,.row (.a .y) 33,Ac]⟩ (.s .d (.s (.s .d (.b (.l [o4_s18] (.s .d (.s .d (.s (.b (.s .d (.s (.j false [o4_s13,o4_s14,o4_s15,o4_s16] .d) (.on ⟨[(3,.v (.c (.ptr 0 0)))],[Ar,Aa,Aa]⟩ .cut (.on ⟨[(3,.v (.c (.ptr 0 0)))],[Bd,Aa,Aa,Ak,AJ,Ab,Ad,AL,Ab,Ad,Ap,.row (.a .y) 33,Ac,.row (.a .y) 33,Ac]⟩ (.s (.j false [o4_s17] .d) .d) .cut))))) .d)))))) .d)) .cut))))))))))))
end
def evR:Ev:=⟨false,false,true,true,false,false,0,0,ftZ,ftZ,ftZ,ftZ,ftZ,ftZ,ftZ,ftZ⟩
def evQ:Ev:=⟨false,false,false,false,false,false,0,0,ftZ,ftZ,ftZ,ftZ,ftZ,ftZ,ftZ,ftZ⟩
def encRt (a b:Bool) (i:Int) (wo:WoT) (w:W):Bg ⊕ Bh ⊕ AD ⊕ AD :=
 cond a (cond b (Sum.inl ((((i,wo),w.p.e,w.m1.e),(w.m2.e,w.c1.h),w.c2.h,w.c1.nd.e),((w.c1.ps,w.c1.cz),w.c2.nd.e,w.c2.ps),(w.c2.cz,w.c1.co.ps),w.c1.co.ss,w.c2.co.ps,w.c2.co.ss)) (Sum.inr (Sum.inr (Sum.inr (((i,wo),w.p.e,w.m1.e,w.m2.e),(w.c1.h,w.c1.nd.e,w.c1.ps),w.c1.cz,w.c1.co.ps,w.c1.co.ss))))) (cond b (Sum.inr (Sum.inr (Sum.inl (((i,wo),w.p.e,w.m1.e,w.m2.e),(w.c2.h,w.c2.nd.e,w.c2.ps),w.c2.cz,w.c2.co.ps,w.c2.co.ss)))) (Sum.inr (Sum.inl ((i,wo),w.p.e,w.m1.e,w.m2.e))))
theorem tRt_d435ef_11 {wo:WoT} {k:Nat} (h20:((k:Nat):Int) < 12) {q:W} :BC (Sum.inr (Sum.inr (Sum.inr ((((((k:Nat):Int),wo),q.p.e,q.m1.e),(q.m2.e,q.c1.h),q.c2.h,q.c1.nd.e),((q.c1.ps,q.c1.cz),q.c2.nd.e,q.c2.ps),(q.c2.cz,q.c1.co.ps),q.c1.co.ss,q.c2.co.ps,q.c2.co.ss))))=some (Ctl.go (encRt true true ((k+1:Nat):Int) wo q)):=by
 unfold BC
 refine (smR _ _ _).trans ((smR _ _ _).trans ((smR _ _ _).trans (?_)))
 exact go_i (z:=IntKind.i64.wrap (((k:Nat):Int)+1)) (z':=((k+1:Nat):Int)) (by rw [wr64 (by omega)];rfl) (fun i:Int=>(Sum.inl ((((i,wo),q.p.e,q.m1.e),(q.m2.e,q.c1.h),q.c2.h,q.c1.nd.e),((q.c1.ps,q.c1.cz),q.c2.nd.e,q.c2.ps),(q.c2.cz,q.c1.co.ps),q.c1.co.ss,q.c2.co.ps,q.c2.co.ss)))
theorem tRt_d435ef_10 {wo:WoT} {k:Nat} (h20:((k:Nat):Int) < 12) {q:W} :BC (Sum.inr (Sum.inr (Sum.inl (((((k:Nat):Int),wo),q.p.e,q.m1.e,q.m2.e),(q.c1.h,q.c1.nd.e,q.c1.ps),q.c1.cz,q.c1.co.ps,q.c1.co.ss))))=some (Ctl.go (encRt true false ((k+1:Nat):Int) wo q)):=by
 unfold BC
 refine (smR _ _ _).trans ((smR _ _ _).trans ((smL _ _ _).trans (?_)))
 exact go_i (z:=IntKind.i64.wrap (((k:Nat):Int)+1)) (z':=((k+1:Nat):Int)) (by rw [wr64 (by omega)];rfl) (fun i:Int=>(Sum.inr (Sum.inr (Sum.inr (((i,wo),q.p.e,q.m1.e,q.m2.e),(q.c1.h,q.c1.nd.e,q.c1.ps),q.c1.cz,q.c1.co.ps,q.c1.co.ss)))))
theorem tRt_d435ef_01 {wo:WoT} {k:Nat} (h20:((k:Nat):Int) < 12) {q:W} :BC (Sum.inr (Sum.inl (((((k:Nat):Int),wo),q.p.e,q.m1.e,q.m2.e),(q.c2.h,q.c2.nd.e,q.c2.ps),q.c2.cz,q.c2.co.ps,q.c2.co.ss)))=some (Ctl.go (encRt false true ((k+1:Nat):Int) wo q)):=by
 unfold BC
 refine (smR _ _ _).trans ((smL _ _ _).trans (?_))
 exact go_i (z:=IntKind.i64.wrap (((k:Nat):Int)+1)) (z':=((k+1:Nat):Int)) (by rw [wr64 (by omega)];rfl) (fun i:Int=>(Sum.inr (Sum.inr (Sum.inl (((i,wo),q.p.e,q.m1.e,q.m2.e),(q.c2.h,q.c2.nd.e,q.c2.ps),q.c2.cz,q.c2.co.ps,q.c2.co.ss)))))
theorem tRt_d435ef_00 {wo:WoT} {k:Nat} (h20:((k:Nat):Int) < 12) {q:W} :BC (Sum.inl ((((k:Nat):Int),wo),q.p.e,q.m1.e,q.m2.e))=some (Ctl.go (encRt false false ((k+1:Nat):Int) wo q)):=by
 unfold BC
 refine (smL _ _ _).trans (?_)
 exact go_i (z:=IntKind.i64.wrap (((k:Nat):Int)+1)) (z':=((k+1:Nat):Int)) (by rw [wr64 (by omega)];rfl) (fun i:Int=>(Sum.inr (Sum.inl ((i,wo),q.p.e,q.m1.e,q.m2.e))))
theorem tRt_f4fdde_11 {wo:WoT} {k:Nat} (h20:((k:Nat):Int) < 12) {q:W} :BE (Sum.inr (Sum.inr (Sum.inr ((((((k:Nat):Int),wo),q.p.e,q.m1.e),(q.m2.e,q.c1.h),q.c2.h,q.c1.nd.e),((q.c1.ps,q.c1.cz),q.c2.nd.e,q.c2.ps),(q.c2.cz,q.c1.co.ps),q.c1.co.ss,q.c2.co.ps,q.c2.co.ss))))=some (Ctl.go (encRt true true ((k+1:Nat):Int) wo q)):=by
 unfold BE
 refine (smR _ _ _).trans ((smR _ _ _).trans ((smR _ _ _).trans (?_)))
 exact go_i (z:=IntKind.i64.wrap (((k:Nat):Int)+1)) (z':=((k+1:Nat):Int)) (by rw [wr64 (by omega)];rfl) (fun i:Int=>(Sum.inl ((((i,wo),q.p.e,q.m1.e),(q.m2.e,q.c1.h),q.c2.h,q.c1.nd.e),((q.c1.ps,q.c1.cz),q.c2.nd.e,q.c2.ps),(q.c2.cz,q.c1.co.ps),q.c1.co.ss,q.c2.co.ps,q.c2.co.ss)))
theorem tRt_f4fdde_10 {wo:WoT} {k:Nat} (h20:((k:Nat):Int) < 12) {q:W} :BE (Sum.inr (Sum.inl (((((k:Nat):Int),wo),q.p.e,q.m1.e,q.m2.e),(q.c1.h,q.c1.nd.e,q.c1.ps),q.c1.cz,q.c1.co.ps,q.c1.co.ss)))=some (Ctl.go (encRt true false ((k+1:Nat):Int) wo q)):=by
 unfold BE
 refine (smR _ _ _).trans ((smL _ _ _).trans (?_))
 exact go_i (z:=IntKind.i64.wrap (((k:Nat):Int)+1)) (z':=((k+1:Nat):Int)) (by rw [wr64 (by omega)];rfl) (fun i:Int=>(Sum.inr (Sum.inr (Sum.inr (((i,wo),q.p.e,q.m1.e,q.m2.e),(q.c1.h,q.c1.nd.e,q.c1.ps),q.c1.cz,q.c1.co.ps,q.c1.co.ss)))))
theorem tRt_f4fdde_01 {wo:WoT} {k:Nat} (h20:((k:Nat):Int) < 12) {q:W} :BE (Sum.inr (Sum.inr (Sum.inl (((((k:Nat):Int),wo),q.p.e,q.m1.e,q.m2.e),(q.c2.h,q.c2.nd.e,q.c2.ps),q.c2.cz,q.c2.co.ps,q.c2.co.ss))))=some (Ctl.go (encRt false true ((k+1:Nat):Int) wo q)):=by
 unfold BE
 refine (smR _ _ _).trans ((smR _ _ _).trans ((smL _ _ _).trans (?_)))
 exact go_i (z:=IntKind.i64.wrap (((k:Nat):Int)+1)) (z':=((k+1:Nat):Int)) (by rw [wr64 (by omega)];rfl) (fun i:Int=>(Sum.inr (Sum.inr (Sum.inl (((i,wo),q.p.e,q.m1.e,q.m2.e),(q.c2.h,q.c2.nd.e,q.c2.ps),q.c2.cz,q.c2.co.ps,q.c2.co.ss)))))
theorem tRt_f4fdde_00 {wo:WoT} {k:Nat} (h20:((k:Nat):Int) < 12) {q:W} :BE (Sum.inl ((((k:Nat):Int),wo),q.p.e,q.m1.e,q.m2.e))=some (Ctl.go (encRt false false ((k+1:Nat):Int) wo q)):=by
 unfold BE
 refine (smL _ _ _).trans (?_)
 exact go_i (z:=IntKind.i64.wrap (((k:Nat):Int)+1)) (z':=((k+1:Nat):Int)) (by rw [wr64 (by omega)];rfl) (fun i:Int=>(Sum.inr (Sum.inl ((i,wo),q.p.e,q.m1.e,q.m2.e))))
theorem bRt_11 {wo:WoT} {k:Nat} (hk:((k:Nat):Int) < ((wo.2.2.2.length:Nat):Int)) (h20:((k:Nat):Int) < 12) {w q:W} (h:w.ok true true) (hq:cycW true true w.p w.m1 w.m2 w.c1 w.c2 (evOf (wo.2.2.2.getD k noCy)) ((wo.2.2.2.getD k noCy).1.take 20) ((wo.2.2.2.getD k noCy).2.1.take 20)=q) :
  o4_b0 (Sum.inl ((((((k:Nat):Int),wo),w.p.e,w.m1.e),(w.m2.e,w.c1.h),w.c2.h,w.c1.nd.e),((w.c1.ps,w.c1.cz),w.c2.nd.e,w.c2.ps),(w.c2.cz,w.c1.co.ps),w.c1.co.ss,w.c2.co.ps,w.c2.co.ss))=some (Ctl.go (encRt (evA true (evOf (wo.2.2.2.getD k noCy)).s1 (evOf (wo.2.2.2.getD k noCy)).r1) (evA true (evOf (wo.2.2.2.getD k noCy)).s2 (evOf (wo.2.2.2.getD k noCy)).r2) ((k+1:Nat):Int) wo q)):=by
 unfold o4_b0
 refine (smL _ _ _).trans (?_)
 refine (bdS (t:=((((((k:Nat):Int),decide (((k:Nat):Int) < 12)),wo,w.p.e),(w.m1.e,w.m2.e),w.c1.h,w.c2.h,w.c1.nd.e),((w.c1.ps,w.c1.cz),w.c2.nd.e,w.c2.ps),(w.c2.cz,w.c1.co.ps),w.c1.co.ss,w.c2.co.ps,w.c2.co.ss)) ?_).trans ?_
 ·exact (cndT (dt hk)).trans rfl
 refine (cndT (dt h20)).trans ((gdT (dt ⟨Int.natCast_nonneg k,hk⟩)).trans ?_)
 refine (bdS (t:=cond (evA true (evOf (wo.2.2.2.getD k noCy)).s1 (evOf (wo.2.2.2.getD k noCy)).r1) (cond (evA true (evOf (wo.2.2.2.getD k noCy)).s2 (evOf (wo.2.2.2.getD k noCy)).r2) (Sum.inr (Sum.inr (Sum.inr ((((((k:Nat):Int),wo),q.p.e,q.m1.e),(q.m2.e,q.c1.h),q.c2.h,q.c1.nd.e),((q.c1.ps,q.c1.cz),q.c2.nd.e,q.c2.ps),(q.c2.cz,q.c1.co.ps),q.c1.co.ss,q.c2.co.ps,q.c2.co.ss)))) (Sum.inr (Sum.inr (Sum.inl (((((k:Nat):Int),wo),q.p.e,q.m1.e,q.m2.e),(q.c1.h,q.c1.nd.e,q.c1.ps),q.c1.cz,q.c1.co.ps,q.c1.co.ss))))) (cond (evA true (evOf (wo.2.2.2.getD k noCy)).s2 (evOf (wo.2.2.2.getD k noCy)).r2) (Sum.inr (Sum.inl (((((k:Nat):Int),wo),q.p.e,q.m1.e,q.m2.e),(q.c2.h,q.c2.nd.e,q.c2.ps),q.c2.cz,q.c2.co.ps,q.c2.co.ss))) (Sum.inl ((((k:Nat):Int),wo),q.p.e,q.m1.e,q.m2.e)))) ?_).trans ?_
 ·refine (bdS (o10_eq _ 20)).trans ((bdS (o10_eq _ 20)).trans ((bdS (o9_eq h.init h.p1 h.p2 (h.c1 rfl) (h.c2 rfl) (evOf (wo.2.2.2.getD k noCy)) ((wo.2.2.2.getD k noCy).1.take 20) ((wo.2.2.2.getD k noCy).2.1.take 20))).trans ?_))
  rw [hq]
  cases (evA true (evOf (wo.2.2.2.getD k noCy)).s1 (evOf (wo.2.2.2.getD k noCy)).r1) <;> cases (evA true (evOf (wo.2.2.2.getD k noCy)).s2 (evOf (wo.2.2.2.getD k noCy)).r2) <;> rfl
 cases (evA true (evOf (wo.2.2.2.getD k noCy)).s1 (evOf (wo.2.2.2.getD k noCy)).r1) with
 | true =>
  cases (evA true (evOf (wo.2.2.2.getD k noCy)).s2 (evOf (wo.2.2.2.getD k noCy)).r2) with
  | true=>exact tRt_d435ef_11 h20
  | false=>exact tRt_d435ef_10 h20
 | false =>
  cases (evA true (evOf (wo.2.2.2.getD k noCy)).s2 (evOf (wo.2.2.2.getD k noCy)).r2) with
  | true=>exact tRt_d435ef_01 h20
  | false=>exact tRt_d435ef_00 h20
theorem eRt_11 {wo:WoT} {k:Nat} (hk:¬ (((k:Nat):Int) < ((wo.2.2.2.length:Nat):Int)∧((k:Nat):Int) < 12)) {w q:W} (h:w.ok true true) (hq:cycW true true w.p w.m1 w.m2 w.c1 w.c2 evR [] []=q):o4_b0 (Sum.inl ((((((k:Nat):Int),wo),w.p.e,w.m1.e),(w.m2.e,w.c1.h),w.c2.h,w.c1.nd.e),((w.c1.ps,w.c1.cz),w.c2.nd.e,w.c2.ps),(w.c2.cz,w.c1.co.ps),w.c1.co.ss,w.c2.co.ps,w.c2.co.ss))=dnO (BD (Sum.inr (Sum.inr (Sum.inr ((((wo,q.p.e),q.m1.e,q.m2.e),(q.c1.h,q.c2.h),q.c1.nd.e,q.c1.ps),((q.c1.cz,q.c2.nd.e),q.c2.ps,q.c2.cz),(q.c1.co.ps,q.c1.co.ss),q.c2.co.ps,q.c2.co.ss))))):=by
 unfold o4_b0
 refine (smL _ _ _).trans (?_)
 refine (bdS (t:=((((((k:Nat):Int),false),wo,w.p.e),(w.m1.e,w.m2.e),w.c1.h,w.c2.h,w.c1.nd.e),((w.c1.ps,w.c1.cz),w.c2.nd.e,w.c2.ps),(w.c2.cz,w.c1.co.ps),w.c1.co.ss,w.c2.co.ps,w.c2.co.ss)) ?_).trans ((cndF rfl).trans (congrArg dnO ?_))
 ·by_cases h1:((k:Nat):Int) < ((wo.2.2.2.length:Nat):Int)
  ·refine (cndT (dt h1)).trans ?_
   exact congrArg (fun z:Bool=>some ((((((k:Nat):Int),z),wo,w.p.e),(w.m1.e,w.m2.e),w.c1.h,w.c2.h,w.c1.nd.e),((w.c1.ps,w.c1.cz),w.c2.nd.e,w.c2.ps),(w.c2.cz,w.c1.co.ps),w.c1.co.ss,w.c2.co.ps,w.c2.co.ss)) (df (fun h2=>hk ⟨h1,h2⟩))
  ·exact (cndF (df h1)).trans rfl
 ·refine (bdS (t:=(Sum.inr (Sum.inr (Sum.inr ((((wo,q.p.e),q.m1.e,q.m2.e),(q.c1.h,q.c2.h),q.c1.nd.e,q.c1.ps),((q.c1.cz,q.c2.nd.e),q.c2.ps,q.c2.cz),(q.c1.co.ps,q.c1.co.ss),q.c2.co.ps,q.c2.co.ss))))) ?_).trans rfl
  refine (bdS (o9_eq h.init h.p1 h.p2 (h.c1 rfl) (h.c2 rfl) evR [] [])).trans ?_
  rw [hq]
  rfl
theorem bRt_00 {wo:WoT} {k:Nat} (hk:((k:Nat):Int) < ((wo.2.2.2.length:Nat):Int)) (h20:((k:Nat):Int) < 12) {w q:W} (h:w.ok false false) (hq:cycW false false w.p w.m1 w.m2 w.c1 w.c2 (evOf (wo.2.2.2.getD k noCy)) ((wo.2.2.2.getD k noCy).1.take 20) ((wo.2.2.2.getD k noCy).2.1.take 20)=q) :
  o4_b0 (Sum.inr (Sum.inl ((((k:Nat):Int),wo),w.p.e,w.m1.e,w.m2.e)))=some (Ctl.go (encRt (evA false (evOf (wo.2.2.2.getD k noCy)).s1 (evOf (wo.2.2.2.getD k noCy)).r1) (evA false (evOf (wo.2.2.2.getD k noCy)).s2 (evOf (wo.2.2.2.getD k noCy)).r2) ((k+1:Nat):Int) wo q)):=by
 unfold o4_b0
 refine (smR _ _ _).trans ((smL _ _ _).trans (?_))
 refine (bdS (t:=((((k:Nat):Int),decide (((k:Nat):Int) < 12),wo),w.p.e,w.m1.e,w.m2.e)) ?_).trans ?_
 ·exact (cndT (dt hk)).trans rfl
 refine (cndT (dt h20)).trans ((gdT (dt ⟨Int.natCast_nonneg k,hk⟩)).trans ?_)
 refine (bdS (t:=cond (evA false (evOf (wo.2.2.2.getD k noCy)).s1 (evOf (wo.2.2.2.getD k noCy)).r1) (cond (evA false (evOf (wo.2.2.2.getD k noCy)).s2 (evOf (wo.2.2.2.getD k noCy)).r2) (Sum.inr (Sum.inr (Sum.inr ((((((k:Nat):Int),wo),q.p.e,q.m1.e),(q.m2.e,q.c1.h),q.c2.h,q.c1.nd.e),((q.c1.ps,q.c1.cz),q.c2.nd.e,q.c2.ps),(q.c2.cz,q.c1.co.ps),q.c1.co.ss,q.c2.co.ps,q.c2.co.ss)))) (Sum.inr (Sum.inr (Sum.inl (((((k:Nat):Int),wo),q.p.e,q.m1.e,q.m2.e),(q.c1.h,q.c1.nd.e,q.c1.ps),q.c1.cz,q.c1.co.ps,q.c1.co.ss))))) (cond (evA false (evOf (wo.2.2.2.getD k noCy)).s2 (evOf (wo.2.2.2.getD k noCy)).r2) (Sum.inr (Sum.inl (((((k:Nat):Int),wo),q.p.e,q.m1.e,q.m2.e),(q.c2.h,q.c2.nd.e,q.c2.ps),q.c2.cz,q.c2.co.ps,q.c2.co.ss))) (Sum.inl ((((k:Nat):Int),wo),q.p.e,q.m1.e,q.m2.e)))) ?_).trans ?_
 ·refine (bdS (o10_eq _ 20)).trans ((bdS (o10_eq _ 20)).trans ((bdS (o9v1_eq (c1:=w.c1) (c2:=w.c2) h.init h.p1 h.p2 (evOf (wo.2.2.2.getD k noCy)) ((wo.2.2.2.getD k noCy).1.take 20) ((wo.2.2.2.getD k noCy).2.1.take 20))).trans ?_))
  rw [hq]
  cases (evA false (evOf (wo.2.2.2.getD k noCy)).s1 (evOf (wo.2.2.2.getD k noCy)).r1) <;> cases (evA false (evOf (wo.2.2.2.getD k noCy)).s2 (evOf (wo.2.2.2.getD k noCy)).r2) <;> rfl
 cases (evA false (evOf (wo.2.2.2.getD k noCy)).s1 (evOf (wo.2.2.2.getD k noCy)).r1) with
 | true =>
  cases (evA false (evOf (wo.2.2.2.getD k noCy)).s2 (evOf (wo.2.2.2.getD k noCy)).r2) with
  | true=>exact tRt_d435ef_11 h20
  | false=>exact tRt_d435ef_10 h20
 | false =>
  cases (evA false (evOf (wo.2.2.2.getD k noCy)).s2 (evOf (wo.2.2.2.getD k noCy)).r2) with
  | true=>exact tRt_d435ef_01 h20
  | false=>exact tRt_d435ef_00 h20
theorem eRt_00 {wo:WoT} {k:Nat} (hk:¬ (((k:Nat):Int) < ((wo.2.2.2.length:Nat):Int)∧((k:Nat):Int) < 12)) {w q:W} (h:w.ok false false) (hq:cycW false false w.p w.m1 w.m2 w.c1 w.c2 evR [] []=q):o4_b0 (Sum.inr (Sum.inl ((((k:Nat):Int),wo),w.p.e,w.m1.e,w.m2.e)))=dnO (BD (Sum.inr (Sum.inr (Sum.inr ((((wo,q.p.e),q.m1.e,q.m2.e),(q.c1.h,q.c2.h),q.c1.nd.e,q.c1.ps),((q.c1.cz,q.c2.nd.e),q.c2.ps,q.c2.cz),(q.c1.co.ps,q.c1.co.ss),q.c2.co.ps,q.c2.co.ss))))):=by
 unfold o4_b0
 refine (smR _ _ _).trans ((smL _ _ _).trans (?_))
 refine (bdS (t:=((((k:Nat):Int),false,wo),w.p.e,w.m1.e,w.m2.e)) ?_).trans ((cndF rfl).trans (congrArg dnO ?_))
 ·by_cases h1:((k:Nat):Int) < ((wo.2.2.2.length:Nat):Int)
  ·refine (cndT (dt h1)).trans ?_
   exact congrArg (fun z:Bool=>some ((((k:Nat):Int),z,wo),w.p.e,w.m1.e,w.m2.e)) (df (fun h2=>hk ⟨h1,h2⟩))
  ·exact (cndF (df h1)).trans rfl
 ·refine (bdS (t:=(Sum.inr (Sum.inr (Sum.inr ((((wo,q.p.e),q.m1.e,q.m2.e),(q.c1.h,q.c2.h),q.c1.nd.e,q.c1.ps),((q.c1.cz,q.c2.nd.e),q.c2.ps,q.c2.cz),(q.c1.co.ps,q.c1.co.ss),q.c2.co.ps,q.c2.co.ss))))) ?_).trans rfl
  refine (bdS (o9v1_eq (c1:=w.c1) (c2:=w.c2) h.init h.p1 h.p2 evR [] [])).trans ?_
  rw [hq]
  rfl
theorem bRt_01 {wo:WoT} {k:Nat} (hk:((k:Nat):Int) < ((wo.2.2.2.length:Nat):Int)) (h20:((k:Nat):Int) < 12) {w q:W} (h:w.ok false true) (hq:cycW false true w.p w.m1 w.m2 w.c1 w.c2 (evOf (wo.2.2.2.getD k noCy)) ((wo.2.2.2.getD k noCy).1.take 20) ((wo.2.2.2.getD k noCy).2.1.take 20)=q) :
  o4_b0 (Sum.inr (Sum.inr (Sum.inl (((((k:Nat):Int),wo),w.p.e,w.m1.e,w.m2.e),(w.c2.h,w.c2.nd.e,w.c2.ps),w.c2.cz,w.c2.co.ps,w.c2.co.ss))))=some (Ctl.go (encRt (evA false (evOf (wo.2.2.2.getD k noCy)).s1 (evOf (wo.2.2.2.getD k noCy)).r1) (evA true (evOf (wo.2.2.2.getD k noCy)).s2 (evOf (wo.2.2.2.getD k noCy)).r2) ((k+1:Nat):Int) wo q)):=by
 unfold o4_b0
 refine (smR _ _ _).trans ((smR _ _ _).trans ((smL _ _ _).trans (?_)))
 refine (bdS (t:=(((((k:Nat):Int),decide (((k:Nat):Int) < 12),wo),w.p.e,w.m1.e,w.m2.e),(w.c2.h,w.c2.nd.e,w.c2.ps),w.c2.cz,w.c2.co.ps,w.c2.co.ss)) ?_).trans ?_
 ·exact (cndT (dt hk)).trans rfl
 refine (cndT (dt h20)).trans ((gdT (dt ⟨Int.natCast_nonneg k,hk⟩)).trans ?_)
 refine (bdS (t:=cond (evA false (evOf (wo.2.2.2.getD k noCy)).s1 (evOf (wo.2.2.2.getD k noCy)).r1) (cond (evA true (evOf (wo.2.2.2.getD k noCy)).s2 (evOf (wo.2.2.2.getD k noCy)).r2) (Sum.inr (Sum.inr (Sum.inr ((((((k:Nat):Int),wo),q.p.e,q.m1.e),(q.m2.e,q.c1.h),q.c2.h,q.c1.nd.e),((q.c1.ps,q.c1.cz),q.c2.nd.e,q.c2.ps),(q.c2.cz,q.c1.co.ps),q.c1.co.ss,q.c2.co.ps,q.c2.co.ss)))) (Sum.inr (Sum.inl (((((k:Nat):Int),wo),q.p.e,q.m1.e,q.m2.e),(q.c1.h,q.c1.nd.e,q.c1.ps),q.c1.cz,q.c1.co.ps,q.c1.co.ss)))) (cond (evA true (evOf (wo.2.2.2.getD k noCy)).s2 (evOf (wo.2.2.2.getD k noCy)).r2) (Sum.inr (Sum.inr (Sum.inl (((((k:Nat):Int),wo),q.p.e,q.m1.e,q.m2.e),(q.c2.h,q.c2.nd.e,q.c2.ps),q.c2.cz,q.c2.co.ps,q.c2.co.ss)))) (Sum.inl ((((k:Nat):Int),wo),q.p.e,q.m1.e,q.m2.e)))) ?_).trans ?_
 ·refine (bdS (o10_eq _ 20)).trans ((bdS (o10_eq _ 20)).trans ((bdS (o9v2_eq (c1:=w.c1) h.init h.p1 h.p2 (h.c2 rfl) (evOf (wo.2.2.2.getD k noCy)) ((wo.2.2.2.getD k noCy).1.take 20) ((wo.2.2.2.getD k noCy).2.1.take 20))).trans ?_))
  rw [hq]
  cases (evA false (evOf (wo.2.2.2.getD k noCy)).s1 (evOf (wo.2.2.2.getD k noCy)).r1) <;> cases (evA true (evOf (wo.2.2.2.getD k noCy)).s2 (evOf (wo.2.2.2.getD k noCy)).r2) <;> rfl
 cases (evA false (evOf (wo.2.2.2.getD k noCy)).s1 (evOf (wo.2.2.2.getD k noCy)).r1) with
 | true =>
  cases (evA true (evOf (wo.2.2.2.getD k noCy)).s2 (evOf (wo.2.2.2.getD k noCy)).r2) with
  | true=>exact tRt_f4fdde_11 h20
  | false=>exact tRt_f4fdde_10 h20
 | false =>
  cases (evA true (evOf (wo.2.2.2.getD k noCy)).s2 (evOf (wo.2.2.2.getD k noCy)).r2) with
  | true=>exact tRt_f4fdde_01 h20
  | false=>exact tRt_f4fdde_00 h20
theorem eRt_01 {wo:WoT} {k:Nat} (hk:¬ (((k:Nat):Int) < ((wo.2.2.2.length:Nat):Int)∧((k:Nat):Int) < 12)) {w q:W} (h:w.ok false true) (hq:cycW false true w.p w.m1 w.m2 w.c1 w.c2 evR [] []=q):o4_b0 (Sum.inr (Sum.inr (Sum.inl (((((k:Nat):Int),wo),w.p.e,w.m1.e,w.m2.e),(w.c2.h,w.c2.nd.e,w.c2.ps),w.c2.cz,w.c2.co.ps,w.c2.co.ss))))=dnO (BD (Sum.inr (Sum.inr (Sum.inr ((((wo,q.p.e),q.m1.e,q.m2.e),(q.c1.h,q.c2.h),q.c1.nd.e,q.c1.ps),((q.c1.cz,q.c2.nd.e),q.c2.ps,q.c2.cz),(q.c1.co.ps,q.c1.co.ss),q.c2.co.ps,q.c2.co.ss))))):=by
 unfold o4_b0
 refine (smR _ _ _).trans ((smR _ _ _).trans ((smL _ _ _).trans (?_)))
 refine (bdS (t:=(((((k:Nat):Int),false,wo),w.p.e,w.m1.e,w.m2.e),(w.c2.h,w.c2.nd.e,w.c2.ps),w.c2.cz,w.c2.co.ps,w.c2.co.ss)) ?_).trans ((cndF rfl).trans (congrArg dnO ?_))
 ·by_cases h1:((k:Nat):Int) < ((wo.2.2.2.length:Nat):Int)
  ·refine (cndT (dt h1)).trans ?_
   exact congrArg (fun z:Bool=>some (((((k:Nat):Int),z,wo),w.p.e,w.m1.e,w.m2.e),(w.c2.h,w.c2.nd.e,w.c2.ps),w.c2.cz,w.c2.co.ps,w.c2.co.ss)) (df (fun h2=>hk ⟨h1,h2⟩))
  ·exact (cndF (df h1)).trans rfl
 ·refine (bdS (t:=(Sum.inr (Sum.inr (Sum.inr ((((wo,q.p.e),q.m1.e,q.m2.e),(q.c1.h,q.c2.h),q.c1.nd.e,q.c1.ps),((q.c1.cz,q.c2.nd.e),q.c2.ps,q.c2.cz),(q.c1.co.ps,q.c1.co.ss),q.c2.co.ps,q.c2.co.ss))))) ?_).trans rfl
  refine (bdS (o9v2_eq (c1:=w.c1) h.init h.p1 h.p2 (h.c2 rfl) evR [] [])).trans ?_
  rw [hq]
  rfl
theorem bRt_10 {wo:WoT} {k:Nat} (hk:((k:Nat):Int) < ((wo.2.2.2.length:Nat):Int)) (h20:((k:Nat):Int) < 12) {w q:W} (h:w.ok true false) (hq:cycW true false w.p w.m1 w.m2 w.c1 w.c2 (evOf (wo.2.2.2.getD k noCy)) ((wo.2.2.2.getD k noCy).1.take 20) ((wo.2.2.2.getD k noCy).2.1.take 20)=q) :
  o4_b0 (Sum.inr (Sum.inr (Sum.inr (((((k:Nat):Int),wo),w.p.e,w.m1.e,w.m2.e),(w.c1.h,w.c1.nd.e,w.c1.ps),w.c1.cz,w.c1.co.ps,w.c1.co.ss))))=some (Ctl.go (encRt (evA true (evOf (wo.2.2.2.getD k noCy)).s1 (evOf (wo.2.2.2.getD k noCy)).r1) (evA false (evOf (wo.2.2.2.getD k noCy)).s2 (evOf (wo.2.2.2.getD k noCy)).r2) ((k+1:Nat):Int) wo q)):=by
 unfold o4_b0
 refine (smR _ _ _).trans ((smR _ _ _).trans ((smR _ _ _).trans (?_)))
 refine (bdS (t:=(((((k:Nat):Int),decide (((k:Nat):Int) < 12),wo),w.p.e,w.m1.e,w.m2.e),(w.c1.h,w.c1.nd.e,w.c1.ps),w.c1.cz,w.c1.co.ps,w.c1.co.ss)) ?_).trans ?_
 ·exact (cndT (dt hk)).trans rfl
 refine (cndT (dt h20)).trans ((gdT (dt ⟨Int.natCast_nonneg k,hk⟩)).trans ?_)
 refine (bdS (t:=cond (evA true (evOf (wo.2.2.2.getD k noCy)).s1 (evOf (wo.2.2.2.getD k noCy)).r1) (cond (evA false (evOf (wo.2.2.2.getD k noCy)).s2 (evOf (wo.2.2.2.getD k noCy)).r2) (Sum.inr (Sum.inr (Sum.inr ((((((k:Nat):Int),wo),q.p.e,q.m1.e),(q.m2.e,q.c1.h),q.c2.h,q.c1.nd.e),((q.c1.ps,q.c1.cz),q.c2.nd.e,q.c2.ps),(q.c2.cz,q.c1.co.ps),q.c1.co.ss,q.c2.co.ps,q.c2.co.ss)))) (Sum.inr (Sum.inl (((((k:Nat):Int),wo),q.p.e,q.m1.e,q.m2.e),(q.c1.h,q.c1.nd.e,q.c1.ps),q.c1.cz,q.c1.co.ps,q.c1.co.ss)))) (cond (evA false (evOf (wo.2.2.2.getD k noCy)).s2 (evOf (wo.2.2.2.getD k noCy)).r2) (Sum.inr (Sum.inr (Sum.inl (((((k:Nat):Int),wo),q.p.e,q.m1.e,q.m2.e),(q.c2.h,q.c2.nd.e,q.c2.ps),q.c2.cz,q.c2.co.ps,q.c2.co.ss)))) (Sum.inl ((((k:Nat):Int),wo),q.p.e,q.m1.e,q.m2.e)))) ?_).trans ?_
 ·refine (bdS (o10_eq _ 20)).trans ((bdS (o10_eq _ 20)).trans ((bdS (o9v3_eq (c2:=w.c2) h.init h.p1 h.p2 (h.c1 rfl) (evOf (wo.2.2.2.getD k noCy)) ((wo.2.2.2.getD k noCy).1.take 20) ((wo.2.2.2.getD k noCy).2.1.take 20))).trans ?_))
  rw [hq]
  cases (evA true (evOf (wo.2.2.2.getD k noCy)).s1 (evOf (wo.2.2.2.getD k noCy)).r1) <;> cases (evA false (evOf (wo.2.2.2.getD k noCy)).s2 (evOf (wo.2.2.2.getD k noCy)).r2) <;> rfl
 cases (evA true (evOf (wo.2.2.2.getD k noCy)).s1 (evOf (wo.2.2.2.getD k noCy)).r1) with
 | true =>
  cases (evA false (evOf (wo.2.2.2.getD k noCy)).s2 (evOf (wo.2.2.2.getD k noCy)).r2) with
  | true=>exact tRt_f4fdde_11 h20
  | false=>exact tRt_f4fdde_10 h20
 | false =>
  cases (evA false (evOf (wo.2.2.2.getD k noCy)).s2 (evOf (wo.2.2.2.getD k noCy)).r2) with
  | true=>exact tRt_f4fdde_01 h20
  | false=>exact tRt_f4fdde_00 h20
theorem eRt_10 {wo:WoT} {k:Nat} (hk:¬ (((k:Nat):Int) < ((wo.2.2.2.length:Nat):Int)∧((k:Nat):Int) < 12)) {w q:W} (h:w.ok true false) (hq:cycW true false w.p w.m1 w.m2 w.c1 w.c2 evR [] []=q):o4_b0 (Sum.inr (Sum.inr (Sum.inr (((((k:Nat):Int),wo),w.p.e,w.m1.e,w.m2.e),(w.c1.h,w.c1.nd.e,w.c1.ps),w.c1.cz,w.c1.co.ps,w.c1.co.ss))))=dnO (BD (Sum.inr (Sum.inr (Sum.inr ((((wo,q.p.e),q.m1.e,q.m2.e),(q.c1.h,q.c2.h),q.c1.nd.e,q.c1.ps),((q.c1.cz,q.c2.nd.e),q.c2.ps,q.c2.cz),(q.c1.co.ps,q.c1.co.ss),q.c2.co.ps,q.c2.co.ss))))):=by
 unfold o4_b0
 refine (smR _ _ _).trans ((smR _ _ _).trans ((smR _ _ _).trans (?_)))
 refine (bdS (t:=(((((k:Nat):Int),false,wo),w.p.e,w.m1.e,w.m2.e),(w.c1.h,w.c1.nd.e,w.c1.ps),w.c1.cz,w.c1.co.ps,w.c1.co.ss)) ?_).trans ((cndF rfl).trans (congrArg dnO ?_))
 ·by_cases h1:((k:Nat):Int) < ((wo.2.2.2.length:Nat):Int)
  ·refine (cndT (dt h1)).trans ?_
   exact congrArg (fun z:Bool=>some (((((k:Nat):Int),z,wo),w.p.e,w.m1.e,w.m2.e),(w.c1.h,w.c1.nd.e,w.c1.ps),w.c1.cz,w.c1.co.ps,w.c1.co.ss)) (df (fun h2=>hk ⟨h1,h2⟩))
  ·exact (cndF (df h1)).trans rfl
 ·refine (bdS (t:=(Sum.inr (Sum.inr (Sum.inr ((((wo,q.p.e),q.m1.e,q.m2.e),(q.c1.h,q.c2.h),q.c1.nd.e,q.c1.ps),((q.c1.cz,q.c2.nd.e),q.c2.ps,q.c2.cz),(q.c1.co.ps,q.c1.co.ss),q.c2.co.ps,q.c2.co.ss))))) ?_).trans rfl
  refine (bdS (o9v3_eq (c2:=w.c2) h.init h.p1 h.p2 (h.c1 rfl) evR [] [])).trans ?_
  rw [hq]
  rfl
def encQ (n l i:Int) (w:W):Dn:=((((n,l),i,w.p.e),(w.m1.e,w.m2.e),w.c1.h,w.c2.h,w.c1.nd.e),((w.c1.ps,w.c1.cz),w.c2.nd.e,w.c2.ps),(w.c2.cz,w.c1.co.ps),w.c1.co.ss,w.c2.co.ps,w.c2.co.ss)
theorem startQ {wo:WoT} {q:W} {n:Int} (hn:IntKind.wrap .i64 (IntKind.wrap .i64 (Int.tdiv (IntKind.wrap .i64 (IntKind.wrap .i64 (IntKind.wrap .i64 (16+Int.tmod (IntKind.wrap .i64 wo.1.2.1) 1900)+600) - 1)) 600)+2)=n):BD (Sum.inr (Sum.inr (Sum.inr ((((wo,q.p.e),q.m1.e,q.m2.e),(q.c1.h,q.c2.h),q.c1.nd.e,q.c1.ps),((q.c1.cz,q.c2.nd.e),q.c2.ps,q.c2.cz),(q.c1.co.ps,q.c1.co.ss),q.c2.co.ps,q.c2.co.ss))))=loopO fuelN o4_b1 (encQ n (IntKind.wrap .i64 (n+3)) 0 q):=by
 unfold BD
 refine (smR _ _ _).trans ((smR _ _ _).trans ((smR _ _ _).trans (?_)))
 rw [← hn]
 rfl
theorem bodyQ {n l:Int} {k:Nat} (hl:((k:Nat):Int) < l) (hk:k < 1000000) {w q:W} (h:w.ok true true) (hq:cycW true true w.p w.m1 w.m2 w.c1 w.c2 evQ [u8 (IntKind.wrap .u8 ((k:Nat):Int))] []=q) (hv:((k:Nat):Int)≥IntKind.wrap .i64 (n - 1)→q.r.st1=4∧q.r.st2=4∧q.r.t1=q.r.t2) :
  o4_b1 (encQ n l ((k:Nat):Int) w)=some (Ctl.go (encQ n l ((k+1:Nat):Int) q)):=by
 unfold o4_b1
 refine (cndT (dt hl)).trans ?_
 refine (bdS (t:=(Sum.inr (Sum.inr (Sum.inr ((((n,((k:Nat):Int)),l,((k:Nat):Int),q.p.e),(((((q.r.cycle,q.r.role1,q.r.role2),(q.r.st1,q.r.st2),q.r.steps1,q.r.steps2),(q.r.t1.lat,q.r.t1.ver,q.r.t1.ph),(q.r.t1.bank,q.r.t1.speed),q.r.t1.alt,q.r.t1.vs),((q.r.t2.lat,q.r.t2.ver,q.r.t2.ph),(q.r.t2.bank,q.r.t2.speed),q.r.t2.alt,q.r.t2.vs),((q.r.src,q.p.use.lat),(q.p.use.ver,q.p.use.ph)),((q.p.use.bank,q.p.use.speed),q.p.use.alt,q.p.use.vs)),q.m1.e),q.m2.e,q.c1.h,q.c2.h),((q.c1.nd.e,q.c1.ps),q.c1.cz,q.c2.nd.e,q.c2.ps),(q.c2.cz,q.c1.co.ps),q.c1.co.ss,q.c2.co.ps,q.c2.co.ss))))) ?_).trans ?_
 ·refine (bdS (o9_eq h.init h.p1 h.p2 (h.c1 rfl) (h.c2 rfl) evQ [u8 (IntKind.wrap .u8 ((k:Nat):Int))] [])).trans ?_
  rw [hq]
  rfl
 refine (smR _ _ _).trans ((smR _ _ _).trans ((smR _ _ _).trans (?_)))
 refine (bdS (t:=((((n,l),((k:Nat):Int),false),(q.p.e,q.m1.e),q.m2.e,q.c1.h,q.c2.h),((q.c1.nd.e,q.c1.ps),q.c1.cz,q.c2.nd.e,q.c2.ps),(q.c2.cz,q.c1.co.ps),q.c1.co.ss,q.c2.co.ps,q.c2.co.ss)) ?_).trans ((cndF rfl).trans ?_)
 ·by_cases h1:((k:Nat):Int)≥IntKind.wrap .i64 (n - 1)
  ·obtain ⟨a1,a2,a3⟩:=hv h1
   refine (cndT (dt h1)).trans ((cndF (neq_f a1)).trans ((cndF (neq_f a2)).trans ?_))
   exact congrArg (fun z:Bool=>some ((((n,l),((k:Nat):Int),z),(q.p.e,q.m1.e),q.m2.e,q.c1.h,q.c2.h),((q.c1.nd.e,q.c1.ps),q.c1.cz,q.c2.nd.e,q.c2.ps),(q.c2.cz,q.c1.co.ps),q.c1.co.ss,q.c2.co.ps,q.c2.co.ss)) (tg_eq a3)
  ·exact (cndF (df h1)).trans rfl
 exact go_i (z:=IntKind.i64.wrap (((k:Nat):Int)+1)) (z':=((k+1:Nat):Int)) (by rw [wr64 (by omega)];rfl) (fun i:Int=>((((n,l),i,q.p.e),(q.m1.e,q.m2.e),q.c1.h,q.c2.h,q.c1.nd.e),((q.c1.ps,q.c1.cz),q.c2.nd.e,q.c2.ps),(q.c2.cz,q.c1.co.ps),q.c1.co.ss,q.c2.co.ps,q.c2.co.ss))
theorem endQ {n l:Int} {k:Nat} (hl:¬ ((k:Nat):Int) < l) {w:W}:o4_b1 (encQ n l ((k:Nat):Int) w)=some (Ctl.done true):=by
 unfold o4_b1
 exact (cndF (df hl)).trans (dnS _)
abbrev CdW:Cd:=(.p (.i .u64) (.p (.i .u16) (.p (.p (.i .i64) (.p (.i .i64) (.p (.i .i64) (.i .i64)))) (.a (.p (.a .y) (.p (.a .y) (.p (.p .b .b) (.p (.p .b .b) (.p (.p .b .b) (.p (.p (.i .i64) (.i .i64)) (.p (.p (.p .b (.p (.i .i64) (.i .u32))) (.p (.p .b (.p (.i .i64) (.i .u32))) (.p (.p .b (.p (.i .i64) (.i .u32))) (.p .b (.p (.i .i64) (.i .u32)))))) (.p (.p .b (.p (.i .i64) (.i .u32))) (.p (.p .b (.p (.i .i64) (.i .u32))) (.p (.p .b (.p (.i .i64) (.i .u32))) (.p .b (.p (.i .i64) (.i .u32)))))))))))))))))
abbrev WdT:Type:=Int×Int×(Int×Int×Int×Int)×List CyT
theorem world_in {p:Psi} {cs:List Value} {x:WdT} (h:CdW.ty.rep p cs x):(0≤x.1∧x.1≤18446744073709551615)∧(0≤x.2.1∧x.2.1≤65535):=by
 obtain ⟨c1,c2,e,h1,c3,c4,e2,h2,h3⟩:=h
 exact ⟨⟨h1.2.1,h1.2.2⟩,⟨h2.2.1,h2.2.2⟩⟩
def woOf (x:WdT):WoT:=((x.1,x.2.1,x.2.2.1.1),(x.2.2.1.2.1,x.2.2.1.2.2.1),x.2.2.1.2.2.2,x.2.2.2)
theorem evR_qt:evR.qt:=⟨rfl,rfl,rfl,rfl,rfl,rfl,rfl,rfl,rfl,rfl⟩
theorem evQ_qt:evQ.qt:=⟨rfl,rfl,rfl,rfl,rfl,rfl,rfl,rfl,rfl,rfl⟩
theorem good_new {P:Int} {m:Mc} {r1 r2 r3 r4:Int} (hm:m.inR P) (hok:(newW m r1 r2 r3 r4).ok true true):Good P 0 true true (newW m r1 r2 r3 r4):=by
 have hf:∀ n,n=1∨n=2→Fit n 0 (newCp n):=fun n hn=>⟨⟨hn,rfl,rfl,rfl,rfl,(by show (1:Int)≤1∧(1:Int)≤3;decide),⟨Int.le_refl _,Int.le_refl _⟩,⟨Int.le_refl _,Int.le_refl _⟩,Nat.zero_le _,by decide⟩,.inl rfl,fun _=>rfl,fun _=>rfl⟩
 exact ⟨hok,fun _=>hf 1 (.inl rfl),fun _=>hf 2 (.inr rfl),hm,hm,fun _=>⟨fun e=>(by cases e),fun _ hne=>absurd rfl hne⟩,fun _=>⟨fun e=>(by cases e),fun _ hne=>absurd rfl hne⟩,rfl⟩
theorem loopQ {P K:Int} {q:W} {n:Int} (h0:0≤P) (h1:P≤10000) (hK:0≤K) (hK2:K≤100) (hn:n=(((16+P.toNat+599) / 600+2:Nat):Int)) (h:Good P K true true q) (ha:Az q.c1 q.c2):loopO fuelN o4_b1 (encQ n (n+3) ((0:Nat):Int) q)=some true:=by
 have hP:P.toNat≤10000:=by omega
 have hloop:∃ r,loopO fuelN o4_b1 (encQ n (n+3) ((0:Nat):Int) q)=some r∧r=true:=by
  refine loop_inv (n:=(16+P.toNat+599) / 600+5) (Q:=fun r=>r=true) (fun i s=>∃ w,s=encQ n (n+3) ((i:Nat):Int) w∧Good P (K+((i:Nat):Int)) true true w∧Pz i w.c1 w.c2) ?_ ?_ (by omega) ?_
  ·rintro i s hi ⟨w,rfl,hw,hp⟩
   obtain ⟨z,hz⟩:∃ z,cycW true true w.p w.m1 w.m2 w.c1 w.c2 evQ [u8 (IntKind.wrap .u8 ((i:Nat):Int))] []=z:=⟨_,rfl⟩
   obtain ⟨g1,g2,g3⟩:=pz_next (i:=i) h0 h1 (by omega) (by omega) hw evQ_qt ⟨rfl,rfl,rfl,rfl⟩ hz hp
   refine ⟨_,bodyQ (by omega) (by omega) hw.ok hz (fun hv=>g3 ?_),z,rfl,?_,g2⟩
   ·have hv:((i:Nat):Int)≥IntKind.i64.wrap (n - 1):=hv
    rw [wr64 (by omega)] at hv
    omega
   ·rw [show K+((i+1:Nat):Int)=K+((i:Nat):Int)+1 by omega]
    exact g1
  ·rintro s ⟨w,rfl,-,-⟩
   exact ⟨true,endQ (by omega),rfl⟩
  ·exact ⟨q,rfl,by rw [show K+((0:Nat):Int)=K by omega];exact h,ha⟩
 obtain ⟨r,hr,rfl⟩:=hloop
 exact hr
theorem body_Rt {P:Int} {wo:WoT} {k:Nat} (hk:((k:Nat):Int) < ((wo.2.2.2.length:Nat):Int)) (h12:((k:Nat):Int) < 12) (h0:0≤P) (h1:P≤10000) {w:W} {a b:Bool} (h:Good P ((k:Nat):Int) a b w) :
  ∃ a' b' q,o4_b0 (encRt a b ((k:Nat):Int) wo w)=some (Ctl.go (encRt a' b' ((k+1:Nat):Int) wo q))∧Good P ((k+1:Nat):Int) a' b' q:=by
 obtain ⟨q,hq⟩:∃ q,cycW a b w.p w.m1 w.m2 w.c1 w.c2 (evOf (wo.2.2.2.getD k noCy)) ((wo.2.2.2.getD k noCy).1.take 20) ((wo.2.2.2.getD k noCy).2.1.take 20)=q:=⟨_,rfl⟩
 obtain ⟨g1,-⟩:=next_al h0 h1 (by omega) (by omega) h hq
 refine ⟨_,_,q,?_,g1⟩
 cases a <;> cases b
 ·exact bRt_00 hk h12 h.ok hq
 ·exact bRt_01 hk h12 h.ok hq
 ·exact bRt_10 hk h12 h.ok hq
 ·exact bRt_11 hk h12 h.ok hq
theorem end_Rt {wo:WoT} {k:Nat} {n:Int} (hk:¬ (((k:Nat):Int) < ((wo.2.2.2.length:Nat):Int)∧((k:Nat):Int) < 12)) (hn:IntKind.wrap .i64 (IntKind.wrap .i64 (Int.tdiv (IntKind.wrap .i64 (IntKind.wrap .i64 (IntKind.wrap .i64 (16+Int.tmod (IntKind.wrap .i64 wo.1.2.1) 1900)+600) - 1)) 600)+2)=n) {w q:W} {a b:Bool} (h:w.ok a b) (hq:cycW a b w.p w.m1 w.m2 w.c1 w.c2 evR [] []=q) :
  o4_b0 (encRt a b ((k:Nat):Int) wo w)=dnO (loopO fuelN o4_b1 (encQ n (IntKind.wrap .i64 (n+3)) 0 q)):=by
 cases a <;> cases b
 ·exact (eRt_00 hk h hq).trans (congrArg dnO (startQ hn))
 ·exact (eRt_01 hk h hq).trans (congrArg dnO (startQ hn))
 ·exact (eRt_10 hk h hq).trans (congrArg dnO (startQ hn))
 ·exact (eRt_11 hk h hq).trans (congrArg dnO (startQ hn))
theorem returns_plain {x:WoT} (hs:0≤x.1.1∧x.1.1≤18446744073709551615) (h:0≤x.1.2.1∧x.1.2.1≤65535):o4 x=some true:=by
 have hp:=mcOf_pad h
 have hpad:Int.tmod (IntKind.wrap .i64 x.1.2.1) 1900=(mcOf x).pad:=rfl
 obtain ⟨n,hN⟩:∃ n:Int,n=(((16+(mcOf x).pad.toNat+599) / 600+2:Nat):Int):=⟨_,rfl⟩
 have hn:IntKind.wrap .i64 (IntKind.wrap .i64 (Int.tdiv (IntKind.wrap .i64 (IntKind.wrap .i64 (IntKind.wrap .i64 (16+Int.tmod (IntKind.wrap .i64 x.1.2.1) 1900)+600) - 1)) 600)+2)=n:=by
  rw [hpad]
  generalize (mcOf x).pad=p at hp hN
  rw [show IntKind.wrap .i64 (16+p)=16+p from wr64 (by omega),show IntKind.wrap .i64 (16+p+600)=p+616 by rw [wr64 (by omega)];omega,show IntKind.wrap .i64 (p+616 - 1)=p+615 by rw [wr64 (by omega)];omega,Int.tdiv_eq_ediv_of_nonneg (by omega),show IntKind.wrap .i64 ((p+615) / 600)=(p+615) / 600 from wr64 (by omega),wr64 (by omega)]
  omega
 unfold o4
 refine (bdS awake_yes).trans ((cndF rfl).trans ?_)
 refine (bdS (t:=Sum.inr ((((x,(wOf x).p.e),(wOf x).m1.e,(wOf x).m2.e),((wOf x).c1.h,(wOf x).c2.h),(wOf x).c1.nd.e,(wOf x).c1.ps),(((wOf x).c1.cz,(wOf x).c2.nd.e),(wOf x).c2.ps,(wOf x).c2.cz),((wOf x).c1.co.ps,(wOf x).c1.co.ss),(wOf x).c2.co.ps,(wOf x).c2.co.ss)) ((bdS (o8_eq h)).trans rfl)).trans ?_
 have hloop:∃ r,loopO fuelN o4_b0 (encRt true true ((0:Nat):Int) x (wOf x))=some r∧r=true:=by
  refine loop_inv (n:=min x.2.2.2.length 12) (Q:=fun r=>r=true) (fun k s=>∃ a b w,s=encRt a b ((k:Nat):Int) x w∧Good (mcOf x).pad ((k:Nat):Int) a b w) ?_ ?_ (by omega) ?_
  ·rintro k s hk ⟨a,b,w,rfl,hw⟩
   obtain ⟨a',b',q,e,g⟩:=body_Rt (wo:=x) (k:=k) (by omega) (by omega) hp.1 (by omega) hw
   exact ⟨_,e,a',b',q,rfl,g⟩
  ·rintro s ⟨a,b,w,rfl,hw⟩
   obtain ⟨q,hq⟩:∃ q,cycW a b w.p w.m1 w.m2 w.c1 w.c2 evR [] []=q:=⟨_,rfl⟩
   have z:=z_cycle hp.1 (by omega) (by omega) (by omega) hw evR_qt (by cases a <;> rfl) (by cases b <;> rfl) rfl rfl hq
   refine ⟨true,?_,rfl⟩
   rw [end_Rt (by omega) hn hw.ok hq,show IntKind.wrap .i64 (n+3)=n+3 from wr64 (by omega)]
   have hl:=loopQ (n:=n) hp.1 (by omega) (by omega) (by omega) hN z.good z.az
   rw [show ((0:Nat):Int)=0 from rfl] at hl
   rw [hl]
   exact dnS _
  ·refine ⟨true,true,wOf x,rfl,?_⟩
   exact good_new ⟨hs,(by show (-9223372036854775808:Int)≤0∧(0:Int)≤9223372036854775807;decide),rfl⟩ (wOf_ok h true true)
 obtain ⟨r,hr,rfl⟩:=hloop
 exact hr
theorem returns_law {p:Psi} {cs:List Value} {x:WdT} (h:CdW.ty.rep p cs x):o4 (woOf x)=some true:=returns_plain (x:=woOf x) (world_in h).1 (world_in h).2
theorem slots_of {g:Gh} {ρ:Env} {bl:List BV}:∀ {l:List SV} {vs:List Value} (i:Nat),All2 (RealS g ρ bl) l vs→∀ t sv,getH (argH i l) t=some sv→∃ v,getS (argS i vs) t=some v∧RealS g ρ bl sv v
 | [],[],i,_,t,sv,e=>by cases e
 | s::l,v::vs,i,h,t,sv,e=>by
  have e:cond (Nat.beq i t) (some s) (getH (argH (i+1) l) t)=some sv:=e
  show ∃ u,cond (Nat.beq i t) (some v) (getS (argS (i+1) vs) t)=some u∧_
  cases hb:Nat.beq i t with
  | true=>rw [hb] at e;injection e with e;subst e;exact ⟨v,rfl,h.1⟩
  | false=>rw [hb] at e;exact slots_of (i+1) h.2 t sv e
 | [],_::_,_,h,_,_,_=>h.elim
 | _::_,[],_,h,_,_,_=>h.elim
def r0:List Sch:=[⟨[(0,.v (.c .b))],[]⟩]
theorem law_of_fok {P:Program} {f:FuncId} {ps:Sch} {run:HT ps.tr→Option Bool} (h:FOk P f ⟨ps,r0,run⟩) {t:HT ps.tr} (hr:run t=some true) (l:List SV) (hc:conT ps t=some ⟨argH 0 l,[]⟩) {W:World} (hW:GI (psiOf W)) {vs:List Value}
  (hv:All2 (RealS (gh0 W) (fun _=>(none,0)) []) l vs) (hl:vs.length=ps.sl.length):Calls P f vs.toArray W fun e w'=>e = .returned (.bool true)∧Below W.heap.size W w':=by
 have hR:Rl (gh0 W) (fun _=>(none,0)) ⟨argH 0 l,[]⟩ [] (argS 0 vs):=⟨rfl,fun i bv k e=>(by cases e),fun t sv e=>slots_of 0 hv t sv e,hW⟩
 refine law_of_ctr (P:=P) (f:=f) (args:=vs) ((h t true _ hr hc (gh0 W) _ [] vs hR hl).mono fun v ψ o hle ⟨str,ρ',h1,h2,h3,h4⟩=>?_)
 have e:altC r0 true=some ⟨[(0,vC (.bool true))],[]⟩:=rfl
 have h1:altC r0 true=some str:=h1
 rw [e] at h1
 injection h1 with h1;subst h1
 obtain ⟨u,h5,h6⟩:=h3.slot 0 _ rfl
 injection h5 with h5
 have h6:u = .bool true:=h6
 have hlen:o.length=0:=h3.len
 exact ⟨List.length_eq_zero_iff.1 hlen,by rw [h5,h6]⟩
section
variable {P:Program} {t:TypeId}
theorem opIR {k:IntKind} (ht:P.underlying t=some (.int k)):Opens P t (tyIR k) (fun _=>True):=fun h hw=>by
 obtain ⟨x,h1,h2⟩:=opens_int ht h hw
 exact ⟨x,⟨h1,h2⟩,trivial⟩
theorem opBR (ht:P.underlying t=some .bool):Opens P t tyB (fun _=>True):=opens_bool ht
end
theorem gi_of (W:World):GI (psiOf W):=fun _ _=>trivial
def cq1:Code→Code
 | .seq a _=>a
 | c=>c
def cq2:Code→Code
 | .seq _ b=>b
 | c=>c
def cbk:Code→Code
 | .block _ a=>a
 | c=>c
def clp:Code→Code
 | .loop a=>a
 | c=>c
noncomputable def cOf (f:Func):Code:=match f.body with | some c=>c | none=> .skip
def HC.o2:HC→HC
 | .on _ _ x=>x
 | h=>h
noncomputable def KB {ρ:Type} (i:Nat) (K:Exit→HSt→Option ρ):Exit→HSt→Option ρ:=fun e st'=>match e with | .exit j=>(match Nat.beq j i with | true=>K .normal st' | false=>K (.exit j) st') | e=>K e st'
noncomputable def KS {P:Program} (S:Stp P) (n np:Nat) (b:Code) (h:HC) {ρ:Type} (K:Exit→HSt→Option ρ):Exit→HSt→Option ρ:=fun e st'=>match e with | .normal=>cutX (h.sel np st') (evC S n np b h st' K) | e=>K e st'
noncomputable def KF (P:Program) (fn:Func) (np:Nat) (rs:List Sch):Exit→HSt→Option (ALT rs):=fun e st'=>match e with
  | .normal=>absA P fn.results.toList np st' rs
  | .ret=>absA P fn.results.toList np st' rs
  | _=>none
noncomputable def KLp {ρ:Type} (np:Nat) (sc:List Sch) (K:Exit→HSt→Option ρ):Exit→HSt→Option (Ctl (ALT sc) ρ):=fun e st'=>match e with | .normal=>(match absDs np st' sc with | some t=>some (.go t) | none=>none) | e=>dnO (K e st')
noncomputable def LBk {P:Program} (S:Stp P) (n np:Nat) (a:Code) (h:HC) (sc:List Sch) {ρ:Type} (K:Exit→HSt→Option ρ):ALT sc→Option (Ctl (ALT sc) ρ) :=
 fun t=>conTs (fun st1=>evC S n np a h st1 (KLp np sc K)) sc t
noncomputable section
def c4:Code:=cq2 (cq2 (cq2 (cq2 (cOf Tryz.f4))))
def g4:HC:=(HC.o2 h4.s2.s2.s2).s2
def a4:Code:=clp (cbk (cq2 (cq1 c4)))
def KO4:Exit→HSt→Option Bool:=KB 0 (KS (stpT Tryz.prog T173 K173) Tryz.f4.ntmps 0 (cq2 c4) g4.s2 (KF Tryz.prog Tryz.f4 0 r4))
def LB4:(Bg ⊕ Bh ⊕ AD ⊕ AD)→Option (Ctl (Bg ⊕ Bh ⊕ AD ⊕ AD) Bool):=LBk (stpT Tryz.prog T173 K173) Tryz.f4.ntmps 0 a4 g4.s1.s2.b1.l1 [o4_s6,o4_s3,o4_s4,o4_s5] KO4
theorem l4_0 v:LB4 (Sum.inl v)=o4_b0 (Sum.inl v):=by kernel_rfl
theorem l4_1 v:LB4 (Sum.inr (Sum.inl v))=o4_b0 (Sum.inr (Sum.inl v)):=by kernel_rfl
theorem l4_2 v:LB4 (Sum.inr (Sum.inr (Sum.inl v)))=o4_b0 (Sum.inr (Sum.inr (Sum.inl v))):=by kernel_rfl
theorem l4_3 v:LB4 (Sum.inr (Sum.inr (Sum.inr v)))=o4_b0 (Sum.inr (Sum.inr (Sum.inr v))):=by kernel_rfl
theorem l4:LB4=o4_b0:=funext fun v=>by
  rcases v with v | v | v | v
  · exact l4_0 v
  · exact l4_1 v
  · exact l4_2 v
  · exact l4_3 v
def o4L (a0:AK):Option Bool :=
 (bd (α:=Bool) o7 (fun v1=>(cnd (!v1) (some false) (bd (α:=AK ⊕ BK) (bd (α:=((I2)×I2) ⊕ CA) (o8 a0) (fun v2=>(sm v2 (fun v3=>(some (Sum.inl a0))) (fun v4=>(some (Sum.inr ((((a0,v4.1.1.1.2),v4.1.1.2),v4.1.2),v4.2))))))) (fun v5=>(sm v5 (fun v6=>(some false)) (fun v7=>(loopO (σ:=Bg ⊕ Bh ⊕ AD ⊕ AD) fuelN LB4 (Sum.inl (((((0:Int),v7.1.1.1.1),v7.1.1.1.2,v7.1.1.2.1),(v7.1.1.2.2,v7.1.2.1.1),v7.1.2.1.2,v7.1.2.2.1),((v7.1.2.2.2,v7.2.1.1.1),v7.2.1.1.2,v7.2.1.2.1),(v7.2.1.2.2,v7.2.2.1.1),v7.2.2.1.2,v7.2.2.2))))))))))
theorem e4L (t:AK):evF (stpT Tryz.prog T173 K173) Tryz.f4 p4 r4 h4 t=(o4L t):=by kernel_rfl
theorem e4 (t:AK):evF (stpT Tryz.prog T173 K173) Tryz.f4 p4 r4 h4 t=(o4 t):=(e4L t).trans (by unfold o4L o4;rw [l4])
def n4:FSp:=⟨p4,r4,fun t=>(o4 t)⟩
theorem fo4:FOk Tryz.prog 4 n4:=fk e4
end
end Go.Proofs.YtpleflcfaecojaaGreat
