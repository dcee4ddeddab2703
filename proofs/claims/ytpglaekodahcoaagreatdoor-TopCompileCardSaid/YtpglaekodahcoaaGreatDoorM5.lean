/-
What functions compute,printed by wip/h/py. Conditions:each theorem's own.
-/
import Derived.Test.YtpglaekodahcoaaGreatDoorM4
namespace Go.Proofs.YtpglaekodahcoaaGreatDoor
set_option linter.unusedVariables false
set_option linter.unusedSimpArgs false
set_option maxRecDepth 100000
open Go.RowKit
open IntKind (wrap)
open _root_.List renaming getD->aA,length_append->aB,length_cons->aC,length_nil->aE,getD_eq_getElem?_getD->aF,getElem?_eq_getElem->aG,take_length->aJ,append_assoc->aK,drop->aM,flatMap_cons->aN,take->aP,take_succ_eq_append_getElem->aQ,set->aS,flatMap_nil->aT,flatMap_append->aV,isEmpty->aX
open _root_.Int renaming toNat_natCast->aD,tdiv->aH,tmod->aL
open _root_.UInt8 renaming toNat->aI,toNat_lt->aU,toNat_ofNat'->aW
open Go.IntKind renaming wrap->aO
open _root_.Nat renaming beq->aR
variable{stop:Nat}{α:Type}{w:Bt}{at_:Nat}{l:List α}{q:Bt}{β:Type}{b:UInt8}{k:Bt->Option β}{i:Nat}{p:Bt}{n:Nat}{z m:Int}
noncomputable section
def BD(b:(List Bt×Int)×Int×Int):Option ((List Bt×Int)×Int×Int):=
 (gd ((0:Int)<=0/\(0:Int)<(b.1.1.length:Int)) (gd ((0:Int)<=1/\(1:Int)<=(b.1.1.length:Int)) (some (((aM (1:Int).toNat b.1.1),(wrap .i64 (b.1.2+(wrap .i64 ((((aA b.1.1 (0:Int).toNat ([]:Bt)).length:Nat):Int)+1))))),b.2))))
def AgZ:Tbl:=(261,⟨⟨[(0,Zb)],[Ay]⟩,[⟨[(0,Zs)],[Ay]⟩],λt=>(BD t)⟩)::AgY
theorem AlO:TK AgZ:=kc AlN Tryz.f261 .d λt=>by kernel_rfl
def Xk:SSh:= .v (.c (.cap (.fn 223) (.ptr 1 0)))
def Ng(b:(List Bt×Int)×Int×Int)(c:Ai):Option (((List Bt×Int)×Int×Int)×Ai):=
 (cnd (b.2.2 !=0) (some (b,c)) (bd (o235 b) (λe=>(cnd (!e.2) (some ((b.1,b.2.1,(wrap .i64 (b.2.1+2))),c)) (bd (o223 e.1 c) (λd=>(cnd (!d.1) (some ((b.1,b.2.1,b.1.2),d.2)) (bd (BD b) (λf=>(some (f,d.2)))))))))))
def Aha:Tbl:=(221,⟨⟨[(0,Zb),(1,Xk)],[Ay,Ag]⟩,[⟨[(0,Zs)],[Ay,Ag]⟩],λt=>(Ng t.1 t.2)⟩)::AgZ
theorem AlP:TK Aha:=kc AlO Tryz.f221 .d λt=>by kernel_rfl
def o262(b:Bt)(c:Bt):Option (Bt):=
 (bd (o295 b c) (λd=>(cnd d (gd ((0:Int)<=(c.length:Int)/\(c.length:Int)<=(b.length:Int)) (some (aM (c.length:Int).toNat b))) (some b))))
def Ahb:Tbl:=(262,⟨⟨[(0,Zd),(1,Zd)],[]⟩,[⟨[(0,Zd)],[]⟩],λt=>(o262 t.1 t.2)⟩)::Aha
theorem AlQ:TK Ahb:=kc AlP Tryz.f262 .d λt=>by kernel_rfl
def o226(b:Bt)(c:Bt):Option (Bt):=
 (bd (o262 b c) (λd=>(some d)))
def Ahc:Tbl:=(226,⟨⟨[(0,Zd),(1,Zd)],[]⟩,[⟨[(0,Zd)],[]⟩],λt=>(o226 t.1 t.2)⟩)::Ahb
theorem AlR:TK Ahc:=kc AlQ Tryz.f226 .d λt=>by kernel_rfl
def o225(d:Bt)(b:Ai):Option (Bool×Ai):=
 (bd (o226 d ([64]:Bt)) (λc=>(bd (cnd (!(c==d)) (bd (o224 c) (λe=>(some (e,((b.1.1.1,b.1.1.2.1,c),b.1.2),b.2)))) (some (false,((b.1.1.1,b.1.1.2.1,c),b.1.2),b.2))) (λf=>(some f)))))
def Ahd:Tbl:=(225,⟨⟨[(0,Zd),(1,Zb)],[Ag]⟩,[⟨[(0,Zc)],[Ag]⟩],λt=>(o225 t.1 t.2)⟩)::Ahc
theorem AlS:TK Ahd:=kc AlR Tryz.f225 (.s .d (.s .d (.s (.j false [⟨[(3,Zc)],[Ag]⟩] .d) .d))) λt=>by kernel_rfl
def Xl:SSh:= .v (.c (.cap (.fn 225) (.ptr 1 0)))
def Nh(b:(List Bt×Int)×Int×Int)(c:Ai):Option (((List Bt×Int)×Int×Int)×Ai):=
 (cnd (b.2.2 !=0) (some (b,c)) (bd (o235 b) (λe=>(cnd (!e.2) (some ((b.1,b.2.1,(wrap .i64 (b.2.1+2))),c)) (bd (o225 e.1 c) (λd=>(cnd (!d.1) (some ((b.1,b.2.1,b.1.2),d.2)) (bd (BD b) (λf=>(some (f,d.2)))))))))))
def Ahe:Tbl:=(221,⟨⟨[(0,Zb),(1,Xl)],[Ay,Ag]⟩,[⟨[(0,Zs)],[Ay,Ag]⟩],λt=>(Nh t.1 t.2)⟩)::Ahd
theorem AlT:TK Ahe:=kc AlS Tryz.f221 .d λt=>by kernel_rfl
def o227(d:Bt)(b:Ai):Option (Bool×Ai):=
 (bd (cnd (d==([76]:Bt)) (some (d,(b.1.1,(1:Int),b.1.2.2),b.2)) (some (d,(b.1.1,(2:Int),b.1.2.2),b.2))) (λc=>(bd (cnd (c.1==([76]:Bt)) (some (true,c.2)) (some ((c.1==([82]:Bt)),c.2))) (λe=>(some e)))))
def Ahf:Tbl:=(227,⟨⟨[(0,Zd),(1,Zb)],[Ag]⟩,[⟨[(0,Zc)],[Ag]⟩],λt=>(o227 t.1 t.2)⟩)::Ahe
theorem AlU:TK Ahf:=kc AlT Tryz.f227 (.s .d (.j false [⟨[(0,Zd)],[Ag]⟩] (.s .d (.s (.j false [⟨[(3,Zc)],[Ag]⟩] .d) .d)))) λt=>by kernel_rfl
def Xm:SSh:= .v (.c (.cap (.fn 227) (.ptr 1 0)))
def Ni(b:(List Bt×Int)×Int×Int)(c:Ai):Option (((List Bt×Int)×Int×Int)×Ai):=
 (cnd (b.2.2 !=0) (some (b,c)) (bd (o235 b) (λe=>(cnd (!e.2) (some ((b.1,b.2.1,(wrap .i64 (b.2.1+2))),c)) (bd (o227 e.1 c) (λd=>(cnd (!d.1) (some ((b.1,b.2.1,b.1.2),d.2)) (bd (BD b) (λf=>(some (f,d.2)))))))))))
def Ahg:Tbl:=(221,⟨⟨[(0,Zb),(1,Xm)],[Ay,Ag]⟩,[⟨[(0,Zs)],[Ay,Ag]⟩],λt=>(Ni t.1 t.2)⟩)::Ahf
theorem AlV:TK Ahg:=kc AlU Tryz.f221 .d λt=>by kernel_rfl
def o263(c:Bt):Option (Int×Int):=
 (bd (o296 c (3:Int)) (λb=>(cnd (!b.2) (some ((0:Int),(4:Int))) (cnd (b.1>=129600000) (some ((0:Int),(2:Int))) (some (b.1,(0:Int)))))))
def Ahh:Tbl:=(263,⟨⟨[(0,Zd)],[]⟩,[⟨[(0,Zq)],[]⟩],λt=>(o263 t)⟩)::Ahg
theorem AlW:TK Ahh:=kc AlV Tryz.f263 .d λt=>by kernel_rfl
def o229(b:Bt):Option (Int×Bool):=
 (cnd ((b.length:Int)!=9) (some ((0:Int),false)) (bd (o263 b) (λc=>(some (c.1,(c.2==0))))))
def Ahi:Tbl:=(229,⟨⟨[(0,Zd)],[]⟩,[⟨[(0,Zt)],[]⟩],λt=>(o229 t)⟩)::Ahh
theorem AlX:TK Ahi:=kc AlW Tryz.f229 .d λt=>by kernel_rfl
def o228(d:Bt)(b:Ai):Option (Bool×Ai):=
 (bd (o229 d) (λc=>(some (c.2,(b.1.1,b.1.2.1,b.1.2.2.1,c.1),b.2))))
def Ahj:Tbl:=(228,⟨⟨[(0,Zd),(1,Zb)],[Ag]⟩,[⟨[(0,Zc)],[Ag]⟩],λt=>(o228 t.1 t.2)⟩)::Ahi
theorem AlY:TK Ahj:=kc AlX Tryz.f228 .d λt=>by kernel_rfl
def Xn:SSh:= .v (.c (.cap (.fn 228) (.ptr 1 0)))
def Nj(b:(List Bt×Int)×Int×Int)(c:Ai):Option (((List Bt×Int)×Int×Int)×Ai):=
 (cnd (b.2.2 !=0) (some (b,c)) (bd (o235 b) (λe=>(cnd (!e.2) (some ((b.1,b.2.1,(wrap .i64 (b.2.1+2))),c)) (bd (o228 e.1 c) (λd=>(cnd (!d.1) (some ((b.1,b.2.1,b.1.2),d.2)) (bd (BD b) (λf=>(some (f,d.2)))))))))))
def Ahk:Tbl:=(221,⟨⟨[(0,Zb),(1,Xn)],[Ay,Ag]⟩,[⟨[(0,Zs)],[Ay,Ag]⟩],λt=>(Nj t.1 t.2)⟩)::Ahj
theorem AlZ:TK Ahk:=kc AlY Tryz.f221 .d λt=>by kernel_rfl
def o123(b:Int):Option (Bt×Int):=
 (bd (cnd (b<0) (some (b,true)) (some (b,(decide (b>8000000))))) (λc=>(cnd c.2 (some (([]:Bt),(2:Int))) (bd (o181 (wrap .i64 (aH c.1 6000)) (10:Int)) (λd=>(cnd ((aL c.1 6000)!=0) (bd (o181 (aL c.1 6000) (10:Int)) (λe=>(gd (([43]:Bt).length+e.length<=1125899906842624) (gd (d.length+(([43]:Bt)++e).length<=1125899906842624) (some ((d++(([43]:Bt)++e)),(0:Int))))))) (some (d,(0:Int)))))))))
def Ahl:Tbl:=(123,⟨⟨[(0,Za)],[]⟩,[⟨[(0,Zo)],[]⟩],λt=>(o123 t)⟩)::Ahk
theorem Ama:TK Ahl:=kc AlZ Tryz.f123 (.s .d (.s (.s (.j false [⟨[(0,Za),(11,Zc)],[]⟩] .d) .d) .d)) λt=>by kernel_rfl
def o231(f:Int)(b:Bt):Option (Int×Bool):=
 (bd (cnd (b==([]:Bt)) (some (b,true)) (gd ((0:Int)<=0/\(0:Int)<(b.length:Int)) (some (b,(((aA b (0:Int).toNat 0).toNat:Int)!=f))))) (λc=>(cnd c.2 (some ((0:Int),false)) (gd ((0:Int)<=1/\(1:Int)<=(c.1.length:Int)) (bd (o216 (aM (1:Int).toNat c.1)) (λe=>(bd (cnd (e.2 !=0) (some (c.1,e.1,true)) (some (c.1,e.1,(e.1==0)))) (λd=>(cnd d.2.2 (some ((0:Int),false)) (bd (o123 d.2.1) (λg=>(gd ((0:Int)<=1/\(1:Int)<=(d.1.length:Int)) (some (d.2.1,(g.1==(aM (1:Int).toNat d.1))))))))))))))))
def Ahm:Tbl:=(231,⟨⟨[(0,Zh),(1,Zd)],[]⟩,[⟨[(0,Zt)],[]⟩],λt=>(o231 t.1 t.2)⟩)::Ahl
theorem Amb:TK Ahm:=kc Ama Tryz.f231 (.s .d (.s (.s (.j false [⟨[(1,Zd),(17,Zc)],[]⟩] .d) .d) (.s .d (.s (.s (.j false [⟨[(1,Zd),(6,Za),(29,Zc)],[]⟩] .d) .d) .d)))) λt=>by kernel_rfl
def o230(d:Bt)(b:Ai):Option (Bool×Ai):=
 (bd (o231 (100:Int) d) (λc=>(some (c.2,b.1,(c.1,b.2.1.2),b.2.2))))
def Ahn:Tbl:=(230,⟨⟨[(0,Zd),(1,Zb)],[Ag]⟩,[⟨[(0,Zc)],[Ag]⟩],λt=>(o230 t.1 t.2)⟩)::Ahm
theorem Amc:TK Ahn:=kc Amb Tryz.f230 .d λt=>by kernel_rfl
def Xo:SSh:= .v (.c (.cap (.fn 230) (.ptr 1 0)))
def Nk(b:(List Bt×Int)×Int×Int)(c:Ai):Option (((List Bt×Int)×Int×Int)×Ai):=
 (cnd (b.2.2 !=0) (some (b,c)) (bd (o235 b) (λe=>(cnd (!e.2) (some ((b.1,b.2.1,(wrap .i64 (b.2.1+2))),c)) (bd (o230 e.1 c) (λd=>(cnd (!d.1) (some ((b.1,b.2.1,b.1.2),d.2)) (bd (BD b) (λf=>(some (f,d.2)))))))))))
def Aho:Tbl:=(221,⟨⟨[(0,Zb),(1,Xo)],[Ay,Ag]⟩,[⟨[(0,Zs)],[Ay,Ag]⟩],λt=>(Nk t.1 t.2)⟩)::Ahn
theorem Amd:TK Aho:=kc Amc Tryz.f221 .d λt=>by kernel_rfl
def o232(d:Bt)(b:Ai):Option (Bool×Ai):=
 (bd (o231 (114:Int) d) (λc=>(some (c.2,b.1,(b.2.1.1,c.1,b.2.1.2.2),b.2.2))))
def Ahp:Tbl:=(232,⟨⟨[(0,Zd),(1,Zb)],[Ag]⟩,[⟨[(0,Zc)],[Ag]⟩],λt=>(o232 t.1 t.2)⟩)::Aho
theorem Ame:TK Ahp:=kc Amd Tryz.f232 .d λt=>by kernel_rfl
def Xp:SSh:= .v (.c (.cap (.fn 232) (.ptr 1 0)))
def Nl(b:(List Bt×Int)×Int×Int)(c:Ai):Option (((List Bt×Int)×Int×Int)×Ai):=
 (cnd (b.2.2 !=0) (some (b,c)) (bd (o235 b) (λe=>(cnd (!e.2) (some ((b.1,b.2.1,(wrap .i64 (b.2.1+2))),c)) (bd (o232 e.1 c) (λd=>(cnd (!d.1) (some ((b.1,b.2.1,b.1.2),d.2)) (bd (BD b) (λf=>(some (f,d.2)))))))))))
def Ahq:Tbl:=(221,⟨⟨[(0,Zb),(1,Xp)],[Ay,Ag]⟩,[⟨[(0,Zs)],[Ay,Ag]⟩],λt=>(Nl t.1 t.2)⟩)::Ahp
theorem Amf:TK Ahq:=kc Ame Tryz.f221 .d λt=>by kernel_rfl
def o233(c:Bt)(d:Ai):Option (Bool×Ai):=
 (bd (cnd (c==([]:Bt)) (some (c,true,d)) (gd ((0:Int)<=0/\(0:Int)<(c.length:Int)) (some (c,(((aA c (0:Int).toNat 0).toNat:Int)!=116),d)))) (λb=>(cnd b.2.1 (some (false,b.2.2)) (gd ((0:Int)<=1/\(1:Int)<=(b.1.length:Int)) (bd (o229 (aM (1:Int).toNat b.1)) (λe=>(some (e.2,b.2.2.1,(b.2.2.2.1.1,b.2.2.2.1.2.1,e.1),b.2.2.2.2))))))))
def Ahr:Tbl:=(233,⟨⟨[(0,Zd),(1,Zb)],[Ag]⟩,[⟨[(0,Zc)],[Ag]⟩],λt=>(o233 t.1 t.2)⟩)::Ahq
theorem Amg:TK Ahr:=kc Amf Tryz.f233 (.s .d (.s (.s (.j false [⟨[(0,Zd),(1,Zb),(10,Zc)],[Ag]⟩] .d) .d) .d)) λt=>by kernel_rfl
def Xq:SSh:= .v (.c (.cap (.fn 233) (.ptr 1 0)))
def Nn(b:(List Bt×Int)×Int×Int)(c:Ai):Option (((List Bt×Int)×Int×Int)×Ai):=
 (cnd (b.2.2 !=0) (some (b,c)) (bd (o235 b) (λe=>(cnd (!e.2) (some ((b.1,b.2.1,(wrap .i64 (b.2.1+2))),c)) (bd (o233 e.1 c) (λd=>(cnd (!d.1) (some ((b.1,b.2.1,b.1.2),d.2)) (bd (BD b) (λf=>(some (f,d.2)))))))))))
def Ahs:Tbl:=(221,⟨⟨[(0,Zb),(1,Xq)],[Ay,Ag]⟩,[⟨[(0,Zs)],[Ay,Ag]⟩],λt=>(Nn t.1 t.2)⟩)::Ahr
theorem Amh:TK Ahs:=kc Amg Tryz.f221 .d λt=>by kernel_rfl
def o265(c:Bt)(b:Ai):Option (Bool×Ai):=
 (some ((c==([111,118,101,114]:Bt)),(b.1.1,b.1.2.1,(c==([111,118,101,114]:Bt)),b.1.2.2.2),b.2))
def Aht:Tbl:=(265,⟨⟨[(0,Zd),(1,Zb)],[.cells 321 [.ptr 1 0],Ag]⟩,[⟨[(0,Zc)],[.cells 321 [.ptr 1 0],Ag]⟩],λt=>(o265 t.1 t.2)⟩)::Ahs
theorem Ami:TK Aht:=kc Amh Tryz.f265 .d λt=>by kernel_rfl
def Xr:SSh:= .v (.c (.cap (.fn 265) (.ptr 1 0)))
def o264(b:(List Bt×Int)×Int×Int)(d:Ai):Option (((List Bt×Int)×Int×Int)×Ai):=
 (bd (o235 b) (λe=>(bd (cnd (b.2.2==0) (cnd e.2 (bd (o265 e.1 d) (λf=>(some (f.1,b,f.2)))) (some (false,b,d))) (some (false,b,d))) (λc=>(cnd c.1 (bd (BD c.2.1) (λg=>(some (g,c.2.2)))) (some c.2))))))
def Ahu:Tbl:=(264,⟨⟨[(0,Zb),(1,Xr)],[Ay,.cells 321 [.ptr 2 0],Ag]⟩,[⟨[(0,Zs)],[Ay,.cells 321 [.ptr 2 0],Ag]⟩],λt=>(o264 t.1 t.2)⟩)::Aht
theorem Amj:TK Ahu:=kc Ami Tryz.f264 (.s .d (.s (.j false [⟨[(0,Zb),(23,Zc)],[Ay,.cells 321 [.ptr 2 0],Ag]⟩] .d) .d)) λt=>by kernel_rfl
def o266(e:Bt)(d:Ai):Option (Bool×Ai):=
 (bd (o267 e) (λb=>(bd (cnd (b.2.2 !=0) (some (true,d,b.1,b.2.1)) (cnd (b.1==(-200000:Int)) (some ((b.2.1==6000000),d,b.1,b.2.1)) (some (false,d,b.1,b.2.1)))) (λc=>(cnd c.1 (some (false,c.2.1)) (some (true,c.2.1.1,c.2.1.2.1,c.2.2,c.2.1.2.2.2)))))))
def Ahv:Tbl:=(266,⟨⟨[(0,Zd),(1,Zb)],[.cells 321 [.ptr 1 0],Ag]⟩,[⟨[(0,Zc)],[.cells 321 [.ptr 1 0],Ag]⟩],λt=>(o266 t.1 t.2)⟩)::Ahu
theorem Amk:TK Ahv:=kc Amj Tryz.f266 (.s .d (.s .d (.s (.s (.j false [⟨[(1,Zb),(4,Zi),(22,Zc)],[.cells 321 [.ptr 1 0],Ag,.cells 83 [.i .i64,.i .i64]]⟩] .d) .d) .d))) λt=>by kernel_rfl
def Xs:SSh:= .v (.c (.cap (.fn 266) (.ptr 1 0)))
def Np(b:(List Bt×Int)×Int×Int)(d:Ai):Option (((List Bt×Int)×Int×Int)×Ai):=
 (bd (o235 b) (λe=>(bd (cnd (b.2.2==0) (cnd e.2 (bd (o266 e.1 d) (λf=>(some (f.1,b,f.2)))) (some (false,b,d))) (some (false,b,d))) (λc=>(cnd c.1 (bd (BD c.2.1) (λg=>(some (g,c.2.2)))) (some c.2))))))
def Ahw:Tbl:=(264,⟨⟨[(0,Zb),(1,Xs)],[Ay,.cells 321 [.ptr 2 0],Ag]⟩,[⟨[(0,Zs)],[Ay,.cells 321 [.ptr 2 0],Ag]⟩],λt=>(Np t.1 t.2)⟩)::Ahv
theorem Aml:TK Ahw:=kc Amk Tryz.f264 (.s .d (.s (.j false [⟨[(0,Zb),(23,Zc)],[Ay,.cells 321 [.ptr 2 0],Ag]⟩] .d) .d)) λt=>by kernel_rfl
def o269(c:Bt):Option (Int×Bool):=
 (bd (cnd ((c.length:Int)<2) (some (c,true)) (cnd ((c.length:Int)>5) (some (c,true)) (gd ((0:Int)<=0/\(0:Int)<(c.length:Int)) (cnd (((aA c (0:Int).toNat 0).toNat:Int)!=115) (some (c,true)) (gd ((0:Int)<=1/\(1:Int)<(c.length:Int)) (some (c,(((aA c (1:Int).toNat 0).toNat:Int)==48)))))))) (λe=>(cnd e.2 (some ((0:Int),false)) (gd ((0:Int)<=1/\(1:Int)<=(e.1.length:Int)) (gd ((aM (1:Int).toNat e.1).length<=140737488355328) (loopO (σ:=(Int×Int)×Int×Bt) fuelN (λ(b:(Int×Int)×Int×Bt)=>(cnd (b.2.1<b.1.2) (gd ((0:Int)<=b.2.1/\b.2.1<(b.2.2.length:Int)) (bd (cnd (((aI (aA b.2.2 b.2.1.toNat (0:UInt8)):Nat):Int)<48) (some ((b.1.1,((aI (aA b.2.2 b.2.1.toNat (0:UInt8)):Nat):Int),b.1.2),b.2.1,true,b.2.2)) (some ((b.1.1,((aI (aA b.2.2 b.2.1.toNat (0:UInt8)):Nat):Int),b.1.2),b.2.1,(decide (((aI (aA b.2.2 b.2.1.toNat (0:UInt8)):Nat):Int)>57)),b.2.2))) (λd=>(cnd d.2.2.1 (dnO (some ((0:Int),false))) (some (Ctl.go (((wrap .i64 ((wrap .i64 ((10:Int)*d.1.1))+(wrap .i64 (wrap .u8 (d.1.2.1-48))))),d.1.2.2),(wrap .i64 (d.2.1+1)),d.2.2.2))))))) (dnO (some (b.1.1,true))))) (((0:Int),(((aM (1:Int).toNat e.1).length:Nat):Int)),(0:Int),(aM (1:Int).toNat e.1))))))))
def Ahx:Tbl:=(269,⟨⟨[(0,Zd)],[]⟩,[⟨[(0,Zt)],[]⟩],λt=>(o269 t)⟩)::Ahw
theorem Amm:TK Ahx:=kc Aml Tryz.f269 (.s .d (.s (.s (.j false [⟨[(0,Zd),(24,Zc)],[]⟩] .d) .d) (.s .d (.s (.s .d (.b (.l [⟨[(4,Za),(27,Ze),(28,Za),(29,Za)],[.row .y 5]⟩] (.s .d (.s .d (.s (.b (.s .d (.s (.s (.j false [⟨[(4,Za),(6,Zh),(27,Ze),(28,Za),(29,Za),(38,Zc)],[.row .y 5]⟩] .d) .d) .d))) .d)))))) .d)))) λt=>by kernel_rfl
def o268(d:Bt)(b:Ai):Option (Bool×Ai):=
 (bd (o269 d) (λc=>(cnd c.2 (some (c.2,b.1,b.2.1,b.2.2.1,c.1,b.2.2.2.2)) (some (c.2,b)))))
def Ahy:Tbl:=(268,⟨⟨[(0,Zd),(1,Zb)],[.cells 321 [.ptr 1 0],Ag]⟩,[⟨[(0,Zc)],[.cells 321 [.ptr 1 0],Ag]⟩],λt=>(o268 t.1 t.2)⟩)::Ahx
theorem Amn:TK Ahy:=kc Amm Tryz.f268 .d λt=>by kernel_rfl
def Xt:SSh:= .v (.c (.cap (.fn 268) (.ptr 1 0)))
def Nq(b:(List Bt×Int)×Int×Int)(d:Ai):Option (((List Bt×Int)×Int×Int)×Ai):=
 (bd (o235 b) (λe=>(bd (cnd (b.2.2==0) (cnd e.2 (bd (o268 e.1 d) (λf=>(some (f.1,b,f.2)))) (some (false,b,d))) (some (false,b,d))) (λc=>(cnd c.1 (bd (BD c.2.1) (λg=>(some (g,c.2.2)))) (some c.2))))))
def Ahz:Tbl:=(264,⟨⟨[(0,Zb),(1,Xt)],[Ay,.cells 321 [.ptr 2 0],Ag]⟩,[⟨[(0,Zs)],[Ay,.cells 321 [.ptr 2 0],Ag]⟩],λt=>(Nq t.1 t.2)⟩)::Ahy
theorem Amo:TK Ahz:=kc Amn Tryz.f264 (.s .d (.s (.j false [⟨[(0,Zb),(23,Zc)],[Ay,.cells 321 [.ptr 2 0],Ag]⟩] .d) .d)) λt=>by kernel_rfl
def o270(d:Bt)(b:Ai):Option (Bool×Ai):=
 (bd (o231 (110:Int) d) (λc=>(cnd c.2 (some (c.2,b.1,b.2.1,b.2.2.1,b.2.2.2.1,c.1)) (some (c.2,b)))))
def AhA:Tbl:=(270,⟨⟨[(0,Zd),(1,Zb)],[.cells 321 [.ptr 1 0],Ag]⟩,[⟨[(0,Zc)],[.cells 321 [.ptr 1 0],Ag]⟩],λt=>(o270 t.1 t.2)⟩)::Ahz
theorem Amp:TK AhA:=kc Amo Tryz.f270 .d λt=>by kernel_rfl
def Xu:SSh:= .v (.c (.cap (.fn 270) (.ptr 1 0)))
def Nr(b:(List Bt×Int)×Int×Int)(d:Ai):Option (((List Bt×Int)×Int×Int)×Ai):=
 (bd (o235 b) (λe=>(bd (cnd (b.2.2==0) (cnd e.2 (bd (o270 e.1 d) (λf=>(some (f.1,b,f.2)))) (some (false,b,d))) (some (false,b,d))) (λc=>(cnd c.1 (bd (BD c.2.1) (λg=>(some (g,c.2.2)))) (some c.2))))))
def AhB:Tbl:=(264,⟨⟨[(0,Zb),(1,Xu)],[Ay,.cells 321 [.ptr 2 0],Ag]⟩,[⟨[(0,Zs)],[Ay,.cells 321 [.ptr 2 0],Ag]⟩],λt=>(Nr t.1 t.2)⟩)::AhA
theorem Amq:TK AhB:=kc Amp Tryz.f264 (.s .d (.s (.j false [⟨[(0,Zb),(23,Zc)],[Ay,.cells 321 [.ptr 2 0],Ag]⟩] .d) .d)) λt=>by kernel_rfl
def o234(e:(List Bt×Int)×Int×Int)(f:Ai):Option (((List Bt×Int)×Int×Int)×Ai):=
 (bd (o264 e f) (λb=>(bd (Np b.1 b.2) (λc=>(bd (Nq c.1 c.2) (λd=>(bd (Nr d.1 d.2) (λg=>(some g)))))))))
def AhC:Tbl:=(234,⟨⟨[(0,Zb),(1,Zg)],[Ay,Ag]⟩,[⟨[(0,Zs)],[Ay,Ag]⟩],λt=>(o234 t.1 t.2)⟩)::AhB
theorem Amr:TK AhC:=kc Amq Tryz.f234 .d λt=>by kernel_rfl
def o182(b:Int):Option Bool:=
 (bd (cnd (b>=1) (some (decide (b<=17))) (some false)) (λc=>(some c)))
def AhD:Tbl:=(182,⟨⟨[(0,Zh)],[]⟩,[⟨[(0,Zc)],[]⟩],λt=>(o182 t)⟩)::AhC
theorem Ams:TK AhD:=kc Amr Tryz.f182 (.s .d (.s (.j false [⟨[(2,Zc)],[]⟩] .d) .d)) λt=>by kernel_rfl
def o183(b:Bt)(c:Bool):Option Int:=
 (cnd c (bd (o193 b) (λd=>(cnd (d.2.2 !=0) (some (5:Int)) (some (0:Int))))) (cnd (!(b==([]:Bt))) (some (1:Int)) (some (0:Int))))
def AhE:Tbl:=(183,⟨⟨[(0,Zd),(1,Zc)],[]⟩,[⟨[(0,Za)],[]⟩],λt=>(o183 t.1 t.2)⟩)::AhD
theorem Amt:TK AhE:=kc Ams Tryz.f183 .d λt=>by kernel_rfl
def o184(b:Int)(c:Bool)(e:Int)(f:Int):Option Int:=
 (bd (cnd c (cnd (b<e) (some (b,c,true)) (some (b,c,(decide (b>f))))) (some (b,c,false))) (λd=>(cnd d.2.2 (some (2:Int)) (bd (cnd (!d.2.1) (some (d.1 !=0)) (some false)) (λg=>(cnd g (some (1:Int)) (some (0:Int))))))))
def AhF:Tbl:=(184,⟨⟨[(0,Za),(1,Zc),(2,Za),(3,Za)],[]⟩,[⟨[(0,Za)],[]⟩],λt=>(o184 t.1.1 t.1.2 t.2.1 t.2.2)⟩)::AhE
theorem Amu:TK AhF:=kc Amt Tryz.f184 (.s .d (.s (.b (.s (.j false [⟨[(0,Za),(1,Zc),(9,Zc)],[]⟩] .d) (.c .d (.s (.j false [⟨[(21,Zc)],[]⟩] .d) .d)))) .d)) λt=>by kernel_rfl
def DQ:SSh:= .v (.agg [.i .u8,.s,.s,.i .u8,.b,.i .i64,.i .i64,.i .i64,.i .i64,.i .i64,.i .i64,.i .i64,.i .i64])
def o126(b:Ai):Option Int:=
 (bd (o182 b.1.1.1) (λo=>(cnd (!o) (some (17:Int)) (gd ((0:Int)<=b.1.1.1/\b.1.1.1<18) (bd (o183 b.1.1.2.1 ((landK .u16 (aA gl0 b.1.1.1.toNat (0:Int)) (1:Int))!=0)) (λi=>(cnd (i !=0) (some i) (bd (o183 b.1.1.2.2 ((landK .u16 (aA gl0 b.1.1.1.toNat (0:Int)) (2:Int))!=0)) (λj=>(cnd (j !=0) (some j) (jd (cnd ((landK .u16 (aA gl0 b.1.1.1.toNat (0:Int)) (4:Int))!=0) (bd (cnd (b.1.2.1 !=1) (some ((aA gl0 b.1.1.1.toNat (0:Int)),(b.1.2.1 !=2),b)) (some ((aA gl0 b.1.1.1.toNat (0:Int)),false,b))) (λh=>(cnd h.2.1 (dnO (some (1:Int))) (some (Ctl.go (h.1,h.2.2)))))) (cnd (b.1.2.1 !=0) (dnO (some (1:Int))) (some (Ctl.go ((aA gl0 b.1.1.1.toNat (0:Int)),b))))) (λe=>(bd (cnd e.2.1.2.2.1 (some (e.1,((landK .u16 e.1 (8:Int))==0),e.2)) (some (e.1,false,e.2))) (λc=>(cnd c.2.1 (some (1:Int)) (bd (o184 c.2.2.1.2.2.2 ((landK .u16 c.1 (16:Int))!=0) (0:Int) (129599999:Int)) (λk=>(cnd (k !=0) (some k) (bd (o184 c.2.2.2.1.1 ((landK .u16 c.1 (32:Int))!=0) (1:Int) (2000000:Int)) (λl=>(cnd (l !=0) (some l) (bd (o184 c.2.2.2.1.2.1 ((landK .u16 c.1 (64:Int))!=0) (1:Int) (2000000:Int)) (λm=>(cnd (m !=0) (some m) (bd (o184 c.2.2.2.1.2.2 ((landK .u16 c.1 (128:Int))!=0) (0:Int) (129599999:Int)) (λn=>(cnd (n !=0) (some n) (bd (cnd (c.2.2.1.1.1==7) (some (true,c.2.2)) (cnd (c.2.2.1.1.1==11) (some (true,c.2.2)) (some ((c.2.2.1.1.1==14),c.2.2)))) (λd=>(bd (cnd (d.2.2.2.1.1<(-200000:Int)) (some (d.1,true,d.2)) (cnd (d.2.2.2.1.1>d.2.2.2.1.2) (some (d.1,true,d.2)) (some (d.1,(decide (d.2.2.2.1.2>6000000)),d.2)))) (λf=>(cnd f.2.1 (some (2:Int)) (bd (cnd f.1 (some ((f.2.2.2.2.1.1==(-200000:Int)),f.2.2)) (some (false,f.2.2))) (λg=>(cnd g.1 (some (2:Int)) (bd (cnd (g.2.2.2.2.1<0) (some true) (cnd (g.2.2.2.2.1>1000) (some true) (cnd (g.2.2.2.2.2<0) (some true) (some (decide (g.2.2.2.2.2>120000)))))) (λp=>(cnd p (some (2:Int)) (some (0:Int))))))))))))))))))))))))))))))))))))))))
def AhG:Tbl:=(126,⟨⟨[(0,DQ)],[]⟩,[⟨[(0,Za)],[]⟩],λt=>(o126 t)⟩)::AhF
theorem Amv:TK AhG:=kc Amu Tryz.f126 (.s .d (.s .d (.s .d (.s .d (.s .d (.j true [⟨[(1,Zb),(3,.v (.c (.i .u16)))],[Ag]⟩] (.s (.s .d (.c (.s (.j false [⟨[(1,Zb),(3,.v (.c (.i .u16))),(47,Zc)],[Ag]⟩] .d) .d) .d)) (.s (.s (.j false [⟨[(1,Zb),(3,.v (.c (.i .u16))),(57,Zc)],[Ag]⟩] .d) .d) (.s .d (.s .d (.s .d (.s .d (.s (.j false [⟨[(1,Zb),(10,Zc)],[Ag]⟩] .d) (.s (.b (.s (.j false [⟨[(1,Zb),(10,Zc),(107,Zc)],[Ag]⟩] .d) (.c .d (.s (.j false [⟨[(1,Zb),(127,Zc)],[Ag]⟩] .d) (.c .d (.s (.j false [⟨[(135,Zc)],[]⟩] .d) .d)))))) .d)))))))))))))) λt=>by kernel_rfl
def HG:BSh:= .cells 96 [.ic .u8 (0),.s,.s,.ic .u8 (0),.bc false,.ic .i64 (0),.ic .i64 (0),.ic .i64 (0),.ic .i64 (0),.ic .i64 (0),.ic .i64 (0),.ic .i64 (0),.ic .i64 (0)]
def Xv:SSh:= .tup [.agg [.i .u8,.s,.s,.i .u8,.b,.i .i64,.i .i64,.i .i64,.i .i64,.i .i64,.i .i64,.i .i64,.i .i64],.c (.i .i64),.c (.i .i64)]
abbrev HH:Type:=((Int×Bt×Bt)×(Int×Bool)×Int×Int)×((Int×Int)×Int×Int)×(Int×Int)×Int×Int
def SU:Sch:=⟨[(2,Zb),(5,Zg),(6,Zi)],[HG,Ay,Ag]⟩
def Gg:Sch:=⟨[(2,Zb),(5,Zg),(6,Zi),(7,.v (.c (.i .u16)))],[HG,Ay,Ag]⟩
def o168(m:Bt):Option HH:=
 (bd (o92 m ([32]:Bt)) (λo=>(bd (o221 ((1:Int),(m.length:Int),(0:Int)) o ((((0:Int),([]:Bt),([]:Bt)),(0:Int),false,(0:Int)),((0:Int),(0:Int),(0:Int)),((-200000:Int),(6000000:Int)),(0:Int),(0:Int))) (λc=>(gd ((0:Int)<=c.2.1.1.1/\c.2.1.1.1<18) (bd (cnd ((landK .u16 (aA gl0 c.2.1.1.1.toNat (0:Int)) (1:Int))!=0) (bd (Ng c.1 c.2) (λp=>(some (((aA gl0 c.2.1.1.1.toNat (0:Int)),([]:Bt),([]:Bt)),p)))) (some (((aA gl0 c.2.1.1.1.toNat (0:Int)),([]:Bt),([]:Bt)),c))) (λf=>(bd (cnd ((landK .u16 f.1.1 (2:Int))!=0) (bd (Nh f.2.1 f.2.2) (λq=>(some (f.1,q)))) (some f)) (λg=>(bd (cnd ((landK .u16 g.1.1 (4:Int))!=0) (bd (Ni g.2.1 g.2.2) (λr=>(some (g.1,r)))) (some g)) (λh=>(bd (cnd ((landK .u16 h.1.1 (16:Int))!=0) (bd (Nj h.2.1 h.2.2) (λs=>(some (h.1,s)))) (some h)) (λi=>(bd (cnd ((landK .u16 i.1.1 (32:Int))!=0) (bd (Nk i.2.1 i.2.2) (λu=>(some (i.1,u)))) (some i)) (λj=>(bd (cnd ((landK .u16 j.1.1 (64:Int))!=0) (bd (Nl j.2.1 j.2.2) (λv=>(some (j.1,v)))) (some j)) (λe=>(bd (cnd ((landK .u16 e.1.1 (128:Int))!=0) (bd (Nn e.2.1 e.2.2) (λw=>(some (e.1.2,w)))) (some (e.1.2,e.2))) (λk=>(bd (o234 k.2.1 k.2.2) (λl=>(bd (bd (o235 l.1) (λx=>(bd (cnd x.2 (some (((l.1.2.2==0),k.1),l)) (some ((false,k.1),l))) (λd=>(cnd d.1.1 (some (d.1.2,(d.2.1.1,d.2.1.2.1,d.2.1.1.2),d.2.2)) (some (d.1.2,d.2))))))) (λb=>(cnd (b.2.1.2.2 !=0) (some ((((0:Int),([]:Bt),([]:Bt)),((0:Int),false),(0:Int),(0:Int)),(((0:Int),(0:Int)),(0:Int),(0:Int)),((0:Int),(0:Int)),b.2.1.2.2,(4:Int))) (bd (o126 b.2.2) (λn=>(cnd (n !=0) (some ((((0:Int),([]:Bt),([]:Bt)),((0:Int),false),(0:Int),(0:Int)),(((0:Int),(0:Int)),(0:Int),(0:Int)),((0:Int),(0:Int)),(0:Int),n)) (some ((b.2.2.1.1,(b.2.2.1.2.1,b.2.2.1.2.2.1),b.2.2.1.2.2.2,b.2.2.2.1.1),(b.2.2.2.1.2,b.2.2.2.2.1),b.2.2.2.2.2,(0:Int),(0:Int))))))))))))))))))))))))))))))
def AhH:Tbl:=(168,⟨⟨[(0,Zd)],[]⟩,[⟨[(0,Xv)],[]⟩],λt=>(o168 t)⟩)::AhG
theorem Amw:TK AhH:=kc Amv Tryz.f168 (.s .d (.s .d (.s .d (.s .d (.s .d (.j false [Gg] (.s .d (.j false [Gg] (.s .d (.j false [Gg] (.s .d (.j false [Gg] (.s .d (.j false [Gg] (.s .d (.j false [Gg] (.s .d (.j false [SU] (.s .d (.s .d (.j false [SU] (.s (.s .d (.s (.j false [⟨[(2,Zb),(5,Zg),(6,Zi),(82,Zc)],[HG,Ay,Ag]⟩] .d) .d)) .d)))))))))))))))))))))) λt=>by kernel_rfl
def HI:BSh:= .cells 116 [.ro Yd true,.own 3,.s,.i .i64,.i .i64,.i .i64,.i .i64,.i .i64,.own 2,.b,.b,.b]
def IF(b:Int×Fdl)(c:Int)(e:AG)(d:Dgl)(f:List As):Option (AG×List As×Dgl):=
 (cnd (c !=0) (gd ((0:Int)<=0/\(0:Int)<(b.2.length:Int)) (gd (decide ((d.length+([(b.1,((aA b.2 (0:Int).toNat (([]:Bt),(0:Int))).2,c))]:Dgl).length)*24<=140737488355328)) (some (e,f,(d++([(b.1,((aA b.2 (0:Int).toNat (([]:Bt),(0:Int))).2,c))]:Dgl)))))) (some (e,f,d)))
def AhI:Tbl:=(101,⟨⟨[(0,Zb),(1,Ex),(2,Za)],[Bs,Ap,.tree Bf 123]⟩,[⟨[(0,Zs)],[HI,.no,.tree Bf 123,Ap]⟩],λt=>(IF t.1.1 t.1.2 t.2.1 t.2.2.1 t.2.2.2)⟩)::AhH
theorem Amx:TK AhI:=kc Amw Tryz.f101 (.s .d (.s .d (.c (.r 2) .d))) λt=>by kernel_rfl
def Xw:BSh:= .cells 116 [.ro Yd true,.own 4,.s,.i .i64,.i .i64,.i .i64,.i .i64,.i .i64,.own 2,.b,.b,.b]
def GM(d:AG)(c:Dgl)(e:List As)(f:Fu):Option (AG×List As×Dgl):=
 (bd (o164 f) (λb=>(cnd b.2.2 (gd ((c.length+([(b.1.1,(b.1.2,b.2.1))]:Dgl).length)*24<=140737488355328) (some (d,e,(c++([(b.1.1,(b.1.2,b.2.1))]:Dgl))))) (some (d,e,c)))))
def AhJ:Tbl:=(160,⟨⟨[(0,Zb),(1,Zr)],[Bs,Ap,.tree Bf 123,Hz]⟩,[⟨[(0,Zs)],[Xw,.no,.tree Bf 123,.no,Ap]⟩],λt=>(GM t.1.1 t.1.2 t.2.1 t.2.2)⟩)::AhI
theorem Amy:TK AhJ:=kc Amx Tryz.f160 (.s .d (.s .d (.c (.r 2) .d))) λt=>by kernel_rfl
def SX(k:Int×Fdl)(f:AG)(l:Dgl)(m:List As):Option (AG×List As×Dgl):=
 (bd (o154 k) (λg=>(bd (o155 ((g.1,(0:Int),(1:Int)),(0:Int),(0:Int),(0:Int)) g.2) (λh=>(bd (o156 (8:Int) h.2.1 h.2.2) (λc=>(bd (o155 c.2.1 c.2.2) (λd=>(bd (o157 d.1) (λe=>(bd (o158 e.2 d.2.1 d.2.2) (λi=>(bd (o115 e.1) (λj=>(bd (o159 i.1 i.2) (λb=>(bd (GM (((f.1.1.1,c.1),e.1,j.1,j.2.1),b.1,f.2.2) l m ((b.2.1.1.1,b.2.2,b.2.1.1.2.1),(b.2.1.1.2.2,b.2.1.2.1),b.2.1.2.2)) (λn=>(some n)))))))))))))))))))
def AhK:Tbl:=(94,⟨⟨[(0,Zb),(1,Ex)],[Bs,Ap,.tree Bf 123]⟩,[⟨[(0,Zs)],[HI,.no,.tree Bf 123,Ap]⟩],λt=>(SX t.1.1 t.1.2 t.2.1 t.2.2)⟩)::AhJ
theorem Amz:TK AhK:=kc Amy Tryz.f94 .d λt=>by kernel_rfl
abbrev Xx:Type:=(Rcl×AG)×Dgl×List As
abbrev Pp:Type:=(Int×Int)×AG×Dgl×List As
def My(d:Int)(e:AG)(f:Dgl)(g:List As):Option Xx:=
 (loopO (σ:=Pp) fuelN (λ(b:Pp)=>(bd (cnd (b.1.2<(b.2.1.1.1.1.length:Int)) (gd ((0:Int)<=b.1.2/\b.1.2<(b.2.1.1.1.1.length:Int)) (gd ((0:Int)<=0/\(0:Int)<((((aA b.2.1.1.1.1 b.1.2.toNat Bm).2).length:Nat):Int)) (some ((b.1.1,b.1.2,((aA ((aA b.2.1.1.1.1 b.1.2.toNat Bm).2) (0:Int).toNat (([]:Bt),(0:Int))).1==([86,73,65]:Bt))),b.2)))) (some ((b.1.1,b.1.2,false),b.2))) (λc=>(cnd c.1.2.2 (some (Ctl.go ((c.1.1,(wrap .i64 (c.1.2.1+1))),c.2))) (dnO (gd ((0:Int)<=(wrap .i64 (c.1.1+1))/\(wrap .i64 (c.1.1+1))<=c.1.2.1/\c.1.2.1<=(c.2.1.1.1.1.length:Int)) (some (((aP (c.1.2.1.toNat-(wrap .i64 (c.1.1+1)).toNat) (aM (wrap .i64 (c.1.1+1)).toNat c.2.1.1.1.1)),c.2.1),c.2.2)))))))) ((d,(wrap .i64 (d+1))),e,f,g))
def AhL:Tbl:=(97,⟨⟨[(0,Zb),(1,Za)],[Bs,Ap,.tree Bf 123]⟩,[⟨[(0,BR)],[Bs,Ap,.tree Bf 123]⟩],λt=>(My t.1.1 t.1.2 t.2.1 t.2.2)⟩)::AhK
theorem AmA:TK AhL:=kc Amz Tryz.f97 (.s .d (.s .d (.s (.b (.l [⟨[(0,Zb),(1,Za),(5,Za)],[Bs,Ap,.tree Bf 123]⟩] (.s (.s (.j false [⟨[(0,Zb),(1,Za),(5,Za),(28,Zc)],[Bs,Ap,.tree Bf 123]⟩] .d) .d) .d))) .d))) λt=>by kernel_rfl
def KW:BSh:= .cells 116 [.ro Yd true,.own 5,.s,.i .i64,.i .i64,.i .i64,.i .i64,.i .i64,.own 2,.b,.b,.b]
def KX:BSh:= .cells 116 [.ro Yd true,.own 3,.s,.i .i64,.i .i64,.i .i64,.i .i64,.i .i64,.own 4,.b,.b,.b]
def Jg(d:Int×Fdl)(e:Rcl)(g:AG)(f:Dgl)(h:List As):Option (AG×Dgl×List As):=
 (gd ((([(d.1,d.2)]:Rcl).length+e.length)*32<=140737488355328) (bd (o165 (([(d.1,d.2)]:Rcl)++e)) (λc=>(bd (cnd c.1.2.2.2 (gd ((f.length+([(c.1.1.2,(c.1.2.1,c.1.2.2.1))]:Dgl).length)*24<=140737488355328) (some ((e,g,h),(d,c.1.1.1),(f++([(c.1.1.2,(c.1.2.1,c.1.2.2.1))]:Dgl)),c.2))) (some ((e,g,h),(d,c.1.1.1),f,c.2))) (λb=>(gd (decide (0<([((97:Int),((b.2.1.1.1,b.2.1.1.2),((([]:Bt),(([]:Bt),((0:Int),(((0:Int),(0:Int)),((0:Int),(0:Int)))))),((b.2.1.2,b.2.2.2),(b.1.1,((([]:Bt),(([]:Bt),((0:Int),([]:List (Int×Bt×List Af))))),(([]:Rcl),([]:List Rcl))))))))]:List As).length/\(b.1.2.2.length+([((97:Int),((b.2.1.1.1,b.2.1.1.2),((([]:Bt),(([]:Bt),((0:Int),(((0:Int),(0:Int)),((0:Int),(0:Int)))))),((b.2.1.2,b.2.2.2),(b.1.1,((([]:Bt),(([]:Bt),((0:Int),([]:List (Int×Bt×List Af))))),(([]:Rcl),([]:List Rcl))))))))]:List As).length)*288<=140737488355328)) (some (b.1.2.1,b.2.2.1,(b.1.2.2++([((97:Int),((b.2.1.1.1,b.2.1.1.2),((([]:Bt),(([]:Bt),((0:Int),(((0:Int),(0:Int)),((0:Int),(0:Int)))))),((b.2.1.2,b.2.2.2),(b.1.1,((([]:Bt),(([]:Bt),((0:Int),([]:List (Int×Bt×List Af))))),(([]:Rcl),([]:List Rcl))))))))]:List As))))))))))
def AhM:Tbl:=(96,⟨⟨[(0,Zb),(1,HF),(2,BR)],[Bs,Ap,.tree Bf 123]⟩,[⟨[(0,Zs)],[KX,.no,.no,Ap,.tree Bf 123]⟩],λt=>(Jg t.1.1 t.1.2 t.2.1 t.2.2.1 t.2.2.2)⟩)::AhL
theorem AmB:TK AhM:=kc AmA Tryz.f96 (.s .d (.s .d (.j false [⟨[(0,Zb),(2,BR),(4,Zr),(6,Zx)],[KW,.no,.tree Bf 123,BJ,.cells 81 [.s,.own 6],Ap,Ez]⟩] (.s (.s .d (.c (.r 2) .d)) (.r 2))))) λt=>by kernel_rfl
def HJ(c:Int×Fdl)(f:Int)(i:AG)(j:Dgl)(k:List As):Option (AG×Dgl×List As):=
 (bd (o154 c) (λg=>(bd (o155 ((g.1,(0:Int),(1:Int)),(0:Int),(0:Int),(0:Int)) g.2) (λh=>(bd (o156 (6:Int) h.2.1 h.2.2) (λd=>(bd (o156 (8:Int) d.2.1 d.2.2) (λb=>(bd (GM i j k ((b.2.1.1.1,b.2.2,b.2.1.1.2.1),(b.2.1.1.2.2,b.2.1.2.1),b.2.1.2.2)) (λe=>(gd (decide (0<([((112:Int),((c.1,c.2),((([]:Bt),(([]:Bt),((0:Int),(((0:Int),(0:Int)),((0:Int),(0:Int)))))),((([]:Bt),([]:List (Bt×(Int×Int)×Int))),(([]:Rcl),((d.1,(b.1,(f,([]:List (Int×Bt×List Af))))),(([]:Rcl),([]:List Rcl))))))))]:List As).length/\(e.2.1.length+([((112:Int),((c.1,c.2),((([]:Bt),(([]:Bt),((0:Int),(((0:Int),(0:Int)),((0:Int),(0:Int)))))),((([]:Bt),([]:List (Bt×(Int×Int)×Int))),(([]:Rcl),((d.1,(b.1,(f,([]:List (Int×Bt×List Af))))),(([]:Rcl),([]:List Rcl))))))))]:List As).length)*288<=140737488355328)) (some (e.1,e.2.2,(e.2.1++([((112:Int),((c.1,c.2),((([]:Bt),(([]:Bt),((0:Int),(((0:Int),(0:Int)),((0:Int),(0:Int)))))),((([]:Bt),([]:List (Bt×(Int×Int)×Int))),(([]:Rcl),((d.1,(b.1,(f,([]:List (Int×Bt×List Af))))),(([]:Rcl),([]:List Rcl))))))))]:List As)))))))))))))))
def AhN:Tbl:=(98,⟨⟨[(0,Zb),(1,HF),(2,Zh)],[Bs,Ap,.tree Bf 123]⟩,[⟨[(0,Zs)],[KX,.no,.no,Ap,.tree Bf 123]⟩],λt=>(HJ t.1.1 t.1.2 t.2.1 t.2.2.1 t.2.2.2)⟩)::AhM
theorem AmC:TK AhN:=kc AmB Tryz.f98 (.s .d (.s .d (.s .d (.s .d (.s .d (.r 2)))))) λt=>by kernel_rfl
def Xy:BSh:= .lent [.ro Yd false,.ro (.p (.i .i64) Ye) false,.s,.i .i64,.i .i64,.i .i64,.i .i64,.i .i64,.own 1,.b,.b,.b]
def Xz:SSh:= .v (.c (.eo 1 Ya 0))
abbrev XA:Type:=((Rcl×Dgl)×Bt×Int×Int)×(Int×Int×Int)×Bool×Bool×Bool
def o166(c:XA)(b:List As):Option (Int×List As):=
 (gd ((0:Int)<=(wrap .i64 ((b.length:Int)-1))/\(wrap .i64 ((b.length:Int)-1))<(b.length:Int)) (some ((((wrap .i64 ((b.length:Int)-1)).toNat:Nat):Int),b)))
def AhO:Tbl:=(166,⟨⟨[(0,Zb)],[Xy,.tree Bf 123]⟩,[⟨[(0,Xz)],[.no,.tree Bf 123]⟩],λt=>(o166 t.1 t.2)⟩)::AhN
theorem AmD:TK AhO:=kc AmC Tryz.f166 .d λt=>by kernel_rfl
def XB:BSh:= .cells 299 [.i .i64,.own 6,.i .i64,.i .i64,.i .i64,.i .i64,.i .i64]
abbrev XC:Type:=(AG×Dgl×List As)×((Int×Fdl)×(Int×Int×Int)×Int×Int×Int)×(Int×Bt)×Fdl
abbrev XD:Type:=(Bool×AG×List As)×(Int×Fdl)×(Int×Bt)×Dgl
def Ab:As:=((0:Int),(((0:Int),([]:Fdl)),((([]:Bt),(([]:Bt),((0:Int),(((0:Int),(0:Int)),((0:Int),(0:Int)))))),((([]:Bt),([]:List (Bt×(Int×Int)×Int))),(([]:Rcl),((([]:Bt),(([]:Bt),((0:Int),([]:List (Int×Bt×List Af))))),(([]:Rcl),([]:List Rcl))))))))
def Pq(g:Int×Fdl)(h:AG)(i:Dgl)(j:List As):Option (AG×List As×Dgl):=
 (bd (o154 g) (λm=>(bd (o155 ((m.1,(0:Int),(1:Int)),(0:Int),(0:Int),(0:Int)) m.2) (λn=>(bd (bd (o161 ([([82,85,78,87,65,89]:Bt),([67,79,77,77,79,78]:Bt),([69,78,82,79,85,84,69]:Bt),([77,73,83,83,69,68]:Bt)]:List Bt) n.2.1 n.2.2) (λd=>(cnd (d.1==0) (bd (o156 (8:Int) d.2.1 d.2.2) (λk=>(some ((h,i,j),(g,k.2.1),((1:Int),k.1),k.2.2)))) (cnd (d.1==1) (some ((h,i,j),(g,d.2.1),((2:Int),([]:Bt)),d.2.2)) (cnd (d.1==2) (bd (o156 (8:Int) d.2.1 d.2.2) (λl=>(some ((h,i,j),(g,l.2.1),((3:Int),l.1),l.2.2)))) (cnd (d.1==3) (some ((h,i,j),(g,d.2.1),((4:Int),([]:Bt)),d.2.2)) (some ((h,i,j),(g,d.2.1),((0:Int),([]:Bt)),d.2.2)))))))) (λe=>(bd (GM e.1.1 e.1.2.1 e.1.2.2 ((e.2.1.2.1.1,e.2.2.2,e.2.1.2.1.2.1),(e.2.1.2.1.2.2,e.2.1.2.2.1),e.2.1.2.2.2)) (λf=>(bd (cnd ((f.2.1.length:Int)>0) (gd ((0:Int)<=(wrap .i64 ((f.2.1.length:Int)-1))/\(wrap .i64 ((f.2.1.length:Int)-1))<(f.2.1.length:Int)) (some ((((aA f.2.1 ((wrap .i64 ((f.2.1.length:Int)-1)).toNat) Ab).1==112),f.1,f.2.1),e.2.1.1,e.2.2.1,f.2.2))) (some ((false,f.1,f.2.1),e.2.1.1,e.2.2.1,f.2.2))) (λc=>(cnd c.1.1 (bd (o166 (((c.1.2.1.1.1.1,c.2.2.2),c.1.2.1.1.1.2,c.1.2.1.1.2.1,c.1.2.1.1.2.2.1),(c.1.2.1.1.2.2.2,c.1.2.1.2.1),c.1.2.1.2.2) c.1.2.2) (λb=>(gd (decide (0<([(c.2.2.1.1,(c.2.2.1.2,([]:List Af)))]:List (Int×Bt×List Af)).length/\(((((((((((aA b.2 b.1.toNat Ab).2).2).2).2).2).1).2).2).2).length+([(c.2.2.1.1,(c.2.2.1.2,([]:List Af)))]:List (Int×Bt×List Af)).length)*48<=140737488355328)) (gd (aR b.1.toNat b.1.toNat) (gd (aR b.1.toNat b.1.toNat) (gd (decide ((((((((((aA b.2 b.1.toNat Ab).2).2).2).2).2).2).1).length+([(c.2.1.1,c.2.1.2)]:Rcl).length)*32<=140737488355328)) (gd (aR b.1.toNat b.1.toNat) (gd (aR b.1.toNat b.1.toNat) (gd (decide (0<([([]:Rcl)]:List Rcl).length/\(((((((((aA b.2 b.1.toNat Ab).2).2).2).2).2).2).2).length+([([]:Rcl)]:List Rcl).length)*24<=140737488355328)) (gd (aR b.1.toNat b.1.toNat) (some (c.1.2.1,(aS b.2 b.1.toNat ((aA b.2 b.1.toNat Ab).1,(((aA b.2 b.1.toNat Ab).2).1,((((aA b.2 b.1.toNat Ab).2).2).1,(((((aA b.2 b.1.toNat Ab).2).2).2).1,((((((aA b.2 b.1.toNat Ab).2).2).2).2).1,(((((((((aA b.2 b.1.toNat Ab).2).2).2).2).2).1).1,(((((((((aA b.2 b.1.toNat Ab).2).2).2).2).2).1).2).1,((((((((((aA b.2 b.1.toNat Ab).2).2).2).2).2).1).2).2).1,((((((((((aA b.2 b.1.toNat Ab).2).2).2).2).2).1).2).2).2++([(c.2.2.1.1,(c.2.2.1.2,([]:List Af)))]:List (Int×Bt×List Af)))))),(((((((((aA b.2 b.1.toNat Ab).2).2).2).2).2).2).1++([(c.2.1.1,c.2.1.2)]:Rcl)),((((((((aA b.2 b.1.toNat Ab).2).2).2).2).2).2).2++([([]:Rcl)]:List Rcl)))))))))),c.2.2.2)))))))))))) (some (c.1.2.1,c.1.2.2,c.2.2.2)))))))))))))
def AhP:Tbl:=(99,⟨⟨[(0,Zb),(1,HF)],[Bs,Ap,.tree Bf 123]⟩,[⟨[(0,Zs)],[HI,.no,.tree Bf 123,Ap]⟩],λt=>(Pq t.1.1 t.1.2 t.2.1 t.2.2)⟩)::AhO
theorem AmE:TK AhP:=kc AmD Tryz.f99 (.s .d (.s .d (.s .d (.s .d (.j false [⟨[(0,Zb),(3,Zr),(4,Zx),(5,.v (.c (.ptr 5 0)))],[Bs,Ap,.tree Bf 123,BJ,XB,Pl,.row Yc 189]⟩] (.s .d (.s .d (.s .d (.s (.j false [⟨[(0,Zb),(3,Zr),(5,Zx),(55,Zc)],[KW,.no,.tree Bf 123,BJ,Pl,Ap]⟩] .d) (.c (.s .d (.s (.r 8) (.s (.r 8) .d))) .d)))))))))) λt=>by kernel_rfl
abbrev XE:Type:=(Int×AG×Dgl)×List As×(Int×Fdl)×Ai
def AD:Int×Bt×List Af:=((0:Int),(([]:Bt),([]:List Af)))
def Dj:Rcl:=([]:Rcl)
def KY(g:Int×Fdl)(h:AG)(i:Dgl)(j:List As):Option (AG×List As×Dgl):=
 (bd (o154 g) (λk=>(bd (o155 ((k.1,(0:Int),(1:Int)),(0:Int),(0:Int),(0:Int)) k.2) (λl=>(bd (o167 l.2.1 l.2.2) (λm=>(bd (o168 m.1) (λd=>(bd (cnd (m.1==([]:Bt)) (some (((4:Int),h,i),j,g,(d.1.1,d.1.2.1.1,d.1.2.1.2,d.1.2.2.1),(d.1.2.2.2,d.2.1.1),d.2.1.2,d.2.2.1)) (some ((d.2.2.2.2,h,i),j,g,(d.1.1,d.1.2.1.1,d.1.2.1.2,d.1.2.2.1),(d.1.2.2.2,d.2.1.1),d.2.1.2,d.2.2.1))) (λf=>(bd (IF f.2.2.1 f.1.1 f.1.2.1 f.1.2.2 f.2.1) (λe=>(bd (cnd ((e.2.1.length:Int)>0) (gd ((0:Int)<=(wrap .i64 ((e.2.1.length:Int)-1))/\(wrap .i64 ((e.2.1.length:Int)-1))<(e.2.1.length:Int)) (some ((((aA e.2.1 ((wrap .i64 ((e.2.1.length:Int)-1)).toNat) Ab).1==112),e.1,e.2.1),f.2.2.1,f.2.2.2,e.2.2))) (some ((false,e.1,e.2.1),f.2.2.1,f.2.2.2,e.2.2))) (λc=>(cnd c.1.1 (bd (o166 (((c.1.2.1.1.1.1,c.2.2.2),c.1.2.1.1.1.2,c.1.2.1.1.2.1,c.1.2.1.1.2.2.1),(c.1.2.1.1.2.2.2,c.1.2.1.2.1),c.1.2.1.2.2) c.1.2.2) (λb=>(cnd (decide (((((((((((((aA b.2 b.1.toNat Ab).2).2).2).2).2).1).2).2).2).length:Nat):Int)>0)) (gd (aR b.1.toNat b.1.toNat) (gd (aR b.1.toNat b.1.toNat) (gd (decide ((0:Int)<=(wrap .i64 (((((((((((((aA b.2 b.1.toNat Ab).2).2).2).2).2).1).2).2).2).length:Nat):Int)-1))/\(wrap .i64 (((((((((((((aA b.2 b.1.toNat Ab).2).2).2).2).2).1).2).2).2).length:Nat):Int)-1))<((((((((((((aA b.2 b.1.toNat Ab).2).2).2).2).2).1).2).2).2).length:Nat):Int))) (gd (decide (((((aA ((((((((((aA b.2 b.1.toNat Ab).2).2).2).2).2).1).2).2).2) ((wrap .i64 (((((((((((((aA b.2 b.1.toNat Ab).2).2).2).2).2).1).2).2).2).length:Nat):Int)-1)).toNat) AD).2).2).length+([(c.2.2.1.1.1.1,(c.2.2.1.1.1.2.1,(c.2.2.1.1.1.2.2,(c.2.2.1.1.2.1,(c.2.2.1.1.2.2.1,(c.2.2.1.1.2.2.2,(c.2.2.1.2.1.1,(c.2.2.1.2.1.2.1,(c.2.2.1.2.1.2.2,((c.2.2.1.2.2.1.1,c.2.2.1.2.2.1.2),(c.2.2.1.2.2.2.1,c.2.2.1.2.2.2.2)))))))))))]:List Af).length)*112<=140737488355328)) (gd (decide ((0:Int)<=(wrap .i64 (((((((((((((aA b.2 b.1.toNat Ab).2).2).2).2).2).1).2).2).2).length:Nat):Int)-1))/\(wrap .i64 (((((((((((((aA b.2 b.1.toNat Ab).2).2).2).2).2).1).2).2).2).length:Nat):Int)-1))<((((((((((((aA b.2 b.1.toNat Ab).2).2).2).2).2).1).2).2).2).length:Nat):Int))) (gd (aR ((wrap .i64 (((((((((((((aA b.2 b.1.toNat Ab).2).2).2).2).2).1).2).2).2).length:Nat):Int)-1)).toNat) ((wrap .i64 (((((((((((((aA b.2 b.1.toNat Ab).2).2).2).2).2).1).2).2).2).length:Nat):Int)-1)).toNat)) (gd (aR b.1.toNat b.1.toNat) (gd (aR b.1.toNat b.1.toNat) (gd (decide ((0:Int)<=(wrap .i64 (((((((((((((aA b.2 b.1.toNat Ab).2).2).2).2).2).1).2).2).2).length:Nat):Int)-1))/\(wrap .i64 (((((((((((((aA b.2 b.1.toNat Ab).2).2).2).2).2).1).2).2).2).length:Nat):Int)-1))<((((((((((aA b.2 b.1.toNat Ab).2).2).2).2).2).2).2).length:Nat):Int))) (gd (decide (((aA ((((((((aA b.2 b.1.toNat Ab).2).2).2).2).2).2).2) ((wrap .i64 (((((((((((((aA b.2 b.1.toNat Ab).2).2).2).2).2).1).2).2).2).length:Nat):Int)-1)).toNat) Dj).length+([(c.2.1.1,c.2.1.2)]:Rcl).length)*32<=140737488355328)) (gd (decide ((0:Int)<=(wrap .i64 (((((((((((((aA b.2 b.1.toNat Ab).2).2).2).2).2).1).2).2).2).length:Nat):Int)-1))/\(wrap .i64 (((((((((((((aA b.2 b.1.toNat Ab).2).2).2).2).2).1).2).2).2).length:Nat):Int)-1))<((((((((((aA b.2 b.1.toNat Ab).2).2).2).2).2).2).2).length:Nat):Int))) (gd (aR ((wrap .i64 (((((((((((((aA b.2 b.1.toNat Ab).2).2).2).2).2).1).2).2).2).length:Nat):Int)-1)).toNat) ((wrap .i64 (((((((((((((aA b.2 b.1.toNat Ab).2).2).2).2).2).1).2).2).2).length:Nat):Int)-1)).toNat)) (some (c.1.2.1,(aS b.2 b.1.toNat ((aA b.2 b.1.toNat Ab).1,(((aA b.2 b.1.toNat Ab).2).1,((((aA b.2 b.1.toNat Ab).2).2).1,(((((aA b.2 b.1.toNat Ab).2).2).2).1,((((((aA b.2 b.1.toNat Ab).2).2).2).2).1,(((((((((aA b.2 b.1.toNat Ab).2).2).2).2).2).1).1,(((((((((aA b.2 b.1.toNat Ab).2).2).2).2).2).1).2).1,((((((((((aA b.2 b.1.toNat Ab).2).2).2).2).2).1).2).2).1,(aS ((((((((((aA b.2 b.1.toNat Ab).2).2).2).2).2).1).2).2).2) ((wrap .i64 (((((((((((((aA b.2 b.1.toNat Ab).2).2).2).2).2).1).2).2).2).length:Nat):Int)-1)).toNat) ((aA ((((((((((aA b.2 b.1.toNat Ab).2).2).2).2).2).1).2).2).2) ((wrap .i64 (((((((((((((aA b.2 b.1.toNat Ab).2).2).2).2).2).1).2).2).2).length:Nat):Int)-1)).toNat) AD).1,(((aA ((((((((((aA b.2 b.1.toNat Ab).2).2).2).2).2).1).2).2).2) ((wrap .i64 (((((((((((((aA b.2 b.1.toNat Ab).2).2).2).2).2).1).2).2).2).length:Nat):Int)-1)).toNat) AD).2).1,(((aA ((((((((((aA b.2 b.1.toNat Ab).2).2).2).2).2).1).2).2).2) ((wrap .i64 (((((((((((((aA b.2 b.1.toNat Ab).2).2).2).2).2).1).2).2).2).length:Nat):Int)-1)).toNat) AD).2).2++([(c.2.2.1.1.1.1,(c.2.2.1.1.1.2.1,(c.2.2.1.1.1.2.2,(c.2.2.1.1.2.1,(c.2.2.1.1.2.2.1,(c.2.2.1.1.2.2.2,(c.2.2.1.2.1.1,(c.2.2.1.2.1.2.1,(c.2.2.1.2.1.2.2,((c.2.2.1.2.2.1.1,c.2.2.1.2.2.1.2),(c.2.2.1.2.2.2.1,c.2.2.1.2.2.2.2)))))))))))]:List Af)))))))),((((((((aA b.2 b.1.toNat Ab).2).2).2).2).2).2).1,(aS ((((((((aA b.2 b.1.toNat Ab).2).2).2).2).2).2).2) ((wrap .i64 (((((((((((((aA b.2 b.1.toNat Ab).2).2).2).2).2).1).2).2).2).length:Nat):Int)-1)).toNat) ((aA ((((((((aA b.2 b.1.toNat Ab).2).2).2).2).2).2).2) ((wrap .i64 (((((((((((((aA b.2 b.1.toNat Ab).2).2).2).2).2).1).2).2).2).length:Nat):Int)-1)).toNat) Dj)++([(c.2.1.1,c.2.1.2)]:Rcl))))))))))),c.2.2.2)))))))))))))) (some (c.1.2.1,(aS b.2 b.1.toNat ((aA b.2 b.1.toNat Ab).1,(((aA b.2 b.1.toNat Ab).2).1,((((aA b.2 b.1.toNat Ab).2).2).1,(((((aA b.2 b.1.toNat Ab).2).2).2).1,((((((aA b.2 b.1.toNat Ab).2).2).2).2).1,(((((((((aA b.2 b.1.toNat Ab).2).2).2).2).2).1).1,(((((((((aA b.2 b.1.toNat Ab).2).2).2).2).2).1).2).1,((((((((((aA b.2 b.1.toNat Ab).2).2).2).2).2).1).2).2).1,(((((((((aA b.2 b.1.toNat Ab).2).2).2).2).2).1).2).2).2))),((((((((aA b.2 b.1.toNat Ab).2).2).2).2).2).2).1,(((((((aA b.2 b.1.toNat Ab).2).2).2).2).2).2).2)))))))),c.2.2.2))))) (some (c.1.2.1,c.1.2.2,c.2.2.2)))))))))))))))))
def AhQ:Tbl:=(100,⟨⟨[(0,Zb),(1,HF)],[Bs,Ap,.tree Bf 123]⟩,[⟨[(0,Zs)],[HI,.no,.tree Bf 123,Ap]⟩],λt=>(KY t.1.1 t.1.2 t.2.1 t.2.2)⟩)::AhP
theorem AmF:TK AhQ:=kc AmE Tryz.f100 (.s .d (.s .d (.s .d (.s .d (.s .d (.j false [⟨[(0,Zb),(3,Zr),(6,Zx),(8,Za)],[Bs,Ap,.tree Bf 123,BJ,Ag]⟩] (.s .d (.s .d (.s .d (.s (.j false [⟨[(0,Zb),(3,Zr),(6,Zx),(48,Zc)],[KW,.no,.tree Bf 123,BJ,Ag,Ap]⟩] .d) (.c (.s .d (.s .d (.s .d (.c (.s (.r 15) (.r 15)) .d)))) .d))))))))))) λt=>by kernel_rfl
def XF:BSh:= .cells 116 [.ro Yd true,.own 4,.s,.i .i64,.i .i64,.i .i64,.i .i64,.i .i64,.own 5,.bc false,.bc false,.bc false]
def XG:BSh:= .cells 116 [.ro Yd true,.own 3,.s,.i .i64,.i .i64,.i .i64,.i .i64,.i .i64,.own 4,.b,.bc false,.bc false]
def XH:BSh:= .cells 116 [.ro Yd true,.own 3,.s,.i .i64,.i .i64,.i .i64,.i .i64,.i .i64,.own 4,.bc false,.b,.bc true]
def XI:BSh:= .cells 116 [.ro Yd true,.own 3,.s,.i .i64,.i .i64,.i .i64,.i .i64,.i .i64,.own 4,.bc false,.b,.b]
def Pr:BSh:= .cells 116 [.ro Yd true,.own 3,.s,.i .i64,.i .i64,.i .i64,.i .i64,.i .i64,.own 4,.bc false,.bc false,.bc false]
def XJ:BSh:= .cells 116 [.ro Yd true,.own 2,.s,.i .i64,.i .i64,.i .i64,.i .i64,.i .i64,.own 3,.b,.b,.b]
abbrev Fw:Type:=(Rcl×Int×Int)×(AG×Fdl)×Dgl×List As
def o43(m:AG):Option (AG×Dgl×List As):=
 (loopO (σ:=Fw) fuelN (λ(c:Fw)=>(cnd (c.1.2.2<c.1.2.1) (gd ((0:Int)<=c.1.2.2/\c.1.2.2<(c.1.1.length:Int)) (bd (some (aA c.1.1 c.1.2.2.toNat Bm)) (λf=>(gd ((0:Int)<=0/\(0:Int)<(f.2.length:Int)) (jd (cnd ((aA f.2 (0:Int).toNat (([]:Bt),(0:Int))).1==([68,65,84,65,66,65,83,69]:Bt)) (cnd (!((c.1.2.2==0)==((aA f.2 (0:Int).toNat (([]:Bt),(0:Int))).1==([68,65,84,65,66,65,83,69]:Bt)))) (some (Ctl.go ((((!((c.1.2.2==0)==((aA f.2 (0:Int).toNat (([]:Bt),(0:Int))).1==([68,65,84,65,66,65,83,69]:Bt)))),c.1.1),c.1.2),((c.2.1.1.1,c.2.1.1.2.1,false,false,false),c.2.1.2),f,c.2.2))) (bd (SX f (c.2.1.1.1,c.2.1.1.2.1,false,false,false) c.2.2.1 c.2.2.2) (λn=>(some (Ctl.go ((((!((c.1.2.2==0)==((aA f.2 (0:Int).toNat (([]:Bt),(0:Int))).1==([68,65,84,65,66,65,83,69]:Bt)))),c.1.1),c.1.2),(n.1,c.2.1.2),f,n.2.2,n.2.1)))))) (bd (cnd ((aA f.2 (0:Int).toNat (([]:Bt),(0:Int))).1==([87,65,89,80,79,73,78,84]:Bt)) (some ((((c.1.2.2,(aA f.2 (0:Int).toNat (([]:Bt),(0:Int))).1),(!((c.1.2.2==0)==((aA f.2 (0:Int).toNat (([]:Bt),(0:Int))).1==([68,65,84,65,66,65,83,69]:Bt)))),c.2.1.1.2.2.1),c.2.1.1.2.2.2,c.1.1,c.1.2.1),((c.1.2.2,(aA f.2 (0:Int).toNat (([]:Bt),(0:Int))).1),true,(c.2.1.1.1.1.1,c.2.1.1.1.1.2,c.2.1.1.1.2.1),c.2.1.1.1.2.2,c.2.1.1.2.1),(c.2.1.2,f),c.2.2)) (cnd ((aA f.2 (0:Int).toNat (([]:Bt),(0:Int))).1==([86,79,82]:Bt)) (some ((((c.1.2.2,(aA f.2 (0:Int).toNat (([]:Bt),(0:Int))).1),(!((c.1.2.2==0)==((aA f.2 (0:Int).toNat (([]:Bt),(0:Int))).1==([68,65,84,65,66,65,83,69]:Bt)))),c.2.1.1.2.2.1),c.2.1.1.2.2.2,c.1.1,c.1.2.1),((c.1.2.2,(aA f.2 (0:Int).toNat (([]:Bt),(0:Int))).1),true,(c.2.1.1.1.1.1,c.2.1.1.1.1.2,c.2.1.1.1.2.1),c.2.1.1.1.2.2,c.2.1.1.2.1),(c.2.1.2,f),c.2.2)) (cnd ((aA f.2 (0:Int).toNat (([]:Bt),(0:Int))).1==([68,77,69]:Bt)) (some ((((c.1.2.2,(aA f.2 (0:Int).toNat (([]:Bt),(0:Int))).1),(!((c.1.2.2==0)==((aA f.2 (0:Int).toNat (([]:Bt),(0:Int))).1==([68,65,84,65,66,65,83,69]:Bt)))),c.2.1.1.2.2.1),c.2.1.1.2.2.2,c.1.1,c.1.2.1),((c.1.2.2,(aA f.2 (0:Int).toNat (([]:Bt),(0:Int))).1),true,(c.2.1.1.1.1.1,c.2.1.1.1.1.2,c.2.1.1.1.2.1),c.2.1.1.1.2.2,c.2.1.1.2.1),(c.2.1.2,f),c.2.2)) (cnd ((aA f.2 (0:Int).toNat (([]:Bt),(0:Int))).1==([78,68,66]:Bt)) (some ((((c.1.2.2,(aA f.2 (0:Int).toNat (([]:Bt),(0:Int))).1),(!((c.1.2.2==0)==((aA f.2 (0:Int).toNat (([]:Bt),(0:Int))).1==([68,65,84,65,66,65,83,69]:Bt)))),c.2.1.1.2.2.1),c.2.1.1.2.2.2,c.1.1,c.1.2.1),((c.1.2.2,(aA f.2 (0:Int).toNat (([]:Bt),(0:Int))).1),true,(c.2.1.1.1.1.1,c.2.1.1.1.1.2,c.2.1.1.1.2.1),c.2.1.1.1.2.2,c.2.1.1.2.1),(c.2.1.2,f),c.2.2)) (cnd ((aA f.2 (0:Int).toNat (([]:Bt),(0:Int))).1==([65,73,82,80,79,82,84]:Bt)) (some ((((c.1.2.2,(aA f.2 (0:Int).toNat (([]:Bt),(0:Int))).1),(!((c.1.2.2==0)==((aA f.2 (0:Int).toNat (([]:Bt),(0:Int))).1==([68,65,84,65,66,65,83,69]:Bt)))),c.2.1.1.2.2.1),c.2.1.1.2.2.2,c.1.1,c.1.2.1),((c.1.2.2,(aA f.2 (0:Int).toNat (([]:Bt),(0:Int))).1),true,(c.2.1.1.1.1.1,c.2.1.1.1.1.2,c.2.1.1.1.2.1),c.2.1.1.1.2.2,c.2.1.1.2.1),(c.2.1.2,f),c.2.2)) (some ((((c.1.2.2,(aA f.2 (0:Int).toNat (([]:Bt),(0:Int))).1),(!((c.1.2.2==0)==((aA f.2 (0:Int).toNat (([]:Bt),(0:Int))).1==([68,65,84,65,66,65,83,69]:Bt)))),c.2.1.1.2.2.1),c.2.1.1.2.2.2,c.1.1,c.1.2.1),((c.1.2.2,(aA f.2 (0:Int).toNat (([]:Bt),(0:Int))).1),((aA f.2 (0:Int).toNat (([]:Bt),(0:Int))).1==([82,85,78,87,65,89]:Bt)),(c.2.1.1.1.1.1,c.2.1.1.1.1.2,c.2.1.1.1.2.1),c.2.1.1.1.2.2,c.2.1.1.2.1),(c.2.1.2,f),c.2.2))))))) (λb=>(cnd b.2.1.2.1 (cnd b.1.1.2.1 (some (Ctl.go (((b.1.1.2.1,b.1.2.2.1),b.1.2.2.2,b.2.1.1.1),((((b.2.1.2.2.1.1,b.2.1.2.2.1.2.1),b.2.1.2.2.1.2.2,b.2.1.2.2.2.1),b.2.1.2.2.2.2,false,false,false),b.2.2.1.1),b.2.2.1.2,b.2.2.2))) (bd (o95 b.2.2.1.2) (λi=>(bd (cnd i.2.2.2.2 (gd ((b.2.2.2.1.length+([(i.2.1.2.2,(i.2.2.1,i.2.2.2.1))]:Dgl).length)*24<=140737488355328) (some (((b.1.1.2.1,b.1.2.2.1),b.1.2.2.2,b.2.1.1.1,b.2.1.2.2),b.2.2.1,((i.1.1.1,i.1.1.2,i.1.2.1),i.1.2.2,i.2.1.1,i.2.1.2.1),(b.2.2.2.1++([(i.2.1.2.2,(i.2.2.1,i.2.2.2.1))]:Dgl)),b.2.2.2.2))) (some (((b.1.1.2.1,b.1.2.2.1),b.1.2.2.2,b.2.1.1.1,b.2.1.2.2),b.2.2.1,((i.1.1.1,i.1.1.2,i.1.2.1),i.1.2.2,i.2.1.1,i.2.1.2.1),b.2.2.2))) (λe=>(gd (decide (0<([((102:Int),((e.2.1.2.1,e.2.1.2.2),((e.2.2.1.1.1,(e.2.2.1.1.2.1,(e.2.2.1.1.2.2,((e.2.2.1.2.1.1,e.2.2.1.2.1.2),(e.2.2.1.2.2.1,e.2.2.1.2.2.2))))),((([]:Bt),([]:List (Bt×(Int×Int)×Int))),(([]:Rcl),((([]:Bt),(([]:Bt),((0:Int),([]:List (Int×Bt×List Af))))),(([]:Rcl),([]:List Rcl))))))))]:List As).length/\(e.2.2.2.2.length+([((102:Int),((e.2.1.2.1,e.2.1.2.2),((e.2.2.1.1.1,(e.2.2.1.1.2.1,(e.2.2.1.1.2.2,((e.2.2.1.2.1.1,e.2.2.1.2.1.2),(e.2.2.1.2.2.1,e.2.2.1.2.2.2))))),((([]:Bt),([]:List (Bt×(Int×Int)×Int))),(([]:Rcl),((([]:Bt),(([]:Bt),((0:Int),([]:List (Int×Bt×List Af))))),(([]:Rcl),([]:List Rcl))))))))]:List As).length)*288<=140737488355328)) (some (Ctl.go ((e.1.1,e.1.2.1,e.1.2.2.1),((((e.1.2.2.2.1.1,e.1.2.2.2.1.2.1),e.1.2.2.2.1.2.2,e.1.2.2.2.2.1),e.1.2.2.2.2.2,false,false,false),e.2.1.1),e.2.1.2,e.2.2.2.1,(e.2.2.2.2++([((102:Int),((e.2.1.2.1,e.2.1.2.2),((e.2.2.1.1.1,(e.2.2.1.1.2.1,(e.2.2.1.1.2.2,((e.2.2.1.2.1.1,e.2.2.1.2.1.2),(e.2.2.1.2.2.1,e.2.2.1.2.2.2))))),((([]:Bt),([]:List (Bt×(Int×Int)×Int))),(([]:Rcl),((([]:Bt),(([]:Bt),((0:Int),([]:List (Int×Bt×List Af))))),(([]:Rcl),([]:List Rcl))))))))]:List As))))))))))) (cnd (b.2.1.1.2==([65,73,82,87,65,89]:Bt)) (cnd (!b.1.1.2.1) (bd (My b.1.1.1.1 (((b.2.1.2.2.1.1,b.2.1.2.2.1.2.1),b.2.1.2.2.1.2.2,b.2.1.2.2.2.1),b.2.1.2.2.2.2,true,false,false) b.2.2.2.1 b.2.2.2.2) (λl=>(bd (Jg b.2.2.1.2 l.1.1 l.1.2 l.2.1 l.2.2) (λs=>(some (Ctl.go (((b.1.1.2.1,b.1.2.2.1),b.1.2.2.2,b.2.1.1.1),(s.1,b.2.2.1.1),b.2.2.1.2,s.2))))))) (some (Ctl.go (((b.1.1.2.1,b.1.2.2.1),b.1.2.2.2,b.2.1.1.1),((((b.2.1.2.2.1.1,b.2.1.2.2.1.2.1),b.2.1.2.2.1.2.2,b.2.1.2.2.2.1),b.2.1.2.2.2.2,true,false,false),b.2.2.1.1),b.2.2.1.2,b.2.2.2)))) (cnd (b.2.1.1.2==([86,73,65]:Bt)) (bd (cnd b.1.1.2.1 (some (((true,b.1.2.2.1),b.1.2.2.2,b.2.1.1.1),((((b.2.1.2.2.1.1,b.2.1.2.2.1.2.1),b.2.1.2.2.1.2.2,b.2.1.2.2.2.1.1),(b.2.1.2.2.2.1.2,b.2.1.2.2.2.2.1),b.2.1.2.2.2.2.2,b.1.1.2.2),b.2.2.1.1),b.2.2.1.2,b.2.2.2)) (some ((((!b.1.1.2.2),b.1.2.2.1),b.1.2.2.2,b.2.1.1.1),((((b.2.1.2.2.1.1,b.2.1.2.2.1.2.1),b.2.1.2.2.1.2.2,b.2.1.2.2.2.1.1),(b.2.1.2.2.2.1.2,b.2.1.2.2.2.2.1),b.2.1.2.2.2.2.2,b.1.1.2.2),b.2.2.1.1),b.2.2.1.2,b.2.2.2))) (λk=>(some (Ctl.go (k.1,(((k.2.1.1.1.1,k.2.1.1.1.2.1,k.2.1.1.1.2.2,k.2.1.1.2.1.1),(k.2.1.1.2.1.2,k.2.1.1.2.2.1),k.2.1.1.2.2.2,false,false),k.2.1.2),k.2.2))))) (bd (cnd (b.2.1.1.2==([68,69,80,65,82,84,85,82,69]:Bt)) (some (((b.1.1.1.2,b.1.1.2.1,b.1.2.1.1),(b.1.2.1.2,b.1.2.2.1),b.1.2.2.2,b.2.1.1.1),(b.2.1.1.2,true,b.2.1.2.2),b.2.2)) (cnd (b.2.1.1.2==([65,82,82,73,86,65,76]:Bt)) (some (((b.1.1.1.2,b.1.1.2.1,b.1.2.1.1),(b.1.2.1.2,b.1.2.2.1),b.1.2.2.2,b.2.1.1.1),(b.2.1.1.2,true,b.2.1.2.2),b.2.2)) (some (((b.1.1.1.2,b.1.1.2.1,b.1.2.1.1),(b.1.2.1.2,b.1.2.2.1),b.1.2.2.2,b.2.1.1.1),(b.2.1.1.2,(b.2.1.1.2==([65,80,80,82,79,65,67,72]:Bt)),b.2.1.2.2),b.2.2)))) (λd=>(cnd d.2.1.2.1 (cnd (!d.1.1.2.1) (bd (HJ d.2.2.1.2 (mpGet (0:Int) d.2.2.1.1 d.1.1.1) (((d.2.1.2.2.1.1,d.2.1.2.2.1.2.1),d.2.1.2.2.1.2.2,d.2.1.2.2.2.1),d.2.1.2.2.2.2,false,true,false) d.2.2.2.1 d.2.2.2.2) (λu=>(some (Ctl.go (((d.1.1.2.1,d.1.2.1.2),d.1.2.2),(u.1,d.2.2.1.1),d.2.2.1.2,u.2))))) (some (Ctl.go (((d.1.1.2.1,d.1.2.1.2),d.1.2.2),((((d.2.1.2.2.1.1,d.2.1.2.2.1.2.1),d.2.1.2.2.1.2.2,d.2.1.2.2.2.1),d.2.1.2.2.2.2,false,true,false),d.2.2.1.1),d.2.2.1.2,d.2.2.2)))) (cnd (d.2.1.1==([80,65,82,84]:Bt)) (bd (cnd d.1.1.2.1 (some (((true,d.1.2.1.2),d.1.2.2),((((d.2.1.2.2.1.1,d.2.1.2.2.1.2.1),d.2.1.2.2.1.2.2,d.2.1.2.2.2.1.1),(d.2.1.2.2.2.1.2,d.2.1.2.2.2.2.1),d.2.1.2.2.2.2.2,d.1.1.2.2),d.2.2.1.1),d.2.2.1.2,d.2.2.2)) (some ((((!d.1.1.2.2),d.1.2.1.2),d.1.2.2),((((d.2.1.2.2.1.1,d.2.1.2.2.1.2.1),d.2.1.2.2.1.2.2,d.2.1.2.2.2.1.1),(d.2.1.2.2.2.1.2,d.2.1.2.2.2.2.1),d.2.1.2.2.2.2.2,d.1.1.2.2),d.2.2.1.1),d.2.2.1.2,d.2.2.2))) (λg=>(cnd (!g.1.1.1) (bd (Pq g.2.2.1 ((g.2.1.1.1.1,g.2.1.1.1.2.1,g.2.1.1.1.2.2,g.2.1.1.2.1.1),(g.2.1.1.2.1.2,g.2.1.1.2.2.1),false,g.2.1.1.2.2.2,true) g.2.2.2.1 g.2.2.2.2) (λo=>(some (Ctl.go (g.1,(o.1,g.2.1.2),g.2.2.1,o.2.2,o.2.1))))) (some (Ctl.go (g.1,(((g.2.1.1.1.1,g.2.1.1.1.2.1,g.2.1.1.1.2.2,g.2.1.1.2.1.1),(g.2.1.1.2.1.2,g.2.1.1.2.2.1),false,g.2.1.1.2.2.2,true),g.2.1.2),g.2.2)))))) (cnd (d.2.1.1==([76,69,71]:Bt)) (bd (cnd d.1.1.2.1 (some (((true,d.1.2.1.2),d.1.2.2),((((d.2.1.2.2.1.1,d.2.1.2.2.1.2.1),d.2.1.2.2.1.2.2,d.2.1.2.2.2.1.1),(d.2.1.2.2.2.1.2,d.2.1.2.2.2.2.1),d.2.1.2.2.2.2.2,d.1.1.2.2,d.1.2.1.1),d.2.2.1.1),d.2.2.1.2,d.2.2.2)) (some ((((!d.1.2.1.1),d.1.2.1.2),d.1.2.2),((((d.2.1.2.2.1.1,d.2.1.2.2.1.2.1),d.2.1.2.2.1.2.2,d.2.1.2.2.2.1.1),(d.2.1.2.2.2.1.2,d.2.1.2.2.2.2.1),d.2.1.2.2.2.2.2,d.1.1.2.2,d.1.2.1.1),d.2.2.1.1),d.2.2.1.2,d.2.2.2))) (λh=>(cnd (!h.1.1.1) (bd (KY h.2.2.1 ((h.2.1.1.1.1,h.2.1.1.1.2.1,h.2.1.1.1.2.2,h.2.1.1.2.1.1),(h.2.1.1.2.1.2,h.2.1.1.2.2.1),false,h.2.1.1.2.2.2) h.2.2.2.1 h.2.2.2.2) (λp=>(some (Ctl.go (h.1,(p.1,h.2.1.2),h.2.2.1,p.2.2,p.2.1))))) (some (Ctl.go (h.1,(((h.2.1.1.1.1,h.2.1.1.1.2.1,h.2.1.1.1.2.2,h.2.1.1.2.1.1),(h.2.1.1.2.1.2,h.2.1.1.2.2.1),false,h.2.1.1.2.2.2),h.2.1.2),h.2.2)))))) (bd (IF d.2.2.1.2 (4:Int) (((d.2.1.2.2.1.1,d.2.1.2.2.1.2.1),d.2.1.2.2.1.2.2,d.2.1.2.2.2.1),d.2.1.2.2.2.2,false,false,false) d.2.2.2.1 d.2.2.2.2) (λq=>(dnO (some (Ctl.go ((d.1.2.1.2,d.1.2.2.1,(wrap .i64 (d.1.2.2.2+1))),(q.1,d.2.2.1.1),q.2.2,q.2.1))))))))))))))))) (λj=>(cnd j.1.1.1 (bd (IF j.2.2.1 (9:Int) j.2.1.1 j.2.2.2.1 j.2.2.2.2) (λr=>(some (Ctl.go ((j.1.1.2,j.1.2.1,(wrap .i64 (j.1.2.2+1))),(r.1,j.2.1.2),r.2.2,r.2.1))))) (some (Ctl.go ((j.1.1.2,j.1.2.1,(wrap .i64 (j.1.2.2+1))),j.2.1,j.2.2.2)))))))))) (dnO (some (c.2.1.1,c.2.2))))) ((m.1.1.1,(m.1.1.1.length:Int),(0:Int)),(m,(mpPut (mpPut (mpPut ([]:Fdl) ([68,69,80,65,82,84,85,82,69]:Bt) (1:Int)) ([65,82,82,73,86,65,76]:Bt) (2:Int)) ([65,80,80,82,79,65,67,72]:Bt) (3:Int))),([]:Dgl),([]:List As)))
def AhR:Tbl:=(43,⟨⟨[(0,Zb)],[WV]⟩,[⟨[(0,Zs)],[Bs,Ap,.tree Bf 123]⟩],λt=>(o43 t)⟩)::AhQ
theorem AmG:TK AhR:=kc AmF Tryz.f43 (.s .d (.s .d (.b (.l [⟨[(0,Zb),(2,.v (.c (.mp 1))),(18,BR),(19,Za),(20,Za)],[XJ,.map (.i .u8),Ap,.tree Bf 123]⟩] (.s .d (.s .d (.s (.b (.s .d (.s .d (.s .d (.s .d (.s .d (.j true [⟨[(0,Zb),(2,.v (.c (.mp 1))),(4,Zi),(6,Zc),(18,BR),(19,Za),(20,Za)],[KX,.map (.i .u8),BJ,Ap,.tree Bf 123]⟩] (.s (.s .d (.b (.s .d (.c .d (.j false [⟨[(0,Zb),(2,.v (.c (.mp 1))),(3,Za),(4,Zi),(5,Zd),(6,Zc),(7,Zc),(8,Zc),(9,Zc),(18,BR),(19,Za),(20,Za),(56,Zd),(66,Zc)],[Pr,.map (.i .u8),BJ,Ap,.tree Bf 123]⟩] (.s .d (.c (.s .d (.s .d (.j false [⟨[(0,Zb),(2,.v (.c (.mp 1))),(4,Zi),(6,Zc),(10,Zr),(18,BR),(19,Za),(20,Za)],[XF,.map (.i .u8),BJ,Cw,Ap,.tree Bf 123]⟩] (.s (.s .d (.c (.r 2) .d)) (.r 2))))) (.s .d (.c (.s .d (.s .d (.c (.r 2) .d))) (.s .d (.c (.s .d (.j false [⟨[(0,Zb),(2,.v (.c (.mp 1))),(4,Zi),(6,Zc),(18,BR),(19,Za),(20,Za)],[XG,.map (.i .u8),BJ,Ap,.tree Bf 123]⟩] .d)) (.j false [⟨[(0,Zb),(2,.v (.c (.mp 1))),(4,Zi),(5,Zd),(6,Zc),(8,Zc),(9,Zc),(18,BR),(19,Za),(20,Za),(56,Zd),(127,Zc)],[Pr,.map (.i .u8),BJ,Ap,.tree Bf 123]⟩] (.s .d (.c .d (.s .d (.c (.s .d (.s (.j false [⟨[(0,Zb),(2,.v (.c (.mp 1))),(4,Zi),(6,Zc),(18,BR),(19,Za),(20,Za)],[XH,.map (.i .u8),BJ,Ap,.tree Bf 123]⟩] .d) .d)) (.s .d (.c (.s .d (.s (.j false [⟨[(0,Zb),(2,.v (.c (.mp 1))),(4,Zi),(6,Zc),(18,BR),(19,Za),(20,Za)],[XI,.map (.i .u8),BJ,Ap,.tree Bf 123]⟩] .d) .d)) .d)))))))))))))))))) .d)))))))) .d))))))) λt=>by kernel_rfl
def o134(b:Int×Int):Option Bool:=
 (bd (cnd (b.1>=(-32400000:Int)) (cnd (b.1<=32400000) (cnd (b.2>(-64800000:Int)) (some (decide (b.2<=64800000))) (some false)) (some false)) (some false)) (λc=>(some c)))
def AhS:Tbl:=(134,⟨⟨[(0,Zj)],[]⟩,[⟨[(0,Zc)],[]⟩],λt=>(o134 t)⟩)::AhR
theorem AmH:TK AhS:=kc AmG Tryz.f134 (.s .d (.s (.j false [⟨[(2,Zc)],[]⟩] .d) .d)) λt=>by kernel_rfl
def o187(b:Int×Int):Option Bool:=
 (bd (bd (o134 b) (λc=>(cnd c (cnd (b.1>=(-25200000:Int)) (some (decide (b.1<=25200000))) (some false)) (some false)))) (λd=>(some d)))
def AhT:Tbl:=(187,⟨⟨[(0,Zj)],[]⟩,[⟨[(0,Zc)],[]⟩],λt=>(o187 t)⟩)::AhS
theorem AmI:TK AhT:=kc AmH Tryz.f187 (.s .d (.s (.j false [⟨[(2,Zc)],[]⟩] .d) .d)) λt=>by kernel_rfl
def o186(b:Int):Option Int:=
 (cnd ((aL b 129600000)<0) (some (wrap .i64 ((aL b 129600000)+129600000))) (some (aL b 129600000)))
def AhU:Tbl:=(186,⟨⟨[(0,Za)],[]⟩,[⟨[(0,Za)],[]⟩],λt=>(o186 t)⟩)::AhT
theorem AmJ:TK AhU:=kc AmI Tryz.f186 .d λt=>by kernel_rfl
def o332(b:Int)(c:Int):Option Int:=
 (some (shrK .i64 (wrap .i64 ((wrap .i64 (b*c))+1073741824)) (31:Int)))
def AhV:Tbl:=(332,⟨⟨[(0,Za),(1,Za)],[]⟩,[⟨[(0,Za)],[]⟩],λt=>(o332 t.1 t.2)⟩)::AhU
theorem AmK:TK AhV:=kc AmJ Tryz.f332 .d λt=>by kernel_rfl
def o333(c:Int)(b:Int):Option Int:=
 (gd (b≠0) (some (wrap .i64 (aH (wrap .i64 (c+(wrap .i64 (aH b 2)))) b))))
def AhW:Tbl:=(333,⟨⟨[(0,Za),(1,Za)],[]⟩,[⟨[(0,Za)],[]⟩],λt=>(o333 t.1 t.2)⟩)::AhV
theorem AmL:TK AhW:=kc AmK Tryz.f333 .d λt=>by kernel_rfl
def KZ:SSh:= .v (.agg [.ic .i64 (110),.ic .i64 (72),.ic .i64 (42),.ic .i64 (20),.ic .i64 (6)])
def o328(e:Int):Option Int:=
 (bd (o332 (wrap .i64 (aH (wrap .i64 ((wrap .i64 (e*6746518852))+32400000)) 64800000)) (wrap .i64 (aH (wrap .i64 ((wrap .i64 (e*6746518852))+32400000)) 64800000))) (λf=>(loopO (σ:=(Int×Int)×Int×Int) fuelN (λ(b:(Int×Int)×Int×Int)=>(cnd (b.2.2<5) (bd (sm (isZ b.2.2 0) (λ_=>(some ((b.1.1,b.1.2,b.2.1),b.2.2,(110:Int),b.2.2))) (λ_=>(sm (isZ b.2.2 1) (λ_=>(some ((b.1.1,b.1.2,b.2.1),b.2.2,(72:Int),b.2.2))) (λ_=>(sm (isZ b.2.2 2) (λ_=>(some ((b.1.1,b.1.2,b.2.1),b.2.2,(42:Int),b.2.2))) (λ_=>(sm (isZ b.2.2 3) (λ_=>(some ((b.1.1,b.1.2,b.2.1),b.2.2,(20:Int),b.2.2))) (λ_=>(sm (isZ b.2.2 4) (λ_=>(some ((b.1.1,b.1.2,b.2.1),b.2.2,(6:Int),b.2.2))) (λ_=>none)))))))))) (λc=>(bd (cnd (c.2.1>0) (bd (o332 c.1.2.1 c.1.2.2) (λg=>(some ((c.1.1,c.1.2.1),c.2.2.1,g,c.2.2.2)))) (some ((c.1.1,c.1.2.1),c.2.2.1,c.1.2.1,c.2.2.2))) (λd=>(bd (o333 d.2.2.1 d.2.1) (λh=>(some (Ctl.go (d.1,(wrap .i64 ((2147483648:Int)-h)),(wrap .i64 (d.2.2.2+1))))))))))) (dnO (bd (o332 b.1.1 b.2.1) (λi=>(some (wrap .i64 (aH (wrap .i64 (i+1)) 2)))))))) (((wrap .i64 (aH (wrap .i64 ((wrap .i64 (e*6746518852))+32400000)) 64800000)),f),(2147483648:Int),(0:Int)))))
def AhX:Tbl:=(328,⟨⟨[(0,Za)],[]⟩,[⟨[(0,Za)],[]⟩],λt=>(o328 t)⟩)::AhW
theorem AmM:TK AhX:=kc AmL Tryz.f328 (.s .d (.s .d (.s .d (.s .d (.s (.s .d (.b (.l [⟨[(3,Za),(4,Za),(5,Za),(16,KZ),(17,Za)],[]⟩] (.s .d (.s .d (.s (.b (.s (.j false [⟨[(3,Za),(4,Za),(5,Za),(6,Za),(7,Za),(16,KZ),(17,Za)],[]⟩] .d) (.s .d (.j false [⟨[(3,Za),(4,Za),(7,Za),(8,Za),(16,KZ),(17,Za)],[]⟩] .d)))) .d)))))) .d))))) λt=>by kernel_rfl
def La:SSh:= .v (.agg [.ic .i64 (90),.ic .i64 (56),.ic .i64 (30),.ic .i64 (12),.ic .i64 (2)])
def o329(e:Int):Option Int:=
 (bd (o332 (wrap .i64 (aH (wrap .i64 ((wrap .i64 (e*6746518852))+32400000)) 64800000)) (wrap .i64 (aH (wrap .i64 ((wrap .i64 (e*6746518852))+32400000)) 64800000))) (λf=>(loopO (σ:=Int×Int×Int) fuelN (λ(b:Int×Int×Int)=>(cnd (b.2.2<5) (bd (sm (isZ b.2.2 0) (λ_=>(some ((b.1,b.2.1),b.2.2,(90:Int),b.2.2))) (λ_=>(sm (isZ b.2.2 1) (λ_=>(some ((b.1,b.2.1),b.2.2,(56:Int),b.2.2))) (λ_=>(sm (isZ b.2.2 2) (λ_=>(some ((b.1,b.2.1),b.2.2,(30:Int),b.2.2))) (λ_=>(sm (isZ b.2.2 3) (λ_=>(some ((b.1,b.2.1),b.2.2,(12:Int),b.2.2))) (λ_=>(sm (isZ b.2.2 4) (λ_=>(some ((b.1,b.2.1),b.2.2,(2:Int),b.2.2))) (λ_=>none)))))))))) (λc=>(bd (cnd (c.2.1>0) (bd (o332 c.1.1 c.1.2) (λg=>(some ((c.1.1,c.2.2.1),g,c.2.2.2)))) (some ((c.1.1,c.2.2.1),c.1.1,c.2.2.2))) (λd=>(bd (o333 d.2.1 d.1.2) (λh=>(some (Ctl.go (d.1.1,(wrap .i64 ((2147483648:Int)-h)),(wrap .i64 (d.2.2+1))))))))))) (dnO (some (wrap .i64 (aH (wrap .i64 (b.2.1+1)) 2)))))) (f,(2147483648:Int),(0:Int)))))
def AhY:Tbl:=(329,⟨⟨[(0,Za)],[]⟩,[⟨[(0,Za)],[]⟩],λt=>(o329 t)⟩)::AhX
theorem AmN:TK AhY:=kc AmM Tryz.f329 (.s .d (.s .d (.s .d (.s .d (.s (.s .d (.b (.l [⟨[(4,Za),(5,Za),(16,La),(17,Za)],[]⟩] (.s .d (.s .d (.s (.b (.s (.j false [⟨[(4,Za),(5,Za),(6,Za),(7,Za),(16,La),(17,Za)],[]⟩] .d) (.s .d (.j false [⟨[(4,Za),(7,Za),(8,Za),(16,La),(17,Za)],[]⟩] .d)))) .d)))))) .d))))) λt=>by kernel_rfl
def o320(b:Int):Option Int:=
 (cnd (b<=16200000) (bd (o328 b) (λc=>(some c))) (bd (o329 (wrap .i64 ((32400000:Int)-b))) (λd=>(some d))))
def AhZ:Tbl:=(320,⟨⟨[(0,Za)],[]⟩,[⟨[(0,Za)],[]⟩],λt=>(o320 t)⟩)::AhY
theorem AmO:TK AhZ:=kc AmN Tryz.f320 .d λt=>by kernel_rfl
def o304(c:Int):Option Int:=
 (bd (o186 c) (λb=>(cnd (b<=32400000) (bd (o320 b) (λd=>(some d))) (cnd (b<=64800000) (bd (o320 (wrap .i64 ((64800000:Int)-b))) (λe=>(some e))) (cnd (b<=97200000) (bd (o320 (wrap .i64 (b-64800000))) (λf=>(some (wrap .i64 ((0:Int)-f))))) (bd (o320 (wrap .i64 ((129600000:Int)-b))) (λg=>(some (wrap .i64 ((0:Int)-g))))))))))
def Aia:Tbl:=(304,⟨⟨[(0,Za)],[]⟩,[⟨[(0,Za)],[]⟩],λt=>(o304 t)⟩)::AhZ
theorem AmP:TK Aia:=kc AmO Tryz.f304 .d λt=>by kernel_rfl
def o321(b:Int)(c:Int):Option Int:=
 (bd (o186 b) (λd=>(bd (o186 c) (λe=>(bd (o186 (wrap .i64 (d+e))) (λf=>(some f)))))))
def Aib:Tbl:=(321,⟨⟨[(0,Za),(1,Za)],[]⟩,[⟨[(0,Za)],[]⟩],λt=>(o321 t.1 t.2)⟩)::Aia
theorem AmQ:TK Aib:=kc AmP Tryz.f321 .d λt=>by kernel_rfl
def o305(b:Int):Option Int:=
 (bd (o321 b (32400000:Int)) (λc=>(bd (o304 c) (λd=>(some d)))))
def Aic:Tbl:=(305,⟨⟨[(0,Za)],[]⟩,[⟨[(0,Za)],[]⟩],λt=>(o305 t)⟩)::Aib
theorem AmR:TK Aic:=kc AmQ Tryz.f305 .d λt=>by kernel_rfl
def o306(b:Int):Option Int:=
 (some (shrK .i64 (wrap .i64 (b+536870912)) (30:Int)))
def Aid:Tbl:=(306,⟨⟨[(0,Za)],[]⟩,[⟨[(0,Za)],[]⟩],λt=>(o306 t)⟩)::Aic
theorem AmS:TK Aid:=kc AmR Tryz.f306 .d λt=>by kernel_rfl
def HK:SSh:= .v (.agg [.i .i64,.i .i64,.i .i64])
def o279(b:Int×Int):Option (Int×Int×Int):=
 (bd (o305 b.1) (λc=>(bd (o305 b.2) (λd=>(bd (o306 (wrap .i64 (c*d))) (λe=>(bd (o304 b.2) (λf=>(bd (o306 (wrap .i64 (c*f))) (λg=>(bd (o304 b.1) (λh=>(some (e,g,h))))))))))))))
def Aie:Tbl:=(279,⟨⟨[(0,Zj)],[]⟩,[⟨[(0,HK)],[]⟩],λt=>(o279 t)⟩)::Aid
theorem AmT:TK Aie:=kc AmS Tryz.f279 .d λt=>by kernel_rfl
def XK:SSh:= .v (.agg [.i .i64,.i .i64,.ic .i64 (0),.i .i64,.i .i64,.i .i64,.i .i64,.i .i64,.i .i64])
abbrev XL:Type:=((Int×Int)×Int×Int)×(Int×Int)×Int×Int
def o278(b:Int×Int):Option XL:=
 (bd (o304 b.1) (λc=>(bd (o305 b.1) (λg=>(bd (o304 b.2) (λd=>(bd (o305 b.2) (λe=>(bd (o306 (wrap .i64 (c*e))) (λh=>(bd (o306 (wrap .i64 (c*d))) (λi=>(bd (o279 b) (λf=>(some ((((wrap .i64 ((0:Int)-d)),e),(wrap .i64 ((0:Int)-h)),(wrap .i64 ((0:Int)-i))),(g,f.1),f.2))))))))))))))))
def Aif:Tbl:=(278,⟨⟨[(0,Zj)],[]⟩,[⟨[(0,XK)],[]⟩],λt=>(o278 t)⟩)::Aie
theorem AmU:TK Aif:=kc AmT Tryz.f278 .d λt=>by kernel_rfl
def o280(b:Int×Int×Int)(c:Int×Int×Int):Option Int:=
 (bd (o306 (wrap .i64 ((wrap .i64 ((wrap .i64 (b.1*c.1))+(wrap .i64 (b.2.1*c.2.1))))+(wrap .i64 (b.2.2*c.2.2))))) (λd=>(some d)))
def Aig:Tbl:=(280,⟨⟨[(0,HK),(1,HK)],[]⟩,[⟨[(0,Za)],[]⟩],λt=>(o280 t.1 t.2)⟩)::Aif
theorem AmV:TK Aig:=kc AmU Tryz.f280 .d λt=>by kernel_rfl
def o244(d:Int×Int)(e:Int×Int):Option (Int×Int×Int):=
 (bd (o278 d) (λb=>(bd (o279 e) (λc=>(bd (o280 (b.1.1.1,b.1.1.2,(0:Int)) c) (λf=>(bd (o280 (b.1.2.1,b.1.2.2,b.2.1.1) c) (λg=>(bd (o280 (b.2.1.2,b.2.2) c) (λh=>(some (f,g,h))))))))))))
def Aih:Tbl:=(244,⟨⟨[(0,Zj),(1,Zj)],[]⟩,[⟨[(0,HK)],[]⟩],λt=>(o244 t.1 t.2)⟩)::Aig
theorem AmW:TK Aih:=kc AmV Tryz.f244 (.s .d (.s (.r 2) .d)) λt=>by kernel_rfl
def XM:BSh:= .cells 279 [.ic .i64 (0),.ic .i64 (0),.ic .i64 (0)]
def XN:SSh:= .tup [.agg [.i .i64,.i .i64,.i .i64],.c (.i .i64)]
def o188(b:Int×Int)(c:Int×Int):Option ((Int×Int)×Int×Int):=
 (bd (bd (o134 b) (λf=>(cnd (!f) (some (true,b,c)) (bd (o134 c) (λg=>(some ((!g),b,c))))))) (λd=>(cnd d.1 (some (((0:Int),(0:Int)),(0:Int),(1:Int))) (bd (o244 d.2.1 d.2.2) (λe=>(some ((e.1,e.2.1),e.2.2,(0:Int))))))))
def Aii:Tbl:=(188,⟨⟨[(0,Zj),(1,Zj)],[]⟩,[⟨[(0,XN)],[]⟩],λt=>(o188 t.1 t.2)⟩)::Aih
theorem AmX:TK Aii:=kc AmW Tryz.f188 (.s .d (.s (.s (.j false [⟨[(2,Zb),(3,Zg),(4,Zi),(13,Zc)],[.cells 23 [.i .i64,.i .i64],.cells 23 [.i .i64,.i .i64],XM]⟩] .d) .d) .d)) λt=>by kernel_rfl
def o281(b:Int):Option Int:=
 (cnd (b<0) (some (wrap .u64 ((0:Int)-(wrap .u64 b)))) (some (wrap .u64 b)))
def Aij:Tbl:=(281,⟨⟨[(0,Za)],[]⟩,[⟨[(0,Zf)],[]⟩],λt=>(o281 t)⟩)::Aii
theorem AmY:TK Aij:=kc AmX Tryz.f281 .d λt=>by kernel_rfl
def o282(b:Int)(c:Int):Option (Int×Int):=
 (some ((wrap .u64 ((wrap .u64 ((wrap .u64 ((shrK .u64 b (32:Int))*(shrK .u64 c (32:Int))))+(shrK .u64 (wrap .u64 ((wrap .u64 ((shrK .u64 b (32:Int))*(landK .u64 c (4294967295:Int))))+(shrK .u64 (wrap .u64 ((landK .u64 b (4294967295:Int))*(landK .u64 c (4294967295:Int)))) (32:Int)))) (32:Int))))+(shrK .u64 (wrap .u64 ((landK .u64 (wrap .u64 ((wrap .u64 ((shrK .u64 b (32:Int))*(landK .u64 c (4294967295:Int))))+(shrK .u64 (wrap .u64 ((landK .u64 b (4294967295:Int))*(landK .u64 c (4294967295:Int)))) (32:Int)))) (4294967295:Int))+(wrap .u64 ((landK .u64 b (4294967295:Int))*(shrK .u64 c (32:Int)))))) (32:Int)))),(wrap .u64 (b*c))))
def Aik:Tbl:=(282,⟨⟨[(0,Zf),(1,Zf)],[]⟩,[⟨[(0,.tup [.c (.i .u64),.c (.i .u64)])],[]⟩],λt=>(o282 t.1 t.2)⟩)::Aij
theorem AmZ:TK Aik:=kc AmY Tryz.f282 .d λt=>by kernel_rfl
def Ns:Sch:=⟨[(0,Zf),(2,Za)],[]⟩
def o300(e:Int):Option Int:=
 (bd (cnd (e>=4294967296) (some ((shrK .u64 e (32:Int)),(32:Int))) (some (e,(0:Int)))) (λb=>(bd (cnd (b.1>=65536) (some ((shrK .u64 b.1 (16:Int)),(wrap .i64 (b.2+16)))) (some b)) (λc=>(bd (cnd (c.1>=256) (some ((shrK .u64 c.1 (8:Int)),(wrap .i64 (c.2+8)))) (some c)) (λd=>(gd ((0:Int)<=(wrap .u8 d.1)/\(wrap .u8 d.1)<((([0,1,2,2,3,3,3,3,4,4,4,4,4,4,4,4,5,5,5,5,5,5,5,5,5,5,5,5,5,5,5,5,6,6,6,6,6,6,6,6,6,6,6,6,6,6,6,6,6,6,6,6,6,6,6,6,6,6,6,6,6,6,6,6,7,7,7,7,7,7,7,7,7,7,7,7,7,7,7,7,7,7,7,7,7,7,7,7,7,7,7,7,7,7,7,7,7,7,7,7,7,7,7,7,7,7,7,7,7,7,7,7,7,7,7,7,7,7,7,7,7,7,7,7,7,7,7,7,8,8,8,8,8,8,8,8,8,8,8,8,8,8,8,8,8,8,8,8,8,8,8,8,8,8,8,8,8,8,8,8,8,8,8,8,8,8,8,8,8,8,8,8,8,8,8,8,8,8,8,8,8,8,8,8,8,8,8,8,8,8,8,8,8,8,8,8,8,8,8,8,8,8,8,8,8,8,8,8,8,8,8,8,8,8,8,8,8,8,8,8,8,8,8,8,8,8,8,8,8,8,8,8,8,8,8,8,8,8,8,8,8,8,8,8,8,8,8,8,8,8,8,8,8,8,8,8]:Bt).length:Nat):Int)) (some (wrap .i64 (d.2+(wrap .i64 (((aA ([0,1,2,2,3,3,3,3,4,4,4,4,4,4,4,4,5,5,5,5,5,5,5,5,5,5,5,5,5,5,5,5,6,6,6,6,6,6,6,6,6,6,6,6,6,6,6,6,6,6,6,6,6,6,6,6,6,6,6,6,6,6,6,6,7,7,7,7,7,7,7,7,7,7,7,7,7,7,7,7,7,7,7,7,7,7,7,7,7,7,7,7,7,7,7,7,7,7,7,7,7,7,7,7,7,7,7,7,7,7,7,7,7,7,7,7,7,7,7,7,7,7,7,7,7,7,7,7,8,8,8,8,8,8,8,8,8,8,8,8,8,8,8,8,8,8,8,8,8,8,8,8,8,8,8,8,8,8,8,8,8,8,8,8,8,8,8,8,8,8,8,8,8,8,8,8,8,8,8,8,8,8,8,8,8,8,8,8,8,8,8,8,8,8,8,8,8,8,8,8,8,8,8,8,8,8,8,8,8,8,8,8,8,8,8,8,8,8,8,8,8,8,8,8,8,8,8,8,8,8,8,8,8,8,8,8,8,8,8,8,8,8,8,8,8,8,8,8,8,8,8,8,8,8,8,8]:Bt) (wrap .u8 d.1).toNat 0).toNat:Nat):Int))))))))))))
def Ail:Tbl:=(300,⟨⟨[(0,Zf)],[]⟩,[⟨[(0,Za)],[]⟩],λt=>(o300 t)⟩)::Aik
theorem Ana:TK Ail:=kc AmZ Tryz.f300 (.s .d (.j false [Ns] (.s .d (.j false [Ns] (.s .d (.j false [Ns] .d)))))) λt=>by kernel_rfl
def o307(b:Int):Option Int:=
 (bd (o300 b) (λc=>(some (wrap .i64 ((64:Int)-c)))))
def Aim:Tbl:=(307,⟨⟨[(0,Zf)],[]⟩,[⟨[(0,Za)],[]⟩],λt=>(o307 t)⟩)::Ail
theorem Anb:TK Aim:=kc Ana Tryz.f307 .d λt=>by kernel_rfl
def o283(k:Int)(i:Int)(h:Int):Option (Int×Int):=
 (cnd (h==0) none (cnd (h<=k) none (cnd (k==0) (gd (h≠0) (gd (h≠0) (some ((wrap .u64 (aH i h)),(aL i h))))) (bd (o307 h) (λd=>(gd ((0:Int)<=(wrap .u64 d)) (gd ((0:Int)<=(wrap .u64 d)) (gd ((0:Int)<=(wrap .u64 ((64:Int)-(wrap .u64 d)))) (gd ((0:Int)<=(wrap .u64 d)) (gd ((shrK .u64 (shlK .u64 h (wrap .u64 d)) (32:Int))≠0) (bd (loopO (σ:=((Int×Int)×Int×Int)×(Int×Int)×Int×Int×Int) fuelN (λ(f:((Int×Int)×Int×Int)×(Int×Int)×Int×Int×Int)=>(bd (cnd (f.2.2.2.1>=4294967296) (some ((f.1.1,f.1.2.1,f.1.2.2,f.2.1.1),(f.2.1.2,f.2.2.1),f.2.2.2.1,f.2.2.2.2,true)) (some ((f.1.1,f.1.2.1,f.1.2.2,f.2.1.1),(f.2.1.2,f.2.2.1),f.2.2.2.1,f.2.2.2.2,(decide ((wrap .u64 (f.2.2.2.1*f.1.2.2))>(wrap .u64 ((wrap .u64 ((4294967296:Int)*f.2.2.2.2))+f.2.1.2))))))) (λb=>(cnd b.2.2.2.2 (cnd ((wrap .u64 (b.2.2.2.1+b.1.2.1))>=4294967296) (dnO (some ((b.1.1,b.1.2.1,b.1.2.2.1),(b.1.2.2.2,b.2.1.1),b.2.1.2,(wrap .u64 (b.2.2.1-1))))) (some (Ctl.go ((b.1.1,b.1.2.1,b.1.2.2.1),(b.1.2.2.2,b.2.1.1),b.2.1.2,(wrap .u64 (b.2.2.1-1)),(wrap .u64 (b.2.2.2.1+b.1.2.1)))))) (dnO (some ((b.1.1,b.1.2.1,b.1.2.2.1),(b.1.2.2.2,b.2.1.1),b.2.1.2,b.2.2.1))))))) ((((shlK .u64 h (wrap .u64 d)),(wrap .u64 d)),(shrK .u64 (shlK .u64 h (wrap .u64 d)) (32:Int)),(landK .u64 (shlK .u64 h (wrap .u64 d)) (4294967295:Int))),((lorK .u64 (shlK .u64 k (wrap .u64 d)) (shrK .u64 i (wrap .u64 ((64:Int)-(wrap .u64 d))))),(shrK .u64 (shlK .u64 i (wrap .u64 d)) (32:Int))),(landK .u64 (shlK .u64 i (wrap .u64 d)) (4294967295:Int)),(wrap .u64 (aH (lorK .u64 (shlK .u64 k (wrap .u64 d)) (shrK .u64 i (wrap .u64 ((64:Int)-(wrap .u64 d))))) (shrK .u64 (shlK .u64 h (wrap .u64 d)) (32:Int)))),(wrap .u64 ((lorK .u64 (shlK .u64 k (wrap .u64 d)) (shrK .u64 i (wrap .u64 ((64:Int)-(wrap .u64 d)))))-(wrap .u64 ((wrap .u64 (aH (lorK .u64 (shlK .u64 k (wrap .u64 d)) (shrK .u64 i (wrap .u64 ((64:Int)-(wrap .u64 d))))) (shrK .u64 (shlK .u64 h (wrap .u64 d)) (32:Int))))*(shrK .u64 (shlK .u64 h (wrap .u64 d)) (32:Int)))))))) (λe=>(gd (e.1.2.1≠0) (bd (loopO (σ:=((Int×Int)×Int×Int)×(Int×Int)×Int×Int×Int) fuelN (λ(g:((Int×Int)×Int×Int)×(Int×Int)×Int×Int×Int)=>(bd (cnd (g.2.2.2.2>=4294967296) (some ((g.1.1,g.1.2.1,g.1.2.2,g.2.1.1),(g.2.1.2,g.2.2.1),g.2.2.2.1,g.2.2.2.2,true)) (some ((g.1.1,g.1.2.1,g.1.2.2,g.2.1.1),(g.2.1.2,g.2.2.1),g.2.2.2.1,g.2.2.2.2,(decide ((wrap .u64 (g.2.2.2.2*g.1.2.2))>(wrap .u64 ((wrap .u64 ((4294967296:Int)*g.2.2.1))+g.2.1.1))))))) (λc=>(cnd c.2.2.2.2 (cnd ((wrap .u64 (c.2.1.2+c.1.2.1))>=4294967296) (dnO (some ((c.1.1.1,c.1.1.2,c.1.2.2.2),c.2.1.1,c.2.2.1,(wrap .u64 (c.2.2.2.1-1))))) (some (Ctl.go ((c.1.1,c.1.2.1,c.1.2.2.1),(c.1.2.2.2,c.2.1.1),(wrap .u64 (c.2.1.2+c.1.2.1)),c.2.2.1,(wrap .u64 (c.2.2.2.1-1)))))) (dnO (some ((c.1.1.1,c.1.1.2,c.1.2.2.2),c.2.1.1,c.2.2.1,c.2.2.2.1))))))) (e.1,e.2.2,(wrap .u64 ((wrap .u64 ((wrap .u64 ((wrap .u64 (e.2.1.1*4294967296))+e.2.1.2))-(wrap .u64 (e.2.2.2*e.1.1.1))))-(wrap .u64 ((wrap .u64 (aH (wrap .u64 ((wrap .u64 ((wrap .u64 (e.2.1.1*4294967296))+e.2.1.2))-(wrap .u64 (e.2.2.2*e.1.1.1)))) e.1.2.1))*e.1.2.1)))),(wrap .u64 ((wrap .u64 ((wrap .u64 (e.2.1.1*4294967296))+e.2.1.2))-(wrap .u64 (e.2.2.2*e.1.1.1)))),(wrap .u64 (aH (wrap .u64 ((wrap .u64 ((wrap .u64 (e.2.1.1*4294967296))+e.2.1.2))-(wrap .u64 (e.2.2.2*e.1.1.1)))) e.1.2.1)))) (λj=>(gd ((0:Int)<=j.1.2.1) (some ((wrap .u64 ((wrap .u64 (j.2.1*4294967296))+j.2.2.2)),(shrK .u64 (wrap .u64 ((wrap .u64 ((wrap .u64 (j.2.2.1*4294967296))+j.1.2.2))-(wrap .u64 (j.2.2.2*j.1.1)))) j.1.2.1)))))))))))))))))))
def Ain:Tbl:=(283,⟨⟨[(0,Zf),(1,Zf),(2,Zf)],[]⟩,[⟨[(0,.tup [.c (.i .u64),.c (.i .u64)])],[]⟩],λt=>(o283 t.1 t.2.1 t.2.2)⟩)::Aim
theorem Anc:TK Ain:=kc Anb Tryz.f283 (.s .d (.s (.s .d (.c .cut .d)) (.s (.s .d (.c .cut .d)) (.s .d (.s .d (.s .d (.s .d (.s .d (.s .d (.s .d (.s .d (.s .d (.s .d (.s .d (.j false [⟨[(2,Zf),(8,Zf),(9,Zf),(10,Zf),(11,Zf),(13,Zf),(14,Zf),(15,Zf)],[]⟩] (.s (.b (.l [⟨[(2,Zf),(8,Zf),(9,Zf),(10,Zf),(11,Zf),(13,Zf),(14,Zf),(15,Zf),(16,Zf)],[]⟩] (.s (.s (.j false [⟨[(2,Zf),(8,Zf),(9,Zf),(10,Zf),(11,Zf),(13,Zf),(14,Zf),(15,Zf),(16,Zf),(78,Zc)],[]⟩] .d) .d) .d))) (.s .d (.s .d (.s .d (.j false [⟨[(2,Zf),(8,Zf),(14,Zf),(15,Zf),(17,Zf),(18,Zf)],[]⟩] (.s (.b (.l [⟨[(2,Zf),(8,Zf),(9,Zf),(10,Zf),(14,Zf),(15,Zf),(16,Zf),(17,Zf),(18,Zf)],[]⟩] (.s (.s (.j false [⟨[(2,Zf),(8,Zf),(9,Zf),(10,Zf),(14,Zf),(15,Zf),(16,Zf),(17,Zf),(18,Zf),(113,Zc)],[]⟩] .d) .d) .d))) .d))))))))))))))))))))) λt=>by kernel_rfl
def o284(c:Int)(d:Bool):Option (Int×Int):=
 (bd (cnd d (some (c,d,(decide (c<=9223372036854775808)))) (some (c,d,false))) (λb=>(cnd b.2.2 (some ((wrap .i64 (wrap .u64 ((0:Int)-b.1))),(0:Int))) (bd (cnd (!b.2.1) (some (b.1,(decide (b.1<9223372036854775808)))) (some (b.1,false))) (λe=>(cnd e.2 (some ((wrap .i64 e.1),(0:Int))) (some ((0:Int),(2:Int)))))))))
def Aio:Tbl:=(284,⟨⟨[(0,Zf),(1,Zc)],[]⟩,[⟨[(0,Zq)],[]⟩],λt=>(o284 t.1 t.2)⟩)::Ain
theorem And:TK Aio:=kc Anc Tryz.f284 (.s .d (.s (.b (.s (.j false [⟨[(0,Zf),(1,Zc),(6,Zc)],[]⟩] .d) (.c .d (.s (.j false [⟨[(0,Zf),(15,Zc)],[]⟩] .d) .d)))) .d)) λt=>by kernel_rfl
def Ju:Sch:=⟨[(10,Zc),(14,Zf),(16,Zc)],[]⟩
def o245(d:Int)(e:Int)(c:Int)(h:Int):Option (Int×Int):=
 (cnd (c==0) (some ((0:Int),(1:Int))) (bd (o281 c) (λg=>(bd (o281 d) (λk=>(bd (o281 e) (λl=>(bd (o282 k l) (λi=>(cnd (i.1>=g) (some ((0:Int),(2:Int))) (bd (o283 i.1 i.2 g) (λb=>(bd (cnd (h==0) (bd (cnd (!((!((decide (d<0))==(decide (e<0))))==(decide (c<0)))) (some ((!((!((decide (d<0))==(decide (e<0))))==(decide (c<0)))),b.1,(decide (b.2>0)))) (some ((!((!((decide (d<0))==(decide (e<0))))==(decide (c<0)))),b.1,false))) (λm=>(some m))) (cnd (h==1) (bd (cnd (!(!((!((decide (d<0))==(decide (e<0))))==(decide (c<0))))) (some ((!((!((decide (d<0))==(decide (e<0))))==(decide (c<0)))),b.1,(decide (b.2>0)))) (some ((!((!((decide (d<0))==(decide (e<0))))==(decide (c<0)))),b.1,false))) (λn=>(some n))) (cnd (h==2) (bd (cnd (b.2>(wrap .u64 (g-b.2))) (some ((!((!((decide (d<0))==(decide (e<0))))==(decide (c<0)))),b.1,true)) (cnd (!(!((!((decide (d<0))==(decide (e<0))))==(decide (c<0))))) (some ((!((!((decide (d<0))==(decide (e<0))))==(decide (c<0)))),b.1,(b.2==(wrap .u64 (g-b.2))))) (some ((!((!((decide (d<0))==(decide (e<0))))==(decide (c<0)))),b.1,false)))) (λo=>(some o))) (some ((!((!((decide (d<0))==(decide (e<0))))==(decide (c<0)))),b.1,false))))) (λf=>(jd (cnd f.2.2 (cnd (f.2.1==18446744073709551615) (dnO (some ((0:Int),(2:Int)))) (some (Ctl.go (f.1,(wrap .u64 (f.2.1+1)))))) (some (Ctl.go (f.1,f.2.1)))) (λj=>(bd (o284 j.2 j.1) (λp=>(some p)))))))))))))))))))
def Aip:Tbl:=(245,⟨⟨[(0,Za),(1,Za),(2,Za),(3,Zh)],[]⟩,[⟨[(0,Zq)],[]⟩],λt=>(o245 t.1.1 t.1.2 t.2.1 t.2.2)⟩)::Aio
theorem Ane:TK Aip:=kc And Tryz.f245 (.s .d (.s .d (.s .d (.s .d (.s .d (.s .d (.s .d (.s .d (.j false [Ju] (.s (.s .d (.b (.s .d (.c (.j false [Ju] .d) (.s .d (.c (.j false [Ju] .d) (.s .d (.c (.j false [Ju] .d) .d)))))))) (.j true [⟨[(10,Zc),(14,Zf)],[]⟩] .d))))))))))) λt=>by kernel_rfl
def o189(b:Int)(c:Int)(d:Int):Option (Int×Int):=
 (bd (o245 b c d (2:Int)) (λe=>(some e)))
def Aiq:Tbl:=(189,⟨⟨[(0,Za),(1,Za),(2,Za)],[]⟩,[⟨[(0,Zq)],[]⟩],λt=>(o189 t.1 t.2.1 t.2.2)⟩)::Aip
theorem Anf:TK Aiq:=kc Ane Tryz.f189 .d λt=>by kernel_rfl
def o190(b:Int×Int):Option Bool:=
 (bd (cnd (b.1>=(-2000000:Int)) (cnd (b.1<=2000000) (cnd (b.2>=(-2000000:Int)) (some (decide (b.2<=2000000))) (some false)) (some false)) (some false)) (λc=>(some c)))
def Air:Tbl:=(190,⟨⟨[(0,Zj)],[]⟩,[⟨[(0,Zc)],[]⟩],λt=>(o190 t)⟩)::Aiq
theorem Ang:TK Air:=kc Anf Tryz.f190 (.s .d (.s (.j false [⟨[(2,Zc)],[]⟩] .d) .d)) λt=>by kernel_rfl
def XO:BSh:= .cells 220 [.ic .i64 (0),.ic .i64 (0)]
def o131(c:Int×Int)(d:Int×Int):Option (Int×Int×Int):=
 (bd (bd (o187 c) (λh=>(cnd (!h) (some (true,c,d)) (bd (o134 d) (λi=>(some ((!i),c,d))))))) (λe=>(cnd e.1 (some ((0:Int),(0:Int),(1:Int))) (bd (o188 e.2.1 e.2.2) (λb=>(cnd (b.2.1<=0) (some ((0:Int),(0:Int),(2:Int))) (bd (o189 (20626481:Int) b.1.1 b.2.1) (λf=>(bd (o189 (20626481:Int) b.1.2 b.2.1) (λg=>(bd (o190 (f.1,g.1)) (λj=>(cnd (!j) (some ((0:Int),(0:Int),(2:Int))) (some (f.1,g.1,(0:Int))))))))))))))))
def Ais:Tbl:=(131,⟨⟨[(0,Zj),(1,Zj)],[]⟩,[⟨[(0,KS)],[]⟩],λt=>(o131 t.1 t.2)⟩)::Air
theorem Anh:TK Ais:=kc Ang Tryz.f131 (.s .d (.s (.s (.j false [⟨[(2,Zb),(3,Zg),(4,Zi),(20,Zc)],[.cells 23 [.i .i64,.i .i64],.cells 23 [.i .i64,.i .i64],XO]⟩] .d) .d) .d)) λt=>by kernel_rfl
def Ps:BSh:= .cells 25 [.s,.i .i64,.i .i64,.i .i64,.i .i64,.i .i64]
def XP:SSh:= .v (.agg [.s,.i .i64,.i .i64,.i .i64,.i .i64,.i .i64])
abbrev Az:Type:=(Bt×Int×Int)×Int×Int×Int
def o63(b:Az):Option Int:=
 (bd (o130 b.1.1 (8:Int)) (λe=>(cnd (!e) (some (5:Int)) (bd (o115 b.1.2.1) (λc=>(cnd (c.2.2 !=0) (some c.2.2) (bd (cnd (b.1.2.2 !=c.1) (some (true,b)) (some ((b.2.1 !=c.2.1),b))) (λd=>(cnd d.1 (some (13:Int)) (bd (o131 d.2.2.2 d.2.2.2) (λf=>(some f.2.2))))))))))))
def Ait:Tbl:=(63,⟨⟨[(0,XP)],[]⟩,[⟨[(0,Za)],[]⟩],λt=>(o63 t)⟩)::Ais
theorem Ani:TK Ait:=kc Anh Tryz.f63 (.s .d (.s .d (.s .d (.s .d (.s (.s (.j false [⟨[(1,Zb),(29,Zc)],[Ps]⟩] .d) .d) .d))))) λt=>by kernel_rfl
def Dk:BSh:= .cells 116 [.ro Yd true,.own 1,.s,.i .i64,.i .i64,.i .i64,.i .i64,.i .i64,.ro Ya true,.b,.b,.b]
def Pt:BSh:= .cells 116 [.ro Yd true,.own 2,.s,.i .i64,.i .i64,.i .i64,.i .i64,.i .i64,.ro Ya true,.b,.b,.b]
abbrev Bb:Type:=((Rcl×Bt)×Int×Int×Int)×(Int×Int×List As)×Bool×Bool×Bool
def Eh(b:Int×Fdl)(c:Int)(e:Bb)(d:Dgl):Option (Bb×Dgl):=
 (cnd (c !=0) (gd ((0:Int)<=0/\(0:Int)<(b.2.length:Int)) (gd (decide ((d.length+([(b.1,((aA b.2 (0:Int).toNat (([]:Bt),(0:Int))).2,c))]:Dgl).length)*24<=140737488355328)) (some (e,(d++([(b.1,((aA b.2 (0:Int).toNat (([]:Bt),(0:Int))).2,c))]:Dgl)))))) (some (e,d)))
def Aiu:Tbl:=(101,⟨⟨[(0,Zb),(1,Ex),(2,Za)],[Dk,Ap]⟩,[⟨[(0,Zs)],[Pt,.no,Ap]⟩],λt=>(Eh t.1.1 t.1.2 t.2.1 t.2.2)⟩)::Ait
theorem Anj:TK Aiu:=kc Ani Tryz.f101 (.s .d (.s .d (.c (.r 2) .d))) λt=>by kernel_rfl
def Dm:SSh:= .v (.agg [.s,.s,.i .u8,.i .i64,.i .i64,.i .i64,.i .i64])
def o67(b:Cx):Option (Bt):=
 (gd (b.1.1.length+([47]:Bt).length<=1125899906842624) (gd ((b.1.1++([47]:Bt)).length+b.1.2.1.length<=1125899906842624) (some ((b.1.1++([47]:Bt))++b.1.2.1))))
def Aiv:Tbl:=(67,⟨⟨[(0,Dm)],[]⟩,[⟨[(0,Zd)],[]⟩],λt=>(o67 t)⟩)::Aiu
theorem Ank:TK Aiv:=kc Anj Tryz.f67 .d λt=>by kernel_rfl
abbrev Pu:Type:=Mbl×Mbl×Mbl
def o69(c:Cx)(d:Mbl)(e:Mbl)(f:Mbl):Option Pu:=
 (bd (o67 c) (λg=>(bd (cnd (c.1.2.2==5) (some (((mpPut d g true),(mpPut e c.1.1 true)),f,c)) (some (((mpPut d g true),e),f,c))) (λb=>(cnd (b.2.2.1.2.2==6) (bd (o67 b.2.2) (λh=>(some (b.1.1,b.1.2,(mpPut b.2.1 h true))))) (some (b.1.1,b.1.2,b.2.1)))))))
def Aiw:Tbl:=(69,⟨⟨[(0,Zu),(1,Dm)],[.map .b,.map .b,.map .b]⟩,[⟨[(0,Zs)],[.map .b,.map .b,.map .b]⟩],λt=>(o69 t.1.1 t.1.2 t.2.1 t.2.2)⟩)::Aiv
theorem Anl:TK Aiw:=kc Ank Tryz.f69 (.s .d (.s .d (.j false [⟨[(2,Zr),(3,Zx)],[.map .b,.map .b,.map .b,.cells 151 [.mp 0,.mp 1,.mp 2],Cw]⟩] .d))) λt=>by kernel_rfl
def Dn:SSh:= .v (.c (.ro Yh false))
def XQ:BSh:= .cells 151 [.cst (.map none),.cst (.map none),.cst (.map none)]
abbrev Ae:Type:=Bt×Bt×Int×(Int×Int)×Int×Int
abbrev Pv:Type:=(List Ae×Int×Int)×Mbl×Mbl×Mbl
def AW:Ae:=(([]:Bt),(([]:Bt),((0:Int),(((0:Int),(0:Int)),((0:Int),(0:Int))))))
def o64(d:List Ae):Option Pu:=
 (loopO (σ:=Pv) fuelN (λ(b:Pv)=>(cnd (b.1.2.2<b.1.2.1) (gd ((0:Int)<=b.1.2.2/\b.1.2.2<(b.1.1.length:Int)) (bd (some (aA b.1.1 b.1.2.2.toNat AW)) (λc=>(bd (o69 ((c.1,c.2.1,c.2.2.1),c.2.2.2) b.2.1 b.2.2.1 b.2.2.2) (λe=>(some (Ctl.go ((b.1.1,b.1.2.1,(wrap .i64 (b.1.2.2+1))),e)))))))) (dnO (some b.2)))) ((d,(d.length:Int),(0:Int)),([]:Mbl),([]:Mbl),([]:Mbl)))
def Aix:Tbl:=(64,⟨⟨[(0,Dn)],[]⟩,[⟨[(0,Zu)],[.map .b,.map .b,.map .b]⟩],λt=>(o64 t)⟩)::Aiw
theorem Anm:TK Aix:=kc Anl Tryz.f64 (.s .d (.s .d (.s (.s .d (.b (.l [⟨[(2,Zb),(3,Zg),(10,Dn),(11,Za),(12,Za)],[XQ,.cells 151 [.mp 2,.mp 3,.mp 4],.map .b,.map .b,.map .b]⟩] .d))) .d))) λt=>by kernel_rfl
abbrev XR:Type:=(Int×Mbl×Mbl)×(Mbl×Mbl)×Mbl×Mbl
def o68(c:Cx)(l:Int×Int)(f:Mbl)(e:Mbl)(g:Mbl)(h:Mbl)(i:Mbl)(j:Mbl):Option XR:=
 (bd (o131 l c.2.1) (λk=>(cnd (k.2.2 !=0) (some ((k.2.2,f,e),(g,h),i,j)) (bd (cnd (c.1.2.2==5) (some ((((mpGet false e c.1.1),f),e,g),(h,i),j,c)) (some (((false,f),e,g),(h,i),j,c))) (λb=>(cnd b.1.1.1 (some (((7:Int),b.1.1.2,b.1.2.1),(b.1.2.2,b.2.1.1),b.2.1.2,b.2.2.1)) (bd (cnd (b.2.2.2.1.2.2==6) (some (((!(mpGet false b.2.1.2 b.2.2.2.1.2.1)),b.1.1.2,b.1.2.1),(b.1.2.2,b.2.1.1),b.2.1.2,b.2.2.1)) (some ((false,b.1.1.2,b.1.2.1),(b.1.2.2,b.2.1.1),b.2.1.2,b.2.2.1))) (λd=>(cnd d.1.1 (some (((6:Int),d.1.2),d.2)) (some (((0:Int),d.1.2),d.2)))))))))))
def Aiy:Tbl:=(68,⟨⟨[(0,Dm),(1,Zj),(2,Zu),(3,.v (.agg [.mp 3,.mp 4,.mp 5]))],[.map .b,.map .b,.map .b,.map .b,.map .b,.map .b]⟩,[⟨[(0,Za)],[.map .b,.map .b,.map .b,.map .b,.map .b,.map .b]⟩],λt=>(o68 t.1.1.1 t.1.1.2 t.1.2.1 t.1.2.2 t.2.1.1 t.2.1.2 t.2.2.1 t.2.2.2)⟩)::Aix
theorem Ann:TK Aiy:=kc Anm Tryz.f68 (.s .d (.s .d (.s (.s (.j false [⟨[(4,Zy),(7,Zz),(30,Zc)],[.map .b,.map .b,.map .b,.map .b,.map .b,.map .b,Cw,.cells 151 [.mp 3,.mp 4,.mp 5]]⟩] .d) .d) (.s (.s (.j false [⟨[(41,Zc)],[.map .b,.map .b,.map .b,.map .b,.map .b,.map .b]⟩] .d) .d) .d)))) λt=>by kernel_rfl
def o102(b:Int)(c:Int)(d:Bool):Option Int:=
 (cnd (b>c) (some (3:Int)) (cnd d (some (7:Int)) (some (0:Int))))
def Aiz:Tbl:=(102,⟨⟨[(0,Za),(1,Za),(2,Zc)],[]⟩,[⟨[(0,Za)],[]⟩],λt=>(o102 t.1 t.2.1 t.2.2)⟩)::Aiy
theorem Ano:TK Aiz:=kc Ann Tryz.f102 .d λt=>by kernel_rfl
def o136(b:Int):Option (Unit ⊕ (Bt)):=
 (cnd (b==1) (some (Sum.inr ([(u8 (1:Int)),(u8 (2:Int)),(u8 (3:Int))]:Bt))) (cnd (b==2) (some (Sum.inr ([(u8 (3:Int)),(u8 (2:Int)),(u8 (1:Int))]:Bt))) (cnd (b==3) (some (Sum.inr ([(u8 (3:Int)),(u8 (2:Int)),(u8 (4:Int))]:Bt))) (some (Sum.inl ())))))
def AiA:Tbl:=(136,⟨⟨[(0,Zh)],[]⟩,[⟨[(0,.v (.c (.cst (.slice none 0 0))))],[]⟩,⟨[(0,Ze)],[.row .y 90]⟩],λt=>(o136 t)⟩)::Aiz
theorem Anp:TK AiA:=kc Ano Tryz.f136 .d λt=>by kernel_rfl
def o196(c:Bt)(d:Int):Option Int:=
 (loopO (σ:=(Bt×Int)×Int×Int) fuelN (λ(b:(Bt×Int)×Int×Int)=>(cnd (b.2.2<b.2.1) (gd ((0:Int)<=b.2.2/\b.2.2<(b.1.1.length:Int)) (cnd (b.1.2==((aI (aA b.1.1 b.2.2.toNat (0:UInt8)):Nat):Int)) (dnO (some b.2.2)) (some (Ctl.go (b.1,b.2.1,(wrap .i64 (b.2.2+1))))))) (dnO (some (-1:Int))))) ((c,d),(c.length:Int),(0:Int)))
def AiB:Tbl:=(196,⟨⟨[(0,Zp),(1,Zh)],[]⟩,[⟨[(0,Za)],[]⟩],λt=>(o196 t.1 t.2)⟩)::AiA
theorem Anq:TK AiB:=kc Anp Tryz.f196 (.s .d (.s (.s .d (.b (.l [⟨[(0,Zp),(1,Zh),(7,Za),(8,Za)],[]⟩] .d))) .d)) λt=>by kernel_rfl
def Cy:SSh:= .v (.agg [.s,.s,.i .u8,.ro Yf false])
abbrev Aw:Type:=(Bt×Bt)×Int×List (Int×Bt×List Af)
def o197(f:Aw)(d:Int)(c:Int):Option Bool:=
 (bd (cnd (d==4) (some (c,true)) (cnd (d==1) (some (c,(f.2.1==1))) (some (c,false)))) (λb=>(cnd b.2 (bd (cnd (b.1==3) (some (b.1,true)) (cnd (b.1==4) (some (b.1,true)) (cnd (b.1==7) (some (b.1,true)) (cnd (b.1==8) (some (b.1,true)) (some (b.1,(b.1==10))))))) (λe=>(cnd e.2 (some true) (some (e.1==1))))) (some (b.1==1)))))
def AiC:Tbl:=(197,⟨⟨[(0,Cy),(1,Zh),(2,Zh)],[]⟩,[⟨[(0,Zc)],[]⟩],λt=>(o197 t.1 t.2.1 t.2.2)⟩)::AiB
theorem Anr:TK AiC:=kc Anq Tryz.f197 (.s .d (.s (.s (.j false [⟨[(2,Zh),(17,Zc)],[]⟩] .d) (.c (.s .d (.b (.j false [⟨[(2,Zh),(19,Zc)],[]⟩] .d))) .d)) .d)) λt=>by kernel_rfl
def o248(f:Int)(g:Int):Option Bool:=
 (bd (bd (o182 f) (λh=>(cnd (!h) (some (f,g,true)) (bd (o182 g) (λi=>(some (f,g,(!i)))))))) (λc=>(cnd c.2.2 (some false) (bd (cnd (c.1==1) (some (c.2.1,c.1,true)) (cnd (c.1==2) (some (c.2.1,c.1,true)) (cnd (c.1==3) (some (c.2.1,c.1,true)) (cnd (c.1==4) (some (c.2.1,c.1,true)) (cnd (c.1==5) (some (c.2.1,c.1,true)) (some (c.2.1,c.1,(c.1==6)))))))) (λd=>(cnd d.2.2 (some (d.1 !=1)) (bd (cnd (d.2.1==14) (some (d.1,d.2.1,true)) (cnd (d.2.1==15) (some (d.1,d.2.1,true)) (cnd (d.2.1==16) (some (d.1,d.2.1,true)) (some (d.1,d.2.1,(d.2.1==17)))))) (λb=>(cnd b.2.2 (bd (cnd (b.1==2) (some true) (cnd (b.1==3) (some true) (cnd (b.1==4) (some true) (cnd (b.1==7) (some true) (cnd (b.1==8) (some true) (cnd (b.1==9) (some true) (cnd (b.1==10) (some true) (cnd (b.1==11) (some true) (cnd (b.1==12) (some true) (some (b.1==13))))))))))) (λj=>(cnd j (some true) (some false)))) (bd (cnd (b.2.1==7) (some (b.1,b.2.1,true)) (cnd (b.2.1==8) (some (b.1,b.2.1,true)) (cnd (b.2.1==10) (some (b.1,b.2.1,true)) (cnd (b.2.1==11) (some (b.1,b.2.1,true)) (some (b.1,b.2.1,(b.2.1==12))))))) (λe=>(cnd e.2.2 (bd (cnd (e.1==3) (some true) (cnd (e.1==4) (some true) (cnd (e.1==7) (some true) (cnd (e.1==8) (some true) (cnd (e.1==9) (some true) (some (e.1==10))))))) (λk=>(cnd k (some true) (some false)))) (cnd (e.2.1==9) (some (e.1==3)) (some false))))))))))))))
def AiD:Tbl:=(248,⟨⟨[(0,Zh),(1,Zh)],[]⟩,[⟨[(0,Zc)],[]⟩],λt=>(o248 t.1 t.2)⟩)::AiC
theorem Ans:TK AiD:=kc Anr Tryz.f248 (.s .d (.s (.s (.j false [⟨[(0,Zh),(1,Zh),(12,Zc)],[]⟩] .d) .d) (.s (.s .d (.b (.j false [⟨[(1,Zh),(13,Zh),(14,Zc)],[]⟩] (.s .d (.c .d (.j false [⟨[(1,Zh),(13,Zh),(23,Zc)],[]⟩] (.s .d (.c (.s .d (.b (.j false [⟨[(29,Zc)],[]⟩] .d))) (.j false [⟨[(1,Zh),(13,Zh),(40,Zc)],[]⟩] (.s .d (.c (.s .d (.b (.j false [⟨[(47,Zc)],[]⟩] .d))) .d))))))))))) .d))) λt=>by kernel_rfl
def o249(b:Int):Option Bool:=
 (bd (cnd (b==11) (some true) (cnd (b==12) (some true) (cnd (b==13) (some true) (cnd (b==14) (some true) (cnd (b==15) (some true) (cnd (b==16) (some true) (some (b==17)))))))) (λc=>(cnd c (some true) (some false))))
def AiE:Tbl:=(249,⟨⟨[(0,Zh)],[]⟩,[⟨[(0,Zc)],[]⟩],λt=>(o249 t)⟩)::AiD
theorem Ant:TK AiE:=kc Ans Tryz.f249 (.s .d (.s (.s .d (.b (.j false [⟨[(4,Zc)],[]⟩] .d))) .d)) λt=>by kernel_rfl
def o198(c:Ai)(b:Ai):Option Bool:=
 (bd (bd (o248 c.1.1.1 b.1.1.1) (λd=>(cnd d (bd (o249 b.1.1.1) (λe=>(cnd (!e) (some true) (some (c.1.1.2.1==b.1.1.2.1))))) (some false)))) (λf=>(some f)))
def AiF:Tbl:=(198,⟨⟨[(0,DQ),(1,DQ)],[]⟩,[⟨[(0,Zc)],[]⟩],λt=>(o198 t.1 t.2)⟩)::AiE
theorem Anu:TK AiF:=kc Ant Tryz.f198 (.s .d (.s (.j false [⟨[(4,Zc)],[]⟩] .d) .d)) λt=>by kernel_rfl
def Bg:BSh:= .cells 89 [.s,.s,.i .u8,.ro Yf false]
def Cz:BSh:= .cells 93 [.i .u8,.s,.ro Yb true]
def EA:SSh:= .v (.c (.ro Yb true))
abbrev Pw:Type:=(List Af×Int)×Int×Aw×Int×Bt×List Af
def BS:Af:=((0:Int),(([]:Bt),(([]:Bt),((0:Int),(false,((0:Int),((0:Int),((0:Int),((0:Int),(((0:Int),(0:Int)),((0:Int),(0:Int))))))))))))
def o137(p:Aw)(q:Int):Option Int:=
 (bd (bd (o136 p.2.1) (λu=>(sm u (λA=>(some (q,p,([]:Bt)))) (λv=>(some (q,p,v)))))) (λd=>(gd ((0:Int)<=d.1/\d.1<(d.2.1.2.2.length:Int)) (bd (some (aA d.2.1.2.2 d.1.toNat AD)) (λi=>(bd (o196 d.2.2 i.1) (λj=>(cnd (j<0) (some (17:Int)) (jd (cnd (d.1>0) (gd ((0:Int)<=(wrap .i64 (d.1-1))/\(wrap .i64 (d.1-1))<(d.2.1.2.2.length:Int)) (bd (some (aA d.2.1.2.2 (wrap .i64 (d.1-1)).toNat AD)) (λl=>(bd (o196 d.2.2 l.1) (λm=>(bd (cnd (j<m) (some ((j,m,true),d.2.1,i,l)) (cnd (j==m) (some ((j,m,(Op.bytesLess i.2.1 l.2.1)),d.2.1,i,l)) (some ((j,m,false),d.2.1,i,l)))) (λh=>(cnd h.1.2.2 (dnO (some (9:Int))) (bd (cnd (h.1.1==h.1.2.1) (some ((h.2.2.1.2.1==h.2.2.2.2.1),h.2.1,h.2.2.1)) (some (false,h.2.1,h.2.2.1))) (λr=>(cnd r.1 (dnO (some (7:Int))) (some (Ctl.go r.2))))))))))))) (some (Ctl.go (d.2.1,i)))) (λo=>(bd (cnd (o.2.1==1) (some (true,o)) (some ((o.2.1==3),o))) (λe=>(bd (cnd e.1 (bd (o130 e.2.2.2.1 (8:Int)) (λw=>(cnd (!w) (some (true,e.2)) (cnd (!e.1) (some ((!(e.2.2.2.1==([]:Bt))),e.2)) (some (false,e.2)))))) (cnd (!e.1) (some ((!(e.2.2.2.1==([]:Bt))),e.2)) (some (false,e.2)))) (λk=>(cnd k.1 (some (5:Int)) (cnd ((k.2.2.2.2.length:Int)==0) (some (1:Int)) (cnd ((k.2.2.2.2.length:Int)>24) (some (3:Int)) (loopO (σ:=Pw) fuelN (λ(b:Pw)=>(cnd (b.2.1<b.1.2) (gd ((0:Int)<=b.2.1/\b.2.1<(b.1.1.length:Int)) (bd (some (aA b.1.1 b.2.1.toNat BS)) (λc=>(bd (o126 (((c.1,c.2.1,c.2.2.1),c.2.2.2.1,c.2.2.2.2.1,c.2.2.2.2.2.1),(c.2.2.2.2.2.2.1,c.2.2.2.2.2.2.2.1,c.2.2.2.2.2.2.2.2.1),c.2.2.2.2.2.2.2.2.2)) (λs=>(cnd (s !=0) (dnO (some s)) (bd (cnd (b.2.1==0) (bd (o197 b.2.2.1 b.2.2.2.1 c.1) (λx=>(cnd (!x) (some ((b.1.1,b.1.2,b.2.1),true,b.2.2)) (cnd (b.2.1>0) (gd ((0:Int)<=(wrap .i64 (b.2.1-1))/\(wrap .i64 (b.2.1-1))<(b.2.2.2.2.2.length:Int)) (bd (some (aA b.2.2.2.2.2 (wrap .i64 (b.2.1-1)).toNat BS)) (λf=>(bd (o198 (((f.1,f.2.1,f.2.2.1),f.2.2.2.1,f.2.2.2.2.1,f.2.2.2.2.2.1),(f.2.2.2.2.2.2.1,f.2.2.2.2.2.2.2.1,f.2.2.2.2.2.2.2.2.1),f.2.2.2.2.2.2.2.2.2) (((c.1,c.2.1,c.2.2.1),c.2.2.2.1,c.2.2.2.2.1,c.2.2.2.2.2.1),(c.2.2.2.2.2.2.1,c.2.2.2.2.2.2.2.1,c.2.2.2.2.2.2.2.2.1),c.2.2.2.2.2.2.2.2.2)) (λy=>(some ((b.1.1,b.1.2,b.2.1),(!y),b.2.2))))))) (some ((b.1.1,b.1.2,b.2.1),false,b.2.2)))))) (cnd (b.2.1>0) (gd ((0:Int)<=(wrap .i64 (b.2.1-1))/\(wrap .i64 (b.2.1-1))<(b.2.2.2.2.2.length:Int)) (bd (some (aA b.2.2.2.2.2 (wrap .i64 (b.2.1-1)).toNat BS)) (λg=>(bd (o198 (((g.1,g.2.1,g.2.2.1),g.2.2.2.1,g.2.2.2.2.1,g.2.2.2.2.2.1),(g.2.2.2.2.2.2.1,g.2.2.2.2.2.2.2.1,g.2.2.2.2.2.2.2.2.1),g.2.2.2.2.2.2.2.2.2) (((c.1,c.2.1,c.2.2.1),c.2.2.2.1,c.2.2.2.2.1,c.2.2.2.2.2.1),(c.2.2.2.2.2.2.1,c.2.2.2.2.2.2.2.1,c.2.2.2.2.2.2.2.2.1),c.2.2.2.2.2.2.2.2.2)) (λz=>(some ((b.1.1,b.1.2,b.2.1),(!z),b.2.2))))))) (some ((b.1.1,b.1.2,b.2.1),false,b.2.2)))) (λn=>(cnd n.2.1 (dnO (some (9:Int))) (some (Ctl.go ((n.1.1,n.1.2.1),(wrap .i64 (n.1.2.2+1)),n.2.2)))))))))))) (dnO (some (0:Int))))) ((k.2.2.2.2,(k.2.2.2.2.length:Int)),(0:Int),k.2)))))))))))))))))))
def AiG:Tbl:=(137,⟨⟨[(0,Cy),(1,Za)],[]⟩,[⟨[(0,Za)],[]⟩],λt=>(o137 t.1 t.2)⟩)::AiF
theorem Anv:TK AiG:=kc Anu Tryz.f137 (.s .d (.s (.j false [⟨[(1,Za),(2,Zb),(5,Zl)],[Bg,.row .y 90]⟩] .d) (.s .d (.s .d (.s .d (.j true [⟨[(2,Zb),(6,Zg)],[Bg,Cz]⟩] (.s (.s .d (.c (.s .d (.s .d (.b (.s (.j false [⟨[(2,Zb),(6,Zg),(7,Za),(8,Zi),(9,Za),(40,Zc)],[Bg,Cz,Cz]⟩] .d) (.c .d (.s (.j false [⟨[(2,Zb),(6,Zg),(56,Zc)],[Bg,Cz]⟩] .d) .d)))))) .d)) (.s (.j false [⟨[(2,Zb),(6,Zg),(10,Zc)],[Bg,Cz]⟩] .d) (.s (.b (.s (.j false [⟨[(2,Zb),(6,Zg),(75,Zc)],[Bg,Cz]⟩] .d) .d)) (.s (.s .d (.b (.l [⟨[(2,Zb),(6,Zg),(103,EA),(104,Za),(105,Za)],[Bg,Cz]⟩] (.s .d (.s .d (.s (.b (.s .d (.s .d (.s (.j false [⟨[(2,Zb),(6,Zg),(103,EA),(104,Za),(105,Za),(140,Zc)],[Bg,Cz]⟩] .d) .d)))) .d)))))) .d)))))))))) λt=>by kernel_rfl
def Fx:SSh:= .v (.c (.ro Yb false))
def Fy:BSh:= .row Yb 96
def o145(b:List Af):Option (List Af):=
 (nlO (aX b) (some ([]:List Af)) (gd ((([]:List Af).length+b.length)*112<=140737488355328) (some (([]:List Af)++b))))
def AiH:Tbl:=(145,⟨⟨[(0,Fx)],[]⟩,[⟨[(0,Ze)],[Fy]⟩],λt=>(o145 t)⟩)::AiG
theorem Anw:TK AiH:=kc Anv Tryz.f145 .d λt=>by kernel_rfl
def Px:SSh:= .v (.c (.ro Yf false))
def Py:BSh:= .cells 93 [.ic .u8 (0),.s,.cst (.slice none 0 0)]
def XS:SSh:= .tup [.agg [.i .u8,.s,.own 0],.c (.b)]
abbrev PA:Type:=(Int×Bt×List (Int×Bt×List Af))×Int×Int×Bt
def o138(e:Aw)(f:Int)(g:Bt):Option ((Int×Bt×Bool)×List Af):=
 (loopO (σ:=PA) fuelN (λ(b:PA)=>(cnd (b.2.2.1<b.2.1) (gd ((0:Int)<=b.2.2.1/\b.2.2.1<(b.1.2.2.length:Int)) (bd (some (aA b.1.2.2 b.2.2.1.toNat AD)) (λd=>(bd (cnd (d.1==b.1.1) (some (((b.1.1,b.1.2.1),b.1.2.2,b.2.1),(b.2.2.1,(d.2.1==b.1.2.1)),b.2.2.2,d)) (some (((b.1.1,b.1.2.1),b.1.2.2,b.2.1),(b.2.2.1,false),b.2.2.2,d))) (λc=>(cnd c.2.1.2 (bd (o145 c.2.2.2.2.2) (λh=>(dnO (some ((c.2.2.2.1,c.2.2.2.2.1,true),h))))) (some (Ctl.go ((c.1.1.1,c.1.1.2,c.1.2.1),c.1.2.2,(wrap .i64 (c.2.1.1+1)),c.2.2.1))))))))) (dnO (some (((0:Int),([]:Bt),false),([]:List Af)))))) ((f,g,e.2.2),(e.2.2.length:Int),(0:Int),([]:Bt)))
def AiI:Tbl:=(138,⟨⟨[(0,Cy),(1,Zh),(2,Zd)],[]⟩,[⟨[(0,XS)],[Fy]⟩],λt=>(o138 t.1 t.2.1 t.2.2)⟩)::AiH
theorem Anx:TK AiI:=kc Anw Tryz.f138 (.s .d (.s (.s .d (.b (.l [⟨[(1,Zh),(2,Zd),(6,Zb),(11,Px),(12,Za),(13,Za)],[Py]⟩] (.s .d (.s .d (.s (.b (.s .d (.s (.j false [⟨[(1,Zh),(2,Zd),(6,Zb),(9,Zg),(11,Px),(12,Za),(13,Za),(26,Zc)],[Py,Cz]⟩] .d) .d))) .d)))))) .d)) λt=>by kernel_rfl
def o71(c:Aw):Option Int:=
 (bd (bd (o130 c.1.1 (6:Int)) (λg=>(cnd (!g) (some (true,c)) (bd (o130 c.1.2 (8:Int)) (λh=>(some ((!h),c))))))) (λd=>(cnd d.1 (some (5:Int)) (bd (bd (o136 d.2.2.1) (λi=>(sm i (λm=>(some (true,d.2))) (λj=>(gd (0<j.length) (some (false,d.2))))))) (λe=>(cnd e.1 (some (17:Int)) (cnd ((e.2.2.2.length:Int)>12) (some (3:Int)) (loopO (σ:=Int×Int×Aw) fuelN (λ(b:Int×Int×Aw)=>(cnd (b.2.1<b.1) (bd (o137 b.2.2 b.2.1) (λf=>(cnd (f !=0) (dnO (some f)) (some (Ctl.go (b.1,(wrap .i64 (b.2.1+1)),b.2.2)))))) (dnO (cnd ((b.2.2.2.2.length:Int)==0) (some (6:Int)) (bd (o138 b.2.2 (2:Int) ([]:Bt)) (λk=>(bd (cnd (b.2.2.2.1==3) (some (!k.1.2.2)) (some false)) (λl=>(cnd l (some (6:Int)) (some (0:Int))))))))))) ((e.2.2.2.length:Int),(0:Int),e.2)))))))))
def AiJ:Tbl:=(71,⟨⟨[(0,Cy)],[]⟩,[⟨[(0,Za)],[]⟩],λt=>(o71 t)⟩)::AiI
theorem Anz:TK AiJ:=kc Anx Tryz.f71 (.s .d (.s (.b (.s (.j false [⟨[(1,Zb),(7,Zc)],[Bg]⟩] .d) (.c .d (.s (.j false [⟨[(1,Zb),(18,Zc)],[Bg]⟩] .d) .d)))) (.s (.s .d (.b (.l [⟨[(1,Zb),(30,Za),(31,Za)],[Bg]⟩] .d))) (.s .d (.s (.s .d (.s (.j false [⟨[(56,Zc)],[]⟩] .d) .d)) .d))))) λt=>by kernel_rfl
def o59(b:Int):Option (Bt):=
 (cnd (b==1) (some ([68,69,80,65,82,84,85,82,69]:Bt)) (cnd (b==2) (some ([65,82,82,73,86,65,76]:Bt)) (cnd (b==3) (some ([65,80,80,82,79,65,67,72]:Bt)) (some ([78,79,78,69]:Bt)))))
def AiK:Tbl:=(59,⟨⟨[(0,Zh)],[]⟩,[⟨[(0,Zd)],[]⟩],λt=>(o59 t)⟩)::AiJ
theorem AnA:TK AiK:=kc Anz Tryz.f59 .d λt=>by kernel_rfl
def PB:SSh:= .v (.agg [.i .u8,.s,.ro Yb false])
abbrev PC:Type:=(Int×Mbl)×Mbl×Mbl
abbrev XT:Type:=(Bool×Mbl)×Mbl×Mbl
def o72(e:Aw)(c:Int×Bt×List Af)(f:Mbl)(g:Mbl)(d:Mbl):Option PC:=
 (bd (cnd (c.1==1) (gd (c.2.1.length+([47]:Bt).length<=1125899906842624) (gd ((c.2.1++([47]:Bt)).length+e.1.1.length<=1125899906842624) (some (((!(mpGet false d ((c.2.1++([47]:Bt))++e.1.1))),f),g,d)))) (some ((false,f),g,d))) (λb=>(cnd b.1.1 (some (((6:Int),b.1.2),b.2)) (some (((0:Int),b.1.2),b.2)))))
def AiL:Tbl:=(72,⟨⟨[(0,Cy),(1,PB),(2,Zu)],[.map .b,.map .b,.map .b]⟩,[⟨[(0,Za)],[.map .b,.map .b,.map .b]⟩],λt=>(o72 t.1.1 t.1.2 t.2.1 t.2.2.1 t.2.2.2)⟩)::AiK
theorem AnB:TK AiL:=kc AnA Tryz.f72 (.s .d (.s (.s (.j false [⟨[(21,Zc)],[.map .b,.map .b,.map .b]⟩] .d) .d) .d)) λt=>by kernel_rfl
def o139(c:Bt)(b:Mbl)(d:Mbl)(e:Mbl):Option XT:=
 (bd (cnd (c==([]:Bt)) (some ((true,b),d,e)) (some (((mpGet false b c),b),d,e))) (λf=>(some f)))
def AiM:Tbl:=(139,⟨⟨[(0,Zu),(1,Zd)],[.map .b,.map .b,.map .b]⟩,[⟨[(0,Zc)],[.map .b,.map .b,.map .b]⟩],λt=>(o139 t.1.1 t.1.2 t.2.1 t.2.2)⟩)::AiL
theorem AnC:TK AiM:=kc AnB Tryz.f139 (.s .d (.s (.j false [⟨[(4,Zc)],[.map .b,.map .b,.map .b]⟩] .d) .d)) λt=>by kernel_rfl
def o73(e:Ai)(f:Mbl)(g:Mbl)(h:Mbl):Option PC:=
 (bd (bd (o139 e.1.1.2.1 f g h) (λb=>(cnd (!b.1.1) (some ((true,b.1.2),b.2)) (bd (o139 e.1.1.2.2 b.1.2 b.2.1 b.2.2) (λd=>(some (((!d.1.1),d.1.2),d.2))))))) (λc=>(cnd c.1.1 (some (((6:Int),c.1.2),c.2)) (some (((0:Int),c.1.2),c.2)))))
def AiN:Tbl:=(73,⟨⟨[(0,DQ),(1,Zu)],[.map .b,.map .b,.map .b]⟩,[⟨[(0,Za)],[.map .b,.map .b,.map .b]⟩],λt=>(o73 t.1.1 t.1.2 t.2.1 t.2.2)⟩)::AiM
theorem AnD:TK AiN:=kc AnC Tryz.f73 (.s .d (.s (.s (.j false [⟨[(16,Zc)],[.map .b,.map .b,.map .b]⟩] .d) .d) .d)) λt=>by kernel_rfl
def CA:BSh:= .cells 123 [.i .u8,.i .i64,.ro Yc true,.s,.s,.i .u8,.i .i64,.i .i64,.i .i64,.i .i64,.s,.ro Yg true,.ro Yd true,.s,.s,.i .u8,.ro Yf true,.ro Yd true,.ro (.a Yd) true]
def CB:BSh:= .cells 89 [.s,.s,.i .u8,.ro Yf true]
def CC:SSh:= .v (.c (.ro Yf true))
def PD:BSh:= .cells 116 [.ro Yd true,.own 9,.s,.i .i64,.i .i64,.i .i64,.i .i64,.i .i64,.ro Ya true,.b,.b,.b]
def XU:SSh:= .v (.agg [.i .u8,.i .i64,.ro Yc true,.s,.s,.i .u8,.i .i64,.i .i64,.i .i64,.i .i64,.s,.ro Yg true,.ro Yd true,.s,.s,.i .u8,.ro Yf true,.ro Yd true,.ro (.a Yd) true])
def Lb:BSh:= .cells 116 [.ro Yd true,.own 6,.s,.i .i64,.i .i64,.i .i64,.i .i64,.i .i64,.ro Ya true,.b,.b,.b]
abbrev BT:Type:=(((Int×Int)×Fdl×Bt)×(Bt×Int)×Int×Int×Int)×((Int×Bt)×(List (Bt×(Int×Int)×Int))×Rcl×Bt)×(Bt×Int)×(List (Int×Bt×List Af))×Rcl×List Rcl
abbrev XV:Type:=(Bb×Mbl×Mbl)×Mbl×Mbl×Dgl
abbrev Lc:Type:=((Int×Bb)×Dgl×Mbl)×(Mbl×Mbl)×Mbl×BT×Aw
abbrev XW:Type:=((Int×Bt)×Bb×Dgl×Mbl)×(Mbl×Mbl)×Mbl×BT×Aw
abbrev XX:Type:=((Int×Bt)×Bool×Bb×Dgl)×(Mbl×Mbl×Mbl)×Mbl×BT×Aw
abbrev XY:Type:=((Int×Bool)×Bb×Dgl×Mbl)×(Mbl×Mbl)×Mbl×BT×Aw
abbrev Ld:Type:=(((List (Int×Bt×List Af))×Int)×Int×Bb×Mbl)×(Mbl×Mbl×Mbl)×BT×Aw×Dgl
abbrev Le:Type:=((Int×(List (Int×Bt×List Af))×Int)×(Int×List Af)×Int×Int)×((Bb×Mbl)×Mbl×Mbl)×(Mbl×BT)×Aw×Dgl
def SY:Sch:=⟨[(0,Zb),(4,.v (.c (.mp 5))),(6,Zy),(7,Zz),(10,ZB),(11,Za)],[Dk,Ap,.map .b,.map .b,.map .b,.map .b,CA,.cells 151 [.mp 2,.mp 3,.mp 4],CB]⟩
def o103(h:BT)(z:Int)(p:Bb)(q:Dgl)(r:Mbl)(s:Mbl)(u:Mbl)(v:Mbl):Option XV:=
 (bd (cnd (z>60) (some ((((3:Int),p),q,r),(s,u),v,h,(h.2.1.2.2.2,h.2.2.1.1),h.2.2.1.2,h.2.2.2.1)) (some ((((0:Int),p),q,r),(s,u),v,h,(h.2.1.2.2.2,h.2.2.1.1),h.2.2.1.2,h.2.2.2.1))) (λl=>(bd (cnd (l.1.1.1==0) (bd (o71 l.2.2.2.2) (λA=>(some (((A,l.1.1.2),l.1.2),l.2)))) (some l)) (λd=>(bd (o59 d.2.2.2.2.2.1) (λk=>(gd (k.length+([32]:Bt).length<=1125899906842624) (gd ((k++([32]:Bt)).length+d.2.2.2.2.1.1.length<=1125899906842624) (gd (((k++([32]:Bt))++d.2.2.2.2.1.1).length+([32]:Bt).length<=1125899906842624) (gd ((((k++([32]:Bt))++d.2.2.2.2.1.1)++([32]:Bt)).length+d.2.2.2.2.1.2.length<=1125899906842624) (bd (bd (cnd (d.1.1.1==0) (some (((d.1.1.1,((((k++([32]:Bt))++d.2.2.2.2.1.1)++([32]:Bt))++d.2.2.2.2.1.2)),(mpGet false d.2.2.1 ((((k++([32]:Bt))++d.2.2.2.2.1.1)++([32]:Bt))++d.2.2.2.2.1.2)),d.1.1.2,d.1.2.1),(d.1.2.2,d.2.1),d.2.2)) (some (((d.1.1.1,((((k++([32]:Bt))++d.2.2.2.2.1.1)++([32]:Bt))++d.2.2.2.2.1.2)),false,d.1.1.2,d.1.2.1),(d.1.2.2,d.2.1),d.2.2))) (λf=>(cnd f.1.2.1 (some ((((7:Int),f.1.1.2),f.1.2.2.1,f.1.2.2.2,f.2.1.1),f.2.1.2,f.2.2)) (some ((f.1.1,f.1.2.2.1,f.1.2.2.2,f.2.1.1),f.2.1.2,f.2.2))))) (λe=>(bd (bd (cnd (e.1.1.1==0) (some (((e.1.1.1,(!(mpGet false e.2.1.1 e.2.2.2.2.1.1))),e.1.2),e.2.1,(mpPut e.2.2.1 e.1.1.2 true),e.2.2.2)) (some (((e.1.1.1,false),e.1.2),e.2.1,(mpPut e.2.2.1 e.1.1.2 true),e.2.2.2))) (λj=>(cnd j.1.1.2 (some ((((6:Int),j.1.2.1),j.1.2.2),j.2)) (some (((j.1.1.1,j.1.2.1),j.1.2.2),j.2))))) (λg=>(bd (Eh (g.2.2.2.1.1.1.1.2,g.2.2.2.1.1.1.2.1) g.1.1.1 g.1.1.2 g.1.2.1) (λw=>(loopO (σ:=Ld) fuelN (λ(c:Ld)=>(cnd (c.1.2.1<c.1.1.2) (gd ((0:Int)<=c.1.2.1/\c.1.2.1<(c.1.1.1.length:Int)) (bd (some (aA c.1.1.1 c.1.2.1.toNat AD)) (λm=>(gd ((0:Int)<=c.1.2.1/\c.1.2.1<(c.2.2.1.2.2.2.2.1.length:Int)) (bd (some (aA c.2.2.1.2.2.2.2.1 c.1.2.1.toNat Bm)) (λB=>(bd (o72 c.2.2.2.1 m c.1.2.2.2 c.2.1.1 c.2.1.2.1) (λn=>(bd (Eh B n.1.1 c.1.2.2.1 c.2.2.2.2) (λx=>(loopO (σ:=Le) fuelN (λ(b:Le)=>(cnd (b.1.2.2.2<b.1.2.2.1) (gd ((0:Int)<=b.1.2.2.2/\b.1.2.2.2<(b.1.2.1.2.length:Int)) (bd (some (aA b.1.2.1.2 b.1.2.2.2.toNat BS)) (λi=>(gd ((0:Int)<=b.1.1.1/\b.1.1.1<(b.2.2.1.2.2.2.2.2.2.length:Int)) (gd ((0:Int)<=b.1.2.2.2/\b.1.2.2.2<(((aA b.2.2.1.2.2.2.2.2.2 b.1.1.1.toNat Dj).length:Nat):Int)) (bd (some (aA (aA b.2.2.1.2.2.2.2.2.2 b.1.1.1.toNat Dj) b.1.2.2.2.toNat Bm)) (λC=>(bd (o73 (((i.1,i.2.1,i.2.2.1),i.2.2.2.1,i.2.2.2.2.1,i.2.2.2.2.2.1),(i.2.2.2.2.2.2.1,i.2.2.2.2.2.2.2.1,i.2.2.2.2.2.2.2.2.1),i.2.2.2.2.2.2.2.2.2) b.2.1.1.2 b.2.1.2.1 b.2.1.2.2) (λo=>(bd (Eh C o.1.1 b.2.1.1.1 b.2.2.2.2) (λy=>(some (Ctl.go ((b.1.1,b.1.2.1,b.1.2.2.1,(wrap .i64 (b.1.2.2.2+1))),((y.1,o.1.2),o.2),b.2.2.1,b.2.2.2.1,y.2)))))))))))))) (dnO (some (Ctl.go ((b.1.1.2,(wrap .i64 (b.1.2.1.1+1)),b.2.1.1),(b.2.1.2.1,b.2.1.2.2,b.2.2.1.1),b.2.2.1.2,b.2.2.2)))))) (((c.1.2.1,c.1.1),(c.1.2.1,m.2.2),(m.2.2.length:Int),(0:Int)),((x.1,n.1.2),n.2),(c.2.1.2.2,c.2.2.1),c.2.2.2.1,x.2)))))))))))) (dnO (some ((c.1.2.2.1,c.1.2.2.2,c.2.1.1),c.2.1.2.1,c.2.1.2.2,c.2.2.2.2))))) (((g.2.2.2.2.2.2,(g.2.2.2.2.2.2.length:Int)),(0:Int),w.1,g.1.2.2),(g.2.1.1,g.2.1.2,g.2.2.1),g.2.2.2.1,g.2.2.2.2,w.2))))))))))))))))))
def AiO:Tbl:=(103,⟨⟨[(0,Zb),(1,XU),(2,.v (.agg [.mp 2,.mp 3,.mp 4])),(3,Za),(4,.v (.c (.mp 5)))],[Dk,Ap,.map .b,.map .b,.map .b,.map .b]⟩,[⟨[(0,Zs)],[Lb,.no,.map .b,.map .b,.map .b,.map .b,Ap]⟩],λt=>(o103 t.1.1.1 t.1.1.2 t.1.2.1 t.1.2.2 t.2.1.1 t.2.1.2 t.2.2.1 t.2.2.2)⟩)::AiN
theorem AnE:TK AiO:=kc AnD Tryz.f103 (.s .d (.s .d (.s .d (.j false [SY] (.s .d (.j false [SY] (.s .d (.s .d (.j false [⟨[(0,Zb),(4,.v (.c (.mp 5))),(6,Zy),(7,Zz),(10,ZB),(11,Za),(12,Zd)],[Dk,Ap,.map .b,.map .b,.map .b,.map .b,CA,.cells 151 [.mp 2,.mp 3,.mp 4],CB]⟩] (.s (.s (.j false [⟨[(0,Zb),(4,.v (.c (.mp 5))),(6,Zy),(7,Zz),(10,ZB),(11,Za),(12,Zd),(42,Zc)],[Dk,Ap,.map .b,.map .b,.map .b,.map .b,CA,.cells 151 [.mp 2,.mp 3,.mp 4],CB]⟩] .d) .d) (.s .d (.j false [⟨[(0,Zb),(6,Zy),(7,Zz),(10,ZB),(11,Za)],[Dk,Ap,.map .b,.map .b,.map .b,.map .b,CA,.cells 151 [.mp 2,.mp 3,.mp 4],CB]⟩] (.s (.s (.j false [⟨[(0,Zb),(6,Zy),(7,Zz),(10,ZB),(11,Za),(54,Zc)],[Dk,Ap,.map .b,.map .b,.map .b,.map .b,CA,.cells 151 [.mp 2,.mp 3,.mp 4],CB]⟩] .d) .d) (.s .d (.s .d (.b (.l [⟨[(0,Zb),(6,Zy),(7,Zz),(10,ZB),(61,CC),(62,Za),(63,Za)],[PD,.no,.map .b,.map .b,.map .b,.map .b,CA,.cells 151 [.mp 2,.mp 3,.mp 4],CB,Ap]⟩] (.s .d (.s .d (.s (.b (.s .d (.s (.r 1) (.s .d (.b (.l [⟨[(0,Zb),(6,Zy),(7,Zz),(10,ZB),(13,Za),(61,CC),(62,Za),(63,Za),(80,EA),(81,Za),(82,Za)],[PD,.no,.map .b,.map .b,.map .b,.map .b,CA,.cells 151 [.mp 2,.mp 3,.mp 4],CB,Ap]⟩] (.s .d (.s .d (.s (.b (.s .d (.r 1))) .d))))))))) .d)))))))))))))))))))) λt=>by kernel_rfl
def Fz:SSh:= .v (.c (.ro Ya true))
def XZ:BSh:= .cells 116 [.ro Yd true,.own 3,.s,.i .i64,.i .i64,.i .i64,.i .i64,.i .i64,.ro Ya true,.b,.b,.b]
def Ar:BSh:= .row Yh 77
def PE:BSh:= .cells 151 [.mp 10,.mp 11,.mp 12]
def Lf:SSh:= .v (.c (.ro Yg true))
def Yj:BSh:= .cells 116 [.ro Yd true,.own 5,.s,.i .i64,.i .i64,.i .i64,.i .i64,.i .i64,.ro Ya true,.b,.b,.b]
abbrev PF:Type:=(List As×Int×Int)×Bb×List Ae×Dgl
abbrev HL:Type:=((Int×Int×Int)×(List As×Int)×Int×Bb)×((Mbl×Dgl)×Mbl×Mbl)×(Mbl×Mbl)×Mbl×Mbl
abbrev Yk:Type:=(((Int×Int)×Int×Int)×(List As×Int)×Int×Bb)×((Mbl×BT)×Dgl×Mbl)×(Mbl×Mbl)×Mbl×Mbl×Mbl
abbrev Lg:Type:=(((Int×Int)×Int×List As)×(Int×Int)×(List (Bt×(Int×Int)×Int))×Int×Int)×((Bb×Mbl)×BT×Dgl×Mbl)×(Mbl×Mbl)×Mbl×Mbl×Mbl
def o44(h:Bb)(r:Dgl):Option (Bb×Dgl):=
 (gd ((0:Int)<=0/\(0:Int)<(h.1.1.1.length:Int)) (bd (some (aA h.1.1.1 (0:Int).toNat Bm)) (λs=>(bd (o63 ((h.1.1.2,h.1.2.1,h.1.2.2.1),h.1.2.2.2,h.2.1.1,h.2.1.2.1)) (λu=>(bd (Eh s u h r) (λj=>(loopO (σ:=PF) fuelN (λ(e:PF)=>(cnd (e.1.2.2<e.1.2.1) (gd ((0:Int)<=e.1.2.2/\e.1.2.2<(e.1.1.length:Int)) (bd (some (aA e.1.1 e.1.2.2.toNat Ab)) (λg=>(cnd (g.1==102) (gd (decide ((e.2.2.1.length+([(g.2.2.1.1,(g.2.2.1.2.1,(g.2.2.1.2.2.1,((g.2.2.1.2.2.2.1.1,g.2.2.1.2.2.2.1.2),(g.2.2.1.2.2.2.2.1,g.2.2.1.2.2.2.2.2)))))]:List Ae).length)*72<=140737488355328)) (some (Ctl.go ((e.1.1,e.1.2.1,(wrap .i64 (e.1.2.2+1))),e.2.1,(e.2.2.1++([(g.2.2.1.1,(g.2.2.1.2.1,(g.2.2.1.2.2.1,((g.2.2.1.2.2.2.1.1,g.2.2.1.2.2.2.1.2),(g.2.2.1.2.2.2.2.1,g.2.2.1.2.2.2.2.2)))))]:List Ae)),e.2.2.2)))) (some (Ctl.go ((e.1.1,e.1.2.1,(wrap .i64 (e.1.2.2+1))),e.2))))))) (dnO (bd (o64 e.2.2.1) (λl=>(bd (o64 ([]:List Ae)) (λm=>(loopO (σ:=HL) fuelN (λ(c:HL)=>(cnd (c.1.2.2.1<c.1.2.1.2) (gd ((0:Int)<=c.1.2.2.1/\c.1.2.2.1<(c.1.2.1.1.length:Int)) (bd (some (aA c.1.2.1.1 c.1.2.2.1.toNat Ab)) (λb=>(cnd (b.1==102) (bd (cnd ((wrap .i64 (c.1.1.1+1))>400) (some (((((wrap .i64 (c.1.1.1+1)),c.1.1.2.1),c.1.1.2.2,(3:Int)),c.1.2),((c.2.1.1.1,(((b.1,b.2.1.1),b.2.1.2,b.2.2.1.1),(b.2.2.1.2.1,b.2.2.1.2.2.1),b.2.2.1.2.2.2.1.1,b.2.2.1.2.2.2.1.2,b.2.2.1.2.2.2.2.1),((b.2.2.1.2.2.2.2.2,b.2.2.2.1.1),b.2.2.2.1.2,b.2.2.2.2.1,b.2.2.2.2.2.1.1),(b.2.2.2.2.2.1.2.1,b.2.2.2.2.2.1.2.2.1),b.2.2.2.2.2.1.2.2.2,b.2.2.2.2.2.2),c.2.1.1.2,c.2.1.2.1),(c.2.1.2.2,c.2.2.1.1),c.2.2.1.2,c.2.2.2)) (bd (o67 ((b.2.2.1.1,b.2.2.1.2.1,b.2.2.1.2.2.1),b.2.2.1.2.2.2)) (λv=>(cnd (mpGet false c.2.2.1.2 v) (some (((((wrap .i64 (c.1.1.1+1)),c.1.1.2.1),c.1.1.2.2,(7:Int)),c.1.2),((c.2.1.1.1,(((b.1,b.2.1.1),b.2.1.2,b.2.2.1.1),(b.2.2.1.2.1,b.2.2.1.2.2.1),b.2.2.1.2.2.2.1.1,b.2.2.1.2.2.2.1.2,b.2.2.1.2.2.2.2.1),((b.2.2.1.2.2.2.2.2,b.2.2.2.1.1),b.2.2.2.1.2,b.2.2.2.2.1,b.2.2.2.2.2.1.1),(b.2.2.2.2.2.1.2.1,b.2.2.2.2.2.1.2.2.1),b.2.2.2.2.2.1.2.2.2,b.2.2.2.2.2.2),c.2.1.1.2,c.2.1.2.1),(c.2.1.2.2,c.2.2.1.1),c.2.2.1.2,c.2.2.2)) (bd (o68 ((b.2.2.1.1,b.2.2.1.2.1,b.2.2.1.2.2.1),b.2.2.1.2.2.2) (c.1.2.2.2.2.1.1,c.1.2.2.2.2.1.2.1) c.2.2.1.2 c.2.2.2.1 c.2.2.2.2 c.2.1.2.1 c.2.1.2.2 c.2.2.1.1) (λi=>(some (((((wrap .i64 (c.1.1.1+1)),c.1.1.2.1),c.1.1.2.2,i.1.1),c.1.2),((c.2.1.1.1,(((b.1,b.2.1.1),b.2.1.2,b.2.2.1.1),(b.2.2.1.2.1,b.2.2.1.2.2.1),b.2.2.1.2.2.2.1.1,b.2.2.1.2.2.2.1.2,b.2.2.1.2.2.2.2.1),((b.2.2.1.2.2.2.2.2,b.2.2.2.1.1),b.2.2.2.1.2,b.2.2.2.2.1,b.2.2.2.2.2.1.1),(b.2.2.2.2.2.1.2.1,b.2.2.2.2.2.1.2.2.1),b.2.2.2.2.2.1.2.2.2,b.2.2.2.2.2.2),c.2.1.1.2,i.2.1.2),i.2.2,i.1.2.1,i.1.2.2,i.2.1.1)))))))) (λf=>(bd (Eh (f.2.1.1.2.1.1.1.2,f.2.1.1.2.1.1.2.1) f.1.1.2.2 f.1.2.2.2 f.2.1.2.1) (λn=>(bd (o69 ((f.2.1.1.2.1.1.2.2,f.2.1.1.2.1.2.1),(f.2.1.1.2.1.2.2.1,f.2.1.1.2.1.2.2.2.1),f.2.1.1.2.1.2.2.2.2,f.2.1.1.2.2.1.1.1) f.2.2.2.1 f.2.2.2.2.1 f.2.2.2.2.2) (λo=>(some (Ctl.go (((f.1.1.1.1,f.1.1.1.2,f.1.1.2.1),f.1.2.1,(wrap .i64 (f.1.2.2.1+1)),n.1),((f.2.1.1.1,n.2),f.2.1.2.2,f.2.2.1.1),(f.2.2.1.2,o.1),o.2))))))))) (cnd (b.1==97) (gd (([65,73,82,87,65,89,32]:Bt).length+b.2.2.2.1.1.length<=1125899906842624) (bd (o102 (wrap .i64 (c.1.1.2.1+1)) (60:Int) (mpGet false c.2.1.1.1 (([65,73,82,87,65,89,32]:Bt)++b.2.2.2.1.1))) (λw=>(bd (Eh b.2.1 w c.1.2.2.2 c.2.1.1.2) (λp=>(loopO (σ:=Lg) fuelN (λ(d:Lg)=>(cnd (d.1.2.2.2.2<d.1.2.2.2.1) (gd ((0:Int)<=d.1.2.2.2.2/\d.1.2.2.2.2<(d.1.2.2.1.length:Int)) (bd (some (aA d.1.2.2.1 d.1.2.2.2.2.toNat BC)) (λx=>(cnd (!(mpGet false d.2.1.2.2.2 x.1)) (gd ((0:Int)<=d.1.2.2.2.2/\d.1.2.2.2.2<(d.2.1.2.1.2.1.2.2.1.length:Int)) (bd (some (aA d.2.1.2.1.2.1.2.2.1 d.1.2.2.2.2.toNat Bm)) (λy=>(bd (Eh y (6:Int) d.2.1.1.1 d.2.1.2.2.1) (λq=>(some (Ctl.go ((d.1.1,d.1.2.1,d.1.2.2.1,d.1.2.2.2.1,(wrap .i64 (d.1.2.2.2.2+1))),((q.1,d.2.1.1.2),d.2.1.2.1,q.2,d.2.1.2.2.2),d.2.2)))))))) (some (Ctl.go ((d.1.1,d.1.2.1,d.1.2.2.1,d.1.2.2.2.1,(wrap .i64 (d.1.2.2.2.2+1))),d.2))))))) (dnO (some (Ctl.go (((d.1.1.1.1,d.1.1.1.2,d.1.1.2.1),(d.1.1.2.2,d.1.2.1.1),(wrap .i64 (d.1.2.1.2+1)),d.2.1.1.1),((d.2.1.1.2,d.2.1.2.2.1),d.2.1.2.2.2,d.2.2.1.1),(d.2.2.1.2,d.2.2.2.1),d.2.2.2.2)))))) ((((c.1.1.1,(wrap .i64 (c.1.1.2.1+1))),c.1.1.2.2,c.1.2.1.1),(c.1.2.1.2,c.1.2.2.1),b.2.2.2.1.2,(b.2.2.2.1.2.length:Int),(0:Int)),((p.1,(mpPut c.2.1.1.1 (([65,73,82,87,65,89,32]:Bt)++b.2.2.2.1.1) true)),((((b.1,b.2.1.1),b.2.1.2,b.2.2.1.1),(b.2.2.1.2.1,b.2.2.1.2.2.1),b.2.2.1.2.2.2.1.1,b.2.2.1.2.2.2.1.2,b.2.2.1.2.2.2.2.1),((b.2.2.1.2.2.2.2.2,b.2.2.2.1.1),b.2.2.2.1.2,b.2.2.2.2.1,b.2.2.2.2.2.1.1),(b.2.2.2.2.2.1.2.1,b.2.2.2.2.2.1.2.2.1),b.2.2.2.2.2.1.2.2.2,b.2.2.2.2.2.2),p.2,c.2.1.2.1),(c.2.1.2.2,c.2.2.1.1),c.2.2.1.2,c.2.2.2))))))) (bd (o103 ((((b.1,b.2.1.1),b.2.1.2,b.2.2.1.1),(b.2.2.1.2.1,b.2.2.1.2.2.1),b.2.2.1.2.2.2.1.1,b.2.2.1.2.2.2.1.2,b.2.2.1.2.2.2.2.1),((b.2.2.1.2.2.2.2.2,b.2.2.2.1.1),b.2.2.2.1.2,b.2.2.2.2.1,b.2.2.2.2.2.1.1),(b.2.2.2.2.2.1.2.1,b.2.2.2.2.2.1.2.2.1),b.2.2.2.2.2.1.2.2.2,b.2.2.2.2.2.2) (wrap .i64 (c.1.1.2.2+1)) c.1.2.2.2 c.2.1.1.2 c.2.1.2.1 c.2.1.2.2 c.2.2.1.1 c.2.1.1.1) (λk=>(some (Ctl.go (((c.1.1.1,c.1.1.2.1,(wrap .i64 (c.1.1.2.2+1))),c.1.2.1,(wrap .i64 (c.1.2.2.1+1)),k.1.1),(k.2.2,k.1.2),(k.2.1,c.2.2.1.2),c.2.2.2)))))))))) (dnO (some (c.1.2.2.2,c.2.1.1.2))))) ((((0:Int),(0:Int),(0:Int)),(e.2.1.2.1.2.2,(e.2.1.2.1.2.2.length:Int)),(0:Int),e.2.1),((([]:Mbl),e.2.2.2),l.1,l.2.1),(l.2.2,m.1),m.2))))))))) ((j.1.2.1.2.2,(j.1.2.1.2.2.length:Int),(0:Int)),j.1,([]:List Ae),j.2)))))))))
def AiP:Tbl:=(44,⟨⟨[(0,Zb)],[Dk,Ap]⟩,[⟨[(0,Zs)],[Pt,.no,Ap]⟩],λt=>(o44 t.1 t.2)⟩)::AiO
theorem AnF:TK AiP:=kc AnE Tryz.f44 (.s (.r 1) (.s .d (.s (.s .d (.b (.l [⟨[(0,Zb),(2,.v (.c (.own 2))),(33,Fz),(34,Za),(35,Za)],[XZ,.no,Ar,Ap]⟩] .d))) (.s .d (.s .d (.s .d (.s .d (.b (.l [⟨[(0,Zb),(5,Zi),(6,Zr),(7,.v (.c (.mp 4))),(8,Za),(9,Za),(10,Za),(55,Fz),(56,Za),(57,Za)],[Yj,.no,.cells 151 [.mp 6,.mp 7,.mp 8],.cells 151 [.mp 9,.mp 10,.mp 11],.map .b,Ap,.map .b,.map .b,.map .b,.map .b,.map .b,.map .b]⟩] (.s .d (.s .d (.s (.b (.s .d (.s .d (.b (.s .d (.c (.s .d (.s .d (.j false [⟨[(0,Zb),(5,Zi),(6,Zr),(7,.v (.c (.mp 4))),(8,Za),(9,Za),(10,Za),(12,.v (.c (.ptr 5 0))),(13,Za),(55,Fz),(56,Za),(57,Za)],[Lb,.no,.cells 151 [.mp 7,.mp 8,.mp 9],PE,.map .b,CA,Ap,.map .b,.map .b,.map .b,.map .b,.map .b,.map .b]⟩] .d))) (.s .d (.c (.s .d (.s .d (.s (.r 1) (.s .d (.s .d (.b (.l [⟨[(0,Zb),(5,Zi),(6,Zr),(7,.v (.c (.mp 4))),(8,Za),(9,Za),(10,Za),(12,.v (.c (.ptr 5 0))),(55,Fz),(56,Za),(57,Za),(125,Lf),(126,Za),(127,Za)],[Lb,.no,.cells 151 [.mp 7,.mp 8,.mp 9],PE,.map .b,CA,Ap,.map .b,.map .b,.map .b,.map .b,.map .b,.map .b]⟩] .d))))))) .d)))))))) .d)))))))))))) λt=>by kernel_rfl
def o104(b:List Ae):Option (List Ae):=
 (nlO (aX b) (some ([]:List Ae)) (gd ((([]:List Ae).length+b.length)*72<=140737488355328) (some (([]:List Ae)++b))))
def AiQ:Tbl:=(104,⟨⟨[(0,Dn)],[]⟩,[⟨[(0,Ze)],[Ar]⟩],λt=>(o104 t)⟩)::AiP
theorem AnG:TK AiQ:=kc AnF Tryz.f104 .d λt=>by kernel_rfl
def o108(b:Bt):Option Bool:=
 (some (!(b==b)))
def AiR:Tbl:=(108,⟨⟨[(0,Zd)],[]⟩,[⟨[(0,Zc)],[]⟩],λt=>(o108 t)⟩)::AiQ
theorem AnH:TK AiR:=kc AnG Tryz.f108 .d λt=>by kernel_rfl
end
noncomputable section
def o48(b:Bt)(c:Bt):Option Int:=
 (bd (o108 b) (λe=>(bd (o108 c) (λd=>(cnd e (cnd d (some (0:Int)) (some (-1:Int))) (cnd d (some (1:Int)) (cnd (Op.bytesLess b c) (some (-1:Int)) (cnd (!(Op.bytesLess b c||b==c)) (some (1:Int)) (some (0:Int))))))))))
def AiS:Tbl:=(48,⟨⟨[(0,Zd),(1,Zd)],[]⟩,[⟨[(0,Za)],[]⟩],λt=>(o48 t.1 t.2)⟩)::AiR
theorem AnI:TK AiS:=kc AnH Tryz.f48 .d λt=>by kernel_rfl
def o106(b:Cx)(c:Cx):Option Int:=
 (bd (o67 b) (λd=>(bd (o67 c) (λe=>(bd (o48 d e) (λf=>(some f)))))))
def AiT:Tbl:=(106,⟨⟨[(0,Dm),(1,Dm)],[]⟩,[⟨[(0,Za)],[]⟩],λt=>(o106 t.1 t.2)⟩)::AiS
theorem AnJ:TK AiT:=kc AnI Tryz.f106 .d λt=>by kernel_rfl
def kfx:Ae->Ae->Option Int:=(λ(x y:Ae)=>o106 ((x.1,x.2.1,x.2.2.1),x.2.2.2) ((y.1,y.2.1,y.2.2.1),y.2.2.2))
def o236(b:Int)(c:Int)(d:List Ae):Option (List Ae):=
 (gIns AW kfx b c d)
def AiU:Tbl:=(236,⟨⟨[(0,Ze),(1,Za),(2,Za),(3,Zk)],[Ar]⟩,[⟨[(0,Zs)],[Ar]⟩],λt=>(o236 t.1 t.2.1 t.2.2)⟩)::AiT
theorem AnK:TK AiU:=kc AnJ Tryz.f236 (.s .d (.b (.l [⟨[(0,Ze),(1,Za),(2,Za),(3,Zk),(8,Za)],[Ar]⟩] (.s .d (.s (.b (.s .d (.b (.l [⟨[(0,Ze),(1,Za),(2,Za),(3,Zk),(8,Za),(9,Za)],[Ar]⟩] (.s (.s (.j false [⟨[(0,Ze),(1,Za),(2,Za),(3,Zk),(8,Za),(9,Za),(34,Zc)],[Ar]⟩] .d) .d) .d))))) .d))))) λt=>by kernel_rfl
def o298(b:Int)(c:Int)(d:Int)(e:List Ae):Option (List Ae):=
 (gSwr AW b c d e)
def AiW:Tbl:=(298,⟨⟨[(0,Ze),(1,Za),(2,Za),(3,Za),(4,Zk)],[Ar]⟩,[⟨[(0,Zs)],[Ar]⟩],λt=>(o298 t.1.1 t.1.2 t.2.1 t.2.2)⟩)::AiU
theorem AnL:TK AiW:=kc AnK Tryz.f298 (.s .d (.b (.l [⟨[(0,Ze),(1,Za),(2,Za),(3,Za),(10,Za)],[Ar]⟩] .d))) λt=>by kernel_rfl
def o271(b:Int)(c:Int)(d:Int)(e:List Ae):Option (List Ae):=
 (gRot AW b c d e)
def AbW:Tbl:=(271,⟨⟨[(0,Ze),(1,Za),(2,Za),(3,Za),(4,Zk)],[Ar]⟩,[⟨[(0,Zs)],[Ar]⟩],λt=>(o271 t.1.1 t.1.2 t.2.1 t.2.2)⟩)::AiW
theorem AiX:TK AbW:=kc AnL Tryz.f271 (.s .d (.s .d (.s (.b (.l [⟨[(0,Ze),(2,Za),(4,Zk),(10,Za),(11,Za)],[Ar]⟩] .d)) .d))) λt=>by kernel_rfl
def SZ:Sch:=⟨[(0,Ze),(1,Za),(4,Zk),(10,Za),(11,Za)],[Ar]⟩
def Ta:Sch:=⟨[(0,Ze),(10,Za),(13,Za)],[Ar]⟩
def Tb:Sch:=⟨[(0,Ze),(2,Za),(4,Zk),(14,Za),(15,Za)],[Ar]⟩
def Tc:Sch:=⟨[(0,Ze),(14,Za),(17,Za)],[Ar]⟩
def Td:Sch:=⟨[(0,Ze),(1,Za),(2,Za),(3,Za),(4,Zk),(18,Za),(19,Za),(20,Za),(21,Za),(22,Za)],[Ar]⟩
def Te:Sch:=⟨[(0,Ze),(1,Za),(2,Za),(3,Za),(4,Zk),(18,Za),(20,Za),(24,Za),(185,Zc)],[Ar]⟩
def Tf:Sch:=⟨[(0,Ze),(1,Za),(3,Za),(4,Zk),(18,Za),(20,Za),(24,Za),(199,Zc)],[Ar]⟩
def Tg:Sch:=⟨[(0,Ze),(3,Za),(4,Zk),(18,Za),(24,Za),(213,Zc)],[Ar]⟩
def Th:Sch:=⟨[(0,Ze),(3,Za),(4,Zk),(18,Za),(24,Za)],[Ar]⟩
def Ti:Sch:=⟨[(0,Ze),(1,Za),(3,Za),(4,Zk),(18,Za),(20,Za),(24,Za)],[Ar]⟩
def PG:Sch:=⟨[(0,Ze),(1,Za),(2,Za),(3,Za),(4,Zk),(18,Za),(19,Za),(20,Za),(21,Za)],[Ar]⟩
def p237:Sch:=⟨[(0,Ze),(1,Za),(2,Za),(3,Za),(4,Zk)],[Ar]⟩
def r237:List Sch:=[⟨[(0,Zs)],[Ar]⟩]
def Tj(ih:Int->Int->Int->(List Ae)->Option (List Ae))(b:Int)(c:Int)(d:Int)(e:List Ae):Option (List Ae):=
 (gSymF AW kfx ih b c d e)
def o237(k:Nat):Int->Int->Int->(List Ae)->Option (List Ae):=Nat.rec (motive:=λ_=>Int->Int->Int->(List Ae)->Option (List Ae)) (λ_ _ _ _=>none) (λ_ ih=>Tj ih) k
theorem e237(k:Nat)(h:TOk Tryz.prog ((237,⟨p237,r237,λt=>o237 k t.1.1 t.1.2 t.2.1 t.2.2⟩)::AbW))(t:(Int×Int)×Int×List Ae):evF (stpT Tryz.prog ((237,⟨p237,r237,λt=>o237 k t.1.1 t.1.2 t.2.1 t.2.2⟩)::AbW) h) Tryz.f237 p237 r237 (.s (.s .d (.c (.s .d (.s .d (.s (.b (.l [SZ] .d)) (.s (.s .d (.b (.l [Ta] .d))) .d)))) .d)) (.s (.s .d (.c (.s .d (.s .d (.s (.b (.l [Tb] .d)) (.s (.s .d (.b (.l [Tc] .d))) .d)))) .d)) (.s .d (.s .d (.s .d (.j false [PG] (.s .d (.s .d (.s (.b (.l [Td] .d)) (.s .d (.j false [Ti] (.s (.s (.j false [Te] .d) .d) (.j false [Th] (.s (.s (.j false [Tf] .d) .d) (.s (.j false [Tg] .d) .d))))))))))))))) t=Tj (o237 k) t.1.1 t.1.2 t.2.1 t.2.2:=by kernel_rfl
theorem AdE:∀ k,FOk Tryz.prog 237 ⟨p237,r237,λt=>o237 k t.1.1 t.1.2 t.2.1 t.2.2⟩
  |0=>FOk.of_none λ_=>rfl
  |k+1=>FOk.run_eq (Ks (h:=(.s (.s .d (.c (.s .d (.s .d (.s (.b (.l [SZ] .d)) (.s (.s .d (.b (.l [Ta] .d))) .d)))) .d)) (.s (.s .d (.c (.s .d (.s .d (.s (.b (.l [Tb] .d)) (.s (.s .d (.b (.l [Tc] .d))) .d)))) .d)) (.s .d (.s .d (.s .d (.j false [PG] (.s .d (.s .d (.s (.b (.l [Td] .d)) (.s .d (.j false [Ti] (.s (.s (.j false [Te] .d) .d) (.j false [Th] (.s (.s (.j false [Tf] .d) .d) (.s (.j false [Tg] .d) .d))))))))))))))))) (e237 k (.cons AiX (AdE k)))
def AiY:Tbl:=(237,⟨p237,r237,λt=>o237 fuelN t.1.1 t.1.2 t.2.1 t.2.2⟩)::AbW
theorem AnM:TOk Tryz.prog AiY:= .cons AiX (AdE fuelN)
def o169(e:Int)(f:List Ae):Option (List Ae):=
 (loopO (σ:=(Int×Int)×Int×List Ae) fuelN (λ(c:(Int×Int)×Int×List Ae)=>(cnd (c.2.1<=c.1.1) (bd (o236 c.1.2 c.2.1 c.2.2) (λg=>(some (Ctl.go ((c.1.1,c.2.1),(wrap .i64 (c.2.1+20)),g))))) (dnO (bd (o236 c.1.2 c.1.1 c.2.2) (λh=>(loopO (σ:=Int×Int×List Ae) fuelN (λ(d:Int×Int×List Ae)=>(cnd (d.2.1<d.1) (loopO (σ:=(Int×Int)×Int×Int×List Ae) fuelN (λ(b:(Int×Int)×Int×Int×List Ae)=>(cnd (b.2.2.1<=b.1.1) (bd (o237 fuelN b.2.1 (wrap .i64 (b.2.1+b.1.2)) b.2.2.1 b.2.2.2) (λi=>(some (Ctl.go (b.1,b.2.2.1,(wrap .i64 (b.2.2.1+(wrap .i64 ((2:Int)*b.1.2)))),i))))) (dnO (cnd ((wrap .i64 (b.2.1+b.1.2))<b.1.1) (bd (o237 fuelN b.2.1 (wrap .i64 (b.2.1+b.1.2)) b.1.1 b.2.2.2) (λj=>(some (Ctl.go (b.1.1,(wrap .i64 (b.1.2*2)),j))))) (some (Ctl.go (b.1.1,(wrap .i64 (b.1.2*2)),b.2.2.2))))))) ((d.1,d.2.1),(0:Int),(wrap .i64 ((2:Int)*d.2.1)),d.2.2)) (dnO (some d.2.2)))) (c.1.1,(20:Int),h))))))) ((e,(0:Int)),(20:Int),f))
def AiZ:Tbl:=(169,⟨⟨[(0,Ze),(1,Za),(2,Zk)],[Ar]⟩,[⟨[(0,Zs)],[Ar]⟩],λt=>(o169 t.1 t.2)⟩)::AiY
theorem AnN:TK AiZ:=kc AnM Tryz.f169 (.s .d (.s .d (.s (.b (.l [⟨[(0,Ze),(1,Za),(2,Zk),(6,.v (.c (.ic .i64 (20)))),(7,Za),(8,Za)],[Ar]⟩] .d)) (.s .d (.b (.l [⟨[(0,Ze),(1,Za),(2,Zk),(6,Za)],[Ar]⟩] (.s .d (.b (.s .d (.s (.b (.l [⟨[(0,Ze),(1,Za),(2,Zk),(6,Za),(7,Za),(8,Za)],[Ar]⟩] .d)) .d)))))))))) λt=>by kernel_rfl
def o105(b:List Ae):Option (List Ae):=
 (bd (o169 (b.length:Int) b) (λc=>(some c)))
def Aja:Tbl:=(105,⟨⟨[(0,Ze),(1,Zk)],[Ar]⟩,[⟨[(0,Zs)],[Ar]⟩],λt=>(o105 t)⟩)::AiZ
theorem AnO:TK Aja:=kc AnN Tryz.f105 .d λt=>by kernel_rfl
def o45(b:List Ae):Option (List Ae):=
 (bd (o104 b) (λc=>(bd (o105 c) (λd=>(some d)))))
def Ajb:Tbl:=(45,⟨⟨[(0,Dn)],[]⟩,[⟨[(0,Ze)],[Ar]⟩],λt=>(o45 t)⟩)::Aja
theorem AnP:TK Ajb:=kc AnO Tryz.f45 .d λt=>by kernel_rfl
def o47(b:Ah)(c:Ah):Option Int:=
 (bd (o48 b.1 c.1) (λd=>(some d)))
def Ajc:Tbl:=(47,⟨⟨[(0,Di),(1,Di)],[]⟩,[⟨[(0,Za)],[]⟩],λt=>(o47 t.1 t.2)⟩)::Ajb
theorem AnQ:TK Ajc:=kc AnP Tryz.f47 .d λt=>by kernel_rfl
def At:BSh:= .row (.p .s (.a Yg)) 81
def Bc:Ah:=(([]:Bt),([]:List (Bt×(Int×Int)×Int)))
def o170(b:Int)(c:Int)(d:List Ah):Option (List Ah):=
 (gIns Bc o47 b c d)
def Ajd:Tbl:=(170,⟨⟨[(0,Ze),(1,Za),(2,Za),(3,Zm)],[At]⟩,[⟨[(0,Zs)],[At]⟩],λt=>(o170 t.1 t.2.1 t.2.2)⟩)::Ajc
theorem AnR:TK Ajd:=kc AnQ Tryz.f170 (.s .d (.b (.l [⟨[(0,Ze),(1,Za),(2,Za),(3,Zm),(8,Za)],[At]⟩] (.s .d (.s (.b (.s .d (.b (.l [⟨[(0,Ze),(1,Za),(2,Za),(3,Zm),(8,Za),(9,Za)],[At]⟩] (.s (.s (.j false [⟨[(0,Ze),(1,Za),(2,Za),(3,Zm),(8,Za),(9,Za),(34,Zc)],[At]⟩] .d) .d) .d))))) .d))))) λt=>by kernel_rfl
def o272(b:Int)(c:Int)(d:Int)(e:List Ah):Option (List Ah):=
 (gSwr Bc b c d e)
def Aje:Tbl:=(272,⟨⟨[(0,Ze),(1,Za),(2,Za),(3,Za),(4,Zm)],[At]⟩,[⟨[(0,Zs)],[At]⟩],λt=>(o272 t.1.1 t.1.2 t.2.1 t.2.2)⟩)::Ajd
theorem AnS:TK Aje:=kc AnR Tryz.f272 (.s .d (.b (.l [⟨[(0,Ze),(1,Za),(2,Za),(3,Za),(10,Za)],[At]⟩] .d))) λt=>by kernel_rfl
def o238(b:Int)(c:Int)(d:Int)(e:List Ah):Option (List Ah):=
 (gRot Bc b c d e)
def AbX:Tbl:=(238,⟨⟨[(0,Ze),(1,Za),(2,Za),(3,Za),(4,Zm)],[At]⟩,[⟨[(0,Zs)],[At]⟩],λt=>(o238 t.1.1 t.1.2 t.2.1 t.2.2)⟩)::Aje
theorem Ajf:TK AbX:=kc AnS Tryz.f238 (.s .d (.s .d (.s (.b (.l [⟨[(0,Ze),(2,Za),(4,Zm),(10,Za),(11,Za)],[At]⟩] .d)) .d))) λt=>by kernel_rfl
def Tk:Sch:=⟨[(0,Ze),(1,Za),(4,Zm),(10,Za),(11,Za)],[At]⟩
def Tl:Sch:=⟨[(0,Ze),(10,Za),(13,Za)],[At]⟩
def Tm:Sch:=⟨[(0,Ze),(2,Za),(4,Zm),(14,Za),(15,Za)],[At]⟩
def Tn:Sch:=⟨[(0,Ze),(14,Za),(17,Za)],[At]⟩
def To:Sch:=⟨[(0,Ze),(1,Za),(2,Za),(3,Za),(4,Zm),(18,Za),(19,Za),(20,Za),(21,Za),(22,Za)],[At]⟩
def Tp:Sch:=⟨[(0,Ze),(1,Za),(2,Za),(3,Za),(4,Zm),(18,Za),(20,Za),(24,Za),(185,Zc)],[At]⟩
def Tq:Sch:=⟨[(0,Ze),(1,Za),(3,Za),(4,Zm),(18,Za),(20,Za),(24,Za),(199,Zc)],[At]⟩
def Ts:Sch:=⟨[(0,Ze),(3,Za),(4,Zm),(18,Za),(24,Za),(213,Zc)],[At]⟩
def Tt:Sch:=⟨[(0,Ze),(3,Za),(4,Zm),(18,Za),(24,Za)],[At]⟩
def Tu:Sch:=⟨[(0,Ze),(1,Za),(3,Za),(4,Zm),(18,Za),(20,Za),(24,Za)],[At]⟩
def PH:Sch:=⟨[(0,Ze),(1,Za),(2,Za),(3,Za),(4,Zm),(18,Za),(19,Za),(20,Za),(21,Za)],[At]⟩
def p171:Sch:=⟨[(0,Ze),(1,Za),(2,Za),(3,Za),(4,Zm)],[At]⟩
def r171:List Sch:=[⟨[(0,Zs)],[At]⟩]
def Tv(ih:Int->Int->Int->(List Ah)->Option (List Ah))(b:Int)(c:Int)(d:Int)(e:List Ah):Option (List Ah):=
 (gSymF Bc o47 ih b c d e)
def o171(k:Nat):Int->Int->Int->(List Ah)->Option (List Ah):=Nat.rec (motive:=λ_=>Int->Int->Int->(List Ah)->Option (List Ah)) (λ_ _ _ _=>none) (λ_ ih=>Tv ih) k
theorem e171(k:Nat)(h:TOk Tryz.prog ((171,⟨p171,r171,λt=>o171 k t.1.1 t.1.2 t.2.1 t.2.2⟩)::AbX))(t:(Int×Int)×Int×List Ah):evF (stpT Tryz.prog ((171,⟨p171,r171,λt=>o171 k t.1.1 t.1.2 t.2.1 t.2.2⟩)::AbX) h) Tryz.f171 p171 r171 (.s (.s .d (.c (.s .d (.s .d (.s (.b (.l [Tk] .d)) (.s (.s .d (.b (.l [Tl] .d))) .d)))) .d)) (.s (.s .d (.c (.s .d (.s .d (.s (.b (.l [Tm] .d)) (.s (.s .d (.b (.l [Tn] .d))) .d)))) .d)) (.s .d (.s .d (.s .d (.j false [PH] (.s .d (.s .d (.s (.b (.l [To] .d)) (.s .d (.j false [Tu] (.s (.s (.j false [Tp] .d) .d) (.j false [Tt] (.s (.s (.j false [Tq] .d) .d) (.s (.j false [Ts] .d) .d))))))))))))))) t=Tv (o171 k) t.1.1 t.1.2 t.2.1 t.2.2:=by kernel_rfl
theorem AdF:∀ k,FOk Tryz.prog 171 ⟨p171,r171,λt=>o171 k t.1.1 t.1.2 t.2.1 t.2.2⟩
  |0=>FOk.of_none λ_=>rfl
  |k+1=>FOk.run_eq (Ks (h:=(.s (.s .d (.c (.s .d (.s .d (.s (.b (.l [Tk] .d)) (.s (.s .d (.b (.l [Tl] .d))) .d)))) .d)) (.s (.s .d (.c (.s .d (.s .d (.s (.b (.l [Tm] .d)) (.s (.s .d (.b (.l [Tn] .d))) .d)))) .d)) (.s .d (.s .d (.s .d (.j false [PH] (.s .d (.s .d (.s (.b (.l [To] .d)) (.s .d (.j false [Tu] (.s (.s (.j false [Tp] .d) .d) (.j false [Tt] (.s (.s (.j false [Tq] .d) .d) (.s (.j false [Ts] .d) .d))))))))))))))))) (e171 k (.cons Ajf (AdF k)))
def Ajg:Tbl:=(171,⟨p171,r171,λt=>o171 fuelN t.1.1 t.1.2 t.2.1 t.2.2⟩)::AbX
theorem AnT:TOk Tryz.prog Ajg:= .cons Ajf (AdF fuelN)
def o107(e:Int)(f:List Ah):Option (List Ah):=
 (loopO (σ:=(Int×Int)×Int×List Ah) fuelN (λ(c:(Int×Int)×Int×List Ah)=>(cnd (c.2.1<=c.1.1) (bd (o170 c.1.2 c.2.1 c.2.2) (λg=>(some (Ctl.go ((c.1.1,c.2.1),(wrap .i64 (c.2.1+20)),g))))) (dnO (bd (o170 c.1.2 c.1.1 c.2.2) (λh=>(loopO (σ:=Int×Int×List Ah) fuelN (λ(d:Int×Int×List Ah)=>(cnd (d.2.1<d.1) (loopO (σ:=(Int×Int)×Int×Int×List Ah) fuelN (λ(b:(Int×Int)×Int×Int×List Ah)=>(cnd (b.2.2.1<=b.1.1) (bd (o171 fuelN b.2.1 (wrap .i64 (b.2.1+b.1.2)) b.2.2.1 b.2.2.2) (λi=>(some (Ctl.go (b.1,b.2.2.1,(wrap .i64 (b.2.2.1+(wrap .i64 ((2:Int)*b.1.2)))),i))))) (dnO (cnd ((wrap .i64 (b.2.1+b.1.2))<b.1.1) (bd (o171 fuelN b.2.1 (wrap .i64 (b.2.1+b.1.2)) b.1.1 b.2.2.2) (λj=>(some (Ctl.go (b.1.1,(wrap .i64 (b.1.2*2)),j))))) (some (Ctl.go (b.1.1,(wrap .i64 (b.1.2*2)),b.2.2.2))))))) ((d.1,d.2.1),(0:Int),(wrap .i64 ((2:Int)*d.2.1)),d.2.2)) (dnO (some d.2.2)))) (c.1.1,(20:Int),h))))))) ((e,(0:Int)),(20:Int),f))
def Ajh:Tbl:=(107,⟨⟨[(0,Ze),(1,Za),(2,Zm)],[At]⟩,[⟨[(0,Zs)],[At]⟩],λt=>(o107 t.1 t.2)⟩)::Ajg
theorem AnU:TK Ajh:=kc AnT Tryz.f107 (.s .d (.s .d (.s (.b (.l [⟨[(0,Ze),(1,Za),(2,Zm),(6,.v (.c (.ic .i64 (20)))),(7,Za),(8,Za)],[At]⟩] .d)) (.s .d (.b (.l [⟨[(0,Ze),(1,Za),(2,Zm),(6,Za)],[At]⟩] (.s .d (.b (.s .d (.s (.b (.l [⟨[(0,Ze),(1,Za),(2,Zm),(6,Za),(7,Za),(8,Za)],[At]⟩] .d)) .d)))))))))) λt=>by kernel_rfl
def o46(b:List Ah):Option (List Ah):=
 (bd (o107 (b.length:Int) b) (λc=>(some c)))
def Aji:Tbl:=(46,⟨⟨[(0,Ze),(1,Zm)],[At]⟩,[⟨[(0,Zs)],[At]⟩],λt=>(o46 t)⟩)::Ajh
theorem AnV:TK Aji:=kc AnU Tryz.f46 .d λt=>by kernel_rfl
def o111(b:Bt)(c:Bt):Option Int:=
 (bd (o174 b c) (λd=>(some d)))
def Ajj:Tbl:=(111,⟨⟨[(0,Zd),(1,Zd)],[]⟩,[⟨[(0,Za)],[]⟩],λt=>(o111 t.1 t.2)⟩)::Aji
theorem AnW:TK Ajj:=kc AnV Tryz.f111 .d λt=>by kernel_rfl
def o175(b:Int):Option Bool:=
 (some (b !=b))
def Ajk:Tbl:=(175,⟨⟨[(0,Zh)],[]⟩,[⟨[(0,Zc)],[]⟩],λt=>(o175 t)⟩)::Ajj
theorem AnX:TK Ajk:=kc AnW Tryz.f175 .d λt=>by kernel_rfl
def o112(b:Int)(c:Int):Option Int:=
 (bd (o175 b) (λe=>(bd (o175 c) (λd=>(cnd e (cnd d (some (0:Int)) (some (-1:Int))) (cnd d (some (1:Int)) (cnd (b<c) (some (-1:Int)) (cnd (b>c) (some (1:Int)) (some (0:Int))))))))))
def Ajl:Tbl:=(112,⟨⟨[(0,Zh),(1,Zh)],[]⟩,[⟨[(0,Za)],[]⟩],λt=>(o112 t.1 t.2)⟩)::Ajk
theorem AnY:TK Ajl:=kc AnX Tryz.f112 .d λt=>by kernel_rfl
def o110(c:List Int):Option Int:=
 (loopO (σ:=List Int×Int×Int) fuelN (λ(b:List Int×Int×Int)=>(cnd (b.2.2<b.2.1) (gd ((0:Int)<=b.2.2/\b.2.2<(b.1.length:Int)) (cnd ((aA b.1 b.2.2.toNat (0:Int))!=0) (dnO (some (aA b.1 b.2.2.toNat (0:Int)))) (some (Ctl.go (b.1,b.2.1,(wrap .i64 (b.2.2+1))))))) (dnO (some (0:Int))))) (c,(c.length:Int),(0:Int)))
def Ajm:Tbl:=(110,⟨⟨[(0,.v (.c (.ro (.i .i64) false)))],[]⟩,[⟨[(0,Za)],[]⟩],λt=>(o110 t)⟩)::Ajl
theorem AnZ:TK Ajm:=kc AnY Tryz.f110 (.s .d (.s .d (.s (.s .d (.b (.l [⟨[(3,.v (.c (.ic .i64 (0)))),(6,.v (.c (.ro (.i .i64) false))),(7,Za),(8,Za)],[]⟩] .d))) .d))) λt=>by kernel_rfl
def o50(b:Aw)(c:Aw):Option Int:=
 (bd (o111 b.1.1 c.1.1) (λd=>(bd (o112 b.2.1 c.2.1) (λe=>(bd (o111 b.1.2 c.1.2) (λf=>(bd (o110 ([d,e,f]:List Int)) (λg=>(some g)))))))))
def Ajn:Tbl:=(50,⟨⟨[(0,Cy),(1,Cy)],[]⟩,[⟨[(0,Za)],[]⟩],λt=>(o50 t.1 t.2)⟩)::Ajm
theorem Aoa:TK Ajn:=kc AnZ Tryz.f50 (.s .d (.s (.r 1) .d)) λt=>by kernel_rfl
def Au:BSh:= .row Yi 89
abbrev Ak:Type:=Bt×Bt×Int×List (Int×Bt×List Af)
def Bd:Ak:=(([]:Bt),(([]:Bt),((0:Int),([]:List (Int×Bt×List Af)))))
def kpr:Ak->Ak->Option Int:=(λ(x y:Ak)=>o50 ((x.1,x.2.1),x.2.2) ((y.1,y.2.1),y.2.2))
def o172(b:Int)(c:Int)(d:List Ak):Option (List Ak):=
 (gIns Bd kpr b c d)
def Ajo:Tbl:=(172,⟨⟨[(0,Ze),(1,Za),(2,Za),(3,Zn)],[Au]⟩,[⟨[(0,Zs)],[Au]⟩],λt=>(o172 t.1 t.2.1 t.2.2)⟩)::Ajn
theorem Aob:TK Ajo:=kc Aoa Tryz.f172 (.s .d (.b (.l [⟨[(0,Ze),(1,Za),(2,Za),(3,Zn),(8,Za)],[Au]⟩] (.s .d (.s (.b (.s .d (.b (.l [⟨[(0,Ze),(1,Za),(2,Za),(3,Zn),(8,Za),(9,Za)],[Au]⟩] (.s (.s (.j false [⟨[(0,Ze),(1,Za),(2,Za),(3,Zn),(8,Za),(9,Za),(34,Zc)],[Au]⟩] .d) .d) .d))))) .d))))) λt=>by kernel_rfl
def o273(b:Int)(c:Int)(d:Int)(e:List Ak):Option (List Ak):=
 (gSwr Bd b c d e)
def Ajp:Tbl:=(273,⟨⟨[(0,Ze),(1,Za),(2,Za),(3,Za),(4,Zn)],[Au]⟩,[⟨[(0,Zs)],[Au]⟩],λt=>(o273 t.1.1 t.1.2 t.2.1 t.2.2)⟩)::Ajo
theorem Aoc:TK Ajp:=kc Aob Tryz.f273 (.s .d (.b (.l [⟨[(0,Ze),(1,Za),(2,Za),(3,Za),(10,Za)],[Au]⟩] .d))) λt=>by kernel_rfl
def o239(b:Int)(c:Int)(d:Int)(e:List Ak):Option (List Ak):=
 (gRot Bd b c d e)
def AbY:Tbl:=(239,⟨⟨[(0,Ze),(1,Za),(2,Za),(3,Za),(4,Zn)],[Au]⟩,[⟨[(0,Zs)],[Au]⟩],λt=>(o239 t.1.1 t.1.2 t.2.1 t.2.2)⟩)::Ajp
theorem Ajq:TK AbY:=kc Aoc Tryz.f239 (.s .d (.s .d (.s (.b (.l [⟨[(0,Ze),(2,Za),(4,Zn),(10,Za),(11,Za)],[Au]⟩] .d)) .d))) λt=>by kernel_rfl
def Tw:Sch:=⟨[(0,Ze),(1,Za),(4,Zn),(10,Za),(11,Za)],[Au]⟩
def Tx:Sch:=⟨[(0,Ze),(10,Za),(13,Za)],[Au]⟩
def Tz:Sch:=⟨[(0,Ze),(2,Za),(4,Zn),(14,Za),(15,Za)],[Au]⟩
def TB:Sch:=⟨[(0,Ze),(14,Za),(17,Za)],[Au]⟩
def TC:Sch:=⟨[(0,Ze),(1,Za),(2,Za),(3,Za),(4,Zn),(18,Za),(19,Za),(20,Za),(21,Za),(22,Za)],[Au]⟩
def TF:Sch:=⟨[(0,Ze),(1,Za),(2,Za),(3,Za),(4,Zn),(18,Za),(20,Za),(24,Za),(185,Zc)],[Au]⟩
def TG:Sch:=⟨[(0,Ze),(1,Za),(3,Za),(4,Zn),(18,Za),(20,Za),(24,Za),(199,Zc)],[Au]⟩
def TH:Sch:=⟨[(0,Ze),(3,Za),(4,Zn),(18,Za),(24,Za),(213,Zc)],[Au]⟩
def TI:Sch:=⟨[(0,Ze),(3,Za),(4,Zn),(18,Za),(24,Za)],[Au]⟩
def TJ:Sch:=⟨[(0,Ze),(1,Za),(3,Za),(4,Zn),(18,Za),(20,Za),(24,Za)],[Au]⟩
def PI:Sch:=⟨[(0,Ze),(1,Za),(2,Za),(3,Za),(4,Zn),(18,Za),(19,Za),(20,Za),(21,Za)],[Au]⟩
def p173:Sch:=⟨[(0,Ze),(1,Za),(2,Za),(3,Za),(4,Zn)],[Au]⟩
def r173:List Sch:=[⟨[(0,Zs)],[Au]⟩]
def TL(ih:Int->Int->Int->(List Ak)->Option (List Ak))(b:Int)(c:Int)(d:Int)(e:List Ak):Option (List Ak):=
 (gSymF Bd kpr ih b c d e)
def o173(k:Nat):Int->Int->Int->(List Ak)->Option (List Ak):=Nat.rec (motive:=λ_=>Int->Int->Int->(List Ak)->Option (List Ak)) (λ_ _ _ _=>none) (λ_ ih=>TL ih) k
theorem e173(k:Nat)(h:TOk Tryz.prog ((173,⟨p173,r173,λt=>o173 k t.1.1 t.1.2 t.2.1 t.2.2⟩)::AbY))(t:(Int×Int)×Int×List Ak):evF (stpT Tryz.prog ((173,⟨p173,r173,λt=>o173 k t.1.1 t.1.2 t.2.1 t.2.2⟩)::AbY) h) Tryz.f173 p173 r173 (.s (.s .d (.c (.s .d (.s .d (.s (.b (.l [Tw] .d)) (.s (.s .d (.b (.l [Tx] .d))) .d)))) .d)) (.s (.s .d (.c (.s .d (.s .d (.s (.b (.l [Tz] .d)) (.s (.s .d (.b (.l [TB] .d))) .d)))) .d)) (.s .d (.s .d (.s .d (.j false [PI] (.s .d (.s .d (.s (.b (.l [TC] .d)) (.s .d (.j false [TJ] (.s (.s (.j false [TF] .d) .d) (.j false [TI] (.s (.s (.j false [TG] .d) .d) (.s (.j false [TH] .d) .d))))))))))))))) t=TL (o173 k) t.1.1 t.1.2 t.2.1 t.2.2:=by kernel_rfl
theorem AdG:∀ k,FOk Tryz.prog 173 ⟨p173,r173,λt=>o173 k t.1.1 t.1.2 t.2.1 t.2.2⟩
  |0=>FOk.of_none λ_=>rfl
  |k+1=>FOk.run_eq (Ks (h:=(.s (.s .d (.c (.s .d (.s .d (.s (.b (.l [Tw] .d)) (.s (.s .d (.b (.l [Tx] .d))) .d)))) .d)) (.s (.s .d (.c (.s .d (.s .d (.s (.b (.l [Tz] .d)) (.s (.s .d (.b (.l [TB] .d))) .d)))) .d)) (.s .d (.s .d (.s .d (.j false [PI] (.s .d (.s .d (.s (.b (.l [TC] .d)) (.s .d (.j false [TJ] (.s (.s (.j false [TF] .d) .d) (.j false [TI] (.s (.s (.j false [TG] .d) .d) (.s (.j false [TH] .d) .d))))))))))))))))) (e173 k (.cons Ajq (AdG k)))
def Ajr:Tbl:=(173,⟨p173,r173,λt=>o173 fuelN t.1.1 t.1.2 t.2.1 t.2.2⟩)::AbY
theorem Aod:TOk Tryz.prog Ajr:= .cons Ajq (AdG fuelN)
def o109(e:Int)(f:List Ak):Option (List Ak):=
 (loopO (σ:=(Int×Int)×Int×List Ak) fuelN (λ(c:(Int×Int)×Int×List Ak)=>(cnd (c.2.1<=c.1.1) (bd (o172 c.1.2 c.2.1 c.2.2) (λg=>(some (Ctl.go ((c.1.1,c.2.1),(wrap .i64 (c.2.1+20)),g))))) (dnO (bd (o172 c.1.2 c.1.1 c.2.2) (λh=>(loopO (σ:=Int×Int×List Ak) fuelN (λ(d:Int×Int×List Ak)=>(cnd (d.2.1<d.1) (loopO (σ:=(Int×Int)×Int×Int×List Ak) fuelN (λ(b:(Int×Int)×Int×Int×List Ak)=>(cnd (b.2.2.1<=b.1.1) (bd (o173 fuelN b.2.1 (wrap .i64 (b.2.1+b.1.2)) b.2.2.1 b.2.2.2) (λi=>(some (Ctl.go (b.1,b.2.2.1,(wrap .i64 (b.2.2.1+(wrap .i64 ((2:Int)*b.1.2)))),i))))) (dnO (cnd ((wrap .i64 (b.2.1+b.1.2))<b.1.1) (bd (o173 fuelN b.2.1 (wrap .i64 (b.2.1+b.1.2)) b.1.1 b.2.2.2) (λj=>(some (Ctl.go (b.1.1,(wrap .i64 (b.1.2*2)),j))))) (some (Ctl.go (b.1.1,(wrap .i64 (b.1.2*2)),b.2.2.2))))))) ((d.1,d.2.1),(0:Int),(wrap .i64 ((2:Int)*d.2.1)),d.2.2)) (dnO (some d.2.2)))) (c.1.1,(20:Int),h))))))) ((e,(0:Int)),(20:Int),f))
def Ajs:Tbl:=(109,⟨⟨[(0,Ze),(1,Za),(2,Zn)],[Au]⟩,[⟨[(0,Zs)],[Au]⟩],λt=>(o109 t.1 t.2)⟩)::Ajr
theorem Aoe:TK Ajs:=kc Aod Tryz.f109 (.s .d (.s .d (.s (.b (.l [⟨[(0,Ze),(1,Za),(2,Zn),(6,.v (.c (.ic .i64 (20)))),(7,Za),(8,Za)],[Au]⟩] .d)) (.s .d (.b (.l [⟨[(0,Ze),(1,Za),(2,Zn),(6,Za)],[Au]⟩] (.s .d (.b (.s .d (.s (.b (.l [⟨[(0,Ze),(1,Za),(2,Zn),(6,Za),(7,Za),(8,Za)],[Au]⟩] .d)) .d)))))))))) λt=>by kernel_rfl
def o49(b:List Ak):Option (List Ak):=
 (bd (o109 (b.length:Int) b) (λc=>(some c)))
def Ajt:Tbl:=(49,⟨⟨[(0,Ze),(1,Zn)],[Au]⟩,[⟨[(0,Zs)],[Au]⟩],λt=>(o49 t)⟩)::Ajs
theorem Aof:TK Ajt:=kc Aoe Tryz.f49 .d λt=>by kernel_rfl
def DR:BSh:= .cells 30 [.s,.ic .i64 (0),.ic .i64 (0),.ic .i64 (0),.ic .i64 (0),.ic .i64 (0),.cst (.slice none 0 0),.cst (.slice none 0 0),.cst (.slice none 0 0)]
def Yl:BSh:= .cells 30 [.s,.i .i64,.i .i64,.i .i64,.i .i64,.i .i64,.own 2,.own 3,.own 4]
def Ym:SSh:= .tup [.agg [.s,.i .i64,.i .i64,.i .i64,.i .i64,.i .i64,.own 0,.own 1,.own 2],.c (.ro (.p (.i .i64) Ye) true)]
abbrev PJ:Type:=(Bt×Int×Int)×(Int×Int)×Int×Dgl
abbrev PK:Type:=((List As×Int)×Int×Bt)×(Az×List Ae)×List Ah×List Ak
def Yn:Sch:=⟨[(2,Zb),(9,Zg),(70,Fz),(71,Za),(72,Za)],[DR,Yl,Ar,At,Au]⟩
def o23(h:Bt):Option ((PJ×List Ae)×List Ah×List Ak):=
 (bd (o42 h) (λf=>(cnd ((f.2.length:Int)>0) (some ((((([]:Bt),(0:Int),(0:Int)),((0:Int),(0:Int)),(0:Int),f.2),([]:List Ae)),([]:List Ah),([]:List Ak))) (cnd ((f.1.length:Int)==0) (some ((((([]:Bt),(0:Int),(0:Int)),((0:Int),(0:Int)),(0:Int),([((1:Int),((1:Int),(9:Int)))]:Dgl)),([]:List Ae)),([]:List Ah),([]:List Ak))) (bd (o43 (((f.1,([]:Bt)),(0:Int),(0:Int),(0:Int)),((0:Int),(0:Int)),false,false,false)) (λe=>(cnd ((e.2.1.length:Int)>0) (gd ((0:Int)<=(minI (e.2.1.length:Int) (50:Int))/\(minI (e.2.1.length:Int) (50:Int))<=(e.2.1.length:Int)) (some ((((([]:Bt),(0:Int),(0:Int)),((0:Int),(0:Int)),(0:Int),(aP ((minI (e.2.1.length:Int) (50:Int)).toNat-0) (aM 0 e.2.1))),([]:List Ae)),([]:List Ah),([]:List Ak)))) (bd (o44 (e.1.1,(e.1.2.1.1,e.1.2.1.2,e.2.2),e.1.2.2) e.2.1) (λd=>(cnd ((d.2.length:Int)>0) (gd ((0:Int)<=(minI (d.2.length:Int) (50:Int))/\(minI (d.2.length:Int) (50:Int))<=(d.2.length:Int)) (some ((((([]:Bt),(0:Int),(0:Int)),((0:Int),(0:Int)),(0:Int),(aP ((minI (d.2.length:Int) (50:Int)).toNat-0) (aM 0 d.2))),([]:List Ae)),([]:List Ah),([]:List Ak)))) (loopO (σ:=PK) fuelN (λ(b:PK)=>(cnd (b.1.2.1<b.1.1.2) (bd (gd ((0:Int)<=b.1.2.1/\b.1.2.1<(b.1.1.1.length:Int)) (bd (some (aA b.1.1.1 b.1.2.1.toNat Ab)) (λc=>(cnd (c.1==102) (gd (decide ((b.2.1.2.length+([(c.2.2.1.1,(c.2.2.1.2.1,(c.2.2.1.2.2.1,((c.2.2.1.2.2.2.1.1,c.2.2.1.2.2.2.1.2),(c.2.2.1.2.2.2.2.1,c.2.2.1.2.2.2.2.2)))))]:List Ae).length)*72<=140737488355328)) (some (b.1,(b.2.1.1,(b.2.1.2++([(c.2.2.1.1,(c.2.2.1.2.1,(c.2.2.1.2.2.1,((c.2.2.1.2.2.2.1.1,c.2.2.1.2.2.2.1.2),(c.2.2.1.2.2.2.2.1,c.2.2.1.2.2.2.2.2)))))]:List Ae))),b.2.2))) (cnd (c.1==97) (gd ((b.2.2.1.length+([(c.2.2.2.1.1,c.2.2.2.1.2)]:List Ah).length)*40<=140737488355328) (some (b.1,b.2.1,(b.2.2.1++([(c.2.2.2.1.1,c.2.2.2.1.2)]:List Ah)),b.2.2.2))) (gd ((b.2.2.2.length+([(c.2.2.2.2.2.1.1,(c.2.2.2.2.2.1.2.1,(c.2.2.2.2.2.1.2.2.1,c.2.2.2.2.2.1.2.2.2)))]:List Ak).length)*64<=140737488355328) (some (b.1,b.2.1,b.2.2.1,(b.2.2.2++([(c.2.2.2.2.2.1.1,(c.2.2.2.2.2.1.2.1,(c.2.2.2.2.2.1.2.2.1,c.2.2.2.2.2.1.2.2.2)))]:List Ak)))))))))) (λg=>(some (Ctl.go ((g.1.1,(wrap .i64 (g.1.2.1+1)),g.1.2.2),g.2))))) (dnO (bd (o45 b.2.1.2) (λi=>(bd (o46 b.2.2.1) (λj=>(bd (o49 b.2.2.2) (λk=>(some (((b.2.1.1.1,(b.2.1.1.2.1,b.2.1.1.2.2.1),b.2.1.1.2.2.2,([]:Dgl)),i),j,k))))))))))) (((d.1.2.1.2.2,(d.1.2.1.2.2.length:Int)),(0:Int),([]:Bt)),(((d.1.1.1.2,d.1.1.2.1,d.1.1.2.2.1),d.1.1.2.2.2,d.1.2.1.1,d.1.2.1.2.1),([]:List Ae)),([]:List Ah),([]:List Ak)))))))))))))
def Aju:Tbl:=(23,⟨⟨[(0,Zd)],[]⟩,[⟨[(0,Ym)],[Ar,At,Au]⟩],λt=>(o23 t)⟩)::Ajt
theorem Aog:TK Aju:=kc Aof Tryz.f23 (.s .d (.s .d (.s .d (.s .d (.s .d (.s (.s .d (.b (.u 3 (.v .d (.v .d (.v .d .d)))))) (.s .d (.s (.s .d (.b (.l [Yn] (.s .d (.s .d (.j false [Yn] .d)))))) .d)))))))) λt=>by kernel_rfl
def o65(c:Cx):Option Int:=
 (bd (cnd (c.1.2.2<1) (some (true,c)) (some ((decide (c.1.2.2>6)),c))) (λb=>(cnd b.1 (some (17:Int)) (bd (o132 b.2.1.1 b.2.1.2.2) (λe=>(cnd (e !=0) (some e) (bd (o133 b.2.1.2.1 b.2.1.2.2) (λf=>(cnd (f !=0) (some f) (bd (o134 b.2.2.1) (λh=>(cnd (!h) (some (2:Int)) (jd (bd (o120 b.2.1.2.2) (λi=>(cnd i (bd (cnd (b.2.2.2.1<(-200000:Int)) (some (true,b.2)) (some ((decide (b.2.2.2.1>6000000)),b.2))) (λg=>(cnd g.1 (dnO (some (2:Int))) (some (Ctl.go g.2))))) (cnd (b.2.2.2.1 !=0) (dnO (some (1:Int))) (some (Ctl.go b.2)))))) (λd=>(bd (o122 d.1.2.2) (λj=>(cnd j (bd (cnd (d.2.2.2<1) (some true) (some (decide (d.2.2.2>8000000)))) (λk=>(cnd k (some (2:Int)) (some (0:Int))))) (cnd (d.2.2.2 !=0) (some (1:Int)) (some (0:Int))))))))))))))))))))
def Ajv:Tbl:=(65,⟨⟨[(0,Dm)],[]⟩,[⟨[(0,Za)],[]⟩],λt=>(o65 t)⟩)::Aju
theorem Aoh:TK Ajv:=kc Aog Tryz.f65 (.s .d (.s (.s (.j false [⟨[(1,Zb),(12,Zc)],[Cw]⟩] .d) .d) (.s .d (.s .d (.s .d (.j true [⟨[(1,Zb)],[Cw]⟩] (.s (.s .d (.c (.s (.j false [⟨[(1,Zb),(43,Zc)],[Cw]⟩] .d) .d) .d)) (.s (.s .d (.c (.s (.j false [⟨[(57,Zc)],[]⟩] .d) .d) .d)) .d)))))))) λt=>by kernel_rfl
def o66(b:Int):Option Int:=
 (cnd (b==0) (some (7:Int)) (cnd (b<0) (some (9:Int)) (some (0:Int))))
def Ajw:Tbl:=(66,⟨⟨[(0,Za)],[]⟩,[⟨[(0,Za)],[]⟩],λt=>(o66 t)⟩)::Ajv
theorem Aoi:TK Ajw:=kc Aoh Tryz.f66 .d λt=>by kernel_rfl
def AM:BSh:= .cells 30 [.s,.i .i64,.i .i64,.i .i64,.i .i64,.i .i64,.ro Yh false,.ro (.p .s (.a Yg)) false,.ro Yi false]
def EB:SSh:= .v (.c (.ro (.p .s (.a Yg)) false))
def Yo:BSh:= .cells 81 [.s,.ro Yg true]
def BU:SSh:= .v (.c (.ro Yi false))
def FA:SSh:= .v (.agg [.s,.i .i64,.i .i64,.i .i64,.i .i64,.i .i64,.ro Yh false,.ro (.p .s (.a Yg)) false,.ro Yi false])
abbrev AC:Type:=((Bt×Int)×Int×Int)×(Int×Int)×List Ae×List Ah×List Ak
abbrev Lh:Type:=((List Ae×Int)×Int×AC×Mbl)×(Mbl×Mbl)×Mbl×Mbl×Mbl
abbrev Yp:Type:=((List Ae×Int)×Int×AC×Cx)×(Mbl×Mbl×Mbl)×Mbl×Mbl×Mbl
abbrev Li:Type:=(List Ah×Int×Int)×(AC×Mbl)×Mbl×Mbl
abbrev PL:Type:=((List Ah×Int)×Int×(List (Bt×(Int×Int)×Int))×Int)×(Int×AC)×Mbl×Mbl×Mbl
abbrev Lj:Type:=(List Ak×Int×Int)×(AC×Mbl)×Mbl×Mbl
abbrev PM:Type:=((List Ak×Int)×Int×(List (Int×Bt×List Af))×Int)×(Int×AC×Aw)×Mbl×Mbl×Mbl
abbrev PN:Type:=((List Ak×Int)×Int×(List (Int×Bt×List Af))×Int)×(Int×AC)×Mbl×Mbl×Mbl
abbrev PO:Type:=((List Ak×Int×Int)×(List (Int×Bt×List Af))×Int×Int)×(List Af×Int×Int)×(AC×Mbl)×Mbl×Mbl
def o26(l:AC):Option Int:=
 (bd (o63 ((l.1.1.1,l.1.1.2,l.1.2.1),l.1.2.2,l.2.1)) (λx=>(cnd (x !=0) (some x) (bd (cnd ((l.2.2.1.length:Int)>400) (some (true,l)) (cnd ((l.2.2.2.1.length:Int)>60) (some (true,l)) (some ((decide ((l.2.2.2.2.length:Int)>60)),l)))) (λq=>(cnd q.1 (some (3:Int)) (bd (o64 q.2.2.2.1) (λy=>(bd (o64 ([]:List Ae)) (λG=>(loopO (σ:=Lh) fuelN (λ(b:Lh)=>(cnd (b.1.2.1<b.1.1.2) (gd ((0:Int)<=b.1.2.1/\b.1.2.1<(b.1.1.1.length:Int)) (bd (some (aA b.1.1.1 b.1.2.1.toNat AW)) (λi=>(bd (o65 ((i.1,i.2.1,i.2.2.1),i.2.2.2)) (λz=>(cnd (z !=0) (dnO (some z)) (jd (cnd (b.1.2.1>0) (bd (o67 ((i.1,i.2.1,i.2.2.1),i.2.2.2)) (λH=>(gd ((0:Int)<=(wrap .i64 (b.1.2.1-1))/\(wrap .i64 (b.1.2.1-1))<(b.1.2.2.1.2.2.1.length:Int)) (bd (some (aA b.1.2.2.1.2.2.1 (wrap .i64 (b.1.2.1-1)).toNat AW)) (λr=>(bd (o67 ((r.1,r.2.1,r.2.2.1),r.2.2.2)) (λI=>(bd (o48 H I) (λJ=>(bd (o66 J) (λA=>(cnd (A !=0) (dnO (dnO (some A))) (some (Ctl.go ((b.1.1,b.1.2.1,b.1.2.2.1,(i.1,i.2.1,i.2.2.1),i.2.2.2),(b.1.2.2.2,b.2.1),b.2.2))))))))))))))) (some (Ctl.go ((b.1.1,b.1.2.1,b.1.2.2.1,(i.1,i.2.1,i.2.2.1),i.2.2.2),(b.1.2.2.2,b.2.1),b.2.2)))) (λj=>(bd (o68 j.1.2.2.2 j.1.2.2.1.2.1 j.2.2.1 j.2.2.2.1 j.2.2.2.2 j.2.1.1 j.2.1.2.1 j.2.1.2.2) (λo=>(cnd (o.1.1 !=0) (dnO (some o.1.1)) (bd (o69 j.1.2.2.2 o.1.2.1 o.1.2.2 o.2.1.1) (λK=>(some (Ctl.go ((j.1.1,(wrap .i64 (j.1.2.1+1)),j.1.2.2.1,o.2.1.2),o.2.2,K)))))))))))))))) (dnO (loopO (σ:=Li) fuelN (λ(c:Li)=>(cnd (c.1.2.2<c.1.2.1) (gd ((0:Int)<=c.1.2.2/\c.1.2.2<(c.1.1.length:Int)) (bd (some (aA c.1.1 c.1.2.2.toNat Bc)) (λs=>(bd (o70 s) (λB=>(cnd (B !=0) (dnO (some B)) (jd (cnd (c.1.2.2>0) (gd ((0:Int)<=(wrap .i64 (c.1.2.2-1))/\(wrap .i64 (c.1.2.2-1))<(c.2.1.1.2.2.2.1.length:Int)) (bd (o48 s.1 ((aA c.2.1.1.2.2.2.1 (wrap .i64 (c.1.2.2-1)).toNat Bc).1)) (λL=>(bd (o66 L) (λC=>(cnd (C !=0) (dnO (dnO (some C))) (some (Ctl.go (((c.1.1,c.1.2.1),c.1.2.2,c.2.1.1),(s,c.2.1.2),c.2.2))))))))) (some (Ctl.go (((c.1.1,c.1.2.1),c.1.2.2,c.2.1.1),(s,c.2.1.2),c.2.2)))) (λp=>(loopO (σ:=PL) fuelN (λ(h:PL)=>(cnd (h.2.1.1<h.1.2.2.2) (gd ((0:Int)<=h.2.1.1/\h.2.1.1<(h.1.2.2.1.length:Int)) (bd (some (aA h.1.2.2.1 h.2.1.1.toNat BC)) (λM=>(cnd (!(mpGet false h.2.2.1 M.1)) (dnO (dnO (some (6:Int)))) (some (Ctl.go (h.1,((wrap .i64 (h.2.1.1+1)),h.2.1.2),h.2.2))))))) (dnO (some (Ctl.go ((h.1.1.1,h.1.1.2,(wrap .i64 (h.1.2.1+1))),(h.2.1.2,h.2.2.1),h.2.2.2)))))) ((p.1.1,p.1.2.1,p.2.1.1.2,(p.2.1.1.2.length:Int)),((0:Int),p.1.2.2),p.2.1.2,p.2.2)))))))))) (dnO (loopO (σ:=Lj) fuelN (λ(d:Lj)=>(cnd (d.1.2.2<d.1.2.1) (gd ((0:Int)<=d.1.2.2/\d.1.2.2<(d.1.1.length:Int)) (bd (some (aA d.1.1 d.1.2.2.toNat Bd)) (λk=>(bd (o71 ((k.1,k.2.1),k.2.2)) (λD=>(cnd (D !=0) (dnO (some D)) (jd (cnd (d.1.2.2>0) (gd ((0:Int)<=(wrap .i64 (d.1.2.2-1))/\(wrap .i64 (d.1.2.2-1))<(d.2.1.1.2.2.2.2.length:Int)) (bd (some (aA d.2.1.1.2.2.2.2 (wrap .i64 (d.1.2.2-1)).toNat Bd)) (λw=>(bd (o50 ((k.1,k.2.1),k.2.2) ((w.1,w.2.1),w.2.2)) (λN=>(bd (o66 N) (λE=>(cnd (E !=0) (dnO (dnO (some E))) (some (Ctl.go (((d.1.1,d.1.2.1),d.1.2.2,d.2.1.1),(((k.1,k.2.1),k.2.2),d.2.1.2),d.2.2))))))))))) (some (Ctl.go (((d.1.1,d.1.2.1),d.1.2.2,d.2.1.1),(((k.1,k.2.1),k.2.2),d.2.1.2),d.2.2)))) (λm=>(cnd (!(mpGet false m.2.2.1 m.2.1.1.1.1)) (dnO (some (6:Int))) (loopO (σ:=PM) fuelN (λ(g:PM)=>(cnd (g.2.1.1<g.1.2.2.2) (gd ((0:Int)<=g.2.1.1/\g.2.1.1<(g.1.2.2.1.length:Int)) (bd (some (aA g.1.2.2.1 g.2.1.1.toNat AD)) (λO=>(bd (o72 g.2.1.2.2 O g.2.2.1 g.2.2.2.1 g.2.2.2.2) (λu=>(cnd (u.1.1 !=0) (dnO (dnO (some u.1.1))) (some (Ctl.go (g.1,((wrap .i64 (g.2.1.1+1)),g.2.1.2),u.1.2,u.2))))))))) (dnO (loopO (σ:=PN) fuelN (λ(f:PN)=>(cnd (f.2.1.1<f.1.2.2.2) (gd ((0:Int)<=f.2.1.1/\f.2.1.1<(f.1.2.2.1.length:Int)) (bd (some (aA f.1.2.2.1 f.2.1.1.toNat AD)) (λF=>(loopO (σ:=PO) fuelN (λ(e:PO)=>(cnd (e.2.1.2.2<e.2.1.2.1) (gd ((0:Int)<=e.2.1.2.2/\e.2.1.2.2<(e.2.1.1.length:Int)) (bd (some (aA e.2.1.1 e.2.1.2.2.toNat BS)) (λn=>(bd (o73 (((n.1,n.2.1,n.2.2.1),n.2.2.2.1,n.2.2.2.2.1,n.2.2.2.2.2.1),(n.2.2.2.2.2.2.1,n.2.2.2.2.2.2.2.1,n.2.2.2.2.2.2.2.2.1),n.2.2.2.2.2.2.2.2.2) e.2.2.1.2 e.2.2.2.1 e.2.2.2.2) (λv=>(cnd (v.1.1 !=0) (dnO (dnO (dnO (some v.1.1)))) (some (Ctl.go (e.1,(e.2.1.1,e.2.1.2.1,(wrap .i64 (e.2.1.2.2+1))),(e.2.2.1.1,v.1.2),v.2))))))))) (dnO (some (Ctl.go (((e.1.1.1,e.1.1.2.1),e.1.1.2.2,e.1.2.1,e.1.2.2.1),((wrap .i64 (e.1.2.2.2+1)),e.2.2.1.1),e.2.2.1.2,e.2.2.2)))))) (((f.1.1.1,f.1.1.2,f.1.2.1),f.1.2.2.1,f.1.2.2.2,f.2.1.1),(F.2.2,(F.2.2.length:Int),(0:Int)),(f.2.1.2,f.2.2.1),f.2.2.2))))) (dnO (some (Ctl.go ((f.1.1.1,f.1.1.2,(wrap .i64 (f.1.2.1+1))),(f.2.1.2,f.2.2.1),f.2.2.2)))))) ((g.1.1,g.1.2.1,g.2.1.2.2.2.2,(g.2.1.2.2.2.2.length:Int)),((0:Int),g.2.1.2.1),g.2.2))))) ((m.1.1,m.1.2.1,m.2.1.1.2.2,(m.2.1.1.2.2.length:Int)),((0:Int),m.1.2.2,m.2.1.1),m.2.1.2,m.2.2))))))))))) (dnO (some (0:Int))))) ((c.2.1.1.2.2.2.2,(c.2.1.1.2.2.2.2.length:Int),(0:Int)),c.2))))) ((b.1.2.2.1.2.2.2.1,(b.1.2.2.1.2.2.2.1.length:Int),(0:Int)),b.1.2.2,b.2.1))))) (((q.2.2.2.1,(q.2.2.2.1.length:Int)),(0:Int),q.2,y.1),y.2,G))))))))))))
def Ajx:Tbl:=(26,⟨⟨[(0,FA)],[]⟩,[⟨[(0,Za)],[]⟩],λt=>(o26 t)⟩)::Ajw
theorem Aoj:TK Ajx:=kc Aoi Tryz.f26 (.s .d (.s .d (.s (.s (.j false [⟨[(1,Zb),(50,Zc)],[AM]⟩] .d) .d) (.s .d (.s (.s .d (.b (.l [⟨[(1,Zb),(4,Zg),(5,Zi),(56,Dn),(57,Za),(58,Za)],[AM,.cells 151 [.mp 3,.mp 4,.mp 5],.cells 151 [.mp 6,.mp 7,.mp 8],.map .b,.map .b,.map .b,.map .b,.map .b,.map .b]⟩] (.s .d (.s .d (.s (.b (.s .d (.s .d (.j true [⟨[(1,Zb),(4,Zg),(5,Zi),(7,Zr),(56,Dn),(57,Za),(58,Za)],[AM,.cells 151 [.mp 4,.mp 5,.mp 6],.cells 151 [.mp 7,.mp 8,.mp 9],Cw,.map .b,.map .b,.map .b,.map .b,.map .b,.map .b]⟩] .d)))) .d)))))) (.s (.s .d (.b (.l [⟨[(1,Zb),(4,Zg),(99,EB),(100,Za),(101,Za)],[AM,.cells 151 [.mp 2,.mp 3,.mp 4],.map .b,.map .b,.map .b]⟩] (.s .d (.s .d (.s (.b (.s .d (.s .d (.j true [⟨[(1,Zb),(4,Zg),(12,Zi),(99,EB),(100,Za),(101,Za)],[AM,.cells 151 [.mp 3,.mp 4,.mp 5],Yo,.map .b,.map .b,.map .b]⟩] (.s .d (.s .d (.b (.l [⟨[(1,Zb),(4,Zg),(99,EB),(100,Za),(101,Za),(128,Lf),(129,Za),(130,Za)],[AM,.cells 151 [.mp 2,.mp 3,.mp 4],.map .b,.map .b,.map .b]⟩] .d)))))))) .d)))))) (.s (.s .d (.b (.l [⟨[(1,Zb),(4,Zg),(143,BU),(144,Za),(145,Za)],[AM,.cells 151 [.mp 2,.mp 3,.mp 4],.map .b,.map .b,.map .b]⟩] (.s .d (.s .d (.s (.b (.s .d (.s .d (.j true [⟨[(1,Zb),(4,Zg),(18,Zi),(143,BU),(144,Za),(145,Za)],[AM,.cells 151 [.mp 3,.mp 4,.mp 5],CB,.map .b,.map .b,.map .b]⟩] (.s .d (.s .d (.s (.s .d (.b (.l [⟨[(1,Zb),(4,Zg),(18,Zi),(143,BU),(144,Za),(145,Za),(176,CC),(177,Za),(178,Za)],[AM,.cells 151 [.mp 3,.mp 4,.mp 5],CB,.map .b,.map .b,.map .b]⟩] .d))) (.s .d (.b (.l [⟨[(1,Zb),(4,Zg),(143,BU),(144,Za),(145,Za),(191,CC),(192,Za),(193,Za)],[AM,.cells 151 [.mp 2,.mp 3,.mp 4],.map .b,.map .b,.map .b]⟩] (.s .d (.s .d (.s (.b (.s .d (.s .d (.b (.l [⟨[(1,Zb),(4,Zg),(143,BU),(144,Za),(145,Za),(191,CC),(192,Za),(193,Za),(198,EA),(199,Za),(200,Za)],[AM,.cells 151 [.mp 2,.mp 3,.mp 4],.map .b,.map .b,.map .b]⟩] .d))))) .d))))))))))))) .d)))))) .d))))))) λt=>by kernel_rfl
def o27(c:List Bt):Option (Bt):=
 (loopO (σ:=(List Bt×Int)×Int×Bt) fuelN (λ(b:(List Bt×Int)×Int×Bt)=>(cnd (b.2.1<b.1.2) (gd ((0:Int)<=b.2.1/\b.2.1<(b.1.1.length:Int)) (gd (decide ((b.2.2.length+([(u8 (wrap .u8 (((aA b.1.1 b.2.1.toNat ([]:Bt)).length:Nat):Int)))]:Bt).length)*1<=140737488355328)) (gd (decide ((b.2.2++([(u8 (wrap .u8 (((aA b.1.1 b.2.1.toNat ([]:Bt)).length:Nat):Int)))]:Bt)).length+(aA b.1.1 b.2.1.toNat ([]:Bt)).length<=140737488355328)) (some (Ctl.go (b.1,(wrap .i64 (b.2.1+1)),((b.2.2++([(u8 (wrap .u8 (((aA b.1.1 b.2.1.toNat ([]:Bt)).length:Nat):Int)))]:Bt))++(aA b.1.1 b.2.1.toNat ([]:Bt))))))))) (dnO (some b.2.2)))) ((c,(c.length:Int)),(0:Int),([]:Bt)))
def Ajy:Tbl:=(27,⟨⟨[(0,Zb),(1,Zv)],[.cells 70 [.cst (.slice none 0 0)]]⟩,[⟨[(0,Zs)],[.cells 70 [.own 1],.row .y 5]⟩],λt=>(o27 t)⟩)::Ajx
theorem Aok:TK Ajy:=kc Aoj Tryz.f27 (.s .d (.b (.l [⟨[(0,Zb),(6,Zv),(7,Za),(8,Za)],[.cells 70 [.own 1],.row .y 5]⟩] .d))) λt=>by kernel_rfl
def o30(c:Int)(d:Int)(e:Bt):Option (Bt):=
 (loopO (σ:=(Int×Int)×Int×Bt) fuelN (λ(b:(Int×Int)×Int×Bt)=>(cnd (b.2.1<b.1.2) (gd ((b.2.2.length+([(u8 (wrap .u8 b.1.1))]:Bt).length)*1<=140737488355328) (some (Ctl.go (((shrK .i64 b.1.1 (8:Int)),b.1.2),(wrap .i64 (b.2.1+1)),(b.2.2++([(u8 (wrap .u8 b.1.1))]:Bt)))))) (dnO (some b.2.2)))) ((c,d),(0:Int),e))
def Ajz:Tbl:=(30,⟨⟨[(0,Zb),(1,Za),(2,Za)],[.cells 70 [.own 1],.row .y 5]⟩,[⟨[(0,Zs)],[.cells 70 [.own 2],.no,.row .y 5]⟩],λt=>(o30 t.1 t.2.1 t.2.2)⟩)::Ajy
theorem Aol:TK Ajz:=kc Aok Tryz.f30 (.s .d (.b (.l [⟨[(0,Zb),(1,Za),(6,Za),(7,Za)],[.cells 70 [.own 2],.no,.row .y 5]⟩] .d))) λt=>by kernel_rfl
def o28(c:List Int)(d:Bt):Option (Bt):=
 (loopO (σ:=(List Int×Int)×Int×Bt) fuelN (λ(b:(List Int×Int)×Int×Bt)=>(cnd (b.2.1<b.1.2) (gd ((0:Int)<=b.2.1/\b.2.1<(b.1.1.length:Int)) (bd (o30 (aA b.1.1 b.2.1.toNat (0:Int)) (8:Int) b.2.2) (λe=>(some (Ctl.go (b.1,(wrap .i64 (b.2.1+1)),e)))))) (dnO (some b.2.2)))) ((c,(c.length:Int)),(0:Int),d))
def AjA:Tbl:=(28,⟨⟨[(0,Zb),(1,.v (.c (.ro (.i .i64) false)))],[.cells 70 [.own 1],.row .y 5]⟩,[⟨[(0,Zs)],[.cells 70 [.own 2],.no,.row .y 5]⟩],λt=>(o28 t.1 t.2)⟩)::Ajz
theorem Aom:TK AjA:=kc Aol Tryz.f28 (.s .d (.b (.l [⟨[(0,Zb),(6,.v (.c (.ro (.i .i64) false))),(7,Za),(8,Za)],[.cells 70 [.own 2],.no,.row .y 5]⟩] .d))) λt=>by kernel_rfl
def o31(b:Bt)(c:Bt):Option (Bt):=
 (gd ((c.length+b.length)*1<=140737488355328) (some (c++b)))
def AjB:Tbl:=(31,⟨⟨[(0,Zb),(1,Zp)],[.cells 70 [.own 1],.row .y 5]⟩,[⟨[(0,Zs)],[.cells 70 [.own 2],.no,.row .y 5]⟩],λt=>(o31 t.1 t.2)⟩)::AjA
theorem Aon:TK AjB:=kc Aom Tryz.f31 .d λt=>by kernel_rfl
def o29(d:Int)(b:Bt)(e:Bt):Option (Bt):=
 (bd (o31 ([(u8 d)]:Bt) e) (λf=>(bd (o30 (b.length:Int) (4:Int) f) (λc=>(gd ((c.length+b.length)*1<=140737488355328) (some (c++b)))))))
def AjC:Tbl:=(29,⟨⟨[(0,Zb),(1,Zg),(2,Zh)],[.lent [.ro .y false],.cells 70 [.own 2],.row .y 5]⟩,[⟨[(0,Zs)],[.no,.cells 70 [.own 3],.no,.row .y 5]⟩],λt=>(o29 t.1 t.2.1 t.2.2)⟩)::AjB
theorem Aoo:TK AjC:=kc Aon Tryz.f29 (.s .d (.s .d (.r 1))) λt=>by kernel_rfl
def PP(c:Int)(d:Int):Option (Bt):=
 (loopO (σ:=(Int×Int)×Int×Bt) fuelN (λ(b:(Int×Int)×Int×Bt)=>(cnd (b.2.1<b.1.2) (gd ((b.2.2.length+([(u8 (wrap .u8 b.1.1))]:Bt).length)*1<=140737488355328) (some (Ctl.go (((shrK .i64 b.1.1 (8:Int)),b.1.2),(wrap .i64 (b.2.1+1)),(b.2.2++([(u8 (wrap .u8 b.1.1))]:Bt)))))) (dnO (some b.2.2)))) ((c,d),(0:Int),([]:Bt)))
def AjD:Tbl:=(30,⟨⟨[(0,Zb),(1,Za),(2,Za)],[.cells 70 [.cst (.slice none 0 0)]]⟩,[⟨[(0,Zs)],[.cells 70 [.own 1],.row .y 5]⟩],λt=>(PP t.1 t.2)⟩)::AjC
theorem Aop:TK AjD:=kc Aoo Tryz.f30 (.s .d (.b (.l [⟨[(0,Zb),(1,Za),(6,Za),(7,Za)],[.cells 70 [.own 1],.row .y 5]⟩] .d))) λt=>by kernel_rfl
def FB(c:List Bt)(d:Bt):Option (Bt):=
 (loopO (σ:=(List Bt×Int)×Int×Bt) fuelN (λ(b:(List Bt×Int)×Int×Bt)=>(cnd (b.2.1<b.1.2) (gd ((0:Int)<=b.2.1/\b.2.1<(b.1.1.length:Int)) (gd (decide ((b.2.2.length+([(u8 (wrap .u8 (((aA b.1.1 b.2.1.toNat ([]:Bt)).length:Nat):Int)))]:Bt).length)*1<=140737488355328)) (gd (decide ((b.2.2++([(u8 (wrap .u8 (((aA b.1.1 b.2.1.toNat ([]:Bt)).length:Nat):Int)))]:Bt)).length+(aA b.1.1 b.2.1.toNat ([]:Bt)).length<=140737488355328)) (some (Ctl.go (b.1,(wrap .i64 (b.2.1+1)),((b.2.2++([(u8 (wrap .u8 (((aA b.1.1 b.2.1.toNat ([]:Bt)).length:Nat):Int)))]:Bt))++(aA b.1.1 b.2.1.toNat ([]:Bt))))))))) (dnO (some b.2.2)))) ((c,(c.length:Int)),(0:Int),d))
def AjE:Tbl:=(27,⟨⟨[(0,Zb),(1,Zv)],[.cells 70 [.own 1],.row .y 5]⟩,[⟨[(0,Zs)],[.cells 70 [.own 2],.no,.row .y 5]⟩],λt=>(FB t.1 t.2)⟩)::AjD
theorem Aoq:TK AjE:=kc Aop Tryz.f27 (.s .d (.b (.l [⟨[(0,Zb),(6,Zv),(7,Za),(8,Za)],[.cells 70 [.own 2],.no,.row .y 5]⟩] .d))) λt=>by kernel_rfl
def o32(c:Ai)(d:Bt):Option (Bt):=
 (bd (cnd c.1.2.2.1 (some ((1:Int),d,c)) (some ((0:Int),d,c))) (λb=>(bd (o31 ([(u8 b.2.2.1.1.1)]:Bt) b.2.1) (λe=>(bd (FB ([b.2.2.1.1.2.1,b.2.2.1.1.2.2]:List Bt) e) (λf=>(bd (o31 ([(u8 b.2.2.1.2.1),(u8 b.1)]:Bt) f) (λg=>(bd (o28 ([b.2.2.1.2.2.2,b.2.2.2.1.1,b.2.2.2.1.2.1,b.2.2.2.1.2.2,b.2.2.2.2.1.1,b.2.2.2.2.1.2,b.2.2.2.2.2.1,b.2.2.2.2.2.2]:List Int) g) (λh=>(some h)))))))))))
def AjF:Tbl:=(32,⟨⟨[(0,Zb),(1,DQ)],[.cells 70 [.own 1],.row .y 5]⟩,[⟨[(0,Zs)],[.cells 70 [.own 2],.no,.row .y 5]⟩],λt=>(o32 t.1 t.2)⟩)::AjE
theorem Aor:TK AjF:=kc Aoq Tryz.f32 (.s .d (.s .d (.j false [⟨[(0,Zb),(3,Zi),(4,Zh)],[.cells 70 [.own 1],.row .y 5,Ag]⟩] .d))) λt=>by kernel_rfl
def o199(c:Int)(d:Int):Option Int:=
 (loopO (σ:=Int×Int) fuelN (λ(b:Int×Int)=>(cnd (b.2<8) (cnd ((landK .u32 b.1 (1:Int))==1) (some (Ctl.go ((lxorK .u32 (shrK .u32 b.1 (1:Int)) (3988292384:Int)),(wrap .i64 (b.2+1))))) (some (Ctl.go ((shrK .u32 b.1 (1:Int)),(wrap .i64 (b.2+1)))))) (dnO (some b.1)))) ((lxorK .u32 c (wrap .u32 d)),(0:Int)))
def AjG:Tbl:=(199,⟨⟨[(0,.v (.c (.i .u32))),(1,Zh)],[]⟩,[⟨[(0,.v (.c (.i .u32)))],[]⟩],λt=>(o199 t.1 t.2)⟩)::AjF
theorem Aos:TK AjG:=kc Aor Tryz.f199 (.s .d (.s .d (.s (.s .d (.b (.l [⟨[(0,.v (.c (.i .u32))),(9,Za)],[]⟩] .d))) .d))) λt=>by kernel_rfl
def o140(d:Int)(c:Bt):Option Int:=
 (loopO (σ:=(Int×Bt)×Int×Int) fuelN (λ(b:(Int×Bt)×Int×Int)=>(cnd (b.2.2<b.2.1) (gd ((0:Int)<=b.2.2/\b.2.2<(b.1.2.length:Int)) (bd (o199 b.1.1 ((aI (aA b.1.2 b.2.2.toNat (0:UInt8)):Nat):Int)) (λe=>(some (Ctl.go ((e,b.1.2),b.2.1,(wrap .i64 (b.2.2+1)))))))) (dnO (some (lxorK .u32 (4294967295:Int) b.1.1))))) (((lxorK .u32 (4294967295:Int) d),c),(c.length:Int),(0:Int)))
def AjH:Tbl:=(140,⟨⟨[(0,.v (.c (.i .u32))),(1,Zp)],[]⟩,[⟨[(0,.v (.c (.i .u32)))],[]⟩],λt=>(o140 t.1 t.2)⟩)::AjG
theorem Aot:TK AjH:=kc Aos Tryz.f140 (.s .d (.s .d (.s (.s .d (.b (.l [⟨[(5,.v (.c (.i .u32))),(10,Zp),(11,Za),(12,Za)],[]⟩] .d))) .d))) λt=>by kernel_rfl
def o74(b:Bt):Option Int:=
 (bd (o140 (0:Int) b) (λc=>(some c)))
def AjI:Tbl:=(74,⟨⟨[(0,Zp)],[]⟩,[⟨[(0,.v (.c (.i .u32)))],[]⟩],λt=>(o74 t)⟩)::AjH
theorem Aou:TK AjI:=kc Aot Tryz.f74 .d λt=>by kernel_rfl
def o37(b:Bt):Option (Bt):=
 (nlO (aX b) (some ([]:Bt)) (gd ((([]:Bt).length+b.length)*1<=140737488355328) (some (([]:Bt)++b))))
def AjJ:Tbl:=(37,⟨⟨[(0,Zp)],[]⟩,[⟨[(0,Ze)],[.row .y 5]⟩],λt=>(o37 t)⟩)::AjI
theorem Aov:TK AjJ:=kc Aou Tryz.f37 .d λt=>by kernel_rfl
def o33(c:Bt):Option (Bt):=
 (bd (o74 c) (λb=>(bd (o37 c) (λd=>(gd ((d.length+([(u8 (wrap .u8 b)),(u8 (wrap .u8 (shrK .u32 b (8:Int)))),(u8 (wrap .u8 (shrK .u32 b (16:Int)))),(u8 (wrap .u8 (shrK .u32 b (24:Int))))]:Bt).length)*1<=140737488355328) (some (d++([(u8 (wrap .u8 b)),(u8 (wrap .u8 (shrK .u32 b (8:Int)))),(u8 (wrap .u8 (shrK .u32 b (16:Int)))),(u8 (wrap .u8 (shrK .u32 b (24:Int))))]:Bt))))))))
def AjK:Tbl:=(33,⟨⟨[(0,Zp)],[]⟩,[⟨[(0,Ze)],[.row .y 5]⟩],λt=>(o33 t)⟩)::AjJ
theorem Aow:TK AjK:=kc Aov Tryz.f33 .d λt=>by kernel_rfl
abbrev PQ:Type:=(List Ae×Int×Int)×AC×Bt×Bt
abbrev PR:Type:=(List Ah×Int×Int)×AC×Bt×Bt
abbrev PS:Type:=((List Ah×Int)×Int×List (Bt×(Int×Int)×Int))×(Int×Int)×AC×Bt×Bt
abbrev PT:Type:=((List Ak×Int)×Int×List (Int×Bt×List Af))×(Int×Int)×Bt×Bt
abbrev PU:Type:=((List Ak×Int)×Int×(List (Int×Bt×List Af))×Int)×(Int×List Af×Int)×Int×Bt×Bt
def o7(h:AC):Option (Int×Bt):=
 (bd (o26 h) (λo=>(cnd (o !=0) (some (o,([]:Bt))) (gd (0<([(u8 (70:Int)),(u8 (68:Int)),(u8 (66:Int)),(u8 (49:Int))]:Bt).length) (bd (o27 ([h.1.1.1]:List Bt)) (λp=>(bd (o28 ([h.1.1.2,h.1.2.1,h.1.2.2,h.2.1.1,h.2.1.2]:List Int) p) (λq=>(bd (o29 (1:Int) q ([(u8 (70:Int)),(u8 (68:Int)),(u8 (66:Int)),(u8 (49:Int))]:Bt)) (λr=>(bd (PP (h.2.2.1.length:Int) (2:Int)) (λs=>(loopO (σ:=PQ) fuelN (λ(b:PQ)=>(cnd (b.1.2.2<b.1.2.1) (gd ((0:Int)<=b.1.2.2/\b.1.2.2<(b.1.1.length:Int)) (bd (some (aA b.1.1 b.1.2.2.toNat AW)) (λj=>(bd (FB ([j.1,j.2.1]:List Bt) b.2.2.2) (λu=>(bd (o31 ([(u8 j.2.2.1)]:Bt) u) (λv=>(bd (o28 ([j.2.2.2.1.1,j.2.2.2.1.2,j.2.2.2.2.1,j.2.2.2.2.2]:List Int) v) (λw=>(some (Ctl.go ((b.1.1,b.1.2.1,(wrap .i64 (b.1.2.2+1))),b.2.1,b.2.2.1,w)))))))))))) (dnO (bd (o29 (2:Int) b.2.2.2 b.2.2.1) (λx=>(bd (PP (b.2.1.2.2.2.1.length:Int) (2:Int)) (λy=>(loopO (σ:=PR) fuelN (λ(c:PR)=>(cnd (c.1.2.2<c.1.2.1) (gd ((0:Int)<=c.1.2.2/\c.1.2.2<(c.1.1.length:Int)) (bd (some (aA c.1.1 c.1.2.2.toNat Bc)) (λm=>(bd (FB ([m.1]:List Bt) c.2.2.2) (λz=>(bd (o30 (m.2.length:Int) (2:Int) z) (λA=>(loopO (σ:=PS) fuelN (λ(e:PS)=>(cnd (e.2.1.2<e.2.1.1) (gd ((0:Int)<=e.2.1.2/\e.2.1.2<(e.1.2.2.length:Int)) (bd (some (aA e.1.2.2 e.2.1.2.toNat BC)) (λn=>(bd (FB ([n.1]:List Bt) e.2.2.2.2) (λB=>(bd (o28 ([n.2.1.1,n.2.1.2]:List Int) B) (λC=>(bd (o31 ([(u8 n.2.2)]:Bt) C) (λD=>(some (Ctl.go (e.1,(e.2.1.1,(wrap .i64 (e.2.1.2+1))),e.2.2.1,e.2.2.2.1,D)))))))))))) (dnO (some (Ctl.go ((e.1.1.1,e.1.1.2,(wrap .i64 (e.1.2.1+1))),e.2.2)))))) (((c.1.1,c.1.2.1),c.1.2.2,m.2),((m.2.length:Int),(0:Int)),c.2.1,c.2.2.1,A))))))))) (dnO (bd (o29 (3:Int) c.2.2.2 c.2.2.1) (λE=>(bd (PP (c.2.1.2.2.2.2.length:Int) (2:Int)) (λF=>(loopO (σ:=(List Ak×Int)×Int×Bt×Bt) fuelN (λ(g:(List Ak×Int)×Int×Bt×Bt)=>(cnd (g.2.1<g.1.2) (gd ((0:Int)<=g.2.1/\g.2.1<(g.1.1.length:Int)) (bd (some (aA g.1.1 g.2.1.toNat Bd)) (λk=>(bd (FB ([k.1,k.2.1]:List Bt) g.2.2.2) (λG=>(bd (o31 ([(u8 k.2.2.1)]:Bt) G) (λH=>(bd (o30 (k.2.2.2.length:Int) (2:Int) H) (λI=>(loopO (σ:=PT) fuelN (λ(f:PT)=>(cnd (f.2.1.2<f.2.1.1) (gd ((0:Int)<=f.2.1.2/\f.2.1.2<(f.1.2.2.length:Int)) (bd (some (aA f.1.2.2 f.2.1.2.toNat AD)) (λl=>(bd (o31 ([(u8 l.1)]:Bt) f.2.2.2) (λJ=>(bd (FB ([l.2.1]:List Bt) J) (λK=>(bd (o30 (l.2.2.length:Int) (2:Int) K) (λL=>(loopO (σ:=PU) fuelN (λ(d:PU)=>(cnd (d.2.2.1<d.2.1.2.2) (gd ((0:Int)<=d.2.2.1/\d.2.2.1<(d.2.1.2.1.length:Int)) (bd (some (aA d.2.1.2.1 d.2.2.1.toNat BS)) (λi=>(bd (o32 (((i.1,i.2.1,i.2.2.1),i.2.2.2.1,i.2.2.2.2.1,i.2.2.2.2.2.1),(i.2.2.2.2.2.2.1,i.2.2.2.2.2.2.2.1,i.2.2.2.2.2.2.2.2.1),i.2.2.2.2.2.2.2.2.2) d.2.2.2.2) (λM=>(some (Ctl.go (d.1,d.2.1,(wrap .i64 (d.2.2.1+1)),d.2.2.2.1,M)))))))) (dnO (some (Ctl.go ((d.1.1,d.1.2.1,d.1.2.2.1),(d.1.2.2.2,(wrap .i64 (d.2.1.1+1))),d.2.2.2)))))) ((f.1.1,f.1.2.1,f.1.2.2,f.2.1.1),(f.2.1.2,l.2.2,(l.2.2.length:Int)),(0:Int),f.2.2.1,L))))))))))) (dnO (some (Ctl.go (f.1.1,(wrap .i64 (f.1.2.1+1)),f.2.2)))))) ((g.1,g.2.1,k.2.2.2),((k.2.2.2.length:Int),(0:Int)),g.2.2.1,I))))))))))) (dnO (bd (o29 (4:Int) g.2.2.2 g.2.2.1) (λN=>(bd (o33 N) (λO=>(some ((0:Int),O))))))))) ((c.2.1.2.2.2.2,(c.2.1.2.2.2.2.length:Int)),(0:Int),E,F))))))))) ((b.2.1.2.2.2.1,(b.2.1.2.2.2.1.length:Int),(0:Int)),b.2.1,x,y))))))))) ((h.2.2.1,(h.2.2.1.length:Int),(0:Int)),h,r,s))))))))))))))
def AjL:Tbl:=(7,⟨⟨[(0,FA)],[]⟩,[⟨[(0,.tup [.c (.own 0),.c (.i .i64)])],[.row .y 5]⟩],λt=>(o7 t)⟩)::AjK
theorem Aox:TK AjL:=kc Aow Tryz.f7 (.s .d (.s .d (.s .d (.s .d (.s .d (.s .d (.s .d (.s .d (.s .d (.s .d (.s (.s .d (.b (.l [⟨[(1,Zb),(5,Zg),(7,Zi),(64,Dn),(65,Za),(66,Za)],[AM,.cells 70 [.own 3],.cells 70 [.own 4],.row .y 5,.row .y 5]⟩] .d))) (.s .d (.s .d (.s .d (.s (.s .d (.b (.l [⟨[(1,Zb),(5,Zg),(7,Zi),(107,EB),(108,Za),(109,Za)],[AM,.cells 70 [.own 3],.cells 70 [.own 4],.row .y 5,.row .y 5]⟩] (.s .d (.s .d (.s (.b (.s .d (.s .d (.s .d (.s .d (.b (.l [⟨[(1,Zb),(5,Zg),(7,Zi),(107,EB),(108,Za),(109,Za),(124,Lf),(125,Za),(126,Za)],[AM,.cells 70 [.own 3],.cells 70 [.own 4],.row .y 5,.row .y 5]⟩] .d))))))) .d)))))) (.s .d (.s .d (.s .d (.s (.s .d (.b (.l [⟨[(5,Zb),(7,Zg),(162,BU),(163,Za),(164,Za)],[.cells 70 [.own 2],.cells 70 [.own 3],.row .y 5,.row .y 5]⟩] (.s .d (.s .d (.s (.b (.s .d (.s .d (.s .d (.s .d (.s .d (.b (.l [⟨[(5,Zb),(7,Zg),(162,BU),(163,Za),(164,Za),(186,CC),(187,Za),(188,Za)],[.cells 70 [.own 2],.cells 70 [.own 3],.row .y 5,.row .y 5]⟩] (.s .d (.s .d (.s (.b (.s .d (.s .d (.s .d (.s .d (.s .d (.b (.l [⟨[(5,Zb),(7,Zg),(162,BU),(163,Za),(164,Za),(186,CC),(187,Za),(188,Za),(208,EA),(209,Za),(210,Za)],[.cells 70 [.own 2],.cells 70 [.own 3],.row .y 5,.row .y 5]⟩] .d)))))))) .d))))))))))) .d)))))) .d))))))))))))))))))) λt=>by kernel_rfl
def o6:Option Bool:=
 (bd (o23 ([68,65,84,65,66,65,83,69,32,87,69,83,84,32,50,54,49,50,32,78,52,54,48,48,48,48,48,48,87,49,50,48,48,48,48,48,48,48,10]:Bt)) (λb=>(bd (o7 (((b.1.1.1.1,b.1.1.1.2.1),b.1.1.1.2.2,b.1.1.2.1.1),(b.1.1.2.1.2,b.1.1.2.2.1),b.1.2,b.2)) (λc=>(bd (cnd ((b.1.1.2.2.2.length:Int)==0) (cnd ((c.2.length:Int)==79) (some (c.1==0)) (some false)) (some false)) (λd=>(some d)))))))
def AjM:Tbl:=(6,⟨⟨[],[]⟩,[⟨[(0,Zc)],[]⟩],λt=>o6⟩)::AjL
theorem Aoy:TK AjM:=kc Aox Tryz.f6 (.s .d (.s .d (.s .d (.s (.j false [⟨[(0,Zc)],[]⟩] .d) .d)))) λt=>by kernel_rfl
def Yq:SSh:= .tup [.c (.ro .y true),.c (.i .i64)]
def o79(b:Bt):Option (Bt×Int):=
 (cnd ((wrap .i64 ((b.length:Int)-4))<0) (some (([]:Bt),(4:Int))) (gd ((0:Int)<=(wrap .i64 ((b.length:Int)-4))/\(wrap .i64 ((b.length:Int)-4))<=(b.length:Int)) (bd (o74 (aP (wrap .i64 ((b.length:Int)-4)).toNat b)) (λd=>(bd (gd ((0:Int)<=(wrap .i64 ((b.length:Int)-4))/\(wrap .i64 ((b.length:Int)-4))<(b.length:Int)) (cnd (((aI (aA b (wrap .i64 ((b.length:Int)-4)).toNat (0:UInt8)):Nat):Int)!=(wrap .u8 d)) (some (b,(wrap .i64 ((b.length:Int)-4)),true)) (gd ((0:Int)<=(wrap .i64 ((wrap .i64 ((b.length:Int)-4))+1))/\(wrap .i64 ((wrap .i64 ((b.length:Int)-4))+1))<(b.length:Int)) (cnd (((aI (aA b (wrap .i64 ((wrap .i64 ((b.length:Int)-4))+1)).toNat (0:UInt8)):Nat):Int)!=(wrap .u8 (shrK .u32 d (8:Int)))) (some (b,(wrap .i64 ((b.length:Int)-4)),true)) (gd ((0:Int)<=(wrap .i64 ((wrap .i64 ((b.length:Int)-4))+2))/\(wrap .i64 ((wrap .i64 ((b.length:Int)-4))+2))<(b.length:Int)) (cnd (((aI (aA b (wrap .i64 ((wrap .i64 ((b.length:Int)-4))+2)).toNat (0:UInt8)):Nat):Int)!=(wrap .u8 (shrK .u32 d (16:Int)))) (some (b,(wrap .i64 ((b.length:Int)-4)),true)) (gd ((0:Int)<=(wrap .i64 ((wrap .i64 ((b.length:Int)-4))+3))/\(wrap .i64 ((wrap .i64 ((b.length:Int)-4))+3))<(b.length:Int)) (some (b,(wrap .i64 ((b.length:Int)-4)),(((aI (aA b (wrap .i64 ((wrap .i64 ((b.length:Int)-4))+3)).toNat (0:UInt8)):Nat):Int)!=(wrap .u8 (shrK .u32 d (24:Int))))))))))))) (λc=>(cnd c.2.2 (some (([]:Bt),(12:Int))) (gd ((0:Int)<=c.2.1/\c.2.1<=(c.1.length:Int)) (bd (o37 (aP c.2.1.toNat c.1)) (λe=>(some (e,(0:Int)))))))))))))
def AjN:Tbl:=(79,⟨⟨[(0,Zp)],[]⟩,[⟨[(0,Yq)],[]⟩],λt=>(o79 t)⟩)::AjM
theorem Aoz:TK AjN:=kc Aoy Tryz.f79 (.s .d (.s .d (.s .d (.s .d (.s (.s (.j false [⟨[(0,Zp),(4,Za),(54,Zc)],[]⟩] .d) .d) .d))))) λt=>by kernel_rfl
def Aq:BSh:= .cells 170 [.ro .y true,.i .i64,.i .i64,.b]
def o80(d:Int)(c:(Bt×Int)×Int×Bool):Option (Bt×(Bt×Int)×Int×Bool):=
 (bd (cnd c.2.2 (some (d,true,c)) (cnd (d<0) (some (d,true,c)) (some (d,(decide (d>(wrap .i64 (c.2.1-c.1.2)))),c)))) (λb=>(cnd b.2.1 (some (([]:Bt),b.2.2.1,b.2.2.2.1,true)) (gd ((0:Int)<=b.2.2.1.2/\b.2.2.1.2<=(wrap .i64 (b.2.2.1.2+b.1))/\(wrap .i64 (b.2.2.1.2+b.1))<=(b.2.2.1.1.length:Int)) (some ((aP ((wrap .i64 (b.2.2.1.2+b.1)).toNat-b.2.2.1.2.toNat) (aM b.2.2.1.2.toNat b.2.2.1.1)),(b.2.2.1.1,(wrap .i64 (b.2.2.1.2+b.1))),b.2.2.2))))))
def AjO:Tbl:=(80,⟨⟨[(0,Zb),(1,Za)],[Aq]⟩,[⟨[(0,Zw)],[Aq]⟩],λt=>(o80 t.1 t.2)⟩)::AjN
theorem AoA:TK AjO:=kc Aoz Tryz.f80 (.s .d (.s (.s (.j false [⟨[(0,Zb),(1,Za),(26,Zc)],[Aq]⟩] .d) .d) .d)) λt=>by kernel_rfl
def o81(c:(Bt×Int)×Int×Bool):Option (Int×(Bt×Int)×Int×Bool):=
 (bd (o80 (1:Int) c) (λb=>(cnd b.2.2.2 (some ((0:Int),b.2)) (gd ((0:Int)<=0/\(0:Int)<(b.1.length:Int)) (some (((aI (aA b.1 (0:Int).toNat (0:UInt8)):Nat):Int),b.2))))))
def AjP:Tbl:=(81,⟨⟨[(0,Zb)],[Aq]⟩,[⟨[(0,Zh)],[Aq]⟩],λt=>(o81 t)⟩)::AjO
theorem AoB:TK AjP:=kc AoA Tryz.f81 .d λt=>by kernel_rfl
abbrev PV:Type:=(Int×Bt)×Int×Int×(Bt×Int)×Int×Bool
def o82(d:Int)(e:(Bt×Int)×Int×Bool):Option (Int×(Bt×Int)×Int×Bool):=
 (bd (o80 d e) (λc=>(loopO (σ:=PV) fuelN (λ(b:PV)=>(cnd (b.2.2.1<b.2.1) (gd ((0:Int)<=b.2.2.1/\b.2.2.1<(b.1.2.length:Int)) (gd ((0:Int)<=(wrap .i64 ((8:Int)*b.2.2.1))) (some (Ctl.go (((lorK .u64 b.1.1 (shlK .u64 (wrap .u64 ((aI (aA b.1.2 b.2.2.1.toNat (0:UInt8)):Nat):Int)) (wrap .i64 ((8:Int)*b.2.2.1)))),b.1.2),b.2.1,(wrap .i64 (b.2.2.1+1)),b.2.2.2))))) (dnO (some ((wrap .i64 b.1.1),b.2.2.2))))) (((0:Int),c.1),(c.1.length:Int),(0:Int),c.2))))
def AjQ:Tbl:=(82,⟨⟨[(0,Zb),(1,Za)],[Aq]⟩,[⟨[(0,Za)],[Aq]⟩],λt=>(o82 t.1 t.2)⟩)::AjP
theorem AoC:TK AjQ:=kc AoB Tryz.f82 (.s .d (.s .d (.s (.s .d (.b (.l [⟨[(5,Zf),(10,Zw),(11,Za),(12,Za)],[Aq]⟩] .d))) .d))) λt=>by kernel_rfl
def o83(c:(Bt×Int)×Int×Bool):Option (Bt×(Bt×Int)×Int×Bool):=
 (bd (o81 c) (λb=>(bd (o80 (wrap .i64 b.1) b.2) (λd=>(some d)))))
def AjR:Tbl:=(83,⟨⟨[(0,Zb)],[Aq]⟩,[⟨[(0,Zd)],[Aq]⟩],λt=>(o83 t)⟩)::AjQ
theorem AoD:TK AjR:=kc AoC Tryz.f83 .d λt=>by kernel_rfl
def o84(b:(Bt×Int)×Int×Bool):Option (Int×(Bt×Int)×Int×Bool):=
 (bd (o82 (8:Int) b) (λc=>(some c)))
def AjS:Tbl:=(84,⟨⟨[(0,Zb)],[Aq]⟩,[⟨[(0,Za)],[Aq]⟩],λt=>(o84 t)⟩)::AjR
theorem AoE:TK AjS:=kc AoD Tryz.f84 .d λt=>by kernel_rfl
def o86(i:(Bt×Int)×Int×Bool):Option (Cx×(Bt×Int)×Int×Bool):=
 (bd (o83 i) (λb=>(bd (o83 b.2) (λc=>(bd (o81 c.2) (λd=>(bd (o84 d.2) (λe=>(bd (o84 e.2) (λf=>(bd (o84 f.2) (λg=>(bd (o84 g.2) (λh=>(some (((b.1,c.1,d.1),(e.1,f.1),g.1,h.1),h.2))))))))))))))))
def AjT:Tbl:=(86,⟨⟨[(0,Zb)],[Aq]⟩,[⟨[(0,Dm)],[Aq]⟩],λt=>(o86 t)⟩)::AjS
theorem AoF:TK AjT:=kc AoE Tryz.f86 .d λt=>by kernel_rfl
abbrev PW:Type:=(Int×Int)×((Bt×Int)×Int×Bool)×List Ae
def o85(e:(Bt×Int)×Int×Bool):Option (((Bt×Int)×Int×Bool)×List Ae):=
 (bd (o82 (2:Int) e) (λd=>(loopO (σ:=PW) fuelN (λ(c:PW)=>(cnd (c.1.2<c.1.1) (cnd c.2.1.2.2 (dnO (some (c.2.1,([]:List Ae)))) (bd (o86 c.2.1) (λb=>(gd (decide ((c.2.2.length+([(b.1.1.1,(b.1.1.2.1,(b.1.1.2.2,((b.1.2.1.1,b.1.2.1.2),(b.1.2.2.1,b.1.2.2.2)))))]:List Ae).length)*72<=140737488355328)) (some (Ctl.go ((c.1.1,(wrap .i64 (c.1.2+1))),b.2,(c.2.2++([(b.1.1.1,(b.1.1.2.1,(b.1.1.2.2,((b.1.2.1.1,b.1.2.1.2),(b.1.2.2.1,b.1.2.2.2)))))]:List Ae))))))))) (dnO (some c.2)))) ((d.1,(0:Int)),d.2,([]:List Ae)))))
def AjU:Tbl:=(85,⟨⟨[(0,Zb),(1,.v (.c (.fn 86)))],[Aq]⟩,[⟨[(0,Zl)],[Aq,Ar]⟩],λt=>(o85 t)⟩)::AjT
theorem AoG:TK AjU:=kc AoF Tryz.f85 (.s .d (.s .d (.s (.s .d (.b (.l [⟨[(0,Zb),(1,.v (.c (.fn 86))),(5,Zl),(7,Za),(8,Za)],[Aq,Ar]⟩] .d))) .d))) λt=>by kernel_rfl
abbrev Yr:Type:=((Bt×Int)×Int×Int)×(Bt×Int)×Int×Bool
def o149(f:(Bt×Int)×Int×Bool):Option Yr:=
 (bd (o83 f) (λb=>(bd (o84 b.2) (λc=>(bd (o84 c.2) (λd=>(bd (o81 d.2) (λe=>(some (((b.1,c.1),d.1,e.1),e.2))))))))))
def AjV:Tbl:=(149,⟨⟨[(0,Zb)],[Aq]⟩,[⟨[(0,Pg)],[Aq]⟩],λt=>(o149 t)⟩)::AjU
theorem AoH:TK AjV:=kc AoG Tryz.f149 .d λt=>by kernel_rfl
abbrev Ys:Type:=((Bt×Int)×Int×Bool)×List (Bt×(Int×Int)×Int)
abbrev PX:Type:=(Int×Int)×((Bt×Int)×Int×Bool)×List (Bt×(Int×Int)×Int)
def o148(e:(Bt×Int)×Int×Bool):Option Ys:=
 (bd (o82 (2:Int) e) (λd=>(loopO (σ:=PX) fuelN (λ(b:PX)=>(cnd (b.1.2<b.1.1) (cnd b.2.1.2.2 (dnO (some (b.2.1,([]:List (Bt×(Int×Int)×Int))))) (bd (o149 b.2.1) (λc=>(gd ((b.2.2.length+([(c.1.1.1,((c.1.1.2,c.1.2.1),c.1.2.2))]:List (Bt×(Int×Int)×Int)).length)*40<=140737488355328) (some (Ctl.go ((b.1.1,(wrap .i64 (b.1.2+1))),c.2,(b.2.2++([(c.1.1.1,((c.1.1.2,c.1.2.1),c.1.2.2))]:List (Bt×(Int×Int)×Int)))))))))) (dnO (some b.2)))) ((d.1,(0:Int)),d.2,([]:List (Bt×(Int×Int)×Int))))))
def AjW:Tbl:=(148,⟨⟨[(0,Zb),(1,.v (.c (.fn 149)))],[Aq]⟩,[⟨[(0,Zl)],[Aq,Ez]⟩],λt=>(o148 t)⟩)::AjV
theorem AoI:TK AjW:=kc AoH Tryz.f148 (.s .d (.s .d (.s (.s .d (.b (.l [⟨[(0,Zb),(1,.v (.c (.fn 149))),(5,Zl),(7,Za),(8,Za)],[Aq,Ez]⟩] .d))) .d))) λt=>by kernel_rfl
abbrev Yt:Type:=Bt×((Bt×Int)×Int×Bool)×List (Bt×(Int×Int)×Int)
def o88(c:(Bt×Int)×Int×Bool):Option Yt:=
 (bd (o83 c) (λb=>(bd (o148 b.2) (λd=>(some (b.1,d))))))
def AjX:Tbl:=(88,⟨⟨[(0,Zb)],[Aq]⟩,[⟨[(0,.v (.agg [.s,.own 1]))],[Aq,Ez]⟩],λt=>(o88 t)⟩)::AjW
theorem AoJ:TK AjX:=kc AoI Tryz.f88 .d λt=>by kernel_rfl
abbrev PY:Type:=(Int×Int)×((Bt×Int)×Int×Bool)×List Ah
def o87(e:(Bt×Int)×Int×Bool):Option (((Bt×Int)×Int×Bool)×List Ah):=
 (bd (o82 (2:Int) e) (λd=>(loopO (σ:=PY) fuelN (λ(b:PY)=>(cnd (b.1.2<b.1.1) (cnd b.2.1.2.2 (dnO (some (b.2.1,([]:List Ah)))) (bd (o88 b.2.1) (λc=>(gd ((b.2.2.length+([(c.1,c.2.2)]:List Ah).length)*40<=140737488355328) (some (Ctl.go ((b.1.1,(wrap .i64 (b.1.2+1))),c.2.1,(b.2.2++([(c.1,c.2.2)]:List Ah))))))))) (dnO (some b.2)))) ((d.1,(0:Int)),d.2,([]:List Ah)))))
def AjY:Tbl:=(87,⟨⟨[(0,Zb),(1,.v (.c (.fn 88)))],[Aq]⟩,[⟨[(0,Zl)],[Aq,At]⟩],λt=>(o87 t)⟩)::AjX
theorem AoK:TK AjY:=kc AoJ Tryz.f87 (.s .d (.s .d (.s (.s .d (.b (.l [⟨[(0,Zb),(1,.v (.c (.fn 88))),(5,Zl),(7,Za),(8,Za)],[Aq,At]⟩] .d))) .d))) λt=>by kernel_rfl
def Yu:BSh:= .cells 96 [.i .u8,.s,.s,.i .u8,.bc false,.ic .i64 (0),.ic .i64 (0),.ic .i64 (0),.ic .i64 (0),.ic .i64 (0),.ic .i64 (0),.ic .i64 (0),.ic .i64 (0)]
def o202(p:(Bt×Int)×Int×Bool):Option (Ai×(Bt×Int)×Int×Bool):=
 (bd (o81 p) (λd=>(bd (o83 d.2) (λe=>(bd (o83 e.2) (λf=>(bd (o81 f.2) (λg=>(bd (o81 g.2) (λc=>(bd (cnd (c.1>1) (some ((c.1,c.2.1,c.2.2.1,true),(([]:Bt),([]:Bt)),(d.1,e.1),f.1,g.1)) (some (c,(([]:Bt),([]:Bt)),(d.1,e.1),f.1,g.1))) (λb=>(bd (o84 b.1.2) (λh=>(bd (o84 h.2) (λi=>(bd (o84 i.2) (λj=>(bd (o84 j.2) (λk=>(bd (o84 k.2) (λl=>(bd (o84 l.2) (λm=>(bd (o84 m.2) (λn=>(bd (o84 n.2) (λo=>(some ((((b.2.2.1.1,b.2.2.1.2,b.2.2.2.1),b.2.2.2.2,(b.1.1==1),h.1),(i.1,j.1,k.1),(l.1,m.1),n.1,o.1),o.2))))))))))))))))))))))))))))))
def AjZ:Tbl:=(202,⟨⟨[(0,Zb)],[Aq]⟩,[⟨[(0,DQ)],[Aq]⟩],λt=>(o202 t)⟩)::AjY
theorem AoL:TK AjZ:=kc AoK Tryz.f202 (.s .d (.s .d (.s .d (.j false [⟨[(0,Zb),(2,Zg),(3,Zi),(4,Zh)],[Aq,HG,Yu]⟩] .d)))) λt=>by kernel_rfl
abbrev PZ:Type:=(Int×Int)×((Bt×Int)×Int×Bool)×List Af
def o201(e:(Bt×Int)×Int×Bool):Option (((Bt×Int)×Int×Bool)×List Af):=
 (bd (o82 (2:Int) e) (λd=>(loopO (σ:=PZ) fuelN (λ(c:PZ)=>(cnd (c.1.2<c.1.1) (cnd c.2.1.2.2 (dnO (some (c.2.1,([]:List Af)))) (bd (o202 c.2.1) (λb=>(gd (decide ((c.2.2.length+([(b.1.1.1.1,(b.1.1.1.2.1,(b.1.1.1.2.2,(b.1.1.2.1,(b.1.1.2.2.1,(b.1.1.2.2.2,(b.1.2.1.1,(b.1.2.1.2.1,(b.1.2.1.2.2,((b.1.2.2.1.1,b.1.2.2.1.2),(b.1.2.2.2.1,b.1.2.2.2.2)))))))))))]:List Af).length)*112<=140737488355328)) (some (Ctl.go ((c.1.1,(wrap .i64 (c.1.2+1))),b.2,(c.2.2++([(b.1.1.1.1,(b.1.1.1.2.1,(b.1.1.1.2.2,(b.1.1.2.1,(b.1.1.2.2.1,(b.1.1.2.2.2,(b.1.2.1.1,(b.1.2.1.2.1,(b.1.2.1.2.2,((b.1.2.2.1.1,b.1.2.2.1.2),(b.1.2.2.2.1,b.1.2.2.2.2)))))))))))]:List Af))))))))) (dnO (some c.2)))) ((d.1,(0:Int)),d.2,([]:List Af)))))
def Aka:Tbl:=(201,⟨⟨[(0,Zb),(1,.v (.c (.fn 202)))],[Aq]⟩,[⟨[(0,Zl)],[Aq,Fy]⟩],λt=>(o201 t)⟩)::AjZ
theorem AoM:TK Aka:=kc AoL Tryz.f201 (.s .d (.s .d (.s (.s .d (.b (.l [⟨[(0,Zb),(1,.v (.c (.fn 202))),(5,Zl),(7,Za),(8,Za)],[Aq,Fy]⟩] .d))) .d))) λt=>by kernel_rfl
abbrev Yv:Type:=(Int×Bt)×((Bt×Int)×Int×Bool)×List Af
def o151(d:(Bt×Int)×Int×Bool):Option Yv:=
 (bd (o81 d) (λb=>(bd (o83 b.2) (λc=>(bd (o201 c.2) (λe=>(some ((b.1,c.1),e))))))))
def Akb:Tbl:=(151,⟨⟨[(0,Zb)],[Aq]⟩,[⟨[(0,.v (.agg [.i .u8,.s,.own 1]))],[Aq,Fy]⟩],λt=>(o151 t)⟩)::Aka
theorem AoN:TK Akb:=kc AoM Tryz.f151 .d λt=>by kernel_rfl
def Lk:BSh:= .row Yf 93
abbrev Yw:Type:=((Bt×Int)×Int×Bool)×List (Int×Bt×List Af)
abbrev Qa:Type:=(Int×Int)×((Bt×Int)×Int×Bool)×List (Int×Bt×List Af)
def o150(e:(Bt×Int)×Int×Bool):Option Yw:=
 (bd (o82 (2:Int) e) (λd=>(loopO (σ:=Qa) fuelN (λ(b:Qa)=>(cnd (b.1.2<b.1.1) (cnd b.2.1.2.2 (dnO (some (b.2.1,([]:List (Int×Bt×List Af))))) (bd (o151 b.2.1) (λc=>(gd ((b.2.2.length+([(c.1.1,(c.1.2,c.2.2))]:List (Int×Bt×List Af)).length)*48<=140737488355328) (some (Ctl.go ((b.1.1,(wrap .i64 (b.1.2+1))),c.2.1,(b.2.2++([(c.1.1,(c.1.2,c.2.2))]:List (Int×Bt×List Af)))))))))) (dnO (some b.2)))) ((d.1,(0:Int)),d.2,([]:List (Int×Bt×List Af))))))
def Akc:Tbl:=(150,⟨⟨[(0,Zb),(1,.v (.c (.fn 151)))],[Aq]⟩,[⟨[(0,Zl)],[Aq,Lk]⟩],λt=>(o150 t)⟩)::Akb
theorem AoO:TK Akc:=kc AoN Tryz.f150 (.s .d (.s .d (.s (.s .d (.b (.l [⟨[(0,Zb),(1,.v (.c (.fn 151))),(5,Zl),(7,Za),(8,Za)],[Aq,Lk]⟩] .d))) .d))) λt=>by kernel_rfl
abbrev Yx:Type:=(Bt×Bt×Int)×((Bt×Int)×Int×Bool)×List (Int×Bt×List Af)
def o90(e:(Bt×Int)×Int×Bool):Option Yx:=
 (bd (o83 e) (λb=>(bd (o83 b.2) (λc=>(bd (o81 c.2) (λd=>(bd (o150 d.2) (λf=>(some ((b.1,c.1,d.1),f))))))))))
def Akd:Tbl:=(90,⟨⟨[(0,Zb)],[Aq]⟩,[⟨[(0,.v (.agg [.s,.s,.i .u8,.own 1]))],[Aq,Lk]⟩],λt=>(o90 t)⟩)::Akc
theorem AoP:TK Akd:=kc AoO Tryz.f90 .d λt=>by kernel_rfl
abbrev Qb:Type:=(Int×Int)×((Bt×Int)×Int×Bool)×List Ak
def o89(e:(Bt×Int)×Int×Bool):Option (((Bt×Int)×Int×Bool)×List Ak):=
 (bd (o82 (2:Int) e) (λd=>(loopO (σ:=Qb) fuelN (λ(b:Qb)=>(cnd (b.1.2<b.1.1) (cnd b.2.1.2.2 (dnO (some (b.2.1,([]:List Ak)))) (bd (o90 b.2.1) (λc=>(gd ((b.2.2.length+([(c.1.1,(c.1.2.1,(c.1.2.2,c.2.2)))]:List Ak).length)*64<=140737488355328) (some (Ctl.go ((b.1.1,(wrap .i64 (b.1.2+1))),c.2.1,(b.2.2++([(c.1.1,(c.1.2.1,(c.1.2.2,c.2.2)))]:List Ak))))))))) (dnO (some b.2)))) ((d.1,(0:Int)),d.2,([]:List Ak)))))
def Ake:Tbl:=(89,⟨⟨[(0,Zb),(1,.v (.c (.fn 90)))],[Aq]⟩,[⟨[(0,Zl)],[Aq,Au]⟩],λt=>(o89 t)⟩)::Akd
theorem AoQ:TK Ake:=kc AoP Tryz.f89 (.s .d (.s .d (.s (.s .d (.b (.l [⟨[(0,Zb),(1,.v (.c (.fn 90))),(5,Zl),(7,Za),(8,Za)],[Aq,Au]⟩] .d))) .d))) λt=>by kernel_rfl
def Ll:BSh:= .cells 30 [.s,.i .i64,.i .i64,.i .i64,.i .i64,.i .i64,.own 4,.own 5,.own 6]
def CD:BSh:= .row (.p (.i .u8) (.p (.i .i64) Ye)) 65
def Qc:BSh:= .cells 30 [.s,.i .i64,.i .i64,.i .i64,.i .i64,.i .i64,.own 6,.own 7,.own 8]
def Qd:BSh:= .cells 65 [.i .u8,.i .i64,.i .i64,.i .i64]
def Yy:BSh:= .cells 30 [.s,.i .i64,.i .i64,.i .i64,.i .i64,.i .i64,.own 3,.own 4,.own 5]
def Yz:SSh:= .tup [.agg [.s,.i .i64,.i .i64,.i .i64,.i .i64,.i .i64,.own 0,.own 1,.own 2],.c (.own 3),.c (.i .i64)]
abbrev Lm:Type:=(Bt×Int×Int)×(Int×Int)×Int×Int
abbrev YA:Type:=(Lm×List Ae)×List Ah×List Ak×List (Int×Int×Int×Int)
abbrev Qe:Type:=((Bt×Int)×Bt×(Bt×Int)×Int×Bool)×(Az×List (Int×Int×Int×Int))×List Ae×List Ah×List Ak
def YB:Sch:=⟨[(2,Zb),(5,Zw),(7,Zg),(8,Zi),(9,.v (.c (.own 3))),(10,Zh)],[DR,Aq,Ll,CD,Ar,At,Au]⟩
def o39(w:Bt):Option YA:=
 (bd (o79 w) (λj=>(cnd (j.2 !=0) (some ((((([]:Bt),(0:Int),(0:Int)),((0:Int),(0:Int)),(0:Int),j.2),([]:List Ae)),([]:List Ah),([]:List Ak),([]:List (Int×Int×Int×Int)))) (bd (o80 (4:Int) ((j.1,(0:Int)),(j.1.length:Int),false)) (λo=>(cnd (!(o.1==([70,68,66,49]:Bt))) (some ((((([]:Bt),(0:Int),(0:Int)),((0:Int),(0:Int)),(0:Int),(4:Int)),([]:List Ae)),([]:List Ah),([]:List Ak),([]:List (Int×Int×Int×Int)))) (loopO (σ:=Qe) fuelN (λ(h:Qe)=>(bd (cnd (h.1.1.2<=4) (some ((h.1.1,(!h.1.2.2.2.2),h.1.2),h.2)) (some ((h.1.1,false,h.1.2),h.2))) (λc=>(cnd c.1.2.1 (bd (bd (o81 c.1.2.2.2) (λk=>(cnd (k.1 !=c.1.1.2) (some ((c.1.1,c.1.2.2.1,k.2.1,k.2.2.1,true),c.2)) (some ((c.1.1,c.1.2.2.1,k.2),c.2))))) (λf=>(bd (o82 (4:Int) f.1.2.2) (λi=>(bd (cnd i.2.2.2 (some ((f.1.1,i.1,true,f.1.2.1),(i.2,f.2.1),f.2.2)) (some ((f.1.1,i.1,(decide (i.1>(wrap .i64 ((f.1.1.1.length:Int)-i.2.1.2)))),f.1.2.1),(i.2,f.2.1),f.2.2))) (λb=>(cnd b.1.2.2.1 (dnO (some ((((([]:Bt),(0:Int),(0:Int)),((0:Int),(0:Int)),(0:Int),(4:Int)),([]:List Ae)),([]:List Ah),([]:List Ak),([]:List (Int×Int×Int×Int))))) (bd (cnd (b.1.1.2==1) (bd (o83 ((b.1.1.1,b.2.1.1.1.2),(wrap .i64 (b.2.1.1.1.2+b.1.2.1)),false)) (λp=>(bd (o84 p.2) (λq=>(bd (o84 q.2) (λr=>(bd (o84 r.2) (λs=>(bd (o84 s.2) (λu=>(bd (o84 u.2) (λv=>(some ((b.1.1,b.1.2.2.2,b.2.1.1,(p.1,q.1,r.1),s.1,u.1,v.1),(b.2.1.2.2,((b.1.1.2,b.2.1.1.1.2),b.1.2.1,(1:Int)),v.2),b.2.2)))))))))))))) (cnd (b.1.1.2==2) (bd (o85 ((b.1.1.1,b.2.1.1.1.2),(wrap .i64 (b.2.1.1.1.2+b.1.2.1)),false)) (λl=>(some ((b.1.1,b.1.2.2.2,b.2.1.1,b.2.1.2.1),(b.2.1.2.2,((b.1.1.2,b.2.1.1.1.2),b.1.2.1,(l.2.length:Int)),l.1),l.2,b.2.2.2)))) (cnd (b.1.1.2==3) (bd (o87 ((b.1.1.1,b.2.1.1.1.2),(wrap .i64 (b.2.1.1.1.2+b.1.2.1)),false)) (λm=>(some ((b.1.1,b.1.2.2.2,b.2.1.1,b.2.1.2.1),(b.2.1.2.2,((b.1.1.2,b.2.1.1.1.2),b.1.2.1,(m.2.length:Int)),m.1),b.2.2.1,m.2,b.2.2.2.2)))) (bd (o89 ((b.1.1.1,b.2.1.1.1.2),(wrap .i64 (b.2.1.1.1.2+b.1.2.1)),false)) (λn=>(some ((b.1.1,b.1.2.2.2,b.2.1.1,b.2.1.2.1),(b.2.1.2.2,((b.1.1.2,b.2.1.1.1.2),b.1.2.1,(n.2.length:Int)),n.1),b.2.2.1,b.2.2.2.1,n.2))))))) (λe=>(bd (cnd e.2.1.2.2.2.2 (some (((e.1.1.1,e.1.1.2,true),e.1.2),e.2)) (some (((e.1.1.1,e.1.1.2,(e.2.1.2.2.1.2 !=e.2.1.2.2.2.1)),e.1.2),e.2))) (λd=>(cnd d.1.1.2.2 (dnO (some ((((([]:Bt),(0:Int),(0:Int)),((0:Int),(0:Int)),(0:Int),(4:Int)),([]:List Ae)),([]:List Ah),([]:List Ak),([]:List (Int×Int×Int×Int))))) (gd ((d.2.1.1.length+([(d.2.1.2.1.1.1,(d.2.1.2.1.1.2,(d.2.1.2.1.2.1,d.2.1.2.1.2.2)))]:List (Int×Int×Int×Int)).length)*32<=140737488355328) (some (Ctl.go (((d.1.1.1,(wrap .u8 (d.1.1.2.1+1))),d.1.2.1,(d.1.2.2.1.1.1,d.2.1.2.2.2.1),d.1.2.2.1.2),(d.1.2.2.2,(d.2.1.1++([(d.2.1.2.1.1.1,(d.2.1.2.1.1.2,(d.2.1.2.1.2.1,d.2.1.2.1.2.2)))]:List (Int×Int×Int×Int)))),d.2.2)))))))))))))))) (dnO (bd (cnd c.1.2.2.2.2.2 (some ((true,c.1.2.2.1,c.2.1.1),(c.2.1.2,c.2.2.1),c.2.2.2)) (some (((c.1.2.2.2.1.2 !=c.1.2.2.2.2.1),c.1.2.2.1,c.2.1.1),(c.2.1.2,c.2.2.1),c.2.2.2))) (λg=>(cnd g.1.1 (some ((((([]:Bt),(0:Int),(0:Int)),((0:Int),(0:Int)),(0:Int),(4:Int)),([]:List Ae)),([]:List Ah),([]:List Ak),([]:List (Int×Int×Int×Int)))) (some (((g.1.2.2.1,(g.1.2.2.2.1,g.1.2.2.2.2.1),g.1.2.2.2.2.2,(0:Int)),g.2.1.2),g.2.2.1,g.2.2.2,g.2.1.1)))))))))) (((j.1,(1:Int)),([]:Bt),o.2),(((([]:Bt),(0:Int),(0:Int)),(0:Int),(0:Int),(0:Int)),([]:List (Int×Int×Int×Int))),([]:List Ae),([]:List Ah),([]:List Ak)))))))))
def Akf:Tbl:=(39,⟨⟨[(0,Zp)],[]⟩,[⟨[(0,Yz)],[Ar,At,Au,CD]⟩],λt=>(o39 t)⟩)::Ake
theorem AoR:TK Akf:=kc AoQ Tryz.f39 (.s .d (.s .d (.s .d (.s .d (.s .d (.s .d (.s .d (.s (.s .d (.b (.l [YB] (.s (.s (.j false [⟨[(2,Zb),(5,Zw),(7,Zg),(8,Zi),(9,.v (.c (.own 3))),(10,Zh),(41,Zc)],[DR,Aq,Ll,CD,Ar,At,Au]⟩] .d) .d) (.s (.b (.j false [YB] (.s .d (.s .d (.s (.s (.j false [⟨[(2,Zb),(5,Zw),(7,Zg),(8,Zi),(9,.v (.c (.own 3))),(10,Zh),(11,Za),(67,Zc)],[DR,Aq,Ll,CD,Ar,At,Au]⟩] .d) .d) (.s .d (.s (.r 1) (.j false [⟨[(2,Zb),(5,Zw),(7,Zg),(8,Zi),(9,.v (.c (.own 3))),(10,Zh),(12,Zx),(13,.v (.c (.ptr 5 0)))],[DR,Aq,Qc,CD,Qd,Aq,Ar,At,Au]⟩] (.s .d (.s (.s (.j false [⟨[(2,Zb),(5,Zw),(7,Zg),(8,Zi),(9,.v (.c (.own 3))),(10,Zh),(12,Zx),(13,.v (.c (.ptr 5 0))),(146,Zc)],[DR,Aq,Qc,CD,Qd,Aq,Ar,At,Au]⟩] .d) .d) .d)))))))))) .d))))) (.s (.s (.j false [⟨[(2,Zb),(8,Zg),(9,.v (.c (.own 2))),(173,Zc)],[DR,Yy,CD,Ar,At,Au]⟩] .d) .d) .d))))))))) λt=>by kernel_rfl
def YC:SSh:= .tup [.agg [.s,.i .i64,.i .i64,.i .i64,.i .i64,.i .i64,.own 0,.own 1,.own 2],.c (.i .i64)]
def o24(d:Bt):Option ((Lm×List Ae)×List Ah×List Ak):=
 (bd (o39 d) (λb=>(cnd (b.1.1.2.2.2 !=0) (some ((((([]:Bt),(0:Int),(0:Int)),((0:Int),(0:Int)),(0:Int),b.1.1.2.2.2),([]:List Ae)),([]:List Ah),([]:List Ak))) (bd (o26 (((b.1.1.1.1,b.1.1.1.2.1),b.1.1.1.2.2,b.1.1.2.1.1),(b.1.1.2.1.2,b.1.1.2.2.1),b.1.2,b.2.1,b.2.2.1)) (λc=>(cnd (c !=0) (some ((((([]:Bt),(0:Int),(0:Int)),((0:Int),(0:Int)),(0:Int),c),([]:List Ae)),([]:List Ah),([]:List Ak))) (some (((b.1.1.1,b.1.1.2.1,b.1.1.2.2.1,(0:Int)),b.1.2),b.2.1,b.2.2.1))))))))
def Akg:Tbl:=(24,⟨⟨[(0,Zp)],[]⟩,[⟨[(0,YC)],[Ar,At,Au]⟩],λt=>(o24 t)⟩)::Akf
theorem AoS:TK Akg:=kc AoR Tryz.f24 .d λt=>by kernel_rfl
def o116(d:Int)(c:Int):Option (Bt):=
 (gd ((0:Int)<=c/\c*1<=140737488355328) (loopO (σ:=Int×Int×Bt) fuelN (λ(b:Int×Int×Bt)=>(cnd (b.2.1>=0) (gd ((0:Int)<=b.2.1/\b.2.1<(b.2.2.length:Int)) (some (Ctl.go ((wrap .i64 (aH b.1 10)),(wrap .i64 (b.2.1-1)),(aS b.2.2 b.2.1.toNat (u8 (wrap .u8 (wrap .i64 ((48:Int)+(aL b.1 10)))))))))) (dnO (some b.2.2)))) (d,(wrap .i64 (c-1)),(List.replicate c.toNat (u8 (0:Int))))))
def Akh:Tbl:=(116,⟨⟨[(0,Za),(1,Za)],[]⟩,[⟨[(0,Zd)],[]⟩],λt=>(o116 t.1 t.2)⟩)::Akg
theorem AoT:TK Akh:=kc AoS Tryz.f116 (.s .d (.s .d (.s (.s .d (.b (.l [⟨[(0,Za),(5,Ze),(6,Za)],[.row .y 5]⟩] .d))) .d))) λt=>by kernel_rfl
def o55(b:Int):Option (Bt×Int):=
 (bd (o115 b) (λc=>(cnd (c.2.2 !=0) (some (([]:Bt),c.2.2)) (bd (o116 b (4:Int)) (λd=>(some (d,(0:Int))))))))
def Aki:Tbl:=(55,⟨⟨[(0,Za)],[]⟩,[⟨[(0,Zo)],[]⟩],λt=>(o55 t)⟩)::Akh
theorem AoU:TK Aki:=kc AoT Tryz.f55 .d λt=>by kernel_rfl
def o243(e:Int)(f:Int)(d:Bt):Option (Bt):=
 (loopO (σ:=(Int×Int)×Int×Int×Bt) fuelN (λ(c:(Int×Int)×Int×Int×Bt)=>(cnd (c.2.2.1<c.2.1) (gd ((c.2.2.2.length+([(u8 (48:Int))]:Bt).length)*1<=140737488355328) (some (Ctl.go (c.1,c.2.1,(wrap .i64 (c.2.2.1+1)),(c.2.2.2++([(u8 (48:Int))]:Bt)))))) (dnO (loopO (σ:=(Int×Int)×Int×Bt) fuelN (λ(b:(Int×Int)×Int×Bt)=>(cnd (b.2.1>=b.1.2) (gd ((0:Int)<=b.2.1/\b.2.1<(b.2.2.length:Int)) (some (Ctl.go (((wrap .i64 (aH b.1.1 10)),b.1.2),(wrap .i64 (b.2.1-1)),(aS b.2.2 b.2.1.toNat (u8 (wrap .u8 (wrap .i64 ((48:Int)+(aL b.1.1 10)))))))))) (dnO (some b.2.2)))) (c.1,(wrap .i64 ((c.2.2.2.length:Int)-1)),c.2.2.2))))) ((e,(d.length:Int)),f,(0:Int),d))
def Akj:Tbl:=(243,⟨⟨[(0,Ze),(1,Za),(2,Za)],[.row .y 5]⟩,[⟨[(0,Zl)],[.no,.row .y 5]⟩],λt=>(o243 t.1 t.2.1 t.2.2)⟩)::Aki
theorem AoV:TK Akj:=kc AoU Tryz.f243 (.s .d (.s .d (.s (.s .d (.b (.l [⟨[(0,Zl),(1,Za),(7,Za),(11,Za),(12,Za)],[.no,.row .y 5]⟩] .d))) (.s (.s .d (.b (.l [⟨[(0,Zl),(1,Za),(7,Za),(8,Za)],[.no,.row .y 5]⟩] .d))) .d)))) λt=>by kernel_rfl
def o185(b:Int)(c:Int)(d:Bt):Option (Bt):=
 (bd (o243 (wrap .i64 (aH b 360000)) c d) (λe=>(bd (o243 (wrap .i64 (aH (aL b (360000:Int)) 6000)) (2:Int) e) (λf=>(bd (o243 (wrap .i64 (aH (aL b (6000:Int)) 100)) (2:Int) f) (λg=>(bd (o243 (aL b 100) (2:Int) g) (λh=>(some h)))))))))
def Akk:Tbl:=(185,⟨⟨[(0,Ze),(1,Za),(2,Za)],[.row .y 5]⟩,[⟨[(0,Zl)],[.no,.row .y 5]⟩],λt=>(o185 t.1 t.2.1 t.2.2)⟩)::Akj
theorem AoW:TK Akk:=kc AoV Tryz.f185 .d λt=>by kernel_rfl
def o179(b:Int)(d:Int)(e:Int)(c:Int):Option (Bt):=
 (cnd (b<0) (bd (o185 (wrap .i64 ((0:Int)-b)) c ([(u8 e)]:Bt)) (λf=>(some f))) (bd (o185 b c ([(u8 d)]:Bt)) (λg=>(some g))))
def Akl:Tbl:=(179,⟨⟨[(0,Za),(1,Zh),(2,Zh),(3,Za)],[]⟩,[⟨[(0,Zd)],[]⟩],λt=>(o179 t.1.1 t.1.2 t.2.1 t.2.2)⟩)::Akk
theorem AoX:TK Akl:=kc AoW Tryz.f179 .d λt=>by kernel_rfl
def o117(b:Int):Option (Bt×Int):=
 (bd (o178 b) (λc=>(cnd (!c) (some (([]:Bt),(2:Int))) (bd (o179 b (78:Int) (83:Int) (2:Int)) (λd=>(some (d,(0:Int))))))))
def Akm:Tbl:=(117,⟨⟨[(0,Za)],[]⟩,[⟨[(0,Zo)],[]⟩],λt=>(o117 t)⟩)::Akl
theorem AoY:TK Akm:=kc AoX Tryz.f117 .d λt=>by kernel_rfl
def o118(b:Int):Option (Bt×Int):=
 (bd (o180 b) (λc=>(cnd (!c) (some (([]:Bt),(2:Int))) (bd (o179 b (69:Int) (87:Int) (3:Int)) (λd=>(some (d,(0:Int))))))))
def Akn:Tbl:=(118,⟨⟨[(0,Za)],[]⟩,[⟨[(0,Zo)],[]⟩],λt=>(o118 t)⟩)::Akm
theorem AoZ:TK Akn:=kc AoY Tryz.f118 .d λt=>by kernel_rfl
def o56(e:Int×Int):Option (Bt×Int):=
 (bd (o117 e.1) (λc=>(bd (o118 e.2) (λd=>(bd (cnd (c.2 !=0) (some (c.1,d.1,true)) (some (c.1,d.1,(d.2 !=0)))) (λb=>(cnd b.2.2 (some (([]:Bt),(2:Int))) (gd (b.1.length+b.2.1.length<=1125899906842624) (some ((b.1++b.2.1),(0:Int)))))))))))
def Ako:Tbl:=(56,⟨⟨[(0,Zj)],[]⟩,[⟨[(0,Zo)],[]⟩],λt=>(o56 t)⟩)::Akn
theorem Apa:TK Ako:=kc AoZ Tryz.f56 (.s .d (.s .d (.s .d (.s (.s (.j false [⟨[(4,Zd),(6,Zd),(25,Zc)],[]⟩] .d) .d) .d)))) λt=>by kernel_rfl
def Qf:BSh:= .cells 132 [.cst (.pointer none),.cst (.slice none 0 0)]
def Qg:SSh:= .tup [.c (.i .i64),.c (.cst .nilIface)]
def o52(b:Bt):Option (Int×Bt):=
 (bd o113 (λc=>(gd (b.length<=140737488355328) (some ((b.length:Int),b)))))
def Akp:Tbl:=(52,⟨⟨[(0,Zb),(1,Zd)],[Qf]⟩,[⟨[(0,Qg)],[.cells 132 [.ptr 0 0,.own 1],.row .y 5]⟩],λt=>(o52 t)⟩)::Ako
theorem Apb:TK Akp:=kc Apa Tryz.f52 .d λt=>by kernel_rfl
def o54(b:Int)(d:Bt):Option (Bt):=
 (bd (KP d) (λc=>(gd ((c.length+([(u8 b)]:Bt).length)*1<=140737488355328) (some (c++([(u8 b)]:Bt))))))
def Akq:Tbl:=(54,⟨⟨[(0,Zb),(1,Zh)],[.cells 132 [.ptr 0 0,.own 1],.row .y 5]⟩,[⟨[(0,.v (.c (.cst .nilIface)))],[.cells 132 [.ptr 0 0,.own 2],.no,.row .y 5]⟩],λt=>(o54 t.1 t.2)⟩)::Akp
theorem Apc:TK Akq:=kc Apb Tryz.f54 .d λt=>by kernel_rfl
def o51(b:List Bt):Option (Bt):=
 (bd (o53 b ([32]:Bt)) (λc=>(bd (o52 c) (λd=>(bd (o54 (10:Int) d.2) (λe=>(some e)))))))
def Akr:Tbl:=(51,⟨⟨[(0,Zv),(1,Zb)],[Qf]⟩,[⟨[(0,Zs)],[.cells 132 [.ptr 0 0,.own 1],.row .y 5]⟩],λt=>(o51 t)⟩)::Akq
theorem Apd:TK Akr:=kc Apc Tryz.f51 .d λt=>by kernel_rfl
def o57(b:Cx):Option (Bt×Int):=
 (bd (o65 b) (λg=>(cnd (g !=0) (some (([]:Bt),g)) (bd (o56 b.2.1) (λi=>(bd o119 (λh=>(gd ((0:Int)<=(wrap .u8 (b.1.2.2-1))/\(wrap .u8 (b.1.2.2-1))<(h.length:Int)) (bd (o53 ([(aA h ((wrap .u8 (b.1.2.2-1)).toNat) ([]:Bt)),b.1.1,b.1.2.1,i.1]:List Bt) ([32]:Bt)) (λd=>(bd (bd (o120 b.1.2.2) (λj=>(cnd j (bd (o121 b.2.2.1) (λe=>(gd (([32]:Bt).length+e.1.length<=1125899906842624) (gd (d.length+(([32]:Bt)++e.1).length<=1125899906842624) (some ((d++(([32]:Bt)++e.1)),b)))))) (some (d,b))))) (λc=>(bd (o122 c.2.1.2.2) (λk=>(cnd k (bd (o123 c.2.2.2.2) (λf=>(gd (([32]:Bt).length+f.1.length<=1125899906842624) (gd (c.1.length+(([32]:Bt)++f.1).length<=1125899906842624) (some ((c.1++(([32]:Bt)++f.1)),(0:Int))))))) (some (c.1,(0:Int))))))))))))))))))
def Aks:Tbl:=(57,⟨⟨[(0,Dm)],[]⟩,[⟨[(0,Zo)],[]⟩],λt=>(o57 t)⟩)::Akr
theorem Ape:TK Aks:=kc Apd Tryz.f57 (.s .d (.s .d (.s .d (.s (.r 2) (.j false [⟨[(1,Zb),(7,Zd)],[Cw]⟩] .d))))) λt=>by kernel_rfl
def Jh(b:Bt)(d:Bt):Option (Int×Bt):=
 (bd (KP d) (λc=>(gd (c.length+b.length<=140737488355328) (some ((b.length:Int),(c++b))))))
def Akt:Tbl:=(52,⟨⟨[(0,Zb),(1,Zd)],[.cells 132 [.ptr 0 0,.own 1],.row .y 5]⟩,[⟨[(0,Qg)],[.cells 132 [.ptr 0 0,.own 2],.no,.row .y 5]⟩],λt=>(Jh t.1 t.2)⟩)::Aks
theorem Apf:TK Akt:=kc Ape Tryz.f52 .d λt=>by kernel_rfl
def HM(b:List Bt)(c:Bt):Option (Bt):=
 (bd (o53 b ([32]:Bt)) (λd=>(bd (Jh d c) (λe=>(bd (o54 (10:Int) e.2) (λf=>(some f)))))))
def Aku:Tbl:=(51,⟨⟨[(0,Zv),(1,Zb)],[.cells 132 [.ptr 0 0,.own 1],.row .y 5]⟩,[⟨[(0,Zs)],[.cells 132 [.ptr 0 0,.own 2],.no,.row .y 5]⟩],λt=>(HM t.1 t.2)⟩)::Akt
theorem Apg:TK Aku:=kc Apf Tryz.f51 .d λt=>by kernel_rfl
abbrev Qh:Type:=((List (Bt×(Int×Int)×Int))×Int)×Int×Ah×Bt
def YD:Sch:=⟨[(1,Zb),(5,Zg),(21,KU),(22,Za),(23,Za)],[Ey,.cells 132 [.ptr 1 0,.own 2],.row .y 5]⟩
def o58(c:Ah):Option (Bt×Int):=
 (bd (o70 c) (λh=>(cnd (h !=0) (some (([]:Bt),h)) (gd (([65,73,82,87,65,89,32]:Bt).length+c.1.length<=1125899906842624) (gd ((([65,73,82,87,65,89,32]:Bt)++c.1).length+([10]:Bt).length<=1125899906842624) (bd (o52 ((([65,73,82,87,65,89,32]:Bt)++c.1)++([10]:Bt))) (λj=>(loopO (σ:=Qh) fuelN (λ(b:Qh)=>(cnd (b.2.1<b.1.2) (gd ((0:Int)<=b.2.1/\b.2.1<(b.1.1.length:Int)) (bd (some (aA b.1.1 b.2.1.toNat BC)) (λd=>(gd (([86,73,65,32]:Bt).length+d.1.length<=1125899906842624) (bd (Jh (([86,73,65,32]:Bt)++d.1) b.2.2.2) (λi=>(bd (cnd (b.2.1<(wrap .i64 ((b.2.2.1.2.length:Int)-1))) (bd (o124 d.2.1) (λe=>(gd (([32]:Bt).length+e.1.length<=1125899906842624) (gd ((([32]:Bt)++e.1).length+([32]:Bt).length<=1125899906842624) (bd o125 (λg=>(gd ((0:Int)<=d.2.2/\d.2.2<(g.length:Int)) (gd (((([32]:Bt)++e.1)++([32]:Bt)).length+(aA g d.2.2.toNat ([]:Bt)).length<=1125899906842624) (bd (Jh (((([32]:Bt)++e.1)++([32]:Bt))++(aA g d.2.2.toNat ([]:Bt))) i.2) (λk=>(some (b.1,b.2.1,b.2.2.1,k.2)))))))))))) (some (b.1,b.2.1,b.2.2.1,i.2))) (λf=>(bd (Jh ([10]:Bt) f.2.2.2) (λl=>(some (Ctl.go (f.1,(wrap .i64 (f.2.1+1)),f.2.2.1,l.2))))))))))))) (dnO (bd (o62 b.2.2.2) (λm=>(some (m,(0:Int)))))))) ((c.2,(c.2.length:Int)),(0:Int),c,j.2)))))))))
def Akv:Tbl:=(58,⟨⟨[(0,Di)],[]⟩,[⟨[(0,Zo)],[]⟩],λt=>(o58 t)⟩)::Aku
theorem Aph:TK Akv:=kc Apg Tryz.f58 (.s .d (.s .d (.s .d (.s .d (.s (.s .d (.b (.l [YD] (.s .d (.s .d (.s (.b (.s .d (.s .d (.j false [YD] (.s (.s .d (.c (.s .d (.r 2)) .d)) .d))))) .d)))))) .d))))) λt=>by kernel_rfl
def o60(b:Int×Bt×List Af):Option (Bt):=
 (cnd (b.1==1) (gd (([80,65,82,84,32,82,85,78,87,65,89,32]:Bt).length+b.2.1.length<=1125899906842624) (some (([80,65,82,84,32,82,85,78,87,65,89,32]:Bt)++b.2.1))) (cnd (b.1==2) (some ([80,65,82,84,32,67,79,77,77,79,78]:Bt)) (cnd (b.1==3) (gd (([80,65,82,84,32,69,78,82,79,85,84,69,32]:Bt).length+b.2.1.length<=1125899906842624) (some (([80,65,82,84,32,69,78,82,79,85,84,69,32]:Bt)++b.2.1))) (some ([80,65,82,84,32,77,73,83,83,69,68]:Bt)))))
def Akw:Tbl:=(60,⟨⟨[(0,PB)],[]⟩,[⟨[(0,Zd)],[]⟩],λt=>(o60 t)⟩)::Akv
theorem Api:TK Akw:=kc Aph Tryz.f60 .d λt=>by kernel_rfl
def Nt(d:Int)(e:Int):Option (Bt):=
 (loopO (σ:=(Int×Int)×Int×Bt) fuelN (λ(c:(Int×Int)×Int×Bt)=>(cnd (c.2.1<c.1.2) (gd ((c.2.2.length+([(u8 (48:Int))]:Bt).length)*1<=140737488355328) (some (Ctl.go (c.1,(wrap .i64 (c.2.1+1)),(c.2.2++([(u8 (48:Int))]:Bt)))))) (dnO (loopO (σ:=Int×Int×Bt) fuelN (λ(b:Int×Int×Bt)=>(cnd (b.2.1>=0) (gd ((0:Int)<=b.2.1/\b.2.1<(b.2.2.length:Int)) (some (Ctl.go ((wrap .i64 (aH b.1 10)),(wrap .i64 (b.2.1-1)),(aS b.2.2 b.2.1.toNat (u8 (wrap .u8 (wrap .i64 ((48:Int)+(aL b.1 10)))))))))) (dnO (some b.2.2)))) (c.1.1,(wrap .i64 ((c.2.2.length:Int)-1)),c.2.2))))) ((d,e),(0:Int),([]:Bt)))
def Akx:Tbl:=(243,⟨⟨[(0,.v (.c (.cst (.slice none 0 0)))),(1,Za),(2,Za)],[]⟩,[⟨[(0,Ze)],[.row .y 5]⟩],λt=>(Nt t.1 t.2)⟩)::Akw
theorem Apj:TK Akx:=kc Api Tryz.f243 (.s .d (.s .d (.s (.s .d (.b (.l [⟨[(0,Ze),(1,Za),(7,.v (.c (.ic .i64 (0)))),(11,Za),(12,Za)],[.row .y 5]⟩] .d))) (.s (.s .d (.b (.l [⟨[(0,Ze),(1,Za),(7,.v (.c (.ic .i64 (0)))),(8,Za)],[.row .y 5]⟩] .d))) .d)))) λt=>by kernel_rfl
def Nu(b:Int)(c:Int):Option (Bt):=
 (bd (Nt (wrap .i64 (aH b 360000)) c) (λd=>(bd (o243 (wrap .i64 (aH (aL b (360000:Int)) 6000)) (2:Int) d) (λe=>(bd (o243 (wrap .i64 (aH (aL b (6000:Int)) 100)) (2:Int) e) (λf=>(bd (o243 (aL b 100) (2:Int) f) (λg=>(some g)))))))))
def Aky:Tbl:=(185,⟨⟨[(0,.v (.c (.cst (.slice none 0 0)))),(1,Za),(2,Za)],[]⟩,[⟨[(0,Ze)],[.row .y 5]⟩],λt=>(Nu t.1 t.2)⟩)::Akx
theorem Apk:TK Aky:=kc Apj Tryz.f185 .d λt=>by kernel_rfl
def o127(b:Int):Option (Bt):=
 (bd (o186 b) (λc=>(bd (Nu c (3:Int)) (λd=>(some d)))))
def Akz:Tbl:=(127,⟨⟨[(0,Za)],[]⟩,[⟨[(0,Zd)],[]⟩],λt=>(o127 t)⟩)::Aky
theorem Apl:TK Akz:=kc Apk Tryz.f127 .d λt=>by kernel_rfl
def o128(b:Bt)(d:Int):Option (Bt):=
 (bd (o123 d) (λc=>(gd (b.length+c.1.length<=1125899906842624) (some (b++c.1)))))
def AkA:Tbl:=(128,⟨⟨[(0,Zd),(1,Za)],[]⟩,[⟨[(0,Zd)],[]⟩],λt=>(o128 t.1 t.2)⟩)::Akz
theorem Apm:TK AkA:=kc Apl Tryz.f128 .d λt=>by kernel_rfl
def o129(c:Int):Option (Bt):=
 (loopO (σ:=Int×Bt) fuelN (λ(b:Int×Bt)=>(cnd (b.1>=10) (gd ((0:Int)<=(wrap .i32 (wrap .i64 ((48:Int)+(aL b.1 10))))/\(wrap .i32 (wrap .i64 ((48:Int)+(aL b.1 10))))<128) (gd (([u8 (wrap .i32 (wrap .i64 ((48:Int)+(aL b.1 10))))]:Bt).length+b.2.length<=1125899906842624) (some (Ctl.go ((wrap .i64 (aH b.1 10)),(([u8 (wrap .i32 (wrap .i64 ((48:Int)+(aL b.1 10))))]:Bt)++b.2)))))) (dnO (gd ((0:Int)<=(wrap .i32 (wrap .i64 ((48:Int)+b.1)))/\(wrap .i32 (wrap .i64 ((48:Int)+b.1)))<128) (gd (([u8 (wrap .i32 (wrap .i64 ((48:Int)+b.1)))]:Bt).length+b.2.length<=1125899906842624) (some (([u8 (wrap .i32 (wrap .i64 ((48:Int)+b.1)))]:Bt)++b.2))))))) (c,([]:Bt)))
def AkB:Tbl:=(129,⟨⟨[(0,Za)],[]⟩,[⟨[(0,Zd)],[]⟩],λt=>(o129 t)⟩)::AkA
theorem Apn:TK AkB:=kc Apm Tryz.f129 (.s .d (.s .d (.s (.b (.l [⟨[(0,Za),(3,Zd)],[]⟩] .d)) .d))) λt=>by kernel_rfl
def Nv:Sch:=⟨[(1,Zb),(4,Zl)],[Ag,.row .s 9]⟩
def IG:Sch:=⟨[(1,Zb),(3,.v (.c (.i .u16))),(4,Zl)],[Ag,.row .s 9]⟩
def o61(b:Ai):Option (Bt):=
 (bd (o126 b) (λv=>(cnd (v !=0) (some ([]:Bt)) (gd ((0:Int)<=b.1.1.1/\b.1.1.1<18) (gd ((0:Int)<=b.1.1.1/\b.1.1.1<18) (bd (cnd ((landK .u16 (aA gl0 b.1.1.1.toNat (0:Int)) (1:Int))!=0) (gd ((([(aA gl1 b.1.1.1.toNat ([]:Bt))]:List Bt).length+([b.1.1.2.1]:List Bt).length)*16<=140737488355328) (some ((aA gl0 b.1.1.1.toNat (0:Int)),b,(([(aA gl1 b.1.1.1.toNat ([]:Bt))]:List Bt)++([b.1.1.2.1]:List Bt))))) (some ((aA gl0 b.1.1.1.toNat (0:Int)),b,([(aA gl1 b.1.1.1.toNat ([]:Bt))]:List Bt)))) (λd=>(bd (cnd ((landK .u16 d.1 (2:Int))!=0) (gd (([64]:Bt).length+d.2.1.1.1.2.2.length<=1125899906842624) (gd ((d.2.2.length+([(([64]:Bt)++d.2.1.1.1.2.2)]:List Bt).length)*16<=140737488355328) (some (d.1,d.2.1,(d.2.2++([(([64]:Bt)++d.2.1.1.1.2.2)]:List Bt)))))) (some d)) (λc=>(bd (cnd ((landK .u16 c.1 (4:Int))!=0) (cnd (c.2.1.1.2.1==1) (gd ((c.2.2.length+([([76]:Bt)]:List Bt).length)*16<=140737488355328) (some (c.1,c.2.1,(c.2.2++([([76]:Bt)]:List Bt))))) (gd ((c.2.2.length+([([82]:Bt)]:List Bt).length)*16<=140737488355328) (some (c.1,c.2.1,(c.2.2++([([82]:Bt)]:List Bt)))))) (some c)) (λe=>(bd (cnd ((landK .u16 e.1 (16:Int))!=0) (bd (o127 e.2.1.1.2.2.2) (λp=>(gd ((e.2.2.length+([p]:List Bt).length)*16<=140737488355328) (some (e.1,e.2.1,(e.2.2++([p]:List Bt))))))) (some e)) (λf=>(bd (cnd ((landK .u16 f.1 (32:Int))!=0) (bd (o128 ([100]:Bt) f.2.1.2.1.1) (λq=>(gd ((f.2.2.length+([q]:List Bt).length)*16<=140737488355328) (some (f.1,f.2.1,(f.2.2++([q]:List Bt))))))) (some f)) (λg=>(bd (cnd ((landK .u16 g.1 (64:Int))!=0) (bd (o128 ([114]:Bt) g.2.1.2.1.2.1) (λr=>(gd ((g.2.2.length+([r]:List Bt).length)*16<=140737488355328) (some (g.1,g.2.1,(g.2.2++([r]:List Bt))))))) (some g)) (λh=>(bd (cnd ((landK .u16 h.1 (128:Int))!=0) (bd (o127 h.2.1.2.1.2.2) (λn=>(gd (([116]:Bt).length+n.length<=1125899906842624) (gd ((h.2.2.length+([(([116]:Bt)++n)]:List Bt).length)*16<=140737488355328) (some (h.2.1,(h.2.2++([(([116]:Bt)++n)]:List Bt)))))))) (some h.2)) (λk=>(bd (cnd k.1.1.2.2.1 (gd ((k.2.length+([([111,118,101,114]:Bt)]:List Bt).length)*16<=140737488355328) (some (k.1,(k.2++([([111,118,101,114]:Bt)]:List Bt))))) (some k)) (λm=>(bd (bd (cnd (m.1.2.2.1.1 !=(-200000:Int)) (some (true,m)) (some ((m.1.2.2.1.2 !=6000000),m))) (λi=>(cnd i.1 (bd (o124 i.2.1.2.2.1) (λs=>(gd ((i.2.2.length+([s.1]:List Bt).length)*16<=140737488355328) (some (i.2.1,(i.2.2++([s.1]:List Bt))))))) (some i.2)))) (λj=>(bd (cnd (j.1.2.2.2.1 !=0) (bd (o129 j.1.2.2.2.1) (λo=>(gd (([115]:Bt).length+o.length<=1125899906842624) (gd ((j.2.length+([(([115]:Bt)++o)]:List Bt).length)*16<=140737488355328) (some (j.1,(j.2++([(([115]:Bt)++o)]:List Bt)))))))) (some j)) (λl=>(bd (cnd (l.1.2.2.2.2 !=0) (bd (o128 ([110]:Bt) l.1.2.2.2.2) (λu=>(gd ((l.2.length+([u]:List Bt).length)*16<=140737488355328) (some (l.2++([u]:List Bt)))))) (some l.2)) (λw=>(bd (o53 w ([32]:Bt)) (λx=>(some x))))))))))))))))))))))))))))))
def AkC:Tbl:=(61,⟨⟨[(0,DQ)],[]⟩,[⟨[(0,Zd)],[]⟩],λt=>(o61 t)⟩)::AkB
theorem Apo:TK AkC:=kc Apn Tryz.f61 (.s .d (.s .d (.s .d (.s .d (.j false [IG] (.s .d (.j false [IG] (.s .d (.j false [IG] (.s .d (.j false [IG] (.s .d (.j false [IG] (.s .d (.j false [IG] (.s .d (.j false [Nv] (.s .d (.j false [Nv] (.s .d (.j false [Nv] (.s (.s (.j false [⟨[(1,Zb),(4,Zl),(99,Zc)],[Ag,.row .s 9]⟩] .d) .d) (.j false [Nv] (.s .d (.j false [⟨[(4,Ze)],[.row .s 9]⟩] .d))))))))))))))))))))))))) λt=>by kernel_rfl
abbrev Qi:Type:=(List Ak×Int×Int)×((List (Int×Bt×List Af))×Int)×Int×Bt
abbrev Qj:Type:=((List Ak×Int)×Int×(List (Int×Bt×List Af))×Int)×(Int×List Af)×Int×Int×Bt
def o25(h:AC):Option (Bt×Int):=
 (bd (o26 h) (λl=>(cnd (l !=0) (some (([]:Bt),l)) (bd (o55 h.1.1.2) (λm=>(bd (o56 h.2.1) (λn=>(bd (o51 ([([68,65,84,65,66,65,83,69]:Bt),h.1.1.1,m.1,n.1]:List Bt)) (λo=>(loopO (σ:=(List Ae×Int)×Int×AC×Bt) fuelN (λ(d:(List Ae×Int)×Int×AC×Bt)=>(cnd (d.2.1<d.1.2) (gd ((0:Int)<=d.2.1/\d.2.1<(d.1.1.length:Int)) (bd (some (aA d.1.1 d.2.1.toNat AW)) (λj=>(bd (o57 ((j.1,j.2.1,j.2.2.1),j.2.2.2)) (λp=>(bd (HM ([p.1]:List Bt) d.2.2.2) (λq=>(some (Ctl.go (d.1,(wrap .i64 (d.2.1+1)),d.2.2.1,q)))))))))) (dnO (loopO (σ:=(List Ah×Int)×Int×AC×Bt) fuelN (λ(e:(List Ah×Int)×Int×AC×Bt)=>(cnd (e.2.1<e.1.2) (gd ((0:Int)<=e.2.1/\e.2.1<(e.1.1.length:Int)) (bd (some (aA e.1.1 e.2.1.toNat Bc)) (λr=>(bd (o58 r) (λs=>(bd (Jh s.1 e.2.2.2) (λu=>(some (Ctl.go (e.1,(wrap .i64 (e.2.1+1)),e.2.2.1,u.2)))))))))) (dnO (loopO (σ:=(List Ak×Int)×Int×Bt) fuelN (λ(f:(List Ak×Int)×Int×Bt)=>(cnd (f.2.1<f.1.2) (gd ((0:Int)<=f.2.1/\f.2.1<(f.1.1.length:Int)) (bd (some (aA f.1.1 f.2.1.toNat Bd)) (λi=>(bd (o59 i.2.2.1) (λv=>(bd (HM ([v,i.1,i.2.1]:List Bt) f.2.2) (λw=>(loopO (σ:=Qi) fuelN (λ(c:Qi)=>(cnd (c.2.2.1<c.2.1.2) (gd ((0:Int)<=c.2.2.1/\c.2.2.1<(c.2.1.1.length:Int)) (bd (some (aA c.2.1.1 c.2.2.1.toNat AD)) (λk=>(bd (o60 k) (λx=>(bd (HM ([x]:List Bt) c.2.2.2) (λy=>(loopO (σ:=Qj) fuelN (λ(b:Qj)=>(cnd (b.2.2.2.1<b.2.2.1) (gd ((0:Int)<=b.2.2.2.1/\b.2.2.2.1<(b.2.1.2.length:Int)) (bd (some (aA b.2.1.2 b.2.2.2.1.toNat BS)) (λg=>(bd (o61 (((g.1,g.2.1,g.2.2.1),g.2.2.2.1,g.2.2.2.2.1,g.2.2.2.2.2.1),(g.2.2.2.2.2.2.1,g.2.2.2.2.2.2.2.1,g.2.2.2.2.2.2.2.2.1),g.2.2.2.2.2.2.2.2.2)) (λz=>(bd (HM ([([76,69,71]:Bt),z]:List Bt) b.2.2.2.2) (λA=>(some (Ctl.go (b.1,b.2.1,b.2.2.1,(wrap .i64 (b.2.2.2.1+1)),A)))))))))) (dnO (some (Ctl.go ((b.1.1.1,b.1.1.2,b.1.2.1),b.1.2.2,(wrap .i64 (b.2.1.1+1)),b.2.2.2.2)))))) (((c.1.1,c.1.2.1),c.1.2.2,c.2.1),(c.2.2.1,k.2.2),(k.2.2.length:Int),(0:Int),y))))))))) (dnO (some (Ctl.go ((c.1.1,c.1.2.1),(wrap .i64 (c.1.2.2+1)),c.2.2.2)))))) ((f.1.1,f.1.2,f.2.1),(i.2.2.2,(i.2.2.2.length:Int)),(0:Int),w))))))))) (dnO (bd (o62 f.2.2) (λB=>(some (B,(0:Int)))))))) ((e.2.2.1.2.2.2.2,(e.2.2.1.2.2.2.2.length:Int)),(0:Int),e.2.2.2))))) ((d.2.2.1.2.2.2.1,(d.2.2.1.2.2.2.1.length:Int)),(0:Int),d.2.2))))) ((h.2.2.1,(h.2.2.1.length:Int)),(0:Int),h,o)))))))))))
def AkD:Tbl:=(25,⟨⟨[(0,FA)],[]⟩,[⟨[(0,Zo)],[]⟩],λt=>(o25 t)⟩)::AkC
theorem App:TK AkD:=kc Apo Tryz.f25 (.s .d (.s .d (.s .d (.s .d (.s .d (.s .d (.s .d (.s (.s .d (.b (.l [⟨[(1,Zb),(5,Zg),(6,.v (.c (.cap (.fn 51) (.ptr 1 0)))),(54,Dn),(55,Za),(56,Za)],[AM,.cells 132 [.ptr 1 0,.own 2],.row .y 5]⟩] .d))) (.s (.s .d (.b (.l [⟨[(1,Zb),(5,Zg),(6,.v (.c (.cap (.fn 51) (.ptr 1 0)))),(71,EB),(72,Za),(73,Za)],[AM,.cells 132 [.ptr 1 0,.own 2],.row .y 5]⟩] .d))) (.s (.s .d (.b (.l [⟨[(5,Zb),(6,.v (.c (.cap (.fn 51) (.ptr 0 0)))),(86,BU),(87,Za),(88,Za)],[.cells 132 [.ptr 0 0,.own 1],.row .y 5]⟩] (.s .d (.s .d (.s (.b (.s .d (.s (.r 2) (.s .d (.b (.l [⟨[(5,Zb),(6,.v (.c (.cap (.fn 51) (.ptr 0 0)))),(86,BU),(87,Za),(88,Za),(103,CC),(104,Za),(105,Za)],[.cells 132 [.ptr 0 0,.own 1],.row .y 5]⟩] (.s .d (.s .d (.s (.b (.s .d (.s .d (.s .d (.b (.l [⟨[(5,Zb),(6,.v (.c (.cap (.fn 51) (.ptr 0 0)))),(86,BU),(87,Za),(88,Za),(103,CC),(104,Za),(105,Za),(115,EA),(116,Za),(117,Za)],[.cells 132 [.ptr 0 0,.own 1],.row .y 5]⟩] .d)))))) .d))))))))) .d)))))) .d)))))))))) λt=>by kernel_rfl
def YE:SSh:= .tup [.agg [.s,.i .i64,.i .i64,.i .i64,.i .i64,.i .i64],.c (.i .i64)]
def o19(b:Bt):Option Lm:=
 (bd (o39 b) (λc=>(some c.1.1)))
def AkE:Tbl:=(19,⟨⟨[(0,Zp)],[]⟩,[⟨[(0,YE)],[]⟩],λt=>(o19 t)⟩)::AkD
theorem Apq:TK AkE:=kc App Tryz.f19 .d λt=>by kernel_rfl
def o20(c:Bt):Option (Int×List (Int×Int×Int×Int)):=
 (bd (o39 c) (λb=>(some (b.1.1.2.2.2,b.2.2.2))))
def AkF:Tbl:=(20,⟨⟨[(0,Zp)],[]⟩,[⟨[(0,.tup [.c (.own 0),.c (.i .i64)])],[CD]⟩],λt=>(o20 t)⟩)::AkE
theorem Apr:TK AkF:=kc Apq Tryz.f20 .d λt=>by kernel_rfl
def o40(c:Ah)(d:Ah):Option Bool:=
 (bd (cnd (!(c.1==d.1)) (some (true,c,d)) (some (((c.2.length:Int)!=(d.2.length:Int)),c,d))) (λg=>(cnd g.1 (some false) (loopO (σ:=(Int×Int)×Ah×Ah) fuelN (λ(b:(Int×Int)×Ah×Ah)=>(cnd (b.1.2<b.1.1) (gd ((0:Int)<=b.1.2/\b.1.2<(b.2.1.2.length:Int)) (bd (some (aA b.2.1.2 b.1.2.toNat BC)) (λe=>(gd ((0:Int)<=b.1.2/\b.1.2<(b.2.2.2.length:Int)) (bd (some (aA b.2.2.2 b.1.2.toNat BC)) (λf=>(cnd (!((strEq e.1 f.1)&&(((e.2.1.1==f.2.1.1)&&(e.2.1.2==f.2.1.2))&&(e.2.2==f.2.2)))) (dnO (some false)) (some (Ctl.go ((b.1.1,(wrap .i64 (b.1.2+1))),b.2)))))))))) (dnO (some true)))) (((g.2.1.2.length:Int),(0:Int)),g.2)))))
def AkG:Tbl:=(40,⟨⟨[(0,Di),(1,Di)],[]⟩,[⟨[(0,Zc)],[]⟩],λt=>(o40 t.1 t.2)⟩)::AkF
theorem Aps:TK AkG:=kc Apr Tryz.f40 (.s .d (.s (.s (.j false [⟨[(2,Zb),(3,Zg),(19,Zc)],[Ey,Ey]⟩] .d) .d) (.s (.s .d (.b (.l [⟨[(2,Zb),(3,Zg),(22,Za),(23,Za)],[Ey,Ey]⟩] .d))) .d))) λt=>by kernel_rfl
def o91(e:List Af)(f:List Af):Option Bool:=
 (cnd ((e.length:Int)!=(f.length:Int)) (some false) (loopO (σ:=(List Af×List Af)×Int×Int) fuelN (λ(b:(List Af×List Af)×Int×Int)=>(cnd (b.2.2<b.2.1) (gd ((0:Int)<=b.2.2/\b.2.2<(b.1.1.length:Int)) (bd (some (aA b.1.1 b.2.2.toNat BS)) (λc=>(gd ((0:Int)<=b.2.2/\b.2.2<(b.1.2.length:Int)) (bd (some (aA b.1.2 b.2.2.toNat BS)) (λd=>(cnd (!((c.1==d.1)&&((strEq c.2.1 d.2.1)&&((strEq c.2.2.1 d.2.2.1)&&((c.2.2.2.1==d.2.2.2.1)&&((c.2.2.2.2.1==d.2.2.2.2.1)&&((c.2.2.2.2.2.1==d.2.2.2.2.2.1)&&((c.2.2.2.2.2.2.1==d.2.2.2.2.2.2.1)&&((c.2.2.2.2.2.2.2.1==d.2.2.2.2.2.2.2.1)&&((c.2.2.2.2.2.2.2.2.1==d.2.2.2.2.2.2.2.2.1)&&(((c.2.2.2.2.2.2.2.2.2.1.1==d.2.2.2.2.2.2.2.2.2.1.1)&&(c.2.2.2.2.2.2.2.2.2.1.2==d.2.2.2.2.2.2.2.2.2.1.2))&&((c.2.2.2.2.2.2.2.2.2.2.1==d.2.2.2.2.2.2.2.2.2.2.1)&&(c.2.2.2.2.2.2.2.2.2.2.2==d.2.2.2.2.2.2.2.2.2.2.2))))))))))))) (dnO (some false)) (some (Ctl.go (b.1,b.2.1,(wrap .i64 (b.2.2+1)))))))))))) (dnO (some true)))) ((e,f),(e.length:Int),(0:Int))))
def AkH:Tbl:=(91,⟨⟨[(0,Fx),(1,Fx)],[]⟩,[⟨[(0,Zc)],[]⟩],λt=>(o91 t.1 t.2)⟩)::AkG
theorem Apt:TK AkH:=kc Aps Tryz.f91 (.s .d (.s .d (.s (.s .d (.b (.l [⟨[(0,Fx),(1,Fx),(12,Za),(13,Za)],[]⟩] .d))) .d))) λt=>by kernel_rfl
def o41(c:Aw)(d:Aw):Option Bool:=
 (bd (cnd (!(c.1.1==d.1.1)) (some (true,c,d)) (cnd (!(c.1.2==d.1.2)) (some (true,c,d)) (cnd (c.2.1 !=d.2.1) (some (true,c,d)) (some (((c.2.2.length:Int)!=(d.2.2.length:Int)),c,d))))) (λf=>(cnd f.1 (some false) (loopO (σ:=(Int×Int)×Aw×Aw) fuelN (λ(b:(Int×Int)×Aw×Aw)=>(cnd (b.1.2<b.1.1) (bd (gd ((0:Int)<=b.1.2/\b.1.2<(b.2.1.2.2.length:Int)) (gd ((0:Int)<=b.1.2/\b.1.2<(b.2.2.2.2.length:Int)) (cnd ((aA b.2.1.2.2 b.1.2.toNat AD).1 !=(aA b.2.2.2.2 b.1.2.toNat AD).1) (some (b.1,true,b.2)) (gd ((0:Int)<=b.1.2/\b.1.2<(b.2.1.2.2.length:Int)) (gd ((0:Int)<=b.1.2/\b.1.2<(b.2.2.2.2.length:Int)) (cnd (!(((aA b.2.1.2.2 b.1.2.toNat AD).2).1==((aA b.2.2.2.2 b.1.2.toNat AD).2).1)) (some (b.1,true,b.2)) (gd ((0:Int)<=b.1.2/\b.1.2<(b.2.1.2.2.length:Int)) (gd ((0:Int)<=b.1.2/\b.1.2<(b.2.2.2.2.length:Int)) (bd (o91 (((aA b.2.1.2.2 b.1.2.toNat AD).2).2) (((aA b.2.2.2.2 b.1.2.toNat AD).2).2)) (λg=>(some (b.1,(!g),b.2)))))))))))) (λe=>(cnd e.2.1 (dnO (some false)) (some (Ctl.go ((e.1.1,(wrap .i64 (e.1.2+1))),e.2.2)))))) (dnO (some true)))) (((f.2.1.2.2.length:Int),(0:Int)),f.2)))))
def AkI:Tbl:=(41,⟨⟨[(0,Cy),(1,Cy)],[]⟩,[⟨[(0,Zc)],[]⟩],λt=>(o41 t.1 t.2)⟩)::AkH
theorem Apu:TK AkI:=kc Apt Tryz.f41 (.s .d (.s (.s (.j false [⟨[(2,Zb),(3,Zg),(33,Zc)],[Bg,Bg]⟩] .d) .d) (.s (.s .d (.b (.l [⟨[(2,Zb),(3,Zg),(36,Za),(37,Za)],[Bg,Bg]⟩] (.s .d (.s .d (.s (.b (.s .d (.s (.j false [⟨[(2,Zb),(3,Zg),(36,Za),(37,Za),(83,Zc)],[Bg,Bg]⟩] .d) .d))) .d)))))) .d))) λt=>by kernel_rfl
def Ji(e:AC)(f:AC):Option Bool:=
 (bd (cnd (!((strEq e.1.1.1 f.1.1.1)&&((e.1.1.2==f.1.1.2)&&((e.1.2.1==f.1.2.1)&&((e.1.2.2==f.1.2.2)&&((e.2.1.1==f.2.1.1)&&(e.2.1.2==f.2.1.2))))))) (some (true,e,f)) (cnd ((e.2.2.1.length:Int)!=(f.2.2.1.length:Int)) (some (true,e,f)) (cnd ((e.2.2.2.1.length:Int)!=(f.2.2.2.1.length:Int)) (some (true,e,f)) (some (((e.2.2.2.2.length:Int)!=(f.2.2.2.2.length:Int)),e,f))))) (λi=>(cnd i.1 (some false) (loopO (σ:=(Int×Int)×AC×AC) fuelN (λ(b:(Int×Int)×AC×AC)=>(cnd (b.1.2<b.1.1) (gd ((0:Int)<=b.1.2/\b.1.2<(b.2.1.2.2.1.length:Int)) (bd (some (aA b.2.1.2.2.1 b.1.2.toNat AW)) (λg=>(gd ((0:Int)<=b.1.2/\b.1.2<(b.2.2.2.2.1.length:Int)) (bd (some (aA b.2.2.2.2.1 b.1.2.toNat AW)) (λh=>(cnd (!((strEq g.1 h.1)&&((strEq g.2.1 h.2.1)&&((g.2.2.1==h.2.2.1)&&(((g.2.2.2.1.1==h.2.2.2.1.1)&&(g.2.2.2.1.2==h.2.2.2.1.2))&&((g.2.2.2.2.1==h.2.2.2.2.1)&&(g.2.2.2.2.2==h.2.2.2.2.2))))))) (dnO (some false)) (some (Ctl.go ((b.1.1,(wrap .i64 (b.1.2+1))),b.2)))))))))) (dnO (loopO (σ:=(Int×Int)×AC×AC) fuelN (λ(c:(Int×Int)×AC×AC)=>(cnd (c.1.2<c.1.1) (gd ((0:Int)<=c.1.2/\c.1.2<(c.2.1.2.2.2.1.length:Int)) (bd (some (aA c.2.1.2.2.2.1 c.1.2.toNat Bc)) (λl=>(gd ((0:Int)<=c.1.2/\c.1.2<(c.2.2.2.2.2.1.length:Int)) (bd (some (aA c.2.2.2.2.2.1 c.1.2.toNat Bc)) (λm=>(bd (o40 l m) (λn=>(cnd (!n) (dnO (some false)) (some (Ctl.go ((c.1.1,(wrap .i64 (c.1.2+1))),c.2)))))))))))) (dnO (loopO (σ:=(Int×Int)×AC×AC) fuelN (λ(d:(Int×Int)×AC×AC)=>(cnd (d.1.2<d.1.1) (gd ((0:Int)<=d.1.2/\d.1.2<(d.2.1.2.2.2.2.length:Int)) (bd (some (aA d.2.1.2.2.2.2 d.1.2.toNat Bd)) (λj=>(gd ((0:Int)<=d.1.2/\d.1.2<(d.2.2.2.2.2.2.length:Int)) (bd (some (aA d.2.2.2.2.2.2 d.1.2.toNat Bd)) (λk=>(bd (o41 ((j.1,j.2.1),j.2.2) ((k.1,k.2.1),k.2.2)) (λo=>(cnd (!o) (dnO (some false)) (some (Ctl.go ((d.1.1,(wrap .i64 (d.1.2+1))),d.2)))))))))))) (dnO (some true)))) (((c.2.1.2.2.2.2.length:Int),(0:Int)),c.2))))) (((b.2.1.2.2.2.1.length:Int),(0:Int)),b.2))))) (((i.2.1.2.2.1.length:Int),(0:Int)),i.2)))))
def AkJ:Tbl:=(22,⟨⟨[(0,FA),(1,FA)],[]⟩,[⟨[(0,Zc)],[]⟩],λt=>(Ji t.1 t.2)⟩)::AkI
theorem Apv:TK AkJ:=kc Apu Tryz.f22 (.s .d (.s (.s (.j false [⟨[(2,Zb),(3,Zg),(39,Zc)],[AM,AM]⟩] .d) .d) (.s (.s .d (.b (.l [⟨[(2,Zb),(3,Zg),(42,Za),(43,Za)],[AM,AM]⟩] .d))) (.s (.s .d (.b (.l [⟨[(2,Zb),(3,Zg),(60,Za),(61,Za)],[AM,AM]⟩] .d))) (.s (.s .d (.b (.l [⟨[(2,Zb),(3,Zg),(79,Za),(80,Za)],[AM,AM]⟩] .d))) .d))))) λt=>by kernel_rfl
def YF:BSh:= .cells 30 [.s,.i .i64,.i .i64,.i .i64,.i .i64,.i .i64,.own 7,.own 8,.own 9]
def YG:BSh:= .cells 30 [.s,.i .i64,.i .i64,.i .i64,.i .i64,.i .i64,.own 10,.own 11,.own 12]
def YH:BSh:= .cells 30 [.s,.i .i64,.i .i64,.i .i64,.i .i64,.i .i64,.own 13,.own 14,.own 15]
def Lo:Int×Int×Int×Int:=((0:Int),((0:Int),((0:Int),(0:Int))))
def AdH:Sch:=⟨[(2,Zc)],[]⟩
def p5:Sch:=⟨[(0,Zd)],[]⟩
def r5:List Sch:=[⟨[(0,Zc)],[]⟩]
def o5(j:Bt):Option Bool:=
 (bd o6 (λl=>(cnd (!l) (some false) (gd ((0:Int)<=(minI (j.length:Int) (3000:Int))/\(minI (j.length:Int) (3000:Int))<=(j.length:Int)) (bd (o23 (aP (minI (j.length:Int) (3000:Int)).toNat j)) (λb=>(cnd ((b.1.1.2.2.2.length:Int)>0) (bd (o7 (((b.1.1.1.1,b.1.1.1.2.1),b.1.1.1.2.2,b.1.1.2.1.1),(b.1.1.2.1.2,b.1.1.2.2.1),b.1.2,b.2)) (λm=>(bd (cnd (m.1 !=0) (bd (Ji (((b.1.1.1.1,b.1.1.1.2.1),b.1.1.1.2.2,b.1.1.2.1.1),(b.1.1.2.1.2,b.1.1.2.2.1),b.1.2,b.2) (((([]:Bt),(0:Int)),(0:Int),(0:Int)),((0:Int),(0:Int)),([]:List Ae),([]:List Ah),([]:List Ak))) (λn=>(some n))) (some false)) (λo=>(some o))))) (bd (o7 (((b.1.1.1.1,b.1.1.1.2.1),b.1.1.1.2.2,b.1.1.2.1.1),(b.1.1.2.1.2,b.1.1.2.2.1),b.1.2,b.2)) (λg=>(bd (o24 g.2) (λc=>(bd (o25 (((c.1.1.1.1,c.1.1.1.2.1),c.1.1.1.2.2,c.1.1.2.1.1),(c.1.1.2.1.2,c.1.1.2.2.1),c.1.2,c.2)) (λk=>(bd (o23 k.1) (λd=>(bd (o7 (((d.1.1.1.1,d.1.1.1.2.1),d.1.1.1.2.2,d.1.1.2.1.1),(d.1.1.2.1.2,d.1.1.2.2.1),d.1.2,d.2)) (λi=>(bd (o19 g.2) (λf=>(bd (o20 g.2) (λh=>(bd (cnd (g.1 !=0) (some ((((true,b.1.1.1,b.1.1.2.1.1,b.1.1.2.1.2,b.1.1.2.2.1),g.2,c.1.1.1,c.1.1.2.1.1,c.1.1.2.1.2,c.1.1.2.2.1),((d.1.1.1,d.1.1.2.1.1,d.1.1.2.1.2,d.1.1.2.2.1),i.2),(f.1,f.2.1.1,f.2.1.2,f.2.2.1),h.2),((b.1.2,b.2.1),b.2.2,c.1.2),c.2,d.1.2,d.2)) (cnd (c.1.1.2.2.2 !=0) (some ((((true,b.1.1.1,b.1.1.2.1.1,b.1.1.2.1.2,b.1.1.2.2.1),g.2,c.1.1.1,c.1.1.2.1.1,c.1.1.2.1.2,c.1.1.2.2.1),((d.1.1.1,d.1.1.2.1.1,d.1.1.2.1.2,d.1.1.2.2.1),i.2),(f.1,f.2.1.1,f.2.1.2,f.2.2.1),h.2),((b.1.2,b.2.1),b.2.2,c.1.2),c.2,d.1.2,d.2)) (cnd (k.2 !=0) (some ((((true,b.1.1.1,b.1.1.2.1.1,b.1.1.2.1.2,b.1.1.2.2.1),g.2,c.1.1.1,c.1.1.2.1.1,c.1.1.2.1.2,c.1.1.2.2.1),((d.1.1.1,d.1.1.2.1.1,d.1.1.2.1.2,d.1.1.2.2.1),i.2),(f.1,f.2.1.1,f.2.1.2,f.2.2.1),h.2),((b.1.2,b.2.1),b.2.2,c.1.2),c.2,d.1.2,d.2)) (cnd ((d.1.1.2.2.2.length:Int)>0) (some ((((true,b.1.1.1,b.1.1.2.1.1,b.1.1.2.1.2,b.1.1.2.2.1),g.2,c.1.1.1,c.1.1.2.1.1,c.1.1.2.1.2,c.1.1.2.2.1),((d.1.1.1,d.1.1.2.1.1,d.1.1.2.1.2,d.1.1.2.2.1),i.2),(f.1,f.2.1.1,f.2.1.2,f.2.2.1),h.2),((b.1.2,b.2.1),b.2.2,c.1.2),c.2,d.1.2,d.2)) (cnd (i.1 !=0) (some ((((true,b.1.1.1,b.1.1.2.1.1,b.1.1.2.1.2,b.1.1.2.2.1),g.2,c.1.1.1,c.1.1.2.1.1,c.1.1.2.1.2,c.1.1.2.2.1),((d.1.1.1,d.1.1.2.1.1,d.1.1.2.1.2,d.1.1.2.2.1),i.2),(f.1,f.2.1.1,f.2.1.2,f.2.2.1),h.2),((b.1.2,b.2.1),b.2.2,c.1.2),c.2,d.1.2,d.2)) (cnd (f.2.2.2 !=0) (some ((((true,b.1.1.1,b.1.1.2.1.1,b.1.1.2.1.2,b.1.1.2.2.1),g.2,c.1.1.1,c.1.1.2.1.1,c.1.1.2.1.2,c.1.1.2.2.1),((d.1.1.1,d.1.1.2.1.1,d.1.1.2.1.2,d.1.1.2.2.1),i.2),(f.1,f.2.1.1,f.2.1.2,f.2.2.1),h.2),((b.1.2,b.2.1),b.2.2,c.1.2),c.2,d.1.2,d.2)) (cnd (h.1 !=0) (some ((((true,b.1.1.1,b.1.1.2.1.1,b.1.1.2.1.2,b.1.1.2.2.1),g.2,c.1.1.1,c.1.1.2.1.1,c.1.1.2.1.2,c.1.1.2.2.1),((d.1.1.1,d.1.1.2.1.1,d.1.1.2.1.2,d.1.1.2.2.1),i.2),(f.1,f.2.1.1,f.2.1.2,f.2.2.1),h.2),((b.1.2,b.2.1),b.2.2,c.1.2),c.2,d.1.2,d.2)) (some ((((((h.2.length:Int)!=4),b.1.1.1,b.1.1.2.1.1,b.1.1.2.1.2,b.1.1.2.2.1),g.2,c.1.1.1,c.1.1.2.1.1,c.1.1.2.1.2,c.1.1.2.2.1),((d.1.1.1,d.1.1.2.1.1,d.1.1.2.1.2,d.1.1.2.2.1),i.2),(f.1,f.2.1.1,f.2.1.2,f.2.2.1),h.2),((b.1.2,b.2.1),b.2.2,c.1.2),c.2,d.1.2,d.2))))))))) (λe=>(cnd e.1.1.1.1 (some false) (bd (bd (Ji (((e.1.1.2.2.1.1,e.1.1.2.2.1.2.1),e.1.1.2.2.1.2.2,e.1.1.2.2.2.1),e.1.1.2.2.2.2,e.2.1.2.2,e.2.2.1) (((e.1.1.1.2.1.1,e.1.1.1.2.1.2.1),e.1.1.1.2.1.2.2,e.1.1.1.2.2.1),e.1.1.1.2.2.2,e.2.1.1.1,e.2.1.1.2,e.2.1.2.1)) (λp=>(cnd p (bd (Ji (((e.1.2.1.1.1.1,e.1.2.1.1.1.2.1),e.1.2.1.1.1.2.2,e.1.2.1.1.2.1),e.1.2.1.1.2.2,e.2.2.2) (((e.1.1.1.2.1.1,e.1.1.1.2.1.2.1),e.1.1.1.2.1.2.2,e.1.1.1.2.2.1),e.1.1.1.2.2.2,e.2.1.1.1,e.2.1.1.2,e.2.1.2.1)) (λq=>(cnd q (cnd (e.1.2.1.2==e.1.1.2.1) (cnd ((strEq e.1.2.2.1.1.1 e.1.1.1.2.1.1)&&((e.1.2.2.1.1.2.1==e.1.1.1.2.1.2.1)&&((e.1.2.2.1.1.2.2==e.1.1.1.2.1.2.2)&&((e.1.2.2.1.2.1==e.1.1.1.2.2.1)&&((e.1.2.2.1.2.2.1==e.1.1.1.2.2.2.1)&&(e.1.2.2.1.2.2.2==e.1.1.1.2.2.2.2)))))) (gd ((0:Int)<=1/\(1:Int)<(e.1.2.2.2.length:Int)) (cnd ((((aA e.1.2.2.2 ((1:Int).toNat) Lo).2).2).2==(e.2.1.1.1.length:Int)) (gd ((0:Int)<=2/\(2:Int)<(e.1.2.2.2.length:Int)) (cnd ((((aA e.1.2.2.2 ((2:Int).toNat) Lo).2).2).2==(e.2.1.1.2.length:Int)) (gd ((0:Int)<=3/\(3:Int)<(e.1.2.2.2.length:Int)) (some ((((aA e.1.2.2.2 ((3:Int).toNat) Lo).2).2).2==(e.2.1.2.1.length:Int)))) (some false))) (some false))) (some false)) (some false)) (some false)))) (some false)))) (λr=>(some r)))))))))))))))))))))))))))
def h5:HC:=(.s .d (.s .d (.s .d (.s .d (.s (.s .d (.c (.s .d (.s (.j false [AdH] .d) .d)) .d)) (.s .d (.s .d (.s .d (.s .d (.s .d (.s .d (.s .d (.s (.s (.j false [⟨[(3,Zb),(7,Zl),(9,Zi),(13,Zr),(15,.v (.c (.own 4))),(17,.v (.c (.ptr 5 0))),(19,.v (.c (.own 6))),(114,Zc)],[YF,.row .y 5,YG,YH,.row .y 5,Ps,CD,Ar,At,Au,Ar,At,Au,Ar,At,Au]⟩] .d) .d) (.s (.j false [AdH] .d) .d))))))))))))))
theorem e5(t:Bt):evF (stpT Tryz.prog AkJ Apv) Tryz.f5 p5 r5 h5 t=(o5 t):=by kernel_rfl
theorem fo5:FOk Tryz.prog 5 ⟨p5,r5,λt=>(o5 t)⟩:=FOk.run_eq (Ks (h:=h5)) e5
end
theorem YI{l:Bt}(h:l.length<=140737488355328):o37 l=some l:=by
 unfold o37;rw[Rd λe=>?_]
 ·rw[gdT (dt (by simp;omega))];rfl
 ·have:l=[]:=by simpa using e
  subst this;rfl
def crcS(r:Int):Int:=cond ((landK .u32 r 1)==(1:Int)) (lxorK .u32 (shrK .u32 r 1) 3988292384) (shrK .u32 r 1)
def crcB(r:Int)(b:Int):Int:=crcS (crcS (crcS (crcS (crcS (crcS (crcS (crcS (lxorK .u32 r b))))))))
def crcR(r:Int)(p:Bt):Int:=p.foldl (λr b=>crcB r ((b.toNat:Nat):Int)) r
def crcI(p:Bt):Int:=lxorK .u32 4294967295 (crcR (lxorK .u32 4294967295 0) p)
theorem YJ(c:Bool)(x y:α):cnd c x y=cond c x y:=by cases c<;>rfl
def itS(n:Nat)(r:Int):Int:=Nat.rec r (λ_ x=>crcS x) n
theorem AbZ(r b:Int):o199 r b=some (crcB r (IntKind.u32.wrap b)):=by
 unfold o199;refine Dh (n:=8) (λi=>(itS i (lxorK .u32 r (IntKind.u32.wrap b)),(i:Int))) (λi hi=>?_) ?_
 ·dsimp only;rw[cndT dt,Ac (x:=(i:Int)+1),YJ];show _=some (Ctl.go (crcS (itS i _),_));unfold crcS;cases (landK .u32 (itS i (lxorK .u32 r (IntKind.u32.wrap b))) 1==1)<;>rfl
 ·dsimp only;rw[cndF df];rfl
theorem Aca(c:Int)(p:Bt)(h:p.length<=140737488355328):o140 c p=some (lxorK .u32 4294967295 (crcR (lxorK .u32 4294967295 c) p)):=by
 unfold o140;refine Dh (n:=p.length) (λi=>((crcR (lxorK .u32 4294967295 c) (p.take i),p),(p.length:Int),(i:Int))) (λi hi=>?_) ?_
 ·dsimp only;have hb:=aU (p.getD i 0);rw[cndT dt,gdT dt,aD,bdS (AbZ _ _),Ac,Aea (by omega)];rw[aQ hi];unfold crcR;rw[List.foldl_append];simp[aF,aG hi]
 ·dsimp only;rw[cndF df,aJ];rfl
theorem YK(p:Bt)(h:p.length<=140737488355328):o74 p=some (crcI p):=by unfold o74;rw[bdS (Aca _ _ h)];rfl
def CJ(c:Int):Bt:=[u8 (IntKind.u8.wrap c),u8 (IntKind.u8.wrap (shrK .u32 c 8)),u8 (IntKind.u8.wrap (shrK .u32 c 16)),u8 (IntKind.u8.wrap (shrK .u32 c 24))]
theorem Aep(p:Bt)(h:p.length<=140737488355000):o33 p=some (p++CJ (crcI p)):=by unfold o33;rw[bdS (YK _ (by omega)),bdS (YI (by omega)),gdT (dt (by simp;omega))];rfl
theorem Vo(h:0<=z/\z<=255):((b.toNat:Nat):Int)=z↔b=u8 z:=by
 have hb:=aU b;constructor
 ·intro e;subst e;apply UInt8.toNat_inj.1;unfold u8;rw[aW];omega
 ·intro e;subst e;unfold u8;rw[aW];omega
theorem wu8(z:Int):0<=IntKind.u8.wrap z/\IntKind.u8.wrap z<=255:=by have:=DK .u8 z;simpa[inK,IntKind.min,IntKind.max,IntKind.signed,IntKind.bits]using this
theorem AkK(h:q.length=n+4):q.drop n=[q.getD n 0,q.getD (n+1) 0,q.getD (n+2) 0,q.getD (n+3) 0]:=by
 apply List.ext_getElem?;intro i;rw[List.getElem?_drop];match i with
 |0=>simp[aF,aG (show n<q.length by omega)]
 |1=>simp[aF,aG (show n+1<q.length by omega)]
 |2=>simp[aF,aG (show n+2<q.length by omega)]
 |3=>simp[aF,aG (show n+3<q.length by omega)]
 |i+4=>rw[List.getElem?_eq_none (by omega)];simp
def opn(q:Bt):Bt×Int:=if q.drop (q.length-4)=CJ (crcI (q.take (q.length-4)))then(q.take (q.length-4),0)else([],12)
theorem TM(h:0<=z/\z<=255):((((b.toNat:Nat):Int)!=z)=true↔b≠u8 z):=by rw[bne_iff_ne,Ne,Vo h]
theorem Aeq(h:4<=q.length)(hl:q.length<=140737488355328):o79 q=some (opn q):=by
 obtain⟨n,hn⟩:∃n,q.length=n+4:=⟨q.length-4,by omega⟩
 have e0:aO .i64 (((q.length:Nat):Int)-(4:Int))=(n:Int):=by rw[Ac];omega
 have ht:(aP n q).length<=140737488355328:=by rw[List.length_take];omega
 unfold o79;rw[e0,cndF df,gdT dt,aD,bdS (YK _ ht),gdT dt];have e1:aO .i64 ((n:Int)+1)=((n+1:Nat):Int):=by rw[Ac];omega
 have e2:aO .i64 ((n:Int)+2)=((n+2:Nat):Int):=by rw[Ac];omega
 have e3:aO .i64 ((n:Int)+3)=((n+3:Nat):Int):=by rw[Ac];omega
 rw[e1,e2,e3];rw[gdT dt,gdT dt,gdT dt,aD,aD,aD];have hopn:opn q=if([q.getD n 0,q.getD (n+1) 0,q.getD (n+2) 0,q.getD (n+3) 0]:Bt)=CJ (crcI (q.take n))then(q.take n,0)else([],12):=by unfold opn;rw[show q.length-4=n by omega,AkK hn]
 rw[hopn];generalize crcI (aP n q)=c;have k0:=TM (b:=q.getD n 0) (wu8 c);have k1:=TM (b:=q.getD (n+1) 0) (wu8 (shrK .u32 c 8));have k2:=TM (b:=q.getD (n+2) 0) (wu8 (shrK .u32 c 16));have k3:=TM (b:=q.getD (n+3) 0) (wu8 (shrK .u32 c 24));unfold CJ;simp only[List.cons.injEq,and_true];cases h0:(((aI (q.getD n 0):Nat):Int)!=IntKind.u8.wrap c)with
 |true=>rw[cndT rfl,bdI,cndT rfl,if_neg λe=>(k0.1 h0) e.1]
 |false=>
  rw[cndF rfl];have h0':q.getD n 0=u8 (IntKind.u8.wrap c):=Decidable.byContradiction λe=>by rw[k0.2 e]at h0;cases h0
  cases h1:(((aI (q.getD (n+1) 0):Nat):Int)!=IntKind.u8.wrap (shrK .u32 c 8))with
  |true=>rw[cndT rfl,bdI,cndT rfl,if_neg λe=>(k1.1 h1) e.2.1]
  |false=>
   rw[cndF rfl];have h1':q.getD (n+1) 0=u8 (IntKind.u8.wrap (shrK .u32 c 8)):=Decidable.byContradiction λe=>by rw[k1.2 e]at h1;cases h1
   cases h2:(((aI (q.getD (n+2) 0):Nat):Int)!=IntKind.u8.wrap (shrK .u32 c 16))with
   |true=>rw[cndT rfl,bdI,cndT rfl,if_neg λe=>(k2.1 h2) e.2.2.1]
   |false=>
    rw[cndF rfl];have h2':q.getD (n+2) 0=u8 (IntKind.u8.wrap (shrK .u32 c 16)):=Decidable.byContradiction λe=>by rw[k2.2 e]at h2;cases h2
    cases h3:(((aI (q.getD (n+3) 0):Nat):Int)!=IntKind.u8.wrap (shrK .u32 c 24))with
    |true=>rw[bdI,cndT rfl,if_neg λe=>(k3.1 h3) e.2.2.2]
    |false=>
     have h3':q.getD (n+3) 0=u8 (IntKind.u8.wrap (shrK .u32 c 24)):=Decidable.byContradiction λe=>by rw[k3.2 e]at h3;cases h3
     rw[bdI,cndF rfl,gdT (dt (by dsimp only;omega))];dsimp only;rw[aD,bdS (YI ht),if_pos ⟨h0',h1',h2',h3'⟩]
theorem GN{l:Bt}(h:w.length+l.length<=140737488355328):o31 l w=some (w++l):=by unfold o31;rw[gdT dt]
theorem Apw(x:Int):shrK .i64 x 8=x/256:=by have:=MX x 1 (by decide);simpa using this
theorem Acb(n:Int)(i:Nat):n/256^i/256=n/256^(i+1):=by rw[Int.pow_succ,<-Int.ediv_ediv_of_nonneg (Int.pow_nonneg (by decide))]
theorem IH(n:Int){k:Nat}(hk:k<=8)(h:w.length+k<=140737488355328):o30 n (k:Int) w=some (w++putB n k):=by
 unfold o30;have e0:(n,(k:Int))=((n/256^0),(k:Int)):=by simp
 have e1:w=w++putB n 0:=by simp[putB]
 rw[e0]
 conv=>lhs;rw[e1]
 refine Dh (n:=k) (λi=>((n/256^i,(k:Int)),(i:Int),w++putB n i)) (λi hi=>?_) ?_
 ·dsimp only;rw[cndT dt,gdT (dt (by rw[aB,Bi];simp;omega)),Ac,Apw,Acb,Vg,aK];have:byteAt n i=u8 (aO .u8 (n/256^i)):=by unfold byteAt;rw[MX n i (by omega)]
  rw[this];rfl
 ·dsimp only;rw[cndF df];rfl
theorem Lp(n:Int){k:Nat}(hk:k<=8:=by decide):PP n (k:Int)=some (putB n k):=by have:=IH n hk (w:=[]) (by simp;omega);rw[List.nil_append]at this;exact this
def txB(s:Bt):Bt:=u8 (aO .u8 ((s.length:Nat):Int))::s
def txsB(l:List Bt):Bt:=l.flatMap txB
theorem Lq(f:α->List β):((l.take i).flatMap f).length<=(l.flatMap f).length:=by
 have:l.flatMap f=(l.take i).flatMap f++(l.drop i).flatMap f:=by rw[<-aV,List.take_append_drop]
 rw[this,aB];omega
theorem AV(f:α->List β)(h:i<l.length):(l.take (i+1)).flatMap f=(l.take i).flatMap f++f l[i]:=by rw[aQ h,aV];simp
theorem DS{l:List Bt}(h:w.length+(txsB l).length<=140737488355328)(hl:l.length<=1000000:=by simp):FB l w=some (w++txsB l):=by
 unfold FB;have e1:w=w++(l.take 0).flatMap txB:=by simp
 conv=>lhs;rw[e1]
 refine Dh (n:=l.length) (λi=>((l,((l.length:Nat):Int)),(i:Int),w++(l.take i).flatMap txB)) (λi hi=>?_) ?_
 ·dsimp only;have hle:=Lq txB (l:=l) (i:=i+1);rw[AV txB hi,aB]at hle;have hg:l.getD i []=l[i]:=by rw[aF,aG hi];rfl
  unfold txsB at h;have hx:(txB l[i]).length=l[i].length+1:=by simp[txB]
  rw[hx]at hle;rw[cndT dt,gdT dt,aD,hg,gdT (dt (by simp only[aB,aC,aE];omega)),gdT (dt (by simp only[aB,aC,aE];omega)),Ac,AV txB hi];simp[txB]
 ·dsimp only;rw[cndF df,aJ];rfl
theorem Aer{l:List Bt}(h:(txsB l).length<=140737488355328)(hl:l.length<=1000000):o27 l=some (txsB l):=by have:=DS (w:=[]) (l:=l) (by simpa using h) hl;rw[List.nil_append]at this;exact this
def nsB(l:List Int):Bt:=l.flatMap λn=>putB n 8
theorem Nw{l:List Int}(h:w.length+(nsB l).length<=140737488355328)(hl:l.length<=1000000:=by simp):o28 l w=some (w++nsB l):=by
 unfold o28;have e1:w=w++(l.take 0).flatMap λn=>putB n 8:=by simp
 conv=>lhs;rw[e1]
 refine Dh (n:=l.length) (λi=>((l,((l.length:Nat):Int)),(i:Int),w++(l.take i).flatMap λn=>putB n 8)) (λi hi=>?_) ?_
 ·dsimp only;have hle:=Lq (λn=>putB n 8) (l:=l) (i:=i+1);rw[AV _ hi,aB,Bi]at hle;have hg:l.getD i 0=l[i]:=by rw[aF,aG hi];rfl
  unfold nsB at h;have h8:=IH l[i] (k:=8) (by decide) (w:=w++(l.take i).flatMap λn=>putB n 8) (by rw[aB];omega);rw[cndT dt,gdT dt,aD,hg];refine(bdS h8).trans ?_;rw[Ac,AV _ hi,aK];rfl
 ·dsimp only;rw[cndF df,aJ];rfl
def secB(tag:Int)(c:Bt):Bt:=u8 tag::(putB ((c.length:Nat):Int) 4++c)
theorem Nx{tag:Int}{c:Bt}(h:w.length+c.length+5<=140737488355328):o29 tag c w=some (w++secB tag c):=by unfold o29;have h1:=GN (l:=[u8 tag]) (w:=w) (by simp;omega);have h2:=IH ((c.length:Nat):Int) (k:=4) (by decide) (w:=w++[u8 tag]) (by simp;omega);rw[bdS h1];refine(bdS h2).trans ?_;rw[gdT (dt (by simp[Bi];omega))];simp[secB]
theorem dnE{x:Option β}{r:β}(h:x=some r):dnO (α:=α) x=some (.done r):=by subst h;rfl
abbrev Bw:=Int×Bt×Bt×Int×Bool×Int×Int×Int×Int×(Int×Int)×Int×Int
def lgB(l:Bw):Bt:=
 u8 l.1::(txsB [l.2.1,l.2.2.1]++[u8 l.2.2.2.1,u8 (cond l.2.2.2.2.1 1 0)]++
  nsB [l.2.2.2.2.2.1,l.2.2.2.2.2.2.1,l.2.2.2.2.2.2.2.1,l.2.2.2.2.2.2.2.2.1,l.2.2.2.2.2.2.2.2.2.1.1,l.2.2.2.2.2.2.2.2.2.1.2,l.2.2.2.2.2.2.2.2.2.2.1,l.2.2.2.2.2.2.2.2.2.2.2])
theorem Dz(l:List Int):(nsB l).length=8*l.length:=by
 unfold nsB;induction l with
 |nil=>rfl
 |cons a l ih=>rw[aN,aB,ih,Bi];simp;omega
theorem Jv(l:Bw):(lgB l).length=69+l.2.1.length+l.2.2.1.length:=by unfold lgB;simp only[aC,aB,Dz,txsB,txB,aN,aT,aE];omega
theorem Aes {l:Bw} (h:w.length+(lgB l).length<=140737488355328) :
  o32 (((l.1,l.2.1,l.2.2.1),l.2.2.2.1,l.2.2.2.2.1,l.2.2.2.2.2.1),(l.2.2.2.2.2.2.1,l.2.2.2.2.2.2.2.1,l.2.2.2.2.2.2.2.2.1),l.2.2.2.2.2.2.2.2.2) w=some (w++lgB l):=by
 obtain⟨t,fx,ce,tu,ov,co,di,ra,th,⟨lo,hi⟩,sp,rn⟩:=l;rw[Jv]at h;dsimp only at h⊢;have e:∀b:Bool,(cnd b (some ((1:Int),w,(((t,fx,ce),tu,b,co),(di,ra,th),(lo,hi),sp,rn))) (some ((0:Int),w,(((t,fx,ce),tu,b,co),(di,ra,th),(lo,hi),sp,rn))))=some (cond b (1:Int) 0,w,(((t,fx,ce),tu,b,co),(di,ra,th),(lo,hi),sp,rn)):=by intro b;cases b<;>rfl
 unfold o32;refine(bdS (e ov)).trans ?_;dsimp only;have h1:=GN (l:=[u8 t]) (w:=w) (by simp;omega);have hx:(txsB [fx,ce]).length=fx.length+ce.length+2:=by simp[txsB,txB];omega
 have h2:=DS (l:=[fx,ce]) (w:=w++[u8 t]) (by simp[hx];omega);have h3:=GN (l:=[u8 tu,u8 (cond ov 1 0)]) (w:=w++[u8 t]++txsB [fx,ce]) (by simp[hx];omega);have h4:=Nw (l:=[co,di,ra,th,lo,hi,sp,rn]) (w:=w++[u8 t]++txsB [fx,ce]++[u8 tu,u8 (cond ov 1 0)]) (by simp[hx,Dz];omega);refine(bdS h1).trans ?_;refine(bdS h2).trans ?_;refine(bdS h3).trans ?_;refine(bdS h4).trans ?_;simp[lgB]
theorem AN{σ ρ:Type}{B:σ->Option (Ctl σ ρ)}(S:Nat->σ){s0:σ}(h0:S 0=s0){r:ρ}(h:∀i,i<n->B (S i)=some (.go (S (i+1))))(hd:B (S n)=some (.done r))(hn:n<18446744073709551616:=by omega):loopO fuelN B s0=some r:=by subst h0;exact Dh S h hd hn
abbrev Be:=Bt×Bt×Int×(Int×Int)×Int×Int
variable{f:Be}
abbrev Pt_:=Bt×(Int×Int)×Int
abbrev AQ:=Bt×List Pt_
abbrev Bh:=Int×Bt×List Bw
abbrev AA:=Bt×Bt×Int×List Bh
abbrev DB_:=((Bt×Int)×Int×Int)×(Int×Int)×List Be×List AQ×List AA
def lsB{α:Type}(f:α->Bt)(l:List α):Bt:=putB ((l.length:Nat):Int) 2++l.flatMap f
def fxB(f:Be):Bt:=txsB [f.1,f.2.1]++(u8 f.2.2.1::nsB [f.2.2.2.1.1,f.2.2.2.1.2,f.2.2.2.2.1,f.2.2.2.2.2])
def ptB(p:Pt_):Bt:=txsB [p.1]++(nsB [p.2.1.1,p.2.1.2]++[u8 p.2.2])
def awB(a:AQ):Bt:=txsB [a.1]++lsB ptB a.2
def paB(x:Bh):Bt:=u8 x.1::(txsB [x.2.1]++lsB lgB x.2.2)
def prB(p:AA):Bt:=txsB [p.1,p.2.1]++(u8 p.2.2.1::lsB paB p.2.2.2)
def hdB(x:DB_):Bt:=txsB [x.1.1.1]++nsB [x.1.1.2,x.1.2.1,x.1.2.2,x.2.1.1,x.2.1.2]
def magic:Bt:=[u8 70,u8 68,u8 66,u8 49]
def imgB(x:DB_):Bt:=magic++secB 1 (hdB x)++secB 2 (lsB fxB x.2.2.1)++secB 3 (lsB awB x.2.2.2.1)++secB 4 (lsB prB x.2.2.2.2)
theorem Do(t:Int)(c:Bt):(secB t c).length=c.length+5:=by simp[secB,Bi];omega
theorem BG(f:α->Bt)(l:List α):(lsB f l).length=2+(l.flatMap f).length:=by simp[lsB,Bi]
theorem BK(f:α->List β)(h:i<l.length):((l.take i).flatMap f).length+(f l[i]).length<=(l.flatMap f).length:=by
 have:=Lq f (l:=l) (i:=i+1)
 rwa [AV f h,aB]at this
theorem DT{α β:Type}(f:α->List β)(h:∀a,1<=(f a).length):∀l:List α,l.length<=(l.flatMap f).length
 | []=>Nat.le_refl _
 |a::l=>by have:=DT f h l;have:=h a;simp only[aN,aB,aC];omega
theorem Cl{d:α}(h:i<l.length):l.getD i d=l[i]:=by rw[aF,aG h];rfl
theorem Jw(f:Be):(fxB f).length=35+f.1.length+f.2.1.length:=by simp only[fxB,aB,aC,Dz,txsB,txB,aN,aT,aE];omega
theorem Acc (h:w.length+(fxB f).length<=140737488355328) :
  bd (α:=Bt) (FB ([f.1,f.2.1]:List Bt) w) (λv9=>bd (α:=Bt) (o31 ([(u8 f.2.2.1)]:Bt) v9) (λv10=>bd (α:=Bt) (o28 ([f.2.2.2.1.1,f.2.2.2.1.2,f.2.2.2.2.1,f.2.2.2.2.2]:List Int) v10) k))=k (w++fxB f):=by
 rw[Jw]at h;have hx:(txsB [f.1,f.2.1]).length=f.1.length+f.2.1.length+2:=by simp[txsB,txB];omega
 refine(bdS (DS (by rw[hx];omega))).trans ?_;refine(bdS (GN (by simp[hx];omega))).trans ?_;refine(bdS (Nw (by simp[hx,Dz];omega))).trans ?_;simp[fxB]
theorem Jx(p:Pt_):(ptB p).length=18+p.1.length:=by simp only[ptB,aB,aC,Dz,txsB,txB,aN,aT,aE];omega
theorem Acd {p:Pt_} (h:w.length+(ptB p).length<=140737488355328) :
  bd (α:=Bt) (FB ([p.1]:List Bt) w) (λv9=>bd (α:=Bt) (o28 ([p.2.1.1,p.2.1.2]:List Int) v9) (λv10=>bd (α:=Bt) (o31 ([(u8 p.2.2)]:Bt) v10) k))=k (w++ptB p):=by
 rw[Jx]at h;have hx:(txsB [p.1]).length=p.1.length+1:=by simp[txsB,txB]
 refine(bdS (DS (by rw[hx];omega))).trans ?_;refine(bdS (Nw (by simp[hx,Dz];omega))).trans ?_;refine(bdS (GN (by simp[hx,Dz];omega))).trans ?_;simp[ptB]
theorem Cf(l:Bt):(txsB [l]).length=l.length+1:=by simp[txsB,txB]
theorem Gi(l m:Bt):(txsB [l,m]).length=l.length+m.length+2:=by simp[txsB,txB];omega
theorem Aet(f:Be):1<=(fxB f).length:=by rw[Jw];omega
theorem Aeu(f:Pt_):1<=(ptB f).length:=by rw[Jx];omega
theorem Aev(f:Bw):1<=(lgB f).length:=by rw[Jv];omega
theorem RI(a:AQ):(awB a).length=a.1.length+3+(a.2.flatMap ptB).length:=by simp only[awB,aB,Cf,BG];omega
theorem RJ(a:Bh):(paB a).length=a.2.1.length+4+(a.2.2.flatMap lgB).length:=by simp only[paB,aC,aB,Cf,BG];omega
theorem RK(a:AA):(prB a).length=a.1.length+a.2.1.length+5+(a.2.2.2.flatMap paB).length:=by simp only[prB,aC,aB,Gi,BG];omega
theorem II(x:DB_):(hdB x).length=x.1.1.1.length+41:=by simp only[hdB,aB,Cf,Dz,aC,aE]
theorem Ny(x:DB_):(imgB x).length=71+x.1.1.1.length+(x.2.2.1.flatMap fxB).length+(x.2.2.2.1.flatMap awB).length+(x.2.2.2.2.flatMap prB).length:=by simp only[imgB,aB,Do,II,BG,magic,aC,aE];omega
theorem TN(x:DB_)(hc:o26 x=some 0)(hb:(imgB x).length<=70368744177664:=by omega):o7 x=some (0,imgB x++CJ (crcI (imgB x))):=by
 have hb0:=hb;rw[Ny]at hb;have nF:=DT fxB Aet x.2.2.1;have nA:=DT awB (λa=>by rw[RI];omega) x.2.2.2.1;have nP:=DT prB (λa=>by rw[RK];omega) x.2.2.2.2;unfold o7;rw[bdS hc,cndF (show((0:Int)!=0)=false from rfl),gdT (show decide (0<([u8 70,u8 68,u8 66,u8 49]:Bt).length)=true from rfl)];refine(bdS (Aer (l:=[x.1.1.1]) (by rw[Cf];omega) (by simp))).trans ?_;refine(bdS (Nw (l:=[x.1.1.2,x.1.2.1,x.1.2.2,x.2.1.1,x.2.1.2]) (by rw[Cf,Dz];simp;omega))).trans ?_;refine(bdS (Nx (tag:=1) (c:=hdB x) (w:=magic) (by rw[II];simp[magic];omega))).trans ?_;refine(bdS (Lp ((x.2.2.1.length:Nat):Int) (k:=2))).trans ?_;refine AN (n:=x.2.2.1.length) (λi=>((x.2.2.1,((x.2.2.1.length:Nat):Int),(i:Int)),x,magic++secB 1 (hdB x),putB ((x.2.2.1.length:Nat):Int) 2++(x.2.2.1.take i).flatMap fxB)) (by simp) (λi hi=>?_) ?_
 ·dsimp only;have hm:=BK fxB hi;rw[cndT dt,gdT dt,bdI,aD,Cl hi];refine(Acc (f:=x.2.2.1[i]) (by rw[aB,Bi];omega)).trans ?_;rw[Ac,AV fxB hi,aK];rfl
 dsimp only;rw[cndF df,aJ];refine dnE ?_;refine(bdS (Nx (tag:=2) (c:=lsB fxB x.2.2.1) (w:=magic++secB 1 (hdB x)) (by simp only[BG,aB,Do,II,magic,aC,aE];omega))).trans ?_;refine(bdS (Lp ((x.2.2.2.1.length:Nat):Int) (k:=2))).trans ?_;have hW2l:(magic++secB 1 (hdB x)++secB 2 (lsB fxB x.2.2.1)).length=57+x.1.1.1.length+(x.2.2.1.flatMap fxB).length:=by simp only[aB,Do,II,BG,magic,aC,aE];omega
 generalize hW2:magic++secB 1 (hdB x)++secB 2 (lsB fxB x.2.2.1)=W2 at hW2l⊢;refine AN (n:=x.2.2.2.1.length) (λi=>((x.2.2.2.1,((x.2.2.2.1.length:Nat):Int),(i:Int)),x,W2,putB ((x.2.2.2.1.length:Nat):Int) 2++(x.2.2.2.1.take i).flatMap awB)) (by simp) (λi hi=>?_) ?_
 ·dsimp only;have hm:=BK awB hi;rw[cndT dt,gdT dt,bdI,aD,Cl hi];generalize ha:x.2.2.2.1[i]=a at hm⊢;generalize hw:putB ((x.2.2.2.1.length:Nat):Int) 2++(x.2.2.2.1.take i).flatMap awB=w;have hwl:w.length=2+((x.2.2.2.1.take i).flatMap awB).length:=by rw[<-hw,aB,Bi]
  rw[RI]at hm;have na:=DT ptB Aeu a.2;refine(bdS (DS (by rw[Cf];omega))).trans ?_;refine(bdS (IH ((a.2.length:Nat):Int) (k:=2) (by decide) (by rw[aB,Cf];omega))).trans ?_;refine AN (n:=a.2.length) (λj=>(((x.2.2.2.1,((x.2.2.2.1.length:Nat):Int)),(i:Int),a.2),(((a.2.length:Nat):Int),(j:Int)),x,W2,w++txsB [a.1]++putB ((a.2.length:Nat):Int) 2++(a.2.take j).flatMap ptB)) (by simp) (λj hj=>?_) ?_
  ·dsimp only;have hm2:=BK ptB hj;rw[cndT dt,gdT dt,bdI,aD,Cl hj];refine(Acd (p:=a.2[j]) (by simp only[aB,Cf,Bi];omega)).trans ?_;rw[Ac,AV ptB hj,aK];rfl
  ·dsimp only;rw[cndF df,aJ];refine dnE ?_;rw[Ac];have e:w++txsB [a.1]++putB ((a.2.length:Nat):Int) 2++a.2.flatMap ptB=putB ((x.2.2.2.1.length:Nat):Int) 2++(x.2.2.2.1.take (i+1)).flatMap awB:=by rw[AV awB hi,ha,<-aK,hw];simp[awB,lsB]
   rw[e];rfl
 dsimp only;rw[cndF df,aJ];refine dnE ?_;refine(bdS (Nx (tag:=3) (c:=lsB awB x.2.2.2.1) (w:=W2) (by rw[BG];omega))).trans ?_;refine(bdS (Lp ((x.2.2.2.2.length:Nat):Int) (k:=2))).trans ?_;generalize hW:W2++secB 3 (lsB awB x.2.2.2.1)=W;refine AN (n:=x.2.2.2.2.length) (λi=>((x.2.2.2.2,((x.2.2.2.2.length:Nat):Int)),(i:Int),W,putB ((x.2.2.2.2.length:Nat):Int) 2++(x.2.2.2.2.take i).flatMap prB)) (by simp) (λi hi=>?_) ?_
 ·dsimp only;have hm:=BK prB hi;rw[cndT dt,gdT dt,bdI,aD,Cl hi];generalize ha:x.2.2.2.2[i]=a at hm⊢;generalize hw:putB ((x.2.2.2.2.length:Nat):Int) 2++(x.2.2.2.2.take i).flatMap prB=w;have hwl:w.length=2+((x.2.2.2.2.take i).flatMap prB).length:=by rw[<-hw,aB,Bi]
  rw[RK]at hm;have na:=DT paB (λa=>by rw[RJ];omega) a.2.2.2;refine(bdS (DS (by rw[Gi];omega))).trans ?_;refine(bdS (GN (by simp only[aB,Gi,aC,aE];omega))).trans ?_;refine(bdS (IH ((a.2.2.2.length:Nat):Int) (k:=2) (by decide) (by simp only[aB,Gi,aC,aE];omega))).trans ?_;refine AN (n:=a.2.2.2.length) (λj=>(((x.2.2.2.2,((x.2.2.2.2.length:Nat):Int)),(i:Int),a.2.2.2),(((a.2.2.2.length:Nat):Int),(j:Int)),W,w++txsB [a.1,a.2.1]++[u8 a.2.2.1]++putB ((a.2.2.2.length:Nat):Int) 2++(a.2.2.2.take j).flatMap paB)) (by simp) (λj hj=>?_) ?_
  ·dsimp only;have hm2:=BK paB hj;rw[cndT dt,gdT dt,bdI,aD,Cl hj];generalize hb1:a.2.2.2[j]=b at hm2⊢;generalize hv:w++txsB [a.1,a.2.1]++[u8 a.2.2.1]++putB ((a.2.2.2.length:Nat):Int) 2++(a.2.2.2.take j).flatMap paB=v;have hvl:v.length=w.length+a.1.length+a.2.1.length+5+((a.2.2.2.take j).flatMap paB).length:=by rw[<-hv];simp only[aB,Gi,aC,aE,Bi];omega
   rw[RJ]at hm2;have nb:=DT lgB Aev b.2.2;refine(bdS (GN (by simp only[aC,aE];omega))).trans ?_;refine(bdS (DS (by simp only[aB,Cf,aC,aE];omega))).trans ?_;refine(bdS (IH ((b.2.2.length:Nat):Int) (k:=2) (by decide) (by simp only[aB,Cf,aC,aE];omega))).trans ?_;refine AN (n:=b.2.2.length) (λk=>(((x.2.2.2.2,((x.2.2.2.2.length:Nat):Int)),(i:Int),a.2.2.2,((a.2.2.2.length:Nat):Int)),((j:Int),b.2.2,((b.2.2.length:Nat):Int)),(k:Int),W,v++[u8 b.1]++txsB [b.2.1]++putB ((b.2.2.length:Nat):Int) 2++(b.2.2.take k).flatMap lgB)) (by simp) (λk hk=>?_) ?_
   ·dsimp only;have hm3:=BK lgB hk;rw[cndT dt,gdT dt,bdI,aD,Cl hk];refine(bdS (Aes (l:=b.2.2[k]) (by simp only[aB,Cf,Bi,aC,aE];omega))).trans ?_;rw[Ac,AV lgB hk,aK];rfl
   ·dsimp only;rw[cndF df,aJ];refine dnE ?_;rw[Ac];have e:v++[u8 b.1]++txsB [b.2.1]++putB ((b.2.2.length:Nat):Int) 2++b.2.2.flatMap lgB=w++txsB [a.1,a.2.1]++[u8 a.2.2.1]++putB ((a.2.2.2.length:Nat):Int) 2++(a.2.2.2.take (j+1)).flatMap paB:=by rw[AV paB hj,hb1,<-aK,hv];simp[paB,lsB]
    rw[e];rfl
  ·dsimp only;rw[cndF df,aJ];refine dnE ?_;rw[Ac];have e:w++txsB [a.1,a.2.1]++[u8 a.2.2.1]++putB ((a.2.2.2.length:Nat):Int) 2++a.2.2.2.flatMap paB=putB ((x.2.2.2.2.length:Nat):Int) 2++(x.2.2.2.2.take (i+1)).flatMap prB:=by rw[AV prB hi,ha,<-aK,hw];simp[prB,lsB]
   rw[e];rfl
 dsimp only;rw[cndF df,aJ];refine dnE ?_;have hWl:W.length=64+x.1.1.1.length+(x.2.2.1.flatMap fxB).length+(x.2.2.2.1.flatMap awB).length:=by rw[<-hW,aB,Do,BG,hW2l];omega
 refine(bdS (Nx (tag:=4) (c:=lsB prB x.2.2.2.2) (w:=W) (by rw[BG];omega))).trans ?_;have e:W++secB 4 (lsB prB x.2.2.2.2)=imgB x:=by rw[<-hW,<-hW2];rfl
 rw[e];refine(bdS (Aep (imgB x) (by omega))).trans ?_;rfl
def Dp(x:Int):Prop:=-9223372036854775808<=x/\x<=9223372036854775807
abbrev rdr(p:Bt)(at_ stop:Nat):(Bt×Int)×Int×Bool:=((p,(at_:Int)),(stop:Int),false)
structure Ahead(p:Bt)(at_ stop:Nat)(q:Bt):Prop where
 dr:p.drop at_=q
 st:stop<=p.length
 ln:p.length<=140737488355328
theorem Ahead.next{c:Bt}(h:Ahead p at_ stop (c++q)):Ahead p (at_+c.length) stop q:=
 ⟨by rw[<-List.drop_drop,h.dr,List.drop_left],h.st,h.ln⟩
theorem Nz{c:Bt}(h:Ahead p at_ stop (c++q))(hn:c.length=n)(hs:at_+n<=stop:=by omega):o80 (n:Int) (rdr p at_ stop)=some (c,rdr p (at_+n) stop):=by have hst:=h.st;have hln:=h.ln;unfold o80 rdr;dsimp only;rw[cndF rfl,cndF df,Ac (x:=(stop:Int)-(at_:Int)),df (show¬(n:Int)>(stop:Int)-(at_:Int) by omega),bdI];dsimp only;rw[cndF rfl,Ac (x:=(at_:Int)+(n:Int)),gdT dt];rw[show(at_:Int)+(n:Int)=((at_+n:Nat):Int) by omega,aD,aD,h.dr,show at_+n-at_=n by omega,List.take_left' hn]
theorem YL(h:Ahead p at_ stop (b::q))(hs:at_+1<=stop):o81 (rdr p at_ stop)=some (((b.toNat:Nat):Int),rdr p (at_+1) stop):=by unfold o81;refine(bdS (Nz (n:=1) (c:=[b]) (q:=q) h rfl hs)).trans ?_;rfl
theorem YM{c:Bt}(h:Ahead p at_ stop (c++q))(hn:c.length=n)(h8:n<=8)(hs:at_+n<=stop):o82 (n:Int) (rdr p at_ stop)=some (getI c n,rdr p (at_+n) stop):=by
 unfold o82;refine(bdS (Nz h hn hs)).trans ?_;refine AN (n:=n) (λi=>((getK c i,c),((c.length:Nat):Int),(i:Int),rdr p (at_+n) stop)) rfl (λi hi=>?_) ?_
 ·dsimp only;have hb:=aU (c.getD i 0);rw[cndT dt,gdT dt,w8 (by omega),gdT dt,aD,Ac (x:=(i:Int)+1),QX];rfl
 ·dsimp only;rw[cndF df,SP c n h8];rfl
theorem BH(h:Ahead p at_ stop (putB m 8++q))(hs:at_+8<=stop)(hm:Dp m):o84 (rdr p at_ stop)=some (m,rdr p (at_+8) stop):=by unfold o84;refine(bdS (YM h (Bi m 8) (by decide) hs)).trans ?_;have:=Vh m [] hm;rw[List.append_nil]at this;rw[this]
theorem Lr{m k:Nat}(h:Ahead p at_ stop (putB (m:Int) k++q))(hk:k<=7:=by decide)(hs:at_+k<=stop:=by omega)(hm:m<256^k:=by omega):o82 (k:Int) (rdr p at_ stop)=some ((m:Int),rdr p (at_+k) stop):=by refine(YM h (Bi m k) (by omega) hs).trans ?_;have e:=ID (m:Int) k k [] (Nat.le_refl _) (by omega);rw[List.append_nil]at e;rw[RE _ _ hk,e,Int.emod_eq_of_lt (by omega) (by exact_mod_cast hm)]
theorem Ei{s:Bt}(h:Ahead p at_ stop (txB s++q))(hs:at_+(s.length+1)<=stop)(hl:s.length<=255):o83 (rdr p at_ stop)=some (s,rdr p (at_+(s.length+1)) stop):=by
 have hw:aO .u8 ((s.length:Nat):Int)=((s.length:Nat):Int):=by rw[IntKind.wrap_u8];omega
 have hb:(((u8 ((s.length:Nat):Int)).toNat:Nat):Int)=((s.length:Nat):Int):=KI (by omega);unfold txB at h;rw[hw]at h;have h1:Ahead p at_ stop (u8 ((s.length:Nat):Int)::(s++q)):=h;unfold o83;refine(bdS (YL h1 (by omega))).trans ?_;dsimp only;rw[hb,Ac];have h2:Ahead p (at_+1) stop (s++q):=Ahead.next (c:=[u8 ((s.length:Nat):Int)]) h1;refine(bdS (Nz h2 rfl)).trans ?_;rw[show at_+1+s.length=at_+(s.length+1) by omega]
def u8R(x:Int):Prop:=0<=x/\x<=255
theorem Ace(s:Bt):(txB s).length=s.length+1:=by simp[txB]
section
theorem Ahead.tx{s:Bt}(h:Ahead p at_ stop (txB s++q)):Ahead p (at_+(s.length+1)) stop q:=by have:=h.next;rwa [Ace]at this
theorem Ahead.n8{k:Nat}(h:Ahead p at_ stop (putB m k++q)):Ahead p (at_+k) stop q:=by have:=h.next;rwa [Bi]at this
theorem Ahead.by1(h:Ahead p at_ stop (b::q)):Ahead p (at_+1) stop q:=Ahead.next (c:=[b]) h
theorem FC{x:Int}(hx:u8R x)(h:Ahead p at_ stop (u8 x::q))(hs:at_+1<=stop:=by omega):o81 (rdr p at_ stop)=some (x,rdr p (at_+1) stop):=by rw[YL h hs,KI hx]
def okF(f:Be):Prop:=f.1.length<=255/\f.2.1.length<=255/\u8R f.2.2.1/\Dp f.2.2.2.1.1/\Dp f.2.2.2.1.2/\Dp f.2.2.2.2.1/\Dp f.2.2.2.2.2
theorem Aew (hf:okF f) (h:Ahead p at_ stop (fxB f++q)) (hs:at_+(fxB f).length<=stop) :
  o86 (rdr p at_ stop)=some (((f.1,f.2.1,f.2.2.1),(f.2.2.2.1.1,f.2.2.2.1.2),f.2.2.2.2.1,f.2.2.2.2.2),rdr p (at_+(fxB f).length) stop):=by
 obtain⟨a,b,k,⟨n1,n2⟩,n3,n4⟩:=f;obtain⟨f1,f2,f3,f4,f5,f6,f7⟩:=hf;rw[Jw]at hs⊢;dsimp only at*;have e:fxB (a,b,k,(n1,n2),n3,n4)++q=txB a++(txB b++(u8 k::(putB n1 8++(putB n2 8++(putB n3 8++(putB n4 8++q)))))):=by simp[fxB,txsB,nsB]
 rw[e]at h;unfold o86;refine(bdS (Ei h (by omega) f1)).trans ?_;have h:=h.tx;refine(bdS (Ei h (by omega) f2)).trans ?_;have h:=h.tx;refine(bdS (FC f3 h)).trans ?_;have h:=h.by1;refine(bdS (BH h (by omega) f4)).trans ?_;have h:=h.n8;refine(bdS (BH h (by omega) f5)).trans ?_;have h:=h.n8;refine(bdS (BH h (by omega) f6)).trans ?_;have h:=h.n8;refine(bdS (BH h (by omega) f7)).trans ?_;dsimp only;rw[show at_+(a.length+1)+(b.length+1)+1+8+8+8+8=at_+(35+a.length+b.length) by omega]
def okP(f:Pt_):Prop:=f.1.length<=255/\Dp f.2.1.1/\Dp f.2.1.2/\u8R f.2.2
theorem Acf {f:Pt_} (hf:okP f) (h:Ahead p at_ stop (ptB f++q)) (hs:at_+(ptB f).length<=stop) :
  o149 (rdr p at_ stop)=some (((f.1,f.2.1.1),f.2.1.2,f.2.2),rdr p (at_+(ptB f).length) stop):=by
 obtain⟨a,⟨n1,n2⟩,k⟩:=f;obtain⟨f1,f2,f3,f4⟩:=hf;rw[Jx]at hs⊢;dsimp only at*;have e:ptB (a,(n1,n2),k)++q=txB a++(putB n1 8++(putB n2 8++(u8 k::q))):=by simp[ptB,txsB,nsB]
 rw[e]at h;unfold o149;refine(bdS (Ei h (by omega) f1)).trans ?_;have h:=h.tx;refine(bdS (BH h (by omega) f2)).trans ?_;have h:=h.n8;refine(bdS (BH h (by omega) f3)).trans ?_;have h:=h.n8;refine(bdS (FC f4 h)).trans ?_;dsimp only;rw[show at_+(a.length+1)+8+8+1=at_+(18+a.length) by omega]
def okL(l:Bw):Prop:=u8R l.1/\l.2.1.length<=255/\l.2.2.1.length<=255/\u8R l.2.2.2.1/\Dp l.2.2.2.2.2.1/\Dp l.2.2.2.2.2.2.1/\Dp l.2.2.2.2.2.2.2.1/\Dp l.2.2.2.2.2.2.2.2.1/\Dp l.2.2.2.2.2.2.2.2.2.1.1/\Dp l.2.2.2.2.2.2.2.2.2.1.2/\Dp l.2.2.2.2.2.2.2.2.2.2.1/\Dp l.2.2.2.2.2.2.2.2.2.2.2
theorem Acg {l:Bw} (hf:okL l) (h:Ahead p at_ stop (lgB l++q)) (hs:at_+(lgB l).length<=stop) :
  o202 (rdr p at_ stop)=some ((((l.1,l.2.1,l.2.2.1),l.2.2.2.1,l.2.2.2.2.1,l.2.2.2.2.2.1),(l.2.2.2.2.2.2.1,l.2.2.2.2.2.2.2.1,l.2.2.2.2.2.2.2.2.1),l.2.2.2.2.2.2.2.2.2),rdr p (at_+(lgB l).length) stop):=by
 obtain⟨t,fx,ce,tu,ov,co,di,ra,th,⟨lo,hi⟩,sp,rn⟩:=l;obtain⟨f1,f2,f3,f4,f5,f6,f7,f8,f9,f10,f11,f12⟩:=hf;rw[Jv]at hs⊢;dsimp only at*;have e:lgB (t,fx,ce,tu,ov,co,di,ra,th,(lo,hi),sp,rn)++q=u8 t::(txB fx++(txB ce++(u8 tu::(u8 (cond ov 1 0)::(putB co 8++(putB di 8++(putB ra 8++(putB th 8++(putB lo 8++(putB hi 8++(putB sp 8++(putB rn 8++q)))))))))))):=by simp[lgB,txsB,nsB]
 rw[e]at h;unfold o202;refine(bdS (FC f1 h)).trans ?_;have h:=h.by1;refine(bdS (Ei h (by omega) f2)).trans ?_;have h:=h.tx;refine(bdS (Ei h (by omega) f3)).trans ?_;have h:=h.tx;refine(bdS (FC f4 h)).trans ?_;have h:=h.by1;have fo:u8R (cond ov (1:Int) 0):=by cases ov<;>exact⟨by decide,by decide⟩
 refine(bdS (FC fo h)).trans ?_;have h:=h.by1;have hc:decide ((cond ov (1:Int) 0)>(1:Int))=false:=by cases ov<;>rfl
 dsimp only;rw[hc,cndF rfl,bdI];dsimp only;refine(bdS (BH h (by omega) f5)).trans ?_;have h:=h.n8;refine(bdS (BH h (by omega) f6)).trans ?_;have h:=h.n8;refine(bdS (BH h (by omega) f7)).trans ?_;have h:=h.n8;refine(bdS (BH h (by omega) f8)).trans ?_;have h:=h.n8;refine(bdS (BH h (by omega) f9)).trans ?_;have h:=h.n8;refine(bdS (BH h (by omega) f10)).trans ?_;have h:=h.n8;refine(bdS (BH h (by omega) f11)).trans ?_;have h:=h.n8;refine(bdS (BH h (by omega) f12)).trans ?_;dsimp only;have hov:((cond ov (1:Int) 0)==(1:Int))=ov:=by cases ov<;>rfl
 rw[hov,show at_+1+(fx.length+1)+(ce.length+1)+1+1+8+8+8+8+8+8+8+8=at_+(69+fx.length+ce.length) by omega]
end
end Go.Proofs.YtpglaekodahcoaaGreatDoor
