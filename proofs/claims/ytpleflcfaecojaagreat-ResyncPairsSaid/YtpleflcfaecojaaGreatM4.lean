/-
The third engine, part 9: what a state looks like (shapes), a state read as data and made out of data. Conditions: each lemma's own.
-/
import Derived.Test.YtpleflcfaecojaaGreatM3
namespace Go.Proofs.YtpleflcfaecojaaGreat
set_option linter.unusedVariables false
set_option linter.unusedSimpArgs false
open Go.RowKit
inductive Sh where
 | i (k:IntKind)
 | b
 | s
 | cst (v:Value)
 | ic (k:IntKind) (z:Int)
 | ptr (j off:Nat)
 | own (j:Nat)
 | ro (c:Cd) (m:Bool)
 | el (c:Cd) (off:Nat)
 | fn (f:FuncId)
 | cap (f c:Sh)
 | ifc (t:TypeId) (c:Sh)
inductive Sh1 where
 | c (x:Sh)
 | agg (l:List Sh)
inductive SSh where
 | v (x:Sh1)
 | tup (l:List Sh1)
inductive BSh where
 | no
 | cells (t:TypeId) (l:List Sh)
 | row (c:Cd) (et:TypeId)
 | lent (l:List Sh)
structure Sch where
 sl:List (Nat×SSh)
 bl:List BSh
structure DV where
 c:Cd
 x:c.den
inductive LT where
 | o
 | l (c:Cd)
 | p (a b:LT)
def HT:LT→Type
 | .o=>Unit
 | .l c=>c.den
 | .p a b=>HT a×HT b
def unT:(t:LT)→HT t→List DV→List DV
 | .o,_,r=>r
 | .l c,x,r=>⟨c,x⟩::r
 | .p a b,x,r=>unT a x.1 (unT b x.2 r)
def pkT:(t:LT)→List DV→Option (HT t×List DV)
 | .o,r=>some ((),r)
 | .l c,v::r=>match v.c.same c with | some h=>some ((h.down ▸ v.x:c.den),r) | none=>none
 | .l _,[]=>none
 | .p a b,r=>match pkT a r with | some (x,r1)=>(match pkT b r1 with | some (y,r2)=>some ((x,y),r2) | none=>none) | none=>none
theorem Ss:∀ (t:LT) {vs r:List DV} {x:HT t},pkT t vs=some (x,r)→unT t x r=vs
 | .o,vs,r,x,h=>(congrArg Prod.snd (Option.some.inj h)).symm
 | .l c,⟨e,y⟩::vs,r,x,h=>by
  unfold pkT at h
  split at h
  ·rename_i hk _;obtain ⟨hk⟩:=hk
   have hk:e=c:=hk
   subst hk
   have h1:y=x:=congrArg Prod.fst (Option.some.inj h)
   have h2:vs=r:=congrArg Prod.snd (Option.some.inj h)
   subst h1;subst h2;rfl
  ·cases h
 | .l c,[],r,x,h=>by cases h
 | .p a b,vs,r,x,h=>by
  unfold pkT at h
  split at h
  ·rename_i x1 r1 h1
   split at h
   ·rename_i y r2 h2
    have h3:(x1,y)=x:=congrArg Prod.fst (Option.some.inj h)
    have h4:r2=r:=congrArg Prod.snd (Option.some.inj h)
    subst h3;subst h4
    show unT a x1 (unT b y _)=_
    rw [Ss b h2,Ss a h1]
   ·cases h
  ·cases h
def unpack (t:LT) (x:HT t):List DV:=unT t x []
def pack (t:LT) (ds:List DV):Option (HT t):=match pkT t ds with | some (x,[])=>some x | _=>none
theorem Ms (t:LT) {vs:List DV} {x:HT t} (h:pack t vs=some x):unpack t x=vs:=by
 unfold pack at h
 split at h
 ·rename_i y e
  injection h with h;subst h
  exact Ss t e
 ·cases h
def rgt:List LT→LT
 | []=> .o
 | [t]=>t
 | t::u::l=> .p t (rgt (u::l))
def bal:Nat→List LT→LT
 | 0,l=>rgt l
 | n+1,l=>match l with
  | []=> .o
  | [t]=>t
  | t::u::r=> .p (bal n ((t::u::r).take ((t::u::r).length / 2))) (bal n ((t::u::r).drop ((t::u::r).length / 2)))
def Sh.lv:Sh→List Cd
 | .i k=>[.i k]
 | .b=>[.b]
 | .s=>[.s]
 | .ro c _=>[.a c]
 | .el c _=>[c]
 | .cap f c=>f.lv++c.lv
 | .ifc _ c=>c.lv
 | _=>[]
def shL:List Sh→List Cd
 | []=>[]
 | x::l=>x.lv++shL l
def Sh1.lv:Sh1→List Cd
 | .c x=>x.lv
 | .agg l=>shL l
def AlM:List Sh1→List Cd
 | []=>[]
 | x::l=>x.lv++AlM l
def SSh.lv:SSh→List Cd
 | .v x=>x.lv
 | .tup l=>AlM l
def BSh.lv:BSh→List Cd
 | .no=>[]
 | .cells _ l=>shL l
 | .row c _=>[.a c]
 | .lent l=>shL l
def grp (l:List Cd):LT:=bal 8 (l.map .l)
def putG:LT→List LT→List LT
 | .o,l=>l
 | t,l=>t::l
def slG:List (Nat×SSh)→List LT→List LT
 | [],r=>r
 | (_,x)::l,r=>putG (grp x.lv) (slG l r)
def blG:List BSh→List LT
 | []=>[]
 | x::l=>putG (grp x.lv) (blG l)
def Sch.tr (s:Sch):LT:=bal 8 (slG s.sl (blG s.bl))
abbrev Con (α:Type):=List DV→Option (α×List DV)
def conC (rn:Nat→Nat):Sh→Con CV
 | .i k,⟨c,x⟩::r=>match c.same (.i k) with | some h=>some (.int k (h.down ▸ x:Cd.den (.i k)),r) | none=>none
 | .b,⟨c,x⟩::r=>match c.same .b with | some h=>some (.bool (h.down ▸ x:Cd.den .b),r) | none=>none
 | .s,⟨c,x⟩::r=>match c.same .s with | some h=>some (.str (h.down ▸ x:Cd.den .s),r) | none=>none
 | .cst v,r=>some (.k v,r)
 | .ic k z,r=>some (.int k z,r)
 | .ptr j off,r=>some (.ptr (rn j) off,r)
 | .own j,r=>some (.own (rn j),r)
 | .ro d m,⟨c,x⟩::r=>match c.same (.a d) with | some h=>some (.ro d (h.down ▸ x:Cd.den (.a d)) m,r) | none=>none
 | .el d off,⟨c,x⟩::r=>match c.same d with | some h=>some (.el d (h.down ▸ x:Cd.den d) off,r) | none=>none
 | .fn f,r=>some (.fn f,r)
 | .cap f c,r=>match conC rn f r with | some (a,r1)=>(match conC rn c r1 with | some (b,r2)=>some (.cap a b,r2) | none=>none) | none=>none
 | .ifc t c,r=>match conC rn c r with | some (a,r1)=>some (.ifc t a,r1) | none=>none
 | .i _,[]=>none
 | .b,[]=>none
 | .s,[]=>none
 | .ro _ _,[]=>none
 | .el _ _,[]=>none
def conL {α β:Type} (one:α→Con β):List α→Con (List β)
 | [],r=>some ([],r)
 | x::l,r=>match one x r with | some (a,r1)=>(match conL one l r1 with | some (m,r2)=>some (a::m,r2) | none=>none) | none=>none
def XR (rn:Nat→Nat):Sh1→Con V1
 | .c x,r=>match conC rn x r with | some (a,r1)=>some (.c a,r1) | none=>none
 | .agg l,r=>match conL (conC rn) l r with | some (a,r1)=>some (.agg a,r1) | none=>none
def conS (rn:Nat→Nat):SSh→Con SV
 | .v x,r=>match XR rn x r with | some (a,r1)=>some (.v a,r1) | none=>none
 | .tup l,r=>match conL (XR rn) l r with | some (a,r1)=>some (.tup a,r1) | none=>none
def conB (rn:Nat→Nat):BSh→Con BV
 | .no,r=>some (.no,r)
 | .cells t l,r=>match conL (conC rn) l r with | some (a,r1)=>some (.cells t a,r1) | none=>none
 | .row d et,⟨c,x⟩::r=>match c.same (.a d) with | some h=>some (.row d et (h.down ▸ x:Cd.den (.a d)),r) | none=>none
 | .row _ _,[]=>none
 | .lent l,r=>match conL (conC rn) l r with | some (a,r1)=>some (.lent a,r1) | none=>none
def conSl (rn:Nat→Nat) (p:Nat×SSh):Con (Nat×SV):=fun r=>match conS rn p.2 r with | some (a,r1)=>some ((p.1,a),r1) | none=>none
def conSt (rn:Nat→Nat) (s:Sch) (ds:List DV):Option HSt:=match conL (conSl rn) s.sl ds with
 | some (a,r)=>(match conL (conB rn) s.bl r with
  | some (b,[])=>some ⟨a,b⟩
  | _=>none)
 | none=>none
structure AS where
 σ:List (Option Nat)
 bl:List BV
 ds:List DV
 lt:List Nat
 fl:List Nat
def sameCv:Value→Value→Bool
 | .pointer none,.pointer none=>true
 | .slice none 0 0,.slice none 0 0=>true
 | .nilFunc,.nilFunc=>true
 | .map none,.map none=>true
 | .nilIface,.nilIface=>true
 | _,_=>false
theorem Id {u v:Value} (h:sameCv u v=true):u=v:=by
 unfold sameCv at h
 split at h <;> first | rfl | cases h
def eqZ:Int→Int→Bool
 | .ofNat a,.ofNat b=>Nat.beq a b
 | .negSucc a,.negSucc b=>Nat.beq a b
 | _,_=>false
theorem AiV {x z:Int} (h:eqZ x z=true):x=z:=by
 unfold eqZ at h
 split at h
 ·rw [Nat.eq_of_beq_eq_true h]
 ·rw [Nat.eq_of_beq_eq_true h]
 ·cases h
def AS.put (s:AS) (d:DV):AS:=⟨s.σ,s.bl,s.ds++[d],s.lt,s.fl⟩
def AS.asg (s:AS) (j b:Nat):Option AS:=match s.σ[j]? with
 | some none=>some ⟨s.σ.set j (some b),s.bl,s.ds,s.lt,s.fl⟩
 | some (some b')=>cond (Nat.beq b b') (some s) none
 | none=>none
def AS.rowAt (s:AS) (ln m:Bool) (c:Cd) (b:Nat):Option AS:=match s.bl[b]? with
 | some (.row d _ xs)=>(match d.same c with
  | some h=>(match m,ln with
   | true,_=>some ⟨s.σ,s.bl.set b (.fz d xs),s.ds++[⟨.a c,(h.down ▸ xs:List c.den)⟩],s.lt,b::s.fl⟩
   | false,true=>some ⟨s.σ,s.bl,s.ds++[⟨.a c,(h.down ▸ xs:List c.den)⟩],b::s.lt,s.fl⟩
   | false,false=>none)
  | none=>none)
 | some (.fz d xs)=>(match d.same c with | some h=>some (s.put ⟨.a c,(h.down ▸ xs:List c.den)⟩) | none=>none)
 | _=>none
def AS.rowV (s:AS) (ln m:Bool) (c:Cd) (b l h:Nat):Option AS:=match s.bl[b]? with
 | some (.row d _ xs)=>(match d.same c with
  | some e=>(match m,ln with
   | true,_=>some ⟨s.σ,s.bl.set b (.fz d xs),s.ds++[⟨.a c,((e.down ▸ xs:List c.den).drop l).take (h - l)⟩],s.lt,b::s.fl⟩
   | false,true=>some ⟨s.σ,s.bl,s.ds++[⟨.a c,((e.down ▸ xs:List c.den).drop l).take (h - l)⟩],b::s.lt,s.fl⟩
   | false,false=>none)
  | none=>none)
 | some (.fz d xs)=>(match d.same c with | some e=>some (s.put ⟨.a c,((e.down ▸ xs:List c.den).drop l).take (h - l)⟩) | none=>none)
 | _=>none
def absC (ln:Bool) (bs:List BSh):Sh→CV→AS→Option AS
 | .i k,.int j x,s=>match sameK j k with | some _=>some (s.put ⟨.i k,x⟩) | none=>none
 | .b,.bool x,s=>some (s.put ⟨.b,x⟩)
 | .s,.str x,s=>some (s.put ⟨.s,x⟩)
 | .cst v,.k u,s=>cond (sameCv v u) (some s) none
 | .ic k z,.int j x,s=>match sameK j k with | some _=>cond (eqZ x z) (some s) none | none=>none
 | .ptr j off,.ptr b o,s=>cond (Nat.beq off o) (s.asg j b) none
 | .own j,.own b,s=>s.asg j b
 | .own j,.k u,s=>match sameCv u (.slice none 0 0),ln,bs[j]?,s.σ[j]? with
  | true,false,some (.row c et),some none=>some ⟨s.σ.set j (some s.bl.length),s.bl++[.row c et []],s.ds,s.lt,s.bl.length::s.fl⟩
  | _,_,_,_=>none
 | .ro c m,.ro d xs m',s=>match d.same c,(m&&!m') with | some h,false=>some (s.put ⟨.a c,(h.down ▸ xs:List c.den)⟩) | _,_=>none
 | .ro c m,.own b,s=>s.rowAt ln m c b
 | .ro c m,.vw b d l h,s=>match d.same c with | some _=>s.rowV ln m c b l h | none=>none
 | .ro c m,.k u,s=>cond (sameCv u (.slice none 0 0)) (some (s.put ⟨.a c,([]:List c.den)⟩)) none
 | .el c off,.el d x o,s=>match d.same c,Nat.beq off o with | some h,true=>some (s.put ⟨c,(h.down ▸ x:c.den)⟩) | _,_=>none
 | .fn f,.fn g,s=>cond (Nat.beq f g) (some s) none
 | .cap f c,.cap g d,s=>match absC ln bs f g s with | some s1=>absC ln bs c d s1 | none=>none
 | .ifc t c,.ifc u d,s=>cond (Nat.beq t u) (absC ln bs c d s) none
 | _,_,_=>none
def absL {α β:Type} (one:α→β→AS→Option AS):List α→List β→AS→Option AS
 | [],[],s=>some s
 | x::l,y::m,s=>match one x y s with | some s1=>absL one l m s1 | none=>none
 | _,_,_=>none
def AiW (ln:Bool) (bs:List BSh):Sh1→V1→AS→Option AS
 | .c x,.c y,s=>absC ln bs x y s
 | .agg l,.agg m,s=>absL (absC ln bs) l m s
 | _,_,_=>none
def absS (ln:Bool) (bs:List BSh):SSh→SV→AS→Option AS
 | .v x,.v y,s=>AiW ln bs x y s
 | .tup l,.tup m,s=>absL (AiW ln bs) l m s
 | _,_,_=>none
def absB (ln:Bool) (bs:List BSh) (b:BSh) (id:Option Nat) (s:AS):Option AS:=match b,id with
 | .no,_=>some s
 | .cells t l,some i=>(match s.bl[i]? with
  | some (.cells t' m)=>cond (Nat.beq t t') (absL (absC ln bs) l m s) none
  | _=>none)
 | .row c et,some i=>(match s.bl[i]? with
  | some (.row d et' xs)=>(match d.same c,Nat.beq et et' with | some h,true=>some (s.put ⟨.a c,(h.down ▸ xs:List c.den)⟩) | _,_=>none)
  | _=>none)
 | .lent l,some i=>(match s.bl[i]? with
  | some (.lent m)=>absL (absC ln bs) l m s
  | some (.cells _ m)=>cond ln (absL (absC ln bs) l m ⟨s.σ,s.bl,s.ds,i::s.lt,s.fl⟩) none
  | _=>none)
 | _,none=>none
def absBs (ln:Bool) (bs:List BSh):Nat→List BSh→AS→Option AS
 | _,[],s=>some s
 | j,b::l,s=>match absB ln bs b (match s.σ[j]? with | some x=>x | none=>none) s with | some s1=>absBs ln bs (j+1) l s1 | none=>none
def absSl (ln:Bool) (bs:List BSh) (sl:List (Nat×SV)):List (Nat×SSh)→AS→Option AS
 | [],s=>some s
 | (t,x)::l,s=>match getH sl t with
  | some y=>(match absS ln bs x y s with | some s1=>absSl ln bs sl l s1 | none=>none)
  | none=>none
def nones:Nat→List (Option Nat)
 | 0=>[]
 | m+1=>none::nones m
def absSt (ln:Bool) (sc:Sch) (σ0:List (Option Nat)) (st:HSt):Option AS:=match absSl ln sc.bl st.sl sc.sl ⟨σ0,st.bl,[],[],[]⟩ with
 | some s=>absBs ln sc.bl 0 sc.bl s
 | none=>none
inductive StepsTo:List BV→List BV→Prop where
 | refl {l:List BV}:StepsTo l l
 | frz {l l2:List BV} {b:Nat} {c:Cd} {et:TypeId} {xs:List c.den} (h:l[b]? = some (.row c et xs)) (k:StepsTo (l.set b (.fz c xs)) l2):StepsTo l l2
 | nil {l l2:List BV} {c:Cd} {et:TypeId} (k:StepsTo (l++[.row c et []]) l2):StepsTo l l2
theorem StepsTo.trans {a b c:List BV} (h:StepsTo a b) (k:StepsTo b c):StepsTo a c:=by
 induction h with
 | refl=>exact k
 | frz h _ ih=>exact .frz h (ih k)
 | nil _ ih=>exact .nil (ih k)
def Grow (a b:List BV):Prop:=∀ (i:Nat) (bv:BV),a[i]? = some bv→b[i]? = some bv∨∃ c et xs,bv = .row c et xs∧b[i]? = some (.fz c xs)
theorem Grow.refl {a:List BV}:Grow a a:=fun i bv h=> .inl h
theorem Grow.trans {a b c:List BV} (h:Grow a b) (k:Grow b c):Grow a c:=fun i bv e=>by
 rcases h i bv e with e1 | ⟨d,et,xs,rfl,e1⟩
 ·exact k i bv e1
 ·rcases k i _ e1 with e2 | ⟨_,_,_,e2,_⟩
  ·exact .inr ⟨d,et,xs,rfl,e2⟩
  ·cases e2
theorem StepsTo.grow {a b:List BV} (h:StepsTo a b):Grow a b:=by
 induction h with
 | refl=>exact .refl
 | @frz l l2 b c et xs h _ ih =>
  refine Grow.trans (fun i bv e=>?_) ih
  by_cases e2:b=i
  ·subst e2
   rw [h] at e;injection e with e;subst e
   exact .inr ⟨c,et,xs,rfl,by simp [List.getElem?_set,AU h]⟩
  ·exact .inl (by rw [Dv e2];exact e)
 | nil _ ih=>exact Grow.trans (fun i bv e=> .inl (by rw [List.getElem?_append_left (AU e)];exact e)) ih
theorem StepsTo.length {a b:List BV} (h:StepsTo a b):a.length≤b.length:=by
 induction h with
 | refl=>exact Nat.le_refl _
 | frz _ _ ih=>rwa [List.length_set] at ih
 | nil _ ih=>rw [List.length_append] at ih;exact Nat.le_trans (Nat.le_add_right _ _) ih
theorem Grow.len {a b:List BV} (h:Grow a b) {i:Nat} {bv:BV} (e:a[i]? = some bv):∃ bv',b[i]? = some bv'∧bv'.len=bv.len∧bv'.isHole=bv.isHole:=by
 rcases h i bv e with e1 | ⟨c,et,xs,rfl,e1⟩
 ·exact ⟨_,e1,rfl,rfl⟩
 ·exact ⟨_,e1,rfl,rfl⟩
section
variable {P:Program} {n:Nat} {sl:List (Nat×SV)} {bl bl2:List BV} {g:Gh} {ρ:Env} {own:Own} {fr:Sl}
theorem St.addNone {w:World} (h:St w g own):St w g (own++[none]):=h.fewer (by
 rw [show Own.ids (own++[none])=Own.ids own by simp [Own.ids]];exact h.nodup) fun k hk=>by simpa using hk
theorem StepsTo.do_ {w:World} (h:StepsTo bl bl2):∀ {g:Gh} {ρ:Env} {own:Own},Rl g ρ ⟨sl,bl⟩ own fr→St w g own →
  ∃ g' ρ' own',g.le g'∧St w g' own'∧Ext ρ bl ρ' bl2∧Rl g' ρ' ⟨sl,bl2⟩ own' fr∧(∀ b,b < bl.length→ρ' b=ρ b)∧(∀ b,bl.length≤b→b < bl2.length→ρ' b=(none,0)):=by
 induction h with
 | refl=>exact fun hr hs=>⟨_,_,_,.refl _,hs,.refl,hr,fun b _=>rfl,fun b h1 h2=>absurd h2 (by omega)⟩
 | @frz bl bl2 b c et xs hb _ ih =>
  intro g ρ own hr hs
  obtain ⟨g1,own1,hg,hs1,hx,hr1⟩:=(FrzTo.step hb .refl).do_ (w:=w) hr hs
  obtain ⟨g2,ρ2,own2,h1,h2,h3,h4,h5,h6⟩:=ih hr1 hs1
  rw [List.length_set] at h5 h6
  exact ⟨g2,ρ2,own2,hg.trans h1,h2,hx.trans h3,h4,h5,h6⟩
 | @nil bl bl2 c et hk ih =>
  intro g ρ own hr hs
  have hx:Ext ρ bl (setρ ρ bl.length (none,0)) (bl++[.row c et []]):=fun b bv e h2=>by
   have hlt:=AU e
   exact ⟨FW (by omega),bv,by rw [List.getElem?_append_left hlt];exact e,h2,fun m h=>h⟩
  have hr1:Rl g (setρ ρ bl.length (none,0)) ⟨sl,bl++[.row c et []]⟩ (own++[none]) fr:=by
   refine hr.turn (.refl g) hx (by simp [hr.len]) fun i bv k h1 h2=>?_
   have hl:=hr.len
   rcases Nat.lt_or_ge i bl.length with hi | hi
   ·rw [List.getElem?_append_left hi] at h1
    rw [List.getElem?_append_left (by simpa [hl] using hi)] at h2
    rw [FW (by omega)]
    exact (hr.blk i bv k h1 h2).ext (.refl g) hx
   ·have hi2:=AU h1
    simp at hi2
    have:i=bl.length:=by omega
    subst this
    simp at h1
    subst h1
    have hl:own.length=bl.length:=hl
    rw [← hl] at h2
    simp at h2
    subst h2
    rw [Dc]
    exact Buf.nil
  obtain ⟨g2,ρ2,own2,h1,h2,h3,h4,h5,h6⟩:=ih hr1 hs.addNone
  have h7:=hk.length
  simp only [List.length_append,List.length_singleton] at h5 h6 h7
  refine ⟨g2,ρ2,own2,h1,h2,hx.trans h3,h4,fun b hb=>by rw [h5 b (by omega),FW (by omega)],fun b hb1 hb2=>?_⟩
  rcases Nat.lt_or_ge bl.length b with hb3 | hb3
  ·exact h6 b (by omega) hb2
  ·have:b=bl.length:=by omega
   subst this
   rw [h5 _ (by omega),Dc]
end
inductive SimC (L:List Nat) (n0:Nat) (σ:List (Option Nat)) (bl:List BV):CV→CV→Prop where
 | int {k:IntKind} {x:Int}:SimC L n0 σ bl (.int k x) (.int k x)
 | bool {b:Bool}:SimC L n0 σ bl (.bool b) (.bool b)
 | str {l:List UInt8}:SimC L n0 σ bl (.str l) (.str l)
 | k {v:Value}:SimC L n0 σ bl (.k v) (.k v)
 | el {c:Cd} {x:c.den} {off:Nat}:SimC L n0 σ bl (.el c x off) (.el c x off)
 | fn {f:FuncId}:SimC L n0 σ bl (.fn f) (.fn f)
 | ro {c:Cd} {xs:List c.den} {m m':Bool} (h:m=true→m'=true):SimC L n0 σ bl (.ro c xs m') (.ro c xs m)
 | ptr {j b off:Nat} (h:σ[j]? = some (some b)):SimC L n0 σ bl (.ptr b off) (.ptr j off)
 | own {j b:Nat} (h:σ[j]? = some (some b)):SimC L n0 σ bl (.own b) (.own j)
 | nilown {j b:Nat} {bv:BV} (h:σ[j]? = some (some b)) (hb:bl[b]? = some bv) (hl:bv.len=some 0) (hn:n0≤b):SimC L n0 σ bl (.k (.slice none 0 0)) (.own j)
 | fz {b:Nat} {c:Cd} {xs:List c.den} {m:Bool} (hb:bl[b]? = some (.fz c xs)):SimC L n0 σ bl (.own b) (.ro c xs m)
 | lend {b:Nat} {c:Cd} {et:TypeId} {xs:List c.den} (hl:b∈L) (hb:bl[b]? = some (.row c et xs)):SimC L n0 σ bl (.own b) (.ro c xs false)
 | fzv {b l h:Nat} {c:Cd} {xs:List c.den} {m:Bool} (hb:bl[b]? = some (.fz c xs)):SimC L n0 σ bl (.vw b c l h) (.ro c ((xs.drop l).take (h - l)) m)
 | lendv {b l h:Nat} {c:Cd} {et:TypeId} {xs:List c.den} (hl:b∈L) (hb:bl[b]? = some (.row c et xs)):SimC L n0 σ bl (.vw b c l h) (.ro c ((xs.drop l).take (h - l)) false)
 | nilro {c:Cd} {m:Bool}:SimC L n0 σ bl (.k (.slice none 0 0)) (.ro c [] m)
 | cap {f f' c c':CV} (h1:SimC L n0 σ bl f f') (h2:SimC L n0 σ bl c c'):SimC L n0 σ bl (.cap f c) (.cap f' c')
 | ifc {t:TypeId} {c c':CV} (h:SimC L n0 σ bl c c'):SimC L n0 σ bl (.ifc t c) (.ifc t c')
def SigLe (σ τ:List (Option Nat)):Prop:=∀ (j b:Nat),σ[j]? = some (some b)→τ[j]? = some (some b)
theorem SigLe.trans {a b c:List (Option Nat)} (h:SigLe a b) (k:SigLe b c):SigLe a c:=fun j x e=>k j x (h j x e)
theorem SigLe.refl {a:List (Option Nat)}:SigLe a a:=fun _ _ h=>h
theorem SimC.mono {L L2:List Nat} {n0:Nat} {σ τ:List (Option Nat)} {bl bl2:List BV} (h0:∀ b∈L,b∈L2) (h1:SigLe σ τ) (h2:Grow bl bl2) {x y:CV} (h:SimC L n0 σ bl x y):SimC L2 n0 τ bl2 x y:=by
 induction h with
 | int=>exact .int
 | bool=>exact .bool
 | str=>exact .str
 | k=>exact .k
 | el=>exact .el
 | fn=>exact .fn
 | ro h=>exact .ro h
 | ptr h=>exact .ptr (h1 _ _ h)
 | own h=>exact .own (h1 _ _ h)
 | nilown h hb hl hn =>
  obtain ⟨bv',e1,e2,_⟩:=h2.len hb
  exact .nilown (h1 _ _ h) e1 (e2.trans hl) hn
 | fz hb =>
  rcases h2 _ _ hb with e | ⟨_,_,_,e,_⟩
  ·exact .fz e
  ·cases e
 | lend hl hb =>
  rcases h2 _ _ hb with e | ⟨_,_,_,e,e2⟩
  ·exact .lend (h0 _ hl) e
  ·injection e with e3 e4 e5
   subst e3
   have e5:=eq_of_heq e5
   subst e5
   exact .fz e2
 | fzv hb =>
  rcases h2 _ _ hb with e | ⟨_,_,_,e,_⟩
  ·exact .fzv e
  ·cases e
 | lendv hl hb =>
  rcases h2 _ _ hb with e | ⟨_,_,_,e,e2⟩
  ·exact .lendv (h0 _ hl) e
  ·injection e with e3 e4 e5
   subst e3
   have e5:=eq_of_heq e5
   subst e5
   exact .fzv e2
 | nilro=>exact .nilro
 | cap _ _ ih1 ih2=>exact .cap ih1 ih2
 | ifc _ ih=>exact .ifc ih
structure AsOk (ln:Bool) (n0:Nat) (s s':AS):Prop where
 st:StepsTo s.bl s'.bl
 sg:SigLe s.σ s'.σ
 lt:∀ b∈s.lt,b∈s'.lt
 fl:∃ l,s'.fl=l++s.fl∧(l=[]→s'.bl=s.bl)
theorem AsOk.refl {ln:Bool} {n0:Nat} {s:AS}:AsOk ln n0 s s:=⟨.refl,.refl,fun _ h=>h,[],rfl,fun _=>rfl⟩
theorem AsOk.trans {ln:Bool} {n0:Nat} {a b c:AS} (h:AsOk ln n0 a b) (k:AsOk ln n0 b c):AsOk ln n0 a c:=⟨h.st.trans k.st,h.sg.trans k.sg,fun b hb=>k.lt b (h.lt b hb),by
 obtain ⟨l,e1,e2⟩:=h.fl
 obtain ⟨m,e3,e4⟩:=k.fl
 refine ⟨m++l,by rw [e3,e1,List.append_assoc],fun e=>?_⟩
 have e:=List.append_eq_nil_iff.1 e
 rw [e4 e.1,e2 e.2]⟩
theorem XS {ln:Bool} {n0:Nat} {s s':AS} {j b:Nat} (h:s.asg j b=some s'):AsOk ln n0 s s'∧s'.ds=s.ds∧s'.σ[j]? = some (some b)∧s'.bl=s.bl:=by
 unfold AS.asg at h
 split at h
 ·rename_i e
  injection h with h;subst h
  have hlt:=AU e
  refine ⟨⟨.refl,fun i x hx=>?_,fun _ h=>h,[],rfl,fun _=>rfl⟩,rfl,by simp [List.getElem?_set,hlt],rfl⟩
  show (s.σ.set j (some b))[i]? = _
  by_cases hij:j=i
  ·subst hij;rw [e] at hx;cases hx
  ·rw [Dv hij];exact hx
 ·rename_i b' e
  cases hb:Nat.beq b b' with
  | false=>rw [hb] at h;cases h
  | true =>
   rw [hb] at h
   injection h with h;subst h
   have:=Nat.eq_of_beq_eq_true hb
   subst this
   exact ⟨.refl,rfl,e,rfl⟩
 ·cases h
theorem Bs:∀ (c:Cd),c.same c=some ⟨rfl⟩
 | .i k=>by cases k <;> rfl
 | .y=>rfl
 | .b=>rfl
 | .s=>rfl
 | .a c=>by simp [Cd.same,Bs c]
 | .p c d=>by simp [Cd.same,Bs c,Bs d]
abbrev AbsR (ln:Bool) (n0:Nat) (sh:Sh) (cv:CV) (s s':AS):Prop:=AsOk ln n0 s s'∧∃ new cv',s'.ds=s.ds++new∧(∀ r,conC id sh (new++r)=some (cv',r))∧SimC s'.lt n0 s'.σ s'.bl cv cv'
theorem Fc {ln:Bool} {n0:Nat} {s:AS} {d:DV}:AsOk ln n0 s (s.put d):=⟨.refl,.refl,fun _ h=>h,[],rfl,fun _=>rfl⟩
theorem condS {α:Type} {b:Bool} {x:Option α} {y:α} (h:cond b x none=some y):b=true∧x=some y:=by
 cases b
 ·cases h
 ·exact ⟨rfl,h⟩
theorem XT {ln m:Bool} {n0:Nat} {c:Cd} {b:Nat} {s s':AS} (h:s.rowAt ln m c b=some s'):AbsR ln n0 (.ro c m) (.own b) s s':=by
 unfold AS.rowAt at h
 split at h
 ·rename_i d et xs hb
  split at h
  ·rename_i hk _;obtain ⟨hk⟩:=hk;subst hk
   split at h
   ·injection h with h;subst h
    refine ⟨⟨.frz hb .refl,.refl,fun _ h=>h,[b],rfl,fun e=>by cases e⟩,[⟨.a d,xs⟩],.ro d xs true,rfl,fun r=>by simp [conC,Bs],.fz (by simp [List.getElem?_set,AU hb])⟩
   ·injection h with h;subst h
    exact ⟨⟨.refl,.refl,fun _ h=>List.mem_cons_of_mem _ h,[],rfl,fun _=>rfl⟩,[⟨.a d,xs⟩],.ro d xs false,rfl,fun r=>by simp [conC,Bs],.lend (List.mem_cons_self ..) hb⟩
   ·cases h
  ·cases h
 ·rename_i d xs hb
  split at h
  ·rename_i hk _;obtain ⟨hk⟩:=hk;subst hk
   injection h with h;subst h
   exact ⟨Fc,[⟨.a d,xs⟩],.ro d xs m,rfl,fun r=>by simp [conC,Bs],.fz hb⟩
  ·cases h
 ·cases h
theorem Afo {ln m:Bool} {n0:Nat} {c:Cd} {b l r:Nat} {s s':AS} (h:s.rowV ln m c b l r=some s'):AbsR ln n0 (.ro c m) (.vw b c l r) s s':=by
 unfold AS.rowV at h
 split at h
 ·rename_i d et xs hb
  split at h
  ·rename_i hk _;obtain ⟨hk⟩:=hk;subst hk
   split at h
   ·injection h with h;subst h
    refine ⟨⟨.frz hb .refl,.refl,fun _ h=>h,[b],rfl,fun e=>by cases e⟩,[⟨.a d,(xs.drop l).take (r - l)⟩],.ro d ((xs.drop l).take (r - l)) true,rfl,fun r=>by simp [conC,Bs],.fzv (by simp [List.getElem?_set,AU hb])⟩
   ·injection h with h;subst h
    exact ⟨⟨.refl,.refl,fun _ h=>List.mem_cons_of_mem _ h,[],rfl,fun _=>rfl⟩,[⟨.a d,(xs.drop l).take (r - l)⟩],.ro d ((xs.drop l).take (r - l)) false,rfl,fun r=>by simp [conC,Bs],.lendv (List.mem_cons_self ..) hb⟩
   ·cases h
  ·cases h
 ·rename_i d xs hb
  split at h
  ·rename_i hk _;obtain ⟨hk⟩:=hk;subst hk
   injection h with h;subst h
   exact ⟨Fc,[⟨.a d,(xs.drop l).take (r - l)⟩],.ro d ((xs.drop l).take (r - l)) m,rfl,fun r=>by simp [conC,Bs],.fzv hb⟩
  ·cases h
 ·cases h
theorem GN {ln:Bool} {bs:List BSh} {n0:Nat}:∀ {sh:Sh} {cv:CV} {s s':AS},absC ln bs sh cv s=some s'→n0≤s.bl.length→AbsR ln n0 sh cv s s':=by
 intro sh
 induction sh with
 | i k =>
  intro cv s s' h hn
  cases cv <;> try (cases h;done)
  rename_i j x
  unfold absC at h
  split at h
  ·rename_i hk _;obtain ⟨hk⟩:=hk;subst hk
   injection h with h;subst h
   exact ⟨Fc,[⟨.i j,x⟩],.int j x,rfl,fun r=>by simp [conC,Bs],.int⟩
  ·cases h
 | b =>
  intro cv s s' h hn
  cases cv <;> try (cases h;done)
  rename_i x
  injection h with h;subst h
  exact ⟨Fc,[⟨.b,x⟩],.bool x,rfl,fun r=>by simp [conC,Bs],.bool⟩
 | s =>
  intro cv s s' h hn
  cases cv <;> try (cases h;done)
  rename_i x
  injection h with h;subst h
  exact ⟨Fc,[⟨.s,x⟩],.str x,rfl,fun r=>by simp [conC,Bs],.str⟩
 | cst v =>
  intro cv s s' h hn
  cases cv <;> try (cases h;done)
  obtain ⟨h1,h2⟩:=condS h
  injection h2 with h2;subst h2
  have:=Id h1
  subst this
  exact ⟨.refl,[],_,by simp,fun r=>rfl,.k⟩
 | ic k z =>
  intro cv s s' h hn
  cases cv <;> try (cases h;done)
  rename_i j x
  unfold absC at h
  split at h
  ·rename_i hk _;obtain ⟨hk⟩:=hk;subst hk
   obtain ⟨h1,h2⟩:=condS h
   have:=AiV h1
   subst this
   injection h2 with h2;subst h2
   exact ⟨.refl,[],_,by simp,fun r=>rfl,.int⟩
  ·cases h
 | ptr j off =>
  intro cv s s' h hn
  cases cv <;> try (cases h;done)
  obtain ⟨h1,h2⟩:=condS h
  have h1:=Nat.eq_of_beq_eq_true h1
  subst h1
  obtain ⟨h3,h4,h5,_⟩:=XS (ln:=ln) (n0:=n0) h2
  exact ⟨h3,[],_,by simp [h4],fun r=>rfl,.ptr h5⟩
 | own j =>
  intro cv s s' h hn
  cases cv <;> try (cases h;done)
  ·rename_i u
   unfold absC at h
   split at h
   ·rename_i c et h1 h2 h3
    injection h with h;subst h
    have:=Id h1
    subst this
    have hlt:=AU h3
    refine ⟨⟨.nil .refl,fun i x hx=>?_,fun _ h=>h,[s.bl.length],rfl,fun e=>by cases e⟩,[],_,by simp,fun r=>rfl,.nilown (b:=s.bl.length) (by simp [List.getElem?_set,hlt]) (by simp;rfl) rfl hn⟩
    show (s.σ.set j (some s.bl.length))[i]? = _
    by_cases hij:j=i
    ·subst hij;rw [h3] at hx;cases hx
    ·rw [Dv hij];exact hx
   ·cases h
  ·obtain ⟨h3,h4,h5,_⟩:=XS (ln:=ln) (n0:=n0) h
   exact ⟨h3,[],_,by simp [h4],fun r=>rfl,.own h5⟩
 | ro c m =>
  intro cv s s' h hn
  cases cv <;> try (cases h;done)
  ·obtain ⟨h1,h2⟩:=condS h
   have:=Id h1
   subst this
   injection h2 with h2;subst h2
   exact ⟨Fc,[⟨.a c,([]:List c.den)⟩],.ro c [] m,rfl,fun r=>by simp [conC,Bs],.nilro⟩
  ·exact XT h
  ·rename_i d xs m'
   unfold absC at h
   split at h
   ·rename_i hk _ hm;obtain ⟨hk⟩:=hk;subst hk
    injection h with h;subst h
    refine ⟨Fc,[⟨.a d,xs⟩],.ro d xs m,rfl,fun r=>by simp [conC,Bs],.ro fun e=>by subst e;cases m' <;> simp_all⟩
   ·cases h
  ·rename_i b d l r
   unfold absC at h
   split at h
   ·rename_i hk _;obtain ⟨hk⟩:=hk;subst hk
    exact Afo h
   ·cases h
 | el c off =>
  intro cv s s' h hn
  cases cv <;> try (cases h;done)
  rename_i d x o
  unfold absC at h
  split at h
  ·rename_i hk _ ho;obtain ⟨hk⟩:=hk;subst hk
   have ho:=Nat.eq_of_beq_eq_true ho
   subst ho
   injection h with h;subst h
   exact ⟨Fc,[⟨d,x⟩],.el d x off,rfl,fun r=>by simp [conC,Bs],.el⟩
  ·cases h
 | fn f =>
  intro cv s s' h hn
  cases cv <;> try (cases h;done)
  obtain ⟨h1,h2⟩:=condS h
  have h1:=Nat.eq_of_beq_eq_true h1
  subst h1
  injection h2 with h2;subst h2
  exact ⟨.refl,[],_,by simp,fun r=>rfl,.fn⟩
 | cap f c ih1 ih2 =>
  intro cv s s' h hn
  cases cv <;> try (cases h;done)
  rename_i g d
  unfold absC at h
  split at h
  ·rename_i s1 h1
   obtain ⟨a1,n1,c1,d1,e1,s1'⟩:=ih1 h1 hn
   obtain ⟨a2,n2,c2,d2,e2,s2'⟩:=ih2 h (Nat.le_trans hn a1.st.length)
   refine ⟨a1.trans a2,n1++n2,.cap c1 c2,by rw [d2,d1,List.append_assoc],fun r=>?_,.cap (s1'.mono a2.lt a2.sg a2.st.grow) s2'⟩
   rw [List.append_assoc]
   simp only [conC,e1,e2]
  ·cases h
 | ifc t c ih =>
  intro cv s s' h hn
  cases cv <;> try (cases h;done)
  rename_i u d
  obtain ⟨h1,h2⟩:=condS h
  have h1:=Nat.eq_of_beq_eq_true h1
  subst h1
  obtain ⟨a1,n1,c1,d1,e1,s1'⟩:=ih h2 hn
  exact ⟨a1,n1,.ifc t c1,d1,fun r=>by simp only [conC,e1],.ifc s1'⟩
def ReadsOk {α β:Type} (ln:Bool) (n0:Nat) (con:α→Con β) (Sim:List Nat→List (Option Nat)→List BV→β→β→Prop) (x:α) (y:β) (s s':AS):Prop :=
 AsOk ln n0 s s'∧∃ new y',s'.ds=s.ds++new∧(∀ r,con x (new++r)=some (y',r))∧Sim s'.lt s'.σ s'.bl y y'
def MonoS {β:Type} (Sim:List Nat→List (Option Nat)→List BV→β→β→Prop):Prop:=∀ L L2 σ τ bl bl2 y y',(∀ b∈L,b∈L2)→SigLe σ τ→Grow bl bl2→Sim L σ bl y y'→Sim L2 τ bl2 y y'
theorem FZ {α β:Type} {ln:Bool} {n0:Nat} {one:α→β→AS→Option AS} {con:α→Con β} {Sim:List Nat→List (Option Nat)→List BV→β→β→Prop} (hm:MonoS Sim)
  (h1:∀ x y s s',one x y s=some s'→n0≤s.bl.length→ReadsOk ln n0 con Sim x y s s'):∀ {l:List α} {m:List β} {s s':AS},absL one l m s=some s'→n0≤s.bl.length →
  ReadsOk ln n0 (conL con) (fun L σ bl=>AV (Sim L σ bl)) l m s s'
 | [],[],s,s',h,hn=>by
  injection h with h;subst h
  exact ⟨.refl,[],[],by simp,fun r=>rfl,trivial⟩
 | x::l,y::m,s,s',h,hn=>by
  unfold absL at h
  split at h
  ·rename_i s1 e
   obtain ⟨a1,n1,y1,d1,c1,q1⟩:=h1 x y s s1 e hn
   obtain ⟨a2,n2,y2,d2,c2,q2⟩:=FZ hm h1 h (Nat.le_trans hn a1.st.length)
   refine ⟨a1.trans a2,n1++n2,y1::y2,by rw [d2,d1,List.append_assoc],fun r=>?_,hm _ _ _ _ _ _ _ _ a2.lt a2.sg a2.st.grow q1,q2⟩
   rw [List.append_assoc]
   simp only [conL,c1,c2]
  ·cases h
 | [],_::_,_,_,h,_=>by cases h
 | _::_,[],_,_,h,_=>by cases h
def Lk (L:List Nat) (n0:Nat) (σ:List (Option Nat)) (bl:List BV):V1→V1→Prop
 | .c x,.c y=>SimC L n0 σ bl x y
 | .agg l,.agg m=>AV (SimC L n0 σ bl) l m
 | _,_=>False
def SimS (L:List Nat) (n0:Nat) (σ:List (Option Nat)) (bl:List BV):SV→SV→Prop
 | .v x,.v y=>Lk L n0 σ bl x y
 | .tup l,.tup m=>AV (Lk L n0 σ bl) l m
 | _,_=>False
theorem Ga {n0:Nat}:MonoS (fun L=>SimC L n0):=fun _ _ _ _ _ _ _ _ h0 h1 h2 h=>h.mono h0 h1 h2
theorem Ie {n0:Nat}:MonoS (fun L=>Lk L n0):=fun _ _ _ _ _ _ y y' h0 h1 h2 h=>by
 cases y <;> cases y' <;> first | exact h.elim | skip
 ·exact SimC.mono h0 h1 h2 h
 ·exact AV.mono (fun _ _ h=>SimC.mono h0 h1 h2 h) h
theorem Ln {n0:Nat}:MonoS (fun L=>SimS L n0):=fun _ _ _ _ _ _ y y' h0 h1 h2 h=>by
 cases y <;> cases y' <;> first | exact h.elim | skip
 ·exact Ie _ _ _ _ _ _ _ _ h0 h1 h2 h
 ·exact AV.mono (fun _ _ h=>Ie _ _ _ _ _ _ _ _ h0 h1 h2 h) h
theorem TD {ln:Bool} {bs:List BSh} {n0:Nat} (x:Sh1) (y:V1) (s s':AS) (h:AiW ln bs x y s=some s') (hn:n0≤s.bl.length):ReadsOk ln n0 (XR id) (fun L=>Lk L n0) x y s s':=by
 cases x <;> cases y <;> first | (cases h;done) | skip
 ·obtain ⟨a,nw,y',d,c,q⟩:=GN h hn
  exact ⟨a,nw,.c y',d,fun r=>by simp only [XR,c],q⟩
 ·obtain ⟨a,nw,y',d,c,q⟩:=FZ Ga (fun x y s s' h hn=>GN h hn) h hn
  exact ⟨a,nw,.agg y',d,fun r=>by simp only [XR,c],q⟩
theorem Afp {ln:Bool} {bs:List BSh} {n0:Nat} (x:SSh) (y:SV) (s s':AS) (h:absS ln bs x y s=some s') (hn:n0≤s.bl.length):ReadsOk ln n0 (conS id) (fun L=>SimS L n0) x y s s':=by
 cases x <;> cases y <;> first | (cases h;done) | skip
 ·obtain ⟨a,nw,y',d,c,q⟩:=TD _ _ _ _ h hn
  exact ⟨a,nw,.v y',d,fun r=>by simp only [conS,c],q⟩
 ·obtain ⟨a,nw,y',d,c,q⟩:=FZ Ie (TD (bs:=bs)) h hn
  exact ⟨a,nw,.tup y',d,fun r=>by simp only [conS,c],q⟩
def SimSl (L:List Nat) (n0:Nat) (sl:List (Nat×SV)) (σ:List (Option Nat)) (bl:List BV) (p:Nat×SV):Prop:=∃ y,getH sl p.1=some y∧SimS L n0 σ bl y p.2
theorem Jm {ln:Bool} {bs:List BSh} {n0:Nat} {sl:List (Nat×SV)}:∀ {l:List (Nat×SSh)} {s s':AS},absSl ln bs sl l s=some s'→n0≤s.bl.length →
  AsOk ln n0 s s'∧∃ new m,s'.ds=s.ds++new∧(∀ r,conL (conSl id) l (new++r)=some (m,r))∧∀ p∈m,SimSl s'.lt n0 sl s'.σ s'.bl p
 | [],s,s',h,hn=>by
  injection h with h;subst h
  exact ⟨.refl,[],[],by simp,fun r=>rfl,fun p hp=>by cases hp⟩
 | (t,x)::l,s,s',h,hn=>by
  unfold absSl at h
  split at h
  ·rename_i y ey
   split at h
   ·rename_i s1 e
    obtain ⟨a1,n1,y1,d1,c1,q1⟩:=Afp x y s s1 e hn
    obtain ⟨a2,n2,m,d2,c2,q2⟩:=Jm h (Nat.le_trans hn a1.st.length)
    refine ⟨a1.trans a2,n1++n2,(t,y1)::m,by rw [d2,d1,List.append_assoc],fun r=>?_,fun p hp=>?_⟩
    ·rw [List.append_assoc]
     simp only [conL,conSl,c1,c2]
    ·rcases List.mem_cons.1 hp with rfl | hp
     ·exact ⟨y,ey,Ln _ _ _ _ _ _ _ _ a2.lt a2.sg a2.st.grow q1⟩
     ·exact q2 p hp
   ·cases h
  ·cases h
inductive SimB (L:List Nat) (n0:Nat) (σ:List (Option Nat)) (bl:List BV):Option Nat→BV→Prop where
 | no {x:Option Nat}:SimB L n0 σ bl x .no
 | cells {i:Nat} {t:TypeId} {l m:List CV} (h:bl[i]? = some (.cells t l)) (hs:AV (SimC L n0 σ bl) l m):SimB L n0 σ bl (some i) (.cells t m)
 | row {i:Nat} {c:Cd} {et:TypeId} {xs:List c.den} (h:∃ bv,bl[i]? = some bv∧(bv = .row c et xs∨bv = .fz c xs)):SimB L n0 σ bl (some i) (.row c et xs)
 | lent {i:Nat} {l m:List CV} (h:bl[i]? = some (.lent l)) (hs:AV (SimC L n0 σ bl) l m):SimB L n0 σ bl (some i) (.lent m)
 | lend {i:Nat} {t:TypeId} {l m:List CV} (hl:i∈L) (h:bl[i]? = some (.cells t l)) (hs:AV (SimC L n0 σ bl) l m):SimB L n0 σ bl (some i) (.lent m)
theorem SimB.mono {L L2:List Nat} {n0:Nat} {σ τ:List (Option Nat)} {bl bl2:List BV} (h0:∀ b∈L,b∈L2) (h1:SigLe σ τ) (h2:Grow bl bl2) {x:Option Nat} {y:BV} (h:SimB L n0 σ bl x y):SimB L2 n0 τ bl2 x y:=by
 have hc:∀ {i:Nat} {t:TypeId} {l:List CV},bl[i]? = some (.cells t l)→bl2[i]? = some (.cells t l):=fun e=>by
  rcases h2 _ _ e with e | ⟨_,_,_,e,_⟩
  ·exact e
  ·cases e
 cases h with
 | no=>exact .no
 | cells h hs=>exact .cells (hc h) (hs.mono fun _ _ h=>h.mono h0 h1 h2)
 | row h =>
  obtain ⟨bv,e,h⟩:=h
  rcases h2 _ _ e with e2 | ⟨c,et,xs,e2,e3⟩
  ·exact .row ⟨bv,e2,h⟩
  ·subst e2
   rcases h with h | h
   ·injection h with h3 h4 h5
    subst h3;subst h4
    have h5:=eq_of_heq h5
    subst h5
    exact .row ⟨_,e3,.inr rfl⟩
   ·cases h
 | lent h hs =>
  rcases h2 _ _ h with e | ⟨_,_,_,e,_⟩
  ·exact .lent e (hs.mono fun _ _ h=>h.mono h0 h1 h2)
  ·cases e
 | lend hl h hs=>exact .lend (h0 _ hl) (hc h) (hs.mono fun _ _ h=>h.mono h0 h1 h2)
theorem Afq {ln:Bool} {bs:List BSh} {n0:Nat} {b:BSh} {id_:Option Nat} {s s':AS} (h:absB ln bs b id_ s=some s') (hn:n0≤s.bl.length) :
  AsOk ln n0 s s'∧∃ new y',s'.ds=s.ds++new∧(∀ r,conB id b (new++r)=some (y',r))∧SimB s'.lt n0 s'.σ s'.bl id_ y':=by
 unfold absB at h
 split at h
 ·injection h with h;subst h
  exact ⟨.refl,[],_,by simp,fun r=>rfl,.no⟩
 ·rename_i t l i
  split at h
  ·rename_i t' m hb
   obtain ⟨ht,h2⟩:=condS h
   clear h
   have ht:=Nat.eq_of_beq_eq_true ht
   subst ht
   obtain ⟨a,nw,y',d,c,q⟩:=FZ (con:=conC id) Ga (fun x y s s' h hn=>GN h hn) h2 hn
   have hb':s'.bl[i]? = some (.cells t m):=by
    rcases a.st.grow _ _ hb with e | ⟨_,_,_,e,_⟩
    ·exact e
    ·cases e
   exact ⟨a,nw,.cells t y',d,fun r=>by simp only [conB,c],.cells hb' q⟩
  ·cases h
 ·rename_i c et i
  split at h
  ·rename_i d et' xs hb
   split at h
   ·rename_i hk _ he;obtain ⟨hk⟩:=hk;subst hk
    have he:=Nat.eq_of_beq_eq_true he
    subst he
    injection h with h;subst h
    exact ⟨Fc,[⟨.a d,xs⟩],.row d et xs,rfl,fun r=>by simp [conB,Bs],.row ⟨_,hb,.inl rfl⟩⟩
   ·cases h
  ·cases h
 ·rename_i l i
  split at h
  ·rename_i m hb
   obtain ⟨a,nw,y',d,c,q⟩:=FZ Ga (fun x y s s' h hn=>GN h hn) h hn
   have hb':s'.bl[i]? = some (.lent m):=by
    rcases a.st.grow _ _ hb with e | ⟨_,_,_,e,_⟩
    ·exact e
    ·cases e
   exact ⟨a,nw,.lent y',d,fun r=>by simp only [conB,c],.lent hb' q⟩
  ·rename_i t' m hb
   obtain ⟨hl,h⟩:=condS h
   obtain ⟨a,nw,y',d,c,q⟩:=FZ Ga (fun x y s s' h hn=>GN h hn) h hn
   have hb':s'.bl[i]? = some (.cells t' m):=by
    rcases a.st.grow _ _ hb with e | ⟨_,_,_,e,_⟩
    ·exact e
    ·cases e
   exact ⟨⟨a.st,a.sg,fun b hb=>a.lt b (List.mem_cons_of_mem _ hb),a.fl⟩,nw,.lent y',d,fun r=>by simp only [conB,c],.lend (a.lt i (List.mem_cons_self ..)) hb' q⟩
  ·cases h
 ·cases h
def sigAt (σ:List (Option Nat)) (j:Nat):Option Nat:=match σ[j]? with | some x=>x | none=>none
theorem NR {σ τ:List (Option Nat)} (h:SigLe σ τ) {j b:Nat} (e:sigAt σ j=some b):sigAt τ j=some b:=by
 unfold sigAt at e ⊢
 split at e
 ·rename_i x hx
  subst e
  rw [h j b hx]
 ·cases e
def SimBs (L:List Nat) (n0:Nat) (σ:List (Option Nat)) (bl:List BV):Nat→List BV→Prop
 | _,[]=>True
 | j,y::l=>(y = .no∨∃ i,sigAt σ j=some i∧SimB L n0 σ bl (some i) y)∧SimBs L n0 σ bl (j+1) l
theorem SimBs.mono {L L2:List Nat} {n0:Nat} {σ τ:List (Option Nat)} {bl bl2:List BV} (h0:∀ b∈L,b∈L2) (h1:SigLe σ τ) (h2:Grow bl bl2):∀ {l:List BV} {j:Nat},SimBs L n0 σ bl j l→SimBs L2 n0 τ bl2 j l
 | [],_,h=>trivial
 | y::l,j,h=>⟨h.1.imp id fun ⟨i,e,q⟩=>⟨i,NR h1 e,q.mono h0 h1 h2⟩,h.2.mono h0 h1 h2⟩
theorem Jn {ln:Bool} {bs:List BSh} {n0:Nat}:∀ {l:List BSh} {j:Nat} {s s':AS},absBs ln bs j l s=some s'→n0≤s.bl.length →
  AsOk ln n0 s s'∧∃ new m,s'.ds=s.ds++new∧(∀ r,conL (conB id) l (new++r)=some (m,r))∧SimBs s'.lt n0 s'.σ s'.bl j m
 | [],j,s,s',h,hn=>by
  injection h with h;subst h
  exact ⟨.refl,[],[],by simp,fun r=>rfl,trivial⟩
 | b::l,j,s,s',h,hn=>by
  unfold absBs at h
  split at h
  ·rename_i s1 e
   have e:absB ln bs b (sigAt s.σ j) s=some s1:=e
   obtain ⟨a1,n1,y1,d1,c1,q1⟩:=Afq e hn
   obtain ⟨a2,n2,m,d2,c2,q2⟩:=Jn h (Nat.le_trans hn a1.st.length)
   refine ⟨a1.trans a2,n1++n2,y1::m,by rw [d2,d1,List.append_assoc],fun r=>?_,?_,q2⟩
   ·rw [List.append_assoc]
    simp only [conL,c1,c2]
   ·have hsg:∀ i,sigAt s.σ j=some i→sigAt s'.σ j=some i:=fun i hi=>NR (a1.sg.trans a2.sg) hi
    have q1':=q1.mono a2.lt a2.sg a2.st.grow
    generalize sigAt s.σ j=x at q1' hsg
    cases x with
    | none=>cases q1' with | no=>exact .inl rfl
    | some i=>exact .inr ⟨i,hsg i rfl,q1'⟩
  ·cases h
theorem Fu {ln:Bool} {sc:Sch} {σ0:List (Option Nat)} {st:HSt} {s:AS} (h:absSt ln sc σ0 st=some s):∃ st',conSt id sc s.ds=some st'∧StepsTo st.bl s.bl∧SigLe σ0 s.σ ∧
  (∀ p∈st'.sl,SimSl s.lt st.bl.length st.sl s.σ s.bl p)∧SimBs s.lt st.bl.length s.σ s.bl 0 st'.bl:=by
 unfold absSt at h
 split at h
 ·rename_i s1 e
  obtain ⟨a1,n1,m1,d1,c1,q1⟩:=Jm e (Nat.le_refl _)
  obtain ⟨a2,n2,m2,d2,c2,q2⟩:=Jn h a1.st.length
  refine ⟨⟨m1,m2⟩,?_,a1.st.trans a2.st,a1.sg.trans a2.sg,fun p hp=>?_,q2⟩
  ·unfold conSt
   rw [d2,d1,List.nil_append,c1]
   have:=c2 []
   rw [List.append_nil] at this
   simp only [this]
  ·obtain ⟨y,e1,e2⟩:=q1 p hp
   exact ⟨y,e1,Ln _ _ _ _ _ _ _ _ a2.lt a2.sg a2.st.grow e2⟩
 ·cases h
theorem Su {ln:Bool} {sc:Sch} {σ0:List (Option Nat)} {st:HSt} {s:AS} (h:absSt ln sc σ0 st=some s) (hf:s.fl=[]):s.bl=st.bl:=by
 unfold absSt at h
 split at h
 ·rename_i s1 e
  obtain ⟨a1,_⟩:=Jm e (Nat.le_refl _)
  obtain ⟨a2,_⟩:=Jn h a1.st.length
  obtain ⟨l,e1,e2⟩:=(a1.trans a2).fl
  have e1:s.fl=l++[]:=e1
  rw [hf,List.append_nil] at e1
  exact e2 e1.symm
 ·cases h
structure Ctx (L:List Nat) (n0:Nat) (σ:List (Option Nat)) (bl:List BV) (ρ:Env) (g:Gh) (bl':List BV) (ρ':Env) (g':Gh):Prop where
  gr:g.r.le g'.r
  gb:g.b.le g'.b
  at_:∀ (j b:Nat),σ[j]? = some (some b)→ρ' j=ρ b∧∃ bv:BV,bl'[j]? = some bv∧bv.isHole=false∧∀ m,bv.len=some m→∃ bv0:BV,bl[b]? = some bv0∧bv0.len=some m
  nil:∀ (b:Nat) (bv:BV),n0≤b→bl[b]? = some bv→ρ b=(none,0)
  fz:∀ (b:Nat) (c:Cd) (xs:List c.den),bl[b]? = some (.fz c xs)→Arr g.b c.ty (ρ b).1 (ρ b).2 xs
  lend:∀ (b:Nat) (c:Cd) (et:TypeId) (xs:List c.den),b∈L→bl[b]? = some (.row c et xs)→ArrM g'.r g'.b c.ty (ρ b).1 (ρ b).2 xs
section
variable {L:List Nat} {n0:Nat} {σ:List (Option Nat)} {bl bl':List BV} {ρ ρ':Env} {g g':Gh}
theorem SimC.real (c:Ctx L n0 σ bl ρ g bl' ρ' g') {x y:CV} {v:Value} (h:SimC L n0 σ bl x y):∀ {v:Value},RealC g ρ bl x v→RealC g' ρ' bl' y v:=by
  induction h with
  | int=>exact fun hr=>hr
  | bool=>exact fun hr=>hr
  | str=>exact fun hr=>hr
  | k=>exact fun hr=>hr
  | el=>exact fun ⟨a,cs,h1,h2,h3⟩=>⟨a,cs,h1,h2.mono c.gr,Ty.mono _ c.gb h3⟩
  | fn=>exact fun hr=>hr
  | @ro d xs m m' h =>
    intro v hr
    obtain ⟨A,cap,hv,ha⟩:=hr
    refine ⟨A,cap,hv,?_⟩
    cases m with
    | true =>
      have:=h rfl
      subst this
      exact Arr.mono ha c.gb
    | false =>
      cases m' with
      | true=>exact Arr.toM (Arr.mono ha c.gb) g'.br
      | false=>exact ArrM.mono ha c.gr c.gb
  | @ptr j b off h =>
    intro v ⟨hk,a,ha,hv⟩
    obtain ⟨e,bv,e1,e2,_⟩:=c.at_ _ _ h
    exact ⟨⟨bv,e1,e2⟩,a,by rw [e];exact ha,hv⟩
  | @own j b h =>
    intro v ⟨hk,m,hv,hl⟩
    obtain ⟨e,bv,e1,e2,e3⟩:=c.at_ _ _ h
    refine ⟨⟨bv,e1,e2⟩,m,by rw [e];exact hv,fun bv' l h1 h2=>?_⟩
    rw [e1] at h1;injection h1 with h1;subst h1
    obtain ⟨bv0,h3,h4⟩:=e3 l h2
    exact hl bv0 l h3 h4
  | @nilown j b bv0 h hb hl hn =>
    intro v ⟨hv,_⟩
    obtain ⟨e,bv,e1,e2,e3⟩:=c.at_ _ _ h
    refine ⟨⟨bv,e1,e2⟩,0,by rw [e,c.nil b bv0 hn hb];exact hv,fun bv' l h1 h2=>?_⟩
    rw [e1] at h1;injection h1 with h1;subst h1
    obtain ⟨bv1,h3,h4⟩:=e3 l h2
    rw [hb] at h3;injection h3 with h3;subst h3
    rw [hl] at h4;injection h4
  | @fz b d xs m hb =>
    intro v ⟨hk,l,hv,hl⟩
    have:=hl _ _ hb rfl
    subst this
    refine ⟨_,_,hv,?_⟩
    have ha:=c.fz b d xs hb
    cases m with
    | true=>exact ha.mono c.gb
    | false=>exact Arr.toM (ha.mono c.gb) g'.br
  | @lend b d et xs hl hb =>
    intro v ⟨hk,l,hv,hl2⟩
    have:=hl2 _ _ hb rfl
    subst this
    exact ⟨_,_,hv,c.lend b d et xs hl hb⟩
  | @fzv b l r d xs m hb =>
    intro v ⟨hk,hv,hl2⟩
    obtain ⟨h1,h2⟩:=hl2 _ _ hb rfl
    have hlen:((xs.drop l).take (r - l)).length=r - l:=by rw [List.length_take,List.length_drop];omega
    have ha:=(c.fz b d xs hb).cut l r h1 h2
    rw [d.ty_n] at ha
    refine ⟨_,_,by rw [hlen];exact hv,?_⟩
    cases m with
    | true=>exact ha.mono c.gb
    | false=>exact Arr.toM (ha.mono c.gb) g'.br
  | @lendv b l r d et xs hl hb =>
    intro v ⟨hk,hv,hl2⟩
    obtain ⟨h1,h2⟩:=hl2 _ _ hb rfl
    have hlen:((xs.drop l).take (r - l)).length=r - l:=by rw [List.length_take,List.length_drop];omega
    have ha:=(c.lend b d et xs hl hb).cut l r h1 h2
    rw [d.ty_n] at ha
    exact ⟨_,_,by rw [hlen];exact hv,ha⟩
  | nilro =>
    rename_i d m
    intro v ⟨hv,_⟩
    refine ⟨none,0,hv,?_⟩
    cases m with
    | true=>exact Arr.nil
    | false=>exact ArrM.nil
  | cap _ _ ih1 ih2=>exact fun ⟨f0,caps,vc,h1,h2,h3⟩=>⟨f0,caps,vc,ih1 h1,ih2 h2,h3⟩
  | ifc _ ih=>exact fun ⟨u,h1,h2⟩=>⟨u,ih h1,h2⟩
theorem AV.over {α β γ:Type} {R:α→β→Prop} {S:α→γ→Prop} {T:β→γ→Prop} (hi:∀ x y v,R x y→S x v→T y v):∀ {l:List α} {m:List β} {n:List γ},AV R l m→AV S l n→AV T m n
  | [],[],[],_,_=>trivial
  | _::_,_::_,_::_,h,k=>⟨hi _ _ _ h.1 k.1,AV.over hi h.2 k.2⟩
  | [],[],_::_,_,k=>k.elim
  | [],_::_,_,h,_=>h.elim
  | _::_,[],_,h,_=>h.elim
  | _::_,_::_,[],_,k=>k.elim
theorem Lk.real (c:Ctx L n0 σ bl ρ g bl' ρ' g') {x y:V1} {v:Value} (h:Lk L n0 σ bl x y) (hr:Cn g ρ bl x v):Cn g' ρ' bl' y v:=by
  cases x <;> cases y <;> first | exact h.elim | skip
  · exact SimC.real (v:=v) c h hr
  · obtain ⟨cs,e,hr⟩:=hr
    refine ⟨cs,e,?_⟩
    rename_i l m
    exact AV.over (R:=SimC L n0 σ bl) (S:=RealC g ρ bl) (T:=RealC g' ρ' bl') (fun x y v h1 h2=>SimC.real (v:=v) c h1 h2) h hr
theorem Ig {l m:List CV} (c:Ctx L n0 σ bl ρ g bl' ρ' g') (h:AV (SimC L n0 σ bl) l m) {cs:List Value} (hr:AV (RealC g ρ bl) l cs):AV (RealC g' ρ' bl') m cs:=by
  obtain ⟨cs',e,h'⟩:=Lk.real (x:= .agg l) (y:= .agg m) (v:= .agg cs.toArray) c h ⟨cs,rfl,hr⟩
  have:cs=cs':=by simpa using e
  subst this;exact h'
theorem SimS.real (c:Ctx L n0 σ bl ρ g bl' ρ' g') {x y:SV} {v:Value} (h:SimS L n0 σ bl x y) (hr:RealS g ρ bl x v):RealS g' ρ' bl' y v:=by
  cases x <;> cases y <;> first | exact h.elim | skip
  · exact Lk.real c h hr
  · obtain ⟨vs,e,hr⟩:=hr
    refine ⟨vs,e,?_⟩
    rename_i l m
    exact AV.over (R:=Lk L n0 σ bl) (S:=Cn g ρ bl) (T:=Cn g' ρ' bl') (fun x y v h1 h2=>Lk.real c h1 h2) h hr
end
def BV.owned:BV→Bool
  | .cells _ _=>true
  | .row _ _ _=>true
  | _=>false
def ownIds (σ:List (Option Nat)):Nat→List BV→List (Option Nat)
  | _,[]=>[]
  | j,y::l=>cond y.owned (sigAt σ j) none::ownIds σ (j+1) l
theorem CX (σ:List (Option Nat)):∀ (j:Nat) (l:List BV),(ownIds σ j l).length=l.length
  | _,[]=>rfl
  | j,y::l=>by simp [ownIds,CX σ (j+1) l]
theorem DL (σ:List (Option Nat)):∀ (l:List BV) (j i:Nat) {y:BV},l[i]? = some y→(ownIds σ j l)[i]? = some (cond y.owned (sigAt σ (j+i)) none)
  | [],_,_,_,h=>by simp at h
  | z::l,j,0,y,h=>by simp at h;subst h;rfl
  | z::l,j,i+1,y,h=>by
    have:=DL σ l (j+1) i (by simpa using h)
    simp only [ownIds,List.getElem?_cons_succ,this]
    rw [show j+1+i=j+(i+1) by omega]
theorem SimBs.get {L:List Nat} {n0:Nat} {σ:List (Option Nat)} {bl:List BV}:∀ {l:List BV} {j i:Nat} {y:BV},SimBs L n0 σ bl j l→l[i]? = some y→y = .no∨∃ b,sigAt σ (j+i)=some b∧SimB L n0 σ bl (some b) y
  | [],_,_,_,_,h=>by simp at h
  | z::l,j,0,y,hs,h=>by simp at h;subst h;exact hs.1
  | z::l,j,i+1,y,hs,h=>by
    have:=hs.2.get (i:=i) (by simpa using h)
    rwa [show j+1+i=j+(i+1) by omega] at this
def nodupB:List Nat→Bool
  | []=>true
  | x::l=>!natMem x l&&nodupB l
theorem CY {x:Nat}:∀ {l:List Nat},natMem x l=true↔x∈l
  | []=>by simp [natMem]
  | y::l=>by
    unfold natMem
    cases h:Nat.beq x y with
    | true=>have:=Nat.eq_of_beq_eq_true h;simp [this]
    | false=>have:x≠y:=fun e=>by subst e;simp at h
             simp [CY (x:=x) (l:=l),this]
theorem Ih:∀ {l:List Nat},nodupB l=true→l.Nodup
  | [],_=>List.nodup_nil
  | x::l,h=>by
    simp only [nodupB,Bool.and_eq_true,Bool.not_eq_true'] at h
    exact List.nodup_cons.2 ⟨fun hm=>by rw [CY.2 hm] at h;exact absurd h.1 (by decide),Ih h.2⟩
def rowsB (bl:List BV) (σ:List (Option Nat)):Nat→List BV→Bool
  | _,[]=>true
  | j,y::l=>(match y with
    | .row _ _ _=>(match sigAt σ j with | some i=>(match bl[i]? with | some (.row _ _ _)=>true | _=>false) | none=>false)
    | _=>true)&&rowsB bl σ (j+1) l
theorem Ii {bl:List BV} {σ:List (Option Nat)}:∀ {l:List BV} {j i:Nat} {c:Cd} {et:TypeId} {xs:List c.den},rowsB bl σ j l=true→l[i]? = some (.row c et xs)→∃ b c' et' xs',sigAt σ (j+i)=some b∧bl[b]? = some (.row c' et' xs')
  | [],_,_,_,_,_,_,h=>by simp at h
  | z::l,j,0,c,et,xs,hr,h=>by
    simp at h;subst h
    simp only [rowsB,Bool.and_eq_true] at hr
    have hr:=hr.1
    split at hr
    · rename_i i hi
      split at hr
      · rename_i c' et' xs' hb;exact ⟨i,c',et',xs',hi,hb⟩
      · cases hr
    · cases hr
  | z::l,j,i+1,c,et,xs,hr,h=>by
    simp only [rowsB,Bool.and_eq_true] at hr
    have:=Ii (i:=i) hr.2 (by simpa using h)
    rwa [show j+1+i=j+(i+1) by omega] at this
def absChk (s:AS) (bl':List BV):Bool:=let os:=(ownIds s.σ 0 bl').filterMap id
  nodupB os&&(rowsB s.bl s.σ 0 bl'&&(os.all (fun i=>!natMem i s.lt)&&Nat.beq s.σ.length bl'.length))
def joinChk (s:AS) (bl':List BV):Bool:=(match s.lt with | []=>true | _=>false)&&absChk s bl'
def Sv:Nat→Nat→List (Option Nat)
  | _,0=>[]
  | j,m+1=>some j::Sv (j+1) m
theorem Jo:∀ (m j i:Nat),i < m→(Sv j m)[i]? = some (some (j+i))
  | m+1,j,0,_=>rfl
  | m+1,j,i+1,h=>by
    have:=Jo m (j+1) i (by omega)
    simp only [Sv,List.getElem?_cons_succ,this]
    rw [show j+1+i=j+(i+1) by omega]
structure An where
  np:Nat
  ρ:Env
  len:Nat→Option Nat
def Anch (A:An) (ρ:Env) (bl:List BV):Prop:=∀ j,j < A.np→ρ j=A.ρ j∧Known bl j∧∀ (bv:BV) (m:Nat),bl[j]? = some bv→bv.len=some m→A.len j=some m
theorem Anch.ext {A:An} {ρ ρ':Env} {bl bl':List BV} (h:Anch A ρ bl) (hx:Ext ρ bl ρ' bl'):Anch A ρ' bl':=fun j hj=>by
  obtain ⟨h1,h2,h5⟩:=h j hj
  obtain ⟨h3,h4⟩:=hx.known h2
  refine ⟨h4.trans h1,h3,fun bv m e1 e2=>?_⟩
  obtain ⟨bv0,e3,e4⟩:=h2
  obtain ⟨_,bv',e5,_,e6⟩:=hx j bv0 e3 e4
  rw [e5] at e1;injection e1 with e1;subst e1
  exact h5 bv0 m e3 (e6 m e2)
def SW (K:Act→World→Prop) (n:Nat) (A:An) (g0:Gh) (st:HSt):Prop:=∀ g ρ own fr,g0.le g→Anch A ρ st.bl→Rl g ρ st own fr→WPq K n g own fr
def envOf (σ:List (Option Nat)) (ρ:Env):Env:=fun j=>match sigAt σ j with | some b=>ρ b | none=>(none,0)
theorem Jp {σ:List (Option Nat)} {j b:Nat} (h:σ[j]? = some (some b)):sigAt σ j=some b:=by unfold sigAt;rw [h]
theorem VF {L:List Nat} {n0:Nat} {σ:List (Option Nat)} {bl:List BV} {x:Option Nat} {y:BV} (h:SimB L n0 σ bl x y):y.isHole=false:=by cases h <;> rfl
theorem Gb {L:List Nat} {n0:Nat} {σ:List (Option Nat)} {bl bl':List BV} {ρ:Env} (hb:SimBs L n0 σ bl 0 bl') (hl:σ.length=bl'.length) (j b:Nat) (e:σ[j]? = some (some b)) :
    envOf σ ρ j=ρ b∧∃ bv:BV,bl'[j]? = some bv∧bv.isHole=false∧∀ m,bv.len=some m→∃ bv0:BV,bl[b]? = some bv0∧bv0.len=some m:=by
  have hlt:j < bl'.length:=by rw [← hl];exact AU e
  refine ⟨by unfold envOf;rw [Jp e],bl'[j],List.getElem?_eq_getElem hlt,?_,?_⟩
  · rcases hb.get (List.getElem?_eq_getElem hlt) with h | ⟨b',h1,h2⟩
    · rw [h];rfl
    · exact VF h2
  · intro m hm
    rcases hb.get (List.getElem?_eq_getElem hlt) with h | ⟨b',h1,h2⟩
    · rw [h] at hm;cases hm
    · rw [Nat.zero_add,Jp e] at h1
      injection h1 with h1;subst h1
      generalize bl'[j]=bv at h2 hm
      cases h2 with
      | no=>cases hm
      | cells h hs=>cases hm
      | row h =>
        obtain ⟨bv,e1,h⟩:=h
        rcases h with rfl | rfl
        · exact ⟨_,e1,hm⟩
        · exact ⟨_,e1,hm⟩
      | lent h hs=>cases hm
      | lend hl h hs=>cases hm
theorem GO {l:List (Nat×SV)} {t:Nat} {v:SV} (h:getH l t=some v):(t,v)∈l:=by
  induction l with
  | nil=>cases h
  | cons p l ih =>
    obtain ⟨k,u⟩:=p
    unfold getH at h
    cases hb:Nat.beq k t with
    | true =>
      rw [hb] at h
      have:=Nat.eq_of_beq_eq_true hb
      subst this
      injection h with h;subst h
      exact List.mem_cons_self ..
    | false=>rw [hb] at h;exact List.mem_cons_of_mem _ (ih h)
theorem Jq {st st':HSt} {sc:Sch} {σ0:List (Option Nat)} {s:AS} {g:Gh} {ρ:Env} {own:Own} {fr:Sl} {w:World} (h:absSt false sc σ0 st=some s) (hc:conSt id sc s.ds=some st') (hk:joinChk s st'.bl=true) (hr:Rl g ρ st own fr) (hs:St w g own) :
    ∃ g1 ρ1 own1,g.le g1∧St w g1 own1∧Rl g1 (envOf s.σ ρ1) st' own1 fr∧SigLe σ0 s.σ∧∀ b,b < st.bl.length→ρ1 b=ρ b:=by
  unfold joinChk at hk
  rw [Bool.and_eq_true] at hk
  obtain ⟨hk0,hk⟩:=hk
  have hlt:∀ b,b∈s.lt→False:=fun b hb=>by
    cases e:s.lt with
    | nil=>rw [e] at hb;cases hb
    | cons x l=>rw [e] at hk0;cases hk0
  obtain ⟨st2,e1,hst,hsg,hsl,hbl⟩:=Fu h
  rw [hc] at e1;injection e1 with e1;subst e1
  unfold absChk at hk
  simp only [Bool.and_eq_true] at hk
  obtain ⟨hnd,hrows,hlent,hlen⟩:=hk
  have hlen:=Nat.eq_of_beq_eq_true hlen
  obtain ⟨g1,ρ1,own1,hg1,hs1,hx,hr1,hρ1,hρ2⟩:=hst.do_ (sl:=st.sl) hr hs
  have hctx:Ctx s.lt st.bl.length s.σ s.bl ρ1 g1 st'.bl (envOf s.σ ρ1) g1:=by
    refine ⟨.refl _,.refl _,fun j b e=>Gb hbl hlen j b e,fun b bv hn e=>hρ2 b hn (AU e),fun b c xs e=>?_,fun b c et xs hb _=>(hlt b hb).elim⟩
    obtain ⟨k0,h1,h2⟩:=hr1.own_at e
    exact h2.2
  refine ⟨g1,ρ1,pickP (ownIds s.σ 0 st'.bl) own1,hg1,keepP (ownIds s.σ 0 st'.bl) (by simpa using Ih hnd) rfl w hs1,⟨?_,fun i bv k0 e1 e2=>?_,fun t sv e=>?_,hr1.gi⟩,hsg,hρ1⟩
  · simp [pickP,CX]
  · have e3:(pickP (ownIds s.σ 0 st'.bl) own1)[i]? = some (match cond bv.owned (sigAt s.σ i) none with | none=>none | some b=>(own1[b]?).join):=by
      unfold pickP
      rw [List.getElem?_map,DL s.σ st'.bl 0 i e1,Nat.zero_add]
      rfl
    rw [e3] at e2
    injection e2 with e2
    have hB:=hbl.get e1
    rw [Nat.zero_add] at hB
    have hown:∀ b bv0,s.bl[b]? = some bv0→∃ k1,own1[b]? = some k1∧BlkR g1 ρ1 s.bl k1 (ρ1 b) bv0:=fun b bv0 e=>hr1.own_at e
    rcases hB with rfl | ⟨b,hb1,hb2⟩
    · exact e2.symm
    · have henv:envOf s.σ ρ1 i=ρ1 b:=by unfold envOf;rw [hb1]
      rw [henv]
      rw [hb1] at e2
      cases hb2 with
      | no=>exact e2.symm
      | cells h hs =>
        obtain ⟨k1,h1,b0,cs,rfl,h3,h4⟩:=hown _ _ h
        have e2:(own1[b]?).join=k0:=e2
        rw [h1] at e2
        exact ⟨b0,cs,e2.symm,h3,Ig hctx hs h4⟩
      | @row _ c et xs h =>
        obtain ⟨b',c',et',xs',h3,h4⟩:=Ii hrows e1
        rw [Nat.zero_add,hb1] at h3
        injection h3 with h3;subst h3
        obtain ⟨bv,h5,h6⟩:=h
        rw [h4] at h5;injection h5 with h5;subst h5
        rcases h6 with h6 | h6
        · rw [h6] at h4
          obtain ⟨k1,h1,h2⟩:=hown _ _ h4
          have e2:(own1[b]?).join=k0:=e2
          rw [h1] at e2
          have e2:k1=k0:=e2
          subst e2
          exact h2
        · cases h6
      | lent h hs =>
        obtain ⟨k1,h1,h2,ad,cs,h3,h4,h5⟩:=hown _ _ h
        exact ⟨e2.symm,ad,cs,h3,h4,Ig hctx hs h5⟩
      | lend hl h hs=>exact (hlt b hl).elim
  · obtain ⟨y,h1,h2⟩:=hsl (t,sv) (GO e)
    obtain ⟨v,h3,h4⟩:=hr1.slot t y h1
    exact ⟨v,h3,SimS.real hctx h2 h4⟩
theorem SW.weaken {K:Act→World→Prop} {n:Nat} {A:An} {g0:Gh} {st st':HSt} {sc:Sch} {m:Nat} {s:AS} (h:absSt false sc (Sv 0 A.np++nones m) st=some s) (hc:conSt id sc s.ds=some st') (hk:joinChk s st'.bl=true) (k:SW K n A g0 st'):SW K n A g0 st:=by
  intro g ρ own fr hg hA hr a w hf hs
  obtain ⟨g1,ρ1,own1,hg1,hs1,hr1,hsg,hρ⟩:=Jq h hc hk hr hs
  refine k g1 _ own1 fr (hg.trans hg1) (fun j hj=>?_) hr1 a w hf hs1
  have hj0:s.σ[j]? = some (some j):=hsg j j (by
    have:=Jo A.np 0 j hj
    rw [Nat.zero_add] at this
    rw [List.getElem?_append_left (AU this)]
    exact this)
  obtain ⟨h1,h2,h20⟩:=hA j hj
  obtain ⟨bv,h3,_⟩:=h2
  obtain ⟨st2,e1,hsteps,_,_,hbl⟩:=Fu h
  rw [hc] at e1;injection e1 with e1;subst e1
  unfold joinChk absChk at hk
  simp only [Bool.and_eq_true] at hk
  obtain ⟨_,_,_,_,hlen⟩:=hk
  obtain ⟨h4,bv',h5,h6,h7⟩:=Gb (ρ:=ρ1) hbl (Nat.eq_of_beq_eq_true hlen) j j hj0
  refine ⟨h4.trans ((hρ j (AU h3)).trans h1),⟨bv',h5,h6⟩,fun bv2 m e1 e2=>?_⟩
  rw [h5] at e1;injection e1 with e1;subst e1
  obtain ⟨bv3,e3,e4⟩:=h7 m e2
  obtain ⟨bv4,e5,e6,_⟩:=hsteps.grow.len h3
  rw [e3] at e5;injection e5 with e5;subst e5
  exact h20 bv m h3 (e6.symm.trans e4)
section
variable {P:Program} {n:Nat} {A:An} {g0:Gh} {Q:Exit→Act→World→Prop} {K:Act→World→Prop} {sl:List (Nat×SV)} {bl:List BV}
theorem Rl.put {g:Gh} {ρ:Env} {own:Own} {fr:Sl} (h:Rl g ρ ⟨sl,bl⟩ own fr) (d:Nat) {s:SV} {v:Value} (hv:RealS g ρ bl s v):Rl g ρ ⟨(d,s)::sl,bl⟩ own ((d,v)::fr):=by
 refine ⟨h.len,h.blk,fun t sv e=>?_,h.gi⟩
 have e:cond (Nat.beq d t) (some s) (getH sl t)=some sv:=e
 show ∃ u,cond (Nat.beq d t) (some v) (getS fr t)=some u∧_
 cases hb:Nat.beq d t with
 | true=>rw [hb] at e;injection e with e;subst e;exact ⟨v,rfl,hv⟩
 | false=>rw [hb] at e;exact h.slot t sv e
theorem SW.split {t:Nat} {b:Bool} (ht:getH sl t=some (vC (.bool b))) (h1:b=true→SW K n A g0 ⟨(t,vC (.bool true))::sl,bl⟩) (h0:b=false→SW K n A g0 ⟨(t,vC (.bool false))::sl,bl⟩):SW K n A g0 ⟨sl,bl⟩:=by
 intro g ρ own fr hg hA hr
 obtain ⟨v,hv1,hv2⟩:=hr.slot t _ ht
 have hv2:v = .bool b:=hv2
 subst hv2
 exact Vq t hv1 (fun e=>h1 e g ρ own _ hg hA (hr.put t rfl)) (fun e=>h0 e g ρ own _ hg hA (hr.put t rfl))
def holes:Nat→List BV
 | 0=>[]
 | m+1=> .hole::holes m
theorem SW.holes (m:Nat) (h:SW K n A g0 ⟨sl,bl++holes m⟩):SW K n A g0 ⟨sl,bl⟩:=by
 induction m generalizing bl with
 | zero=>simpa [holes] using h
 | succ m ih =>
  have h:SW K n A g0 ⟨sl,(bl++[.hole])++Go.Proofs.YtpleflcfaecojaaGreat.holes m⟩:=by simpa [Go.Proofs.YtpleflcfaecojaaGreat.holes] using h
  have h:=ih h
  intro g ρ own fr hg hA hr a w hf hs
  have hl:own.length=bl.length:=hr.len
  have hx:Ext ρ bl ρ (bl++[.hole]):=fun b bv e h2=>⟨rfl,bv,by rw [List.getElem?_append_left (AU e)];exact e,h2,fun m h=>h⟩
  refine h g ρ (own++[none]) fr hg (hA.ext hx) (hr.turn (.refl g) hx (by simp [hl]) fun i bv k h1 h2=>?_) a w hf hs.addNone
  rcases Nat.lt_or_ge i bl.length with hi | hi
  ·rw [List.getElem?_append_left hi] at h1
   rw [List.getElem?_append_left (by omega)] at h2
   exact (hr.blk i bv k h1 h2).ext (.refl g) hx
  ·have hi2:=AU h1
   simp at hi2
   have:i=bl.length:=by omega
   subst this
   simp at h1
   subst h1
   rw [← hl] at h2
   simp at h2
   exact h2.symm
end
structure Stp (P:Program) where
 t:List (Nat×SV)→Nat→Op→TypeId→Tr
 m:List (Nat×SV)→Op→Nat
 ok:∀ {n f:Nat} {sl:List (Nat×SV)} {op:Op} {ty:TypeId} {bl bl':List BV} {v:SV},(∀ i,i < m sl op→bl[f+i]? = some .hole)→Told f (t sl f op ty) bl bl' v→EffH P n op ty sl bl bl' v
theorem Lo:∀ {m i:Nat},i < m→(holes m)[i]? = some .hole
 | m+1,0,_=>rfl
 | m+1,i+1,h=>by simpa [holes] using Lo (m:=m) (i:=i) (by omega)
theorem XU {bl:List BV} {m i:Nat} (h:i < m):(bl++holes m)[bl.length+i]? = some .hole:=by
 rw [List.getElem?_append_right (by omega),show bl.length+i - bl.length=i by omega]
 exact Lo h
def put (n:Nat) (d:Option Nat) (v:SV) (st:HSt):Option HSt:=match d with
 | some d=>cond (Nat.blt d n) (some ⟨(d,v)::st.sl,st.bl⟩) none
 | none=>some st
def doOp {P:Program} (S:Stp P) (n:Nat) {ρ:Type} (o:Oper) (st:HSt) (K:HSt→Option ρ):Option ρ :=
 runT st.bl.length (S.t st.sl st.bl.length o.op o.type) (st.bl++holes (S.m st.sl o.op)) fun bl' v=>match put n o.dst v ⟨st.sl,bl'⟩ with | some st'=>K st' | none=>none
def skOp (n:Nat) {ρ:Type} (o:Oper) (st:HSt) (K:HSt→Option ρ):Option ρ:=match o.dst with
 | some d=>match Nat.blt d n with | true=>K ⟨(d,.und)::st.sl,st.bl⟩ | false=>none
 | none=>none
def evOps {P:Program} (S:Stp P) (n:Nat) (ops:Array Oper) {ρ:Type}:Nat→Nat→HSt→(HSt→Option ρ)→Option ρ
 | 0,i,st,K=>match Nat.beq ops.size i with | true=>K st | false=>none
 | f+1,i,st,K=>match ops[i]? with
  | none=>none
  | some o=>match o.guard with
   | none=>doOp S n o st (fun st'=>evOps S n ops f (i+1) st' K)
   | some (j,want)=>match dstAt ops j with
    | none=>none
    | some t=>match getH st.sl t with
     | some (.v (.c (.bool b)))=>cnd b
       (match want with | true=>doOp S n o ⟨(t,vC (.bool true))::st.sl,st.bl⟩ (fun st'=>evOps S n ops f (i+1) st' K) | false=>skOp n o ⟨(t,vC (.bool true))::st.sl,st.bl⟩ (fun st'=>evOps S n ops f (i+1) st' K))
       (match want with | true=>skOp n o ⟨(t,vC (.bool false))::st.sl,st.bl⟩ (fun st'=>evOps S n ops f (i+1) st' K) | false=>doOp S n o ⟨(t,vC (.bool false))::st.sl,st.bl⟩ (fun st'=>evOps S n ops f (i+1) st' K))
     | some .und=>skOp n o st (fun st'=>evOps S n ops f (i+1) st' K)
     | _=>none
section
variable {P:Program} {S:Stp P} {n:Nat} {A:An} {g0:Gh} {Q:Exit→Act→World→Prop} {ops:Array Oper} {ρ:Type} {r:ρ}
theorem Mt {o:Oper} {i:Nat} {st:HSt} {K:HSt→Option ρ} (ho:ops[i]? = some o) (hw:∀ g ρ own fr bl a,Rl g ρ ⟨st.sl,bl⟩ own fr→Fr n a fr→Region.wanted o (yielded ops a.tmps)=true)
  (h:doOp S n o st K=some r) (hK:∀ st',K st'=some r→SW (wpOps P ops Q (List.range' (i+1) (ops.size - (i+1)))) n A g0 st'):SW (wpOps P ops Q (List.range' i (ops.size - i))) n A g0 st:=by
 obtain ⟨bl',v,h1,h2⟩:=CG h
 have he:=S.ok (n:=n) (fun i hi=>XU hi) h1
 refine SW.holes (S.m st.sl o.op) ?_
 split at h2
 ·rename_i st' hp
  have hsw:=hK st' h2
  intro g ρ own fr hg hA hr a w hf hs
  rw [IZ ho]
  simp only [wpOps,ho,hw g ρ own fr _ a hr hf,if_true]
  refine .inl (he o a w Q _ g ρ own fr rfl rfl hr hf hs fun v' g' ρ' own' w' hg' hx hs' hr' hv'=>?_)
  unfold put at hp
  split at hp
  ·rename_i d hd
   obtain ⟨hdn,hp⟩:=condS hp
   injection hp with hp;subst hp
   have hdn:d < n:=by simpa using hdn
   rw [hd]
   exact hsw g' ρ' own' ((d,v')::fr) (hg.trans hg') (hA.ext hx) (hr'.put d hv') _ w' (hf.put hdn v') hs'
  ·rename_i hd
   injection hp with hp;subst hp
   rw [hd]
   exact hsw g' ρ' own' fr (hg.trans hg') (hA.ext hx) hr' a w' hf hs'
 ·cases h2
theorem Mu {o:Oper} {i:Nat} {st:HSt} {K:HSt→Option ρ} (ho:ops[i]? = some o) (hw:∀ g ρ own fr bl a,Rl g ρ ⟨st.sl,bl⟩ own fr→Fr n a fr→Region.wanted o (yielded ops a.tmps)=false)
  (h:skOp n o st K=some r) (hK:∀ st',K st'=some r→SW (wpOps P ops Q (List.range' (i+1) (ops.size - (i+1)))) n A g0 st'):SW (wpOps P ops Q (List.range' i (ops.size - i))) n A g0 st:=by
 unfold skOp at h
 split at h
 ·rename_i d hd
  split at h
  case h_2=>cases h
  rename_i hdn
  have hdn:d < n:=by simpa using hdn
  have hsw:=hK _ h
  intro g ρ own fr hg hA hr a w hf hs
  rw [IZ ho]
  simp only [wpOps,ho,hw g ρ own fr _ a hr hf,Bool.false_eq_true,if_false,hd]
  exact hsw g ρ own ((d,undef)::fr) hg hA (hr.put d rfl) _ w (hf.put hdn _) hs
 ·cases h
theorem Eo {o:Oper} {j t:Nat} {want b:Bool} {sl:List (Nat×SV)} (hg:o.guard=some (j,want)) (hj:dstAt ops j=some t) (hb:getH sl t=some (vC (.bool b))) {g:Gh} {ρ:Env} {own:Own} {fr:Sl} {bl:List BV} {a:Act}
  (hr:Rl g ρ ⟨sl,bl⟩ own fr) (hf:Fr n a fr):Region.wanted o (yielded ops a.tmps)=(b==want):=by
 obtain ⟨v,h1,h2⟩:=hr.slot t _ hb
 have h2:v = .bool b:=h2
 subst h2
 simp [Region.wanted,hg,RW hf hj h1]
theorem Ep {t:Nat} {v:SV} {l:List (Nat×SV)}:getH ((t,v)::l) t=some v:=by simp [getH]
theorem Jr {o:Oper} {j t:Nat} {want:Bool} {sl:List (Nat×SV)} (hg:o.guard=some (j,want)) (hj:dstAt ops j=some t) (hb:getH sl t=some .und) {g:Gh} {ρ:Env} {own:Own} {fr:Sl} {bl:List BV} {a:Act}
  (hr:Rl g ρ ⟨sl,bl⟩ own fr) (hf:Fr n a fr):Region.wanted o (yielded ops a.tmps)=false:=by
 obtain ⟨v,h1,h2⟩:=hr.slot t _ hb
 have h2:v=undef:=h2
 subst h2
 have h3:=hf.at_ t _ h1
 have:yielded ops a.tmps j=none:=by
  unfold dstAt at hj
  unfold yielded
  rw [hj]
  simp [h3,undef]
 simp [Region.wanted,hg,this]
theorem Gc {α:Type} {b:Bool} {x y:Option α} {r:α} (h:cnd b x y=some r):(b=true∧x=some r)∨(b=false∧y=some r):=by
 cases b
 ·exact .inr ⟨rfl,h⟩
 ·exact .inl ⟨rfl,h⟩
theorem Di {K:HSt→Option ρ} (hK:∀ st',K st'=some r→SW (Q .normal) n A g0 st'):∀ {f i:Nat} {st:HSt},evOps S n ops f i st K=some r→SW (wpOps P ops Q (List.range' i (ops.size - i))) n A g0 st
 | 0,i,st,h=>by
  unfold evOps at h
  split at h
  case h_2=>cases h
  rename_i e
  have e:=Nat.eq_of_beq_eq_true e
  have:=hK st h
  rw [e,Nat.sub_self]
  exact this
 | f+1,i,st,h=>by
  unfold evOps at h
  split at h
  ·cases h
  ·rename_i o ho
   split at h
   ·rename_i hg
    exact Mt ho (fun g ρ own fr bl a hr hf=>by simp [Region.wanted,hg]) h fun st' h'=>Di hK h'
   ·rename_i j want hg
    split at h
    ·cases h
    ·rename_i t hj
     split at h
     ·rename_i b hb
      obtain ⟨sl,bl⟩:=st
      refine SW.split hb (fun e=>?_) (fun e=>?_)
      ·subst e
       rcases Gc (h:cnd true _ _=_) with ⟨_,h⟩ | ⟨e,_⟩
       ·split at h
        ·exact Mt ho (fun g ρ own fr bl a hr hf=>by rw [Eo hg hj Ep hr hf];rfl) h fun st' h'=>Di hK h'
        ·exact Mu ho (fun g ρ own fr bl a hr hf=>by rw [Eo hg hj Ep hr hf];rfl) h fun st' h'=>Di hK h'
       ·cases e
      ·subst e
       rcases Gc (h:cnd false _ _=_) with ⟨e,_⟩ | ⟨_,h⟩
       ·cases e
       ·split at h
        ·exact Mu ho (fun g ρ own fr bl a hr hf=>by rw [Eo hg hj Ep hr hf];rfl) h fun st' h'=>Di hK h'
        ·exact Mt ho (fun g ρ own fr bl a hr hf=>by rw [Eo hg hj Ep hr hf];rfl) h fun st' h'=>Di hK h'
     ·rename_i hb
      exact Mu ho (fun g ρ own fr bl a hr hf=>Jr hg hj hb hr hf) h fun st' h'=>Di hK h'
     ·cases h
end
def hasN (m b:Nat):Bool:=Nat.testBit m b
def bitN (b:Nat):Nat:=Nat.shiftLeft 1 b
def uniN (x y:Nat):Nat:=Nat.lor x y
def sepN (x y:Nat):Bool:=Nat.beq (Nat.land x y) 0
theorem Er (b:Nat):hasN (bitN b) b=true:=by
 show Nat.testBit (1 <<< b) b=true
 simp
theorem NS {b j:Nat} (h:hasN (bitN b) j=true):j=b:=by
 have h:Nat.testBit (1 <<< b) j=true:=h
 rw [Nat.testBit_shiftLeft] at h
 simp only [Bool.and_eq_true,decide_eq_true_eq] at h
 obtain ⟨h1,h2⟩:=h
 cases e:j - b with
 | zero=>omega
 | succ k=>rw [e] at h2;simp [Nat.testBit,Nat.shiftRight_eq_div_pow] at h2;rw [Nat.div_eq_of_lt (Nat.one_lt_two_pow (by omega))] at h2;cases h2
theorem BT (x y b:Nat):hasN (uniN x y) b=(hasN x b || hasN y b):=Nat.testBit_or x y b
theorem Gd {x y b:Nat} (h:sepN x y=true) (h1:hasN x b=true):hasN y b=false:=by
 have h0:x &&& y=0:=Nat.eq_of_beq_eq_true h
 have h2:=Nat.testBit_and x y b
 rw [h0,Nat.zero_testBit] at h2
 have h1:x.testBit b=true:=h1
 rw [h1,Bool.true_and] at h2
 exact h2.symm
def bitsOf:List Nat→Nat
 | []=>0
 | b::l=>uniN (bitN b) (bitsOf l)
theorem Ij {l:List Nat} {b:Nat} (h:b∈l):hasN (bitsOf l) b=true:=by
 induction l with
 | nil=>cases h
 | cons c l ih =>
  show hasN (uniN _ _) b=true
  rw [BT]
  rcases List.mem_cons.1 h with rfl | h
  ·rw [Er];rfl
  ·rw [ih h];simp
def restr (sl:List (Nat×SV)):List Nat→List (Nat×SV)
 | []=>[]
 | t::ts=>match getH sl t with | some v=>(t,v)::restr sl ts | none=>restr sl ts
theorem Ik {sl:List (Nat×SV)} {t:Nat} {sv:SV}:∀ {ts:List Nat},getH (restr sl ts) t=some sv→getH sl t=some sv
 | [],h=>by cases h
 | u::ts,h=>by
  unfold restr at h
  split at h
  ·rename_i v e
   have h:cond (Nat.beq u t) (some v) (getH (restr sl ts) t)=some sv:=h
   cases hb:Nat.beq u t with
   | true =>
    rw [hb] at h
    have:=Nat.eq_of_beq_eq_true hb
    subst this
    rw [e];exact h
   | false=>rw [hb] at h;exact Ik h
  ·exact Ik h
theorem Fv {sl sl':List (Nat×SV)}:∀ {ts:List Nat},(∀ t∈ts,getH sl t=getH sl' t)→restr sl ts=restr sl' ts
 | [],h=>rfl
 | u::ts,h=>by
  unfold restr
  rw [h u (List.mem_cons_self ..),Fv fun t ht=>h t (List.mem_cons_of_mem _ ht)]
theorem Rl.sub {g:Gh} {ρ:Env} {own:Own} {fr:Sl} {sl sl':List (Nat×SV)} {bl:List BV} (h:Rl g ρ ⟨sl,bl⟩ own fr) (hi:∀ t sv,getH sl' t=some sv→getH sl t=some sv):Rl g ρ ⟨sl',bl⟩ own fr :=
 ⟨h.len,h.blk,fun t sv e=>h.slot t sv (hi t sv e),h.gi⟩
theorem EffH.sub {P:Program} {n:Nat} {op:Op} {ty:TypeId} {sl sl':List (Nat×SV)} {bl bl':List BV} {v:SV} (h:EffH P n op ty sl' bl bl' v) (hi:∀ t sv,getH sl' t=some sv→getH sl t=some sv):EffH P n op ty sl bl bl' v :=
 fun o a w Q K g ρ own fr h1 h2 hr hf hs hk=>h o a w Q K g ρ own fr h1 h2 (hr.sub hi) hf hs fun v g' ρ' own' w' hg hx hs' hr' hv=>hk v g' ρ' own' w' hg hx hs' ⟨hr'.len,hr'.blk,fun t sv e=>by
  obtain ⟨u,h3,h4⟩:=hr.slot t sv e
  exact ⟨u,h3,h4.ext hg hx⟩,hr'.gi⟩ hv
def opSlots (op:Op):List Nat:=op.operands.toList.filterMap fun | .tmp t=>some t | _=>none
def numE:Nat→List BV→List (Nat×BV)
 | _,[]=>[]
 | f,v::l=>(f,v)::numE (f+1) l
theorem Sw {bl:List BV} {E F:List (Nat×BV)}:setUpd bl (E++F)=setUpd (setUpd bl E) F:=by
 induction E generalizing bl with
 | nil=>rfl
 | cons x E ih=>exact ih
theorem Sx {bl:List BV} {f:Nat} {l:List BV}:setNew bl f l=setUpd bl (numE f l):=by
 induction l generalizing bl f with
 | nil=>rfl
 | cons x l ih=>exact ih
theorem Fw {bl:List BV} {E:List (Nat×BV)}:(setUpd bl E).length=bl.length:=by
 induction E generalizing bl with
 | nil=>rfl
 | cons x E ih=>exact ih.trans (by simp)
def lastE:List (Nat×BV)→Nat→Option BV
 | [],_=>none
 | (c,v)::l,b=>match lastE l b with | some u=>some u | none=>cond (Nat.beq c b) (some v) none
theorem Sy {c:Nat} {v:BV} {l:List (Nat×BV)} {b:Nat}:lastE ((c,v)::l) b=match lastE l b with | some u=>some u | none=>cond (Nat.beq c b) (some v) none:=rfl
theorem CE {bl:List BV} {E:List (Nat×BV)} {b:Nat}:(setUpd bl E)[b]? = match lastE E b with | some u=>cond (Nat.blt b bl.length) (some u) none | none=>bl[b]?:=by
 induction E generalizing bl with
 | nil=>rfl
 | cons x E ih =>
  obtain ⟨c,v⟩:=x
  show (setUpd (bl.set c v) E)[b]? = _
  rw [ih,Sy]
  cases lastE E b with
  | some u=>simp
  | none =>
   dsimp only
   cases hb:Nat.beq c b with
   | true =>
    have:=Nat.eq_of_beq_eq_true hb
    subst this
    rw [List.getElem?_set_self']
    by_cases hlt:c < bl.length
    ·have:Nat.blt c bl.length=true:=by simpa using hlt
     rw [this,List.getElem?_eq_getElem hlt]
     rfl
    ·have:Nat.blt c bl.length=false:=by
      cases hx:Nat.blt c bl.length with
      | false=>rfl
      | true=>exact absurd (by simpa using hx) hlt
     rw [this,List.getElem?_eq_none (by omega)]
     rfl
   | false =>
    have:c≠b:=fun e=>by subst e;simp at hb
    rw [List.getElem?_set_ne this]
    rfl
theorem VG {E:List (Nat×BV)} {b:Nat} {u:BV} (h:lastE E b=some u):b∈E.map Prod.fst:=by
 induction E with
 | nil=>cases h
 | cons x E ih =>
  obtain ⟨c,v⟩:=x
  unfold lastE at h
  split at h
  ·rename_i w e
   injection h with h;subst h
   exact List.mem_cons_of_mem _ (ih e)
  ·cases hb:Nat.beq c b with
   | true=>have:=Nat.eq_of_beq_eq_true hb;subst this;exact List.mem_cons_self ..
   | false=>rw [hb] at h;cases h
def TolD (f:Nat):Tr→List BV→Nat→List (Nat×BV)→SV→Prop
 | .no,_,_,_,_=>False
 | .done e,bl,fp,E,v=>E=e.upd++numE f e.new∧v=e.val
 | .need b k,bl,fp,E,v=>hasN fp b=true∧∃ bv,bl[b]? = some bv∧TolD f (k bv) bl fp E v
 | .frz b k,bl,fp,E,v=>hasN fp b=true∧∃ bv fv E',bl[b]? = some bv∧frzB bv=some fv∧E=(b,fv)::E'∧TolD f k (bl.set b fv) fp E' v
 | .grd c k,bl,fp,E,v=>c=true∧TolD f k bl fp E v
 | .bnd x k,bl,fp,E,v=>∃ t,x=some t∧TolD f (k t) bl fp E v
 | .sub _ k,bl,fp,E,v=>∃ idl,(∀ b∈idl,hasN fp b=true)∧TolD f (k (maskB 0 idl bl)) bl fp E v
 | .alt x k1 k2,bl,fp,E,v=>(∃ a,x = .inl a∧TolD f (k1 a) bl fp E v)∨∃ b,x = .inr b∧TolD f (k2 b) bl fp E v
theorem Sz {x:Nat} {l:List Nat} (h:natMem x l=true):x∈l:=by
 induction l with
 | nil=>cases h
 | cons y l ih =>
  have h:cond (Nat.beq x y) true (natMem x l)=true:=h
  cases hb:Nat.beq x y with
  | true=>have:=Nat.eq_of_beq_eq_true hb;subst this;exact List.mem_cons_self ..
  | false=>rw [hb] at h;exact List.mem_cons_of_mem _ (ih h)
theorem IC {ids:List Nat}:∀ {bl bl2:List BV} {i:Nat},bl2.length=bl.length→(∀ b,i+b∈ids→bl2[b]? = bl[b]?)→maskB i ids bl2=maskB i ids bl
 | [],[],_,_,_=>rfl
 | [],_::_,_,h,_=>by cases h
 | _::_,[],_,h,_=>by cases h
 | x::bl,y::bl2,i,hl,h=>by
  unfold maskB
  rw [IC (i:=i+1) (by simpa using hl) fun b hb=>by simpa using h (b+1) (by rw [show i+(b+1)=i+1+b by omega];exact hb)]
  congr 1
  cases hm:natMem i ids with
  | false=>rfl
  | true =>
   have:=h 0 (Sz hm)
   simp at this
   rw [this]
theorem TolD.told {f:Nat} {fp:Nat}:∀ {t:Tr} {bl bl2:List BV} {E:List (Nat×BV)} {v:SV},TolD f t bl fp E v→bl2.length=bl.length→(∀ b,hasN fp b=true→bl2[b]? = bl[b]?)→Told f t bl2 (setUpd bl2 E) v
 | .no,_,_,_,_,h,_,_=>h
 | .done e,_,bl2,_,_,⟨h1,h2⟩,_,_=>⟨by rw [h1,Sw];exact (Sx).symm,h2⟩
 | .need b k,bl,bl2,E,v,⟨h1,bv,h2,h3⟩,hl,ha=>⟨bv,(ha b h1).trans h2,TolD.told h3 hl ha⟩
 | .frz b k,bl,bl2,E,v,⟨h1,bv,fv,E',h2,h3,h4,h5⟩,hl,ha=>by
  subst h4
  refine ⟨bv,fv,(ha b h1).trans h2,h3,TolD.told h5 (by simp [hl]) fun c hc=>?_⟩
  by_cases e:b=c
  ·subst e
   rw [List.getElem?_set_self',List.getElem?_set_self',ha b h1]
  ·rw [List.getElem?_set_ne e,List.getElem?_set_ne e,ha c hc]
 | .grd c k,bl,bl2,E,v,⟨h1,h2⟩,hl,ha=>⟨h1,TolD.told h2 hl ha⟩
 | .bnd x k,bl,bl2,E,v,⟨t,h1,h2⟩,hl,ha=>⟨t,h1,TolD.told h2 hl ha⟩
 | .sub _ k,bl,bl2,E,v,⟨idl,h1,h2⟩,hl,ha=>⟨idl,by
  rw [IC (i:=0) hl fun b hb=>ha b (h1 b (by simpa using hb))]
  exact TolD.told h2 hl ha⟩
 | .alt x k1 k2,bl,bl2,E,v,h,hl,ha=>by
  rcases h with ⟨a,h1,h2⟩ | ⟨b,h1,h2⟩
  ·exact .inl ⟨a,h1,TolD.told h2 hl ha⟩
  ·exact .inr ⟨b,h1,TolD.told h2 hl ha⟩
def runD {ρ:Type} (f:Nat):Tr→List BV→Nat→List (Nat×BV)→(Nat→List (Nat×BV)→SV→Option ρ)→Option ρ
 | .no,_,_,_,_=>none
 | .done e,bl,fp,E,K=>K fp (E++(e.upd++numE f e.new)) e.val
 | .need b k,bl,fp,E,K=>match bl[b]? with | some bv=>runD f (k bv) bl (uniN (bitN b) fp) E K | none=>none
 | .frz b k,bl,fp,E,K=>match bl[b]? with | some bv=>(match frzB bv with | some fv=>runD f k (bl.set b fv) (uniN (bitN b) fp) (E++[(b,fv)]) K | none=>none) | none=>none
 | .grd c k,bl,fp,E,K=>gd c (runD f k bl fp E K)
 | .bnd x k,bl,fp,E,K=>bd x fun t=>runD f (k t) bl fp E K
 | .sub ids k,bl,fp,E,K=>runD f (k (maskB 0 (ids bl) bl)) bl (uniN (bitsOf (ids bl)) fp) E K
 | .alt x k1 k2,bl,fp,E,K=>sm x (fun a=>runD f (k1 a) bl fp E K) (fun b=>runD f (k2 b) bl fp E K)
theorem CH {ρ:Type} {f:Nat} {K:Nat→List (Nat×BV)→SV→Option ρ} {r:ρ}:∀ {t:Tr} {bl:List BV} {fp:Nat} {E:List (Nat×BV)},runD f t bl fp E K=some r→∃ fp' E' v,(∀ b,hasN fp b=true→hasN fp' b=true)∧TolD f t bl fp' E' v∧K fp' (E++E') v=some r
 | .no,_,_,_,h=>by cases h
 | .done e,bl,fp,E,h=>⟨fp,_,_,fun _ h=>h,⟨rfl,rfl⟩,h⟩
 | .need b k,bl,fp,E,h=>by
  unfold runD at h
  split at h
  ·rename_i bv e
   obtain ⟨fp',E',v,h1,h2,h3⟩:=CH h
   exact ⟨fp',E',v,fun c hc=>h1 c (by rw [BT,hc];simp),⟨h1 b (by rw [BT,Er];rfl),bv,e,h2⟩,h3⟩
  ·cases h
 | .frz b k,bl,fp,E,h=>by
  unfold runD at h
  split at h
  ·rename_i bv e
   split at h
   ·rename_i fv e2
    obtain ⟨fp',E',v,h1,h2,h3⟩:=CH h
    exact ⟨fp',(b,fv)::E',v,fun c hc=>h1 c (by rw [BT,hc];simp),⟨h1 b (by rw [BT,Er];rfl),bv,fv,E',e,e2,rfl,h2⟩,by simpa using h3⟩
   ·cases h
  ·cases h
 | .grd c k,bl,fp,E,h=>by
  obtain ⟨hc,h⟩:=AiB ((XG _ _).symm.trans h)
  obtain ⟨fp',E',v,h1,h2,h3⟩:=CH h
  exact ⟨fp',E',v,h1,⟨hc,h2⟩,h3⟩
 | .bnd x k,bl,fp,E,h=>by
  obtain ⟨t,hx,h⟩:=GL ((Jj _ _).symm.trans h)
  obtain ⟨fp',E',v,h1,h2,h3⟩:=CH h
  exact ⟨fp',E',v,h1,⟨t,hx,h2⟩,h3⟩
 | .sub ids k,bl,fp,E,h=>by
  unfold runD at h
  obtain ⟨fp',E',v,h1,h2,h3⟩:=CH h
  exact ⟨fp',E',v,fun c hc=>h1 c (by rw [BT,hc];simp),⟨_,fun b hb=>h1 b (by rw [BT,Ij hb];rfl),h2⟩,h3⟩
 | .alt x k1 k2,bl,fp,E,h=>by
  unfold runD at h
  cases x with
  | inl a =>
   obtain ⟨fp',E',v,h1,h2,h3⟩:=CH h
   exact ⟨fp',E',v,h1,.inl ⟨a,rfl,h2⟩,h3⟩
  | inr b =>
   obtain ⟨fp',E',v,h1,h2,h3⟩:=CH h
   exact ⟨fp',E',v,h1,.inr ⟨b,rfl,h2⟩,h3⟩
structure F4 where
 bR:Nat
 bW:Nat
 sR:Nat
 sW:Nat
def dj (x y:F4):Bool:=sepN x.bW (uniN y.bR y.bW)&&(sepN y.bW x.bR&&(sepN x.sW (uniN y.sR y.sW)&&sepN y.sW x.sR))
structure RcD where
 d:Option Nat
 E:List (Nat×BV)
 v:SV
 f4:F4
def putL (d:Option Nat) (v:SV) (sl:List (Nat×SV)):List (Nat×SV):=match d with | some d=>(d,v)::sl | none=>sl
def apR (r:RcD) (st:HSt):HSt:=⟨putL r.d r.v st.sl,setUpd st.bl r.E⟩
def stD (D:Nat→Bool) (st0:HSt) (rc:Nat→RcD):Nat→HSt
 | 0=>st0
 | k+1=>cond (D k) (apR (rc k) (stD D st0 rc k)) (stD D st0 rc k)
def Eqv (s t:HSt):Prop:=s.bl=t.bl∧∀ x,getH s.sl x=getH t.sl x
theorem Eqv.refl {s:HSt}:Eqv s s:=⟨rfl,fun _=>rfl⟩
theorem Eqv.trans {s t u:HSt} (h:Eqv s t) (k:Eqv t u):Eqv s u:=⟨h.1.trans k.1,fun x=>(h.2 x).trans (k.2 x)⟩
theorem Eqv.symm {s t:HSt} (h:Eqv s t):Eqv t s:=⟨h.1.symm,fun x=>(h.2 x).symm⟩
theorem VH {d t:Nat} {v:SV} {l:List (Nat×SV)}:getH ((d,v)::l) t=cond (Nat.beq d t) (some v) (getH l t):=rfl
theorem Cr {d:Option Nat} {v:SV} {l:List (Nat×SV)} {t:Nat}:getH (putL d v l) t=match d with | some d=>cond (Nat.beq d t) (some v) (getH l t) | none=>getH l t:=by cases d <;> rfl
theorem Eqv.ap {s t:HSt} (h:Eqv s t) (r:RcD):Eqv (apR r s) (apR r t):=by
 refine ⟨by show setUpd _ _=setUpd _ _;rw [h.1],fun x=>?_⟩
 show getH (putL _ _ _) x=getH (putL _ _ _) x
 rw [Cr,Cr]
 cases r.d with
 | none=>exact h.2 x
 | some d=>dsimp only;rw [h.2 x]
theorem Rl.eqv {g:Gh} {ρ:Env} {own:Own} {fr:Sl} {s t:HSt} (h:Rl g ρ s own fr) (e:Eqv s t):Rl g ρ t own fr:=by
 obtain ⟨sl,bl⟩:=s
 obtain ⟨sl',bl'⟩:=t
 obtain ⟨e1,e2⟩:=e
 have e1:bl=bl':=e1
 subst e1
 exact h.sub fun t sv h=>(e2 t).trans h
theorem SW.eqv {K:Act→World→Prop} {n:Nat} {A:An} {g0:Gh} {s t:HSt} (h:SW K n A g0 t) (e:Eqv s t):SW K n A g0 s:=fun g ρ own fr hg hA hr=>h g ρ own fr hg (by rw [← e.1];exact hA) (hr.eqv e)
structure RcD.Wf (r:RcD):Prop where
 b:∀ b u,lastE r.E b=some u→hasN r.f4.bW b=true
 s:∀ d,r.d=some d→hasN r.f4.sW d=true
structure Apart (x y:F4):Prop where
 b1:∀ b,hasN x.bW b=true→hasN y.bR b=false∧hasN y.bW b=false
 b2:∀ b,hasN y.bW b=true→hasN x.bR b=false
 s1:∀ b,hasN x.sW b=true→hasN y.sR b=false∧hasN y.sW b=false
 s2:∀ b,hasN y.sW b=true→hasN x.sR b=false
theorem Afr {x y:F4} (h:dj x y=true):Apart x y:=by
 unfold dj at h
 simp only [Bool.and_eq_true] at h
 obtain ⟨h1,h2,h3,h4⟩:=h
 refine ⟨fun b hb=>?_,fun b hb=>Gd h2 hb,fun b hb=>?_,fun b hb=>Gd h4 hb⟩
 ·have:=Gd h1 hb
  rw [BT,Bool.or_eq_false_iff] at this
  exact this
 ·have:=Gd h3 hb
  rw [BT,Bool.or_eq_false_iff] at this
  exact this
theorem Apart.symm {x y:F4} (h:Apart x y):Apart y x:=by
 refine ⟨fun b hb=>⟨h.b2 b hb,?_⟩,fun b hb=>(h.b1 b hb).1,fun b hb=>⟨h.s2 b hb,?_⟩,fun b hb=>(h.s1 b hb).1⟩
 ·cases e:hasN x.bW b with
  | false=>rfl
  | true=>rw [(h.b1 b e).2] at hb;cases hb
 ·cases e:hasN x.sW b with
  | false=>rfl
  | true=>rw [(h.s1 b e).2] at hb;cases hb
theorem Js {r:RcD} (h:r.Wf) {b:Nat} (hb:hasN r.f4.bW b=false):lastE r.E b=none:=by
 cases e:lastE r.E b with
 | none=>rfl
 | some u=>rw [h.b b u e] at hb;cases hb
theorem Afs {x y:RcD} {s:HSt} (hx:x.Wf) (hy:y.Wf) (h:Apart x.f4 y.f4):Eqv (apR x (apR y s)) (apR y (apR x s)):=by
 constructor
 ·show setUpd (setUpd s.bl y.E) x.E=setUpd (setUpd s.bl x.E) y.E
  refine List.ext_getElem? fun b=>?_
  rw [CE,CE,CE,CE,Fw,Fw]
  cases e:lastE x.E b with
  | none=>rfl
  | some u=>rw [Js hy (h.b1 b (hx.b b u e)).2]
 ·intro t
  show getH (putL x.d x.v (putL y.d y.v s.sl)) t=getH (putL y.d y.v (putL x.d x.v s.sl)) t
  rw [Cr,Cr,Cr,Cr]
  cases e1:x.d with
  | none=>rfl
  | some d =>
   cases e2:y.d with
   | none=>rfl
   | some c =>
    dsimp only
    have hd:=(h.s1 d (hx.s d e1)).2
    have hc:=hy.s c e2
    cases hb:Nat.beq d t with
    | false=>rfl
    | true =>
     have:=Nat.eq_of_beq_eq_true hb
     subst this
     cases hb2:Nat.beq c d with
     | false=>rfl
     | true =>
      have:=Nat.eq_of_beq_eq_true hb2
      subst this
      rw [hc] at hd;cases hd
theorem Ge {D:Nat→Bool} {st0:HSt} {rc:Nat→RcD}:∀ {k:Nat},(stD D st0 rc k).bl.length=st0.bl.length
 | 0=>rfl
 | k+1=>by
  show (cond (D k) _ _:HSt).bl.length=_
  cases D k with
  | false=>exact Ge
  | true=>exact (Fw (E:=(rc k).E)).trans Ge
theorem Jt {D D':Nat→Bool} {st0:HSt} {rc:Nat→RcD}:∀ {k:Nat},(∀ j,j < k→D j=D' j)→stD D st0 rc k=stD D' st0 rc k
 | 0,_=>rfl
 | k+1,h=>by
  show cond (D k) _ _=cond (D' k) _ _
  rw [h k (Nat.lt_succ_self k),Jt fun j hj=>h j (Nat.lt_succ_of_lt hj)]
theorem XV {D:Nat→Bool} {st0:HSt} {rc rc':Nat→RcD}:∀ {k:Nat},(∀ j,j < k→rc j=rc' j)→stD D st0 rc k=stD D st0 rc' k
 | 0,_=>rfl
 | k+1,h=>by
  show cond (D k) _ _=cond (D k) _ _
  rw [h k (Nat.lt_succ_self k),XV fun j hj=>h j (Nat.lt_succ_of_lt hj)]
def setD (D:Nat→Bool) (i:Nat):Nat→Bool:=fun k=>cond (Nat.beq i k) true (D k)
theorem DA {D:Nat→Bool} {i:Nat}:setD D i i=true:=by simp [setD]
theorem Dy {D:Nat→Bool} {i k:Nat} (h:i≠k):setD D i k=D k:=by
 have:Nat.beq i k=false:=by
  cases hb:Nat.beq i k with
  | false=>rfl
  | true=>exact absurd (Nat.eq_of_beq_eq_true hb) h
 simp [setD,this]
theorem TE {D:Nat→Bool} {st0:HSt} {rc:Nat→RcD} {i:Nat} (hi:D i=false):∀ {k:Nat},i < k→(∀ j,j < k→(rc j).Wf)→(∀ j,i < j→j < k→D j=true→Apart (rc j).f4 (rc i).f4)→Eqv (stD (setD D i) st0 rc k) (apR (rc i) (stD D st0 rc k))
 | 0,h,_,_=>absurd h (Nat.not_lt_zero i)
 | k+1,h,hw,ha=>by
  rcases Nat.lt_or_ge i k with hk | hk
  ·have ih:=TE (st0:=st0) hi hk (fun j hj=>hw j (by omega)) fun j h1 h2=>ha j h1 (by omega)
   show Eqv (cond (setD D i k) _ _) (apR _ (cond (D k) _ _))
   rw [Dy (by omega)]
   cases hd:D k with
   | false=>exact ih
   | true=>exact (ih.ap (rc k)).trans (Afs (hw k (by omega)) (hw i (by omega)) (ha k hk (by omega) hd))
  ·have:i=k:=by omega
   subst this
   show Eqv (cond (setD D i i) _ _) (apR _ (cond (D i) _ _))
   rw [DA,hi,Jt (D':=D) fun j hj=>Dy (by omega)]
   exact .refl
theorem Lp {D:Nat→Bool} {st0:HSt} {rc:Nat→RcD} {i:Nat} {bR sR:Nat} (hb:(rc i).f4.bR=bR) (hs:(rc i).f4.sR=sR) (hi:D i=false):∀ {k:Nat},(∀ j,j < k→(rc j).Wf)→(∀ j,i < j→j < k→D j=true→Apart (rc j).f4 (rc i).f4)→(∀ j,j < k→j < i→D j=false→Apart (rc i).f4 (rc j).f4) →
  (∀ b,hasN bR b=true→(stD D st0 rc k).bl[b]? = (stD (fun _=>true) st0 rc (min i k)).bl[b]?)∧∀ t,hasN sR t=true→getH (stD D st0 rc k).sl t=getH (stD (fun _=>true) st0 rc (min i k)).sl t
 | 0,_,_,_=>by rw [Nat.min_zero];exact ⟨fun _ _=>rfl,fun _ _=>rfl⟩
 | k+1,hw,h1,h2=>by
  have ih:=Lp (st0:=st0) hb hs hi (k:=k) (fun j hj=>hw j (by omega)) (fun j a b=>h1 j a (by omega)) (fun j a=>h2 j (by omega))
  have wk:=hw k (by omega)
  have skip:Apart (rc k).f4 (rc i).f4→∀ s:HSt,(∀ b,hasN bR b=true→(apR (rc k) s).bl[b]? = s.bl[b]?)∧∀ t,hasN sR t=true→getH (apR (rc k) s).sl t=getH s.sl t:=fun ap s=>by
   refine ⟨fun b hb2=>?_,fun t ht=>?_⟩
   ·show (setUpd s.bl (rc k).E)[b]? = _
    rw [CE,Js wk]
    cases e:hasN (rc k).f4.bW b with
    | false=>rfl
    | true=>have:=(ap.b1 b e).1;rw [hb,hb2] at this;cases this
   ·show getH (putL _ _ _) t=_
    rw [Cr]
    cases e:(rc k).d with
    | none=>rfl
    | some d =>
     dsimp only
     cases hbq:Nat.beq d t with
     | false=>rfl
     | true =>
      have:=Nat.eq_of_beq_eq_true hbq
      subst this
      have:=(ap.s1 d (wk.s d e)).1
      rw [hs,ht] at this;cases this
  rcases Nat.lt_or_ge k i with hk | hk
  ·rw [show min i (k+1)=k+1 by omega]
   rw [show min i k=k by omega] at ih
   show (∀ b,hasN bR b=true→(cond (D k) _ _:HSt).bl[b]? = (apR _ _).bl[b]?)∧∀ t,hasN sR t=true→getH (cond (D k) _ _:HSt).sl t=getH (apR _ _).sl t
   cases hd:D k with
   | true =>
    refine ⟨fun b hb2=>?_,fun t ht=>?_⟩
    ·show (setUpd _ _)[b]? = (setUpd _ _)[b]?
     rw [CE,CE,Ge,Ge,ih.1 b hb2]
    ·show getH (putL _ _ _) t=getH (putL _ _ _) t
     rw [Cr,Cr,ih.2 t ht]
   | false =>
    have sk:=skip (h2 k (by omega) hk hd).symm (stD (fun _=>true) st0 rc k)
    exact ⟨fun b hb2=>(ih.1 b hb2).trans (sk.1 b hb2).symm,fun t ht=>(ih.2 t ht).trans (sk.2 t ht).symm⟩
  ·rw [show min i (k+1)=i by omega]
   rw [show min i k=i by omega] at ih
   show (∀ b,hasN bR b=true→(cond (D k) _ _:HSt).bl[b]? = _)∧∀ t,hasN sR t=true→getH (cond (D k) _ _:HSt).sl t=_
   cases hd:D k with
   | false=>exact ih
   | true =>
    have hne:i≠k:=fun e=>by subst e;rw [hi] at hd;cases hd
    have sk:=skip (h1 k (by omega) (by omega) hd) (stD D st0 rc k)
    exact ⟨fun b hb2=>(sk.1 b hb2).trans (ih.1 b hb2),fun t ht=>(sk.2 t ht).trans (ih.2 t ht)⟩
end Go.Proofs.YtpleflcfaecojaaGreat
