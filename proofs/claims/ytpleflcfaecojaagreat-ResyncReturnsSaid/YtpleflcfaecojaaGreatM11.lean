/-
The exchange of one computer: what its methods compute. Conditions: each lemma's own.
-/
import Derived.Test.YtpleflcfaecojaaGreatM10
namespace Go.Proofs.YtpleflcfaecojaaGreat
set_option linter.unusedVariables false
set_option linter.unusedSimpArgs false
set_option maxRecDepth 100000
open Go.RowKit
structure Nd where
 number:Int
 role:Int
 steps:Int
 alone:Int
 next:Int
 cycle:Int
 input:List UInt8
 hd:Hd
 is:Bool
 fresh:Bool
 se:Se
 has:Bool
 ts:Int
 tt:Tg
def Nd.e (n:Nd):(((Int×Int×Int)×Int×Int×Int)×(List UInt8×Int×Int)×(Int×Int)×List UInt8×Bool)×((Bool×Int×Int)×(Bool×List UInt8)×Bool×Int)×(Int×Int×Int)×(Int×Int)×Int×Int :=
 ((((n.number,n.role,n.steps),n.alone,n.next,n.cycle),(n.input,n.hd.role,n.hd.steps),(n.hd.base,n.hd.have_),n.hd.input,n.is),((n.fresh,n.se.steps,n.se.cycle),(n.se.fresh,n.se.in_),n.has,n.ts),(n.tt.lat,n.tt.ver,n.tt.ph),(n.tt.bank,n.tt.speed),n.tt.alt,n.tt.vs)
structure Frm where
 label:Int
 from_:Int
 cycle:Int
 payload:List UInt8
def Frm.e (f:Frm):(Int×Int)×Int×List UInt8:=((f.label,f.from_),f.cycle,f.payload)
def noFrm:Frm:=⟨0,0,0,[]⟩
def newNd (k:Int):Nd:=⟨k,1,0,0,0,0,[],noHd,false,false,noSe,false,0,noTg⟩
theorem o44_eq (n:Nd):o44 n.e=some n.role:=rfl
theorem o45_eq (n:Nd):o45 n.e=some n.steps:=rfl
def Nd.out (n:Nd):Nd:={ n with role:=1,steps:=0 }
def Nd.drop (n:Nd):Nd:={ n.out with next:=0 }
theorem o111_eq (c:Int) (n:Nd):o111 c n.e=some (cond (n.next != c) 8 0):=cnd_some _ _ _
def Nd.fits (n:Nd) (f:Frm) (came:Bool) (l:Int):Bool:=came&&(f.label==l&&(f.from_==IntKind.u8.wrap (IntKind.i64.wrap (3 - n.number))&&f.cycle==n.cycle))
theorem o114_eq (n:Nd) (f:Frm) (came:Bool) (l:Int):o114 f.e came l n.e=some (n.fits f came l):=by
 unfold o114 Nd.fits
 show bd (cnd came (cnd (f.label==l) (cnd (f.from_==IntKind.u8.wrap (IntKind.i64.wrap (3 - n.number))) (some (f.cycle==n.cycle,n.e)) (some (false,n.e))) (some (false,n.e))) (some (false,n.e))) _=_
 cases came <;> cases (f.label==l) <;> cases (f.from_==IntKind.u8.wrap (IntKind.i64.wrap (3 - n.number))) <;> rfl
def Nd.begun (n:Nd) (cy:Int) (inp:List UInt8):Nd:={ n with next:=1,cycle:=cy,input:=inp,hd:=noHd,is:=false,se:=noSe,has:=false,ts:=0,tt:=noTg }
def Nd.hello (n:Nd) (cy:Int) (inp:List UInt8) (base have_:Int):Nd×Frm×Int :=
 cond (n.next != 0) (n,noFrm,8) (cond (decide (cy < 0)) (n,noFrm,1)
  (cond ((putHello ⟨n.role,n.steps,base,have_,inp⟩).1 != 0) (n,noFrm,(putHello ⟨n.role,n.steps,base,have_,inp⟩).1)
   (n.begun cy inp,⟨1,IntKind.u8.wrap n.number,cy,(putHello ⟨n.role,n.steps,base,have_,inp⟩).2⟩,0)))
def helloE (x:Nd×Frm×Int):=(((x.2.1.label,x.2.1.from_),x.2.1.cycle,x.2.2),x.1.e,x.2.1.payload)
theorem o73_eq {n:Nd} {cy:Int} {inp:List UInt8} {base have_:Int} (hi:inp.length≤100000000):o73 cy inp (base,have_) n.e=some (helloE (n.hello cy inp base have_)):=by
 unfold o73 Nd.hello
 refine (bdS (o111_eq 0 n)).trans ?_
 cases h0:(n.next != 0) with
 | true=>rfl
 | false =>
  rw [cond_false,cond_false]
  refine (cndF (by decide)).trans ?_
  by_cases hc:cy < 0
  ·rw [cndT (dt hc),dt hc];rfl
  rw [cndF (df hc),df hc,cond_false]
  refine (bdS (o112_eq ⟨n.role,n.steps,base,have_,inp⟩)).trans ?_
  cases ((putHello ⟨n.role,n.steps,base,have_,inp⟩).1 != 0) with
  | true=>rfl
  | false=>exact (cndF rfl).trans (bdS (o33_eq hi))
def decR (number role steps alone:Int) (heard:Bool) (other theirs:Int):Int :=
 cond (role==2) (cond (heard&&(other==2&&(decide (theirs > steps) || (theirs==steps&&number==2)))) 1 2)
  (cond (role==3) (cond (!heard || (other != 2&&other != 3)) 2 (cond (other==2) (cond (theirs==steps) 3 1) (cond (decide (theirs > steps)) 1 (cond (decide (theirs < steps) || number==1) 2 3))))
   (cond ((!heard&&decide (alone≥3)) || (heard&&(other != 2&&(other != 3&&number==1)))) 2 1))
theorem o116_eq (number role steps alone:Int) (heard:Bool) (other theirs:Int):o116 number role steps alone heard other theirs=some (decR number role steps alone heard other theirs):=by
 unfold o116 decR
 cases (role==2) with
 | true =>
  cases heard <;> cases (other==2) <;> cases decide (theirs > steps) <;> cases (theirs==steps) <;> cases (number==2) <;> rfl
 | false =>
  rw [cndF rfl,cond_false]
  cases (role==3) with
  | true =>
   rw [cond_true]
   refine (cndT rfl).trans ((bdS (t:=((number,steps),other,theirs,!heard || (other != 2&&other != 3))) ?_).trans ?_)
   ·cases heard <;> cases (other != 2) <;> rfl
   show cnd (!heard || (other != 2&&other != 3)) (some 2) (cnd (other==2) (cnd (theirs==steps) (some 3) (some 1)) (cnd (decide (theirs > steps)) (some 1) (bd (cnd (decide (theirs < steps)) (some true) (some (number==1))) fun v3=>cnd v3 (some 2) (some 3))))=_
   cases (!heard || (other != 2&&other != 3)) <;> cases (other==2) <;> cases decide (theirs > steps) <;> cases (theirs==steps) <;> cases decide (theirs < steps) <;> cases (number==1) <;> rfl
  | false =>
   cases heard <;> cases decide (alone≥3) <;> cases (other != 2) <;> cases (other != 3) <;> cases (number==1) <;> rfl
def Nd.heard1 (n:Nd) (f:Frm) (came:Bool):Nd:=cond (n.fits f came 1) { n with hd:=(getHello f.payload).1,is:=(getHello f.payload).2==0 } n
def Nd.heard2 (n:Nd):Nd:=cond n.is { n with next:=2,alone:=0 } { n with next:=2,alone:=IntKind.i64.wrap (n.alone+1),hd:=noHd }
def Nd.heard3 (n:Nd) (r:Int):Nd:=cond (r==1) { n with role:=r }.out { n with role:=r }
def Nd.heard4 (n:Nd) (was:Int):Nd:={ n with fresh:=was==1&&n.role==2,steps:=cond (was==1&&n.role==2) 0 n.steps }
def Nd.newRole (n:Nd):Int:=decR n.number n.role n.steps n.alone n.is n.hd.role n.hd.steps
def Nd.hear (n:Nd) (f:Frm) (came:Bool):Nd×Hd×Bool×Int :=
 cond (n.next != 1) (n,noHd,false,8) (((((n.heard1 f came).heard2).heard3 ((n.heard1 f came).heard2).newRole).heard4 n.role),((((n.heard1 f came).heard2).heard3 ((n.heard1 f came).heard2).newRole).heard4 n.role).hd,((((n.heard1 f came).heard2).heard3 ((n.heard1 f came).heard2).newRole).heard4 n.role).is,0)
def hearE (x:Nd×Hd×Bool×Int):=(((x.2.1.role,x.2.1.steps,x.2.1.base),x.2.1.have_,x.2.2.1,x.2.2.2),x.1.e,x.2.1.input)
theorem getHello_len (p:List UInt8):(getHello p).1.input.length≤400:=by
 unfold getHello
 by_cases h:((p.length:Nat):Int) > 419
 ·rw [dt h,Bool.or_true];simp [noHd]
 ·cases (decide ((p.length:Int) < 19) || decide ((p.length:Int) > 419)) <;> cases badHello ⟨((p.getD 0 0).toNat:Int),getI (p.drop 1) 8,getI (p.drop 9) 8,getI (p.drop 17) 2,p.drop 19⟩ <;> simp [noHd] <;> omega
theorem o74_eq {n:Nd} {f:Frm} {came:Bool} (hi:n.hd.input.length≤1000000):o74 f.e came n.e=some (hearE (n.hear f came)):=by
 unfold o74 Nd.hear
 refine (bdS (o111_eq 1 n)).trans ?_
 cases h0:(n.next != 1) with
 | true=>rfl
 | false =>
  rw [cond_false,cond_false]
  refine (cndF (by decide)).trans ?_
  refine (bdS (t:=(n.heard1 f came).e) ?_).trans ?_
  ·refine (bdS (o114_eq n f came 1)).trans ?_
   unfold Nd.heard1
   cases n.fits f came 1 with
   | false=>rfl
   | true=>exact (cndT rfl).trans (bdS (o115_eq f.payload))
  have hl:(n.heard1 f came).hd.input.length≤1000000:=by
   unfold Nd.heard1
   cases n.fits f came 1 with
   | false=>exact hi
   | true=>exact Nat.le_trans (getHello_len _) (by decide)
  have hr:(n.heard1 f came).role=n.role:=by unfold Nd.heard1;cases n.fits f came 1 <;> rfl
  generalize n.heard1 f came=m at hl hr
  rw [← hr]
  refine (bdS (t:=m.heard2.e) ?_).trans ?_
  ·unfold Nd.heard2
   show cnd m.is _ _=_
   cases hm:m.is with
   | false=>show some _=some _;simp only [cond_false,Nd.e,hm,noHd]
   | true=>show some _=some _;simp only [cond_true,Nd.e,hm]
  have hl2:m.heard2.hd.input.length≤1000000:=by
   unfold Nd.heard2
   cases m.is with
   | false=>simp [noHd]
   | true=>exact hl
  have hr2:m.heard2.role=m.role:=by unfold Nd.heard2;cases m.is <;> rfl
  rw [← hr2]
  generalize m.heard2=k at hl2
  refine (bdS (o116_eq k.number k.role k.steps k.alone k.is k.hd.role k.hd.steps)).trans ?_
  refine (bdS (t:=(k.role,(k.heard3 k.newRole).e)) ?_).trans ?_
  ·unfold Nd.heard3
   show cnd (k.newRole==1) _ _=_
   cases (k.newRole==1) <;> rfl
  have hl3:(k.heard3 k.newRole).hd.input.length≤1000000:=by
   unfold Nd.heard3
   cases (k.newRole==1) <;> exact hl2
  generalize k.heard3 k.newRole=q at hl3
  refine (bdS (t:={ q with fresh:=k.role==1&&q.role==2 }.e) ?_).trans ?_
  ·show cnd (k.role==1) _ _=_
   cases (k.role==1) <;> rfl
  refine (bdS (t:=(q.heard4 k.role).e) ?_).trans ?_
  ·unfold Nd.heard4
   show cnd (k.role==1&&q.role==2) _ _=_
   cases (k.role==1&&q.role==2) <;> rfl
  exact bdS (o33_eq (by show q.hd.input.length≤100000000;omega))
def Nd.foll (n:Nd):Bool:=n.is&&n.hd.role==3
theorem o117_eq (n:Nd):o117 n.e=some n.foll:=by
 unfold o117 Nd.foll
 show bd (cnd n.is (some (n.hd.role==3,n.e)) (some (false,n.e))) _=_
 cases n.is <;> rfl
theorem packC_len (one two:List UInt8) (a b:Bool):(packC one a two b).2.length≤1000:=by
 unfold packC
 cases hb:long one a two b with
 | true=>simp
 | false =>
  rw [cond_false]
  unfold long at hb
  simp only [Bool.or_eq_false_iff,Bool.and_eq_false_iff,decide_eq_false_iff_not] at hb
  have h1:(part1 one a).length≤402:=by
   cases a with
   | false=>simp [part1]
   | true=>simp [part1,putB_len] at hb ⊢;omega
  have h2:(part1 two b).length≤402:=by
   cases b with
   | false=>simp [part1]
   | true=>simp [part1,putB_len] at hb ⊢;omega
  simp only [List.length_append,List.length_cons,List.length_nil]
  omega
def Nd.other (n:Nd):List UInt8:=cond n.foll n.hd.input []
def Nd.packed (n:Nd):List UInt8:=(cond (n.number==1) (packC n.input true n.other n.foll) (packC n.other n.foll n.input true)).2
def Nd.shared (n:Nd):Nd:={ n with next:=3,se:=⟨n.steps,n.cycle,n.fresh,n.packed⟩ }
def Nd.share (n:Nd):Nd×Frm×Bool×Int :=
 cond (n.next != 2) (n,noFrm,false,8) (cond (n.role != 2) ({ n with next:=3 },noFrm,false,0) (n.shared,⟨2,IntKind.u8.wrap n.number,n.cycle,(putSet n.shared.se).2⟩,true,0))
def shareE (x:Nd×Frm×Bool×Int):=(((x.2.1.label,x.2.1.from_),x.2.1.cycle,x.2.2.1,x.2.2.2),x.1.e,x.2.1.payload)
theorem Nd.packed_len (n:Nd):n.packed.length≤1000:=by
 unfold Nd.packed
 cases (n.number==1) <;> exact packC_len _ _ _ _
theorem o75_eq {n:Nd} (hn:n.number=1∨n.number=2):o75 n.e=some (shareE n.share):=by
 unfold o75 Nd.share
 refine (bdS (o111_eq 2 n)).trans ?_
 cases h0:(n.next != 2) with
 | true=>rfl
 | false =>
  rw [cond_false,cond_false]
  refine (cndF (by decide)).trans ?_
  show cnd (n.role != 2) _ _=_
  cases (n.role != 2) with
  | true=>rfl
  | false =>
   rw [cond_false]
   refine (cndF rfl).trans ?_
   refine (bdS (t:=(({ n with next:=3 }.e,((0:Int),(0:Int)),(0:Int),([]:List UInt8)),(cond (n.number==1) n.input [],cond (n.number==1) [] n.input),(n.number==1),!(n.number==1))) ?_).trans ?_
   ·obtain ⟨number,role,steps,alone,next,cycle,input,hd,is,fresh,se,has,ts,tt⟩:=n
    rcases hn with h | h <;> (dsimp only at h;subst h;rfl)
   refine (bdS (t:=(({ n with next:=3 }.e,((0:Int),(0:Int)),(0:Int),([]:List UInt8)),(cond (n.number==1) n.input n.other,cond (n.number==1) n.other n.input),(n.number==1) || n.foll,!(n.number==1) || n.foll)) ?_).trans ?_
   ·refine (bdS (o117_eq { n with next:=3 })).trans ?_
    have hf:Nd.foll { n with next:=3 }=n.foll:=rfl
    rw [hf]
    unfold Nd.other
    cases n.foll with
    | false =>
     refine (cndF rfl).trans ?_
     rw [Bool.or_false,Bool.or_false]
     rfl
    | true =>
     obtain ⟨number,role,steps,alone,next,cycle,input,hd,is,fresh,se,has,ts,tt⟩:=n
     rcases hn with h | h <;> (dsimp only at h;subst h;rfl)
   have hp:(cond (n.number==1) n.input n.other,(n.number==1) || n.foll,cond (n.number==1) n.other n.input,!(n.number==1) || n.foll)=(cond (n.number==1) n.input n.other,cond (n.number==1) true n.foll,cond (n.number==1) n.other n.input,cond (n.number==1) n.foll true):=by
    cases (n.number==1) <;> simp
   refine (bdS (o118_eq _ _ _ _)).trans ?_
   have hpk:(packC (cond (n.number==1) n.input n.other) ((n.number==1) || n.foll) (cond (n.number==1) n.other n.input) (!(n.number==1) || n.foll)).2=n.packed:=by
    unfold Nd.packed
    cases (n.number==1) <;> simp
   refine (bdS ((congrArg o119 ?_).trans (o119_eq (x:=⟨n.steps,n.cycle,n.fresh,n.packed⟩) (Nat.le_trans n.packed_len (by decide))))).trans ?_
   ·show ((n.steps,n.cycle),n.fresh,_)=((n.steps,n.cycle),n.fresh,n.packed)
    rw [← hpk]
   ·show some _=some _
    unfold shareE Nd.shared
    simp only [Nd.e,← hpk]
theorem cnd_three {α β:Type} (a b c:Bool) (x:α) (y:β):cnd a (cnd (!b) (some ((c,x),y)) (some ((false,x),y))) (some ((false,x),y))=some ((a&&(!b&&c),x),y):=by cases a <;> cases b <;> rfl
def Nd.okSet (n:Nd) (f:Frm):Bool:=(getSet n.cycle f.payload).2==0&&(!(getSet n.cycle f.payload).1.fresh&&(getSet n.cycle f.payload).1.steps==n.steps)
def Nd.took (n:Nd) (f:Frm) (came:Bool):Nd:=cond (n.fits f came 2) (cond (n.okSet f) { n with next:=4,se:=(getSet n.cycle f.payload).1,has:=true } { n with next:=4 }) { n with next:=4 }
def Nd.stepped (n:Nd) (f:Frm) (came:Bool):Nd:=cond (n.role==2) { n with next:=4,has:=true } (cond (n.role==3) (cond (n.took f came).has (n.took f came) (n.took f came).out) { n with next:=4 })
def Nd.step (n:Nd) (f:Frm) (came:Bool):Nd×Se×Bool×Int :=
 cond (n.next != 3) (n,noSe,false,8) (cond (n.stepped f came).has ({ n.stepped f came with steps:=IntKind.i64.wrap ((n.stepped f came).steps+1) },(n.stepped f came).se,true,0) (n.stepped f came,noSe,false,0))
def stepE (x:Nd×Se×Bool×Int):=(((x.2.1.steps,x.2.1.cycle),x.2.1.fresh,x.2.2.1,x.2.2.2),x.1.e,x.2.1.in_)
theorem getSet_len (cy:Int) (p:List UInt8):(getSet cy p).1.in_.length≤p.length:=by
 unfold getSet
 cases (decide ((p.length:Int) < 9)) <;> cases (decide (((p.getD 8 0).toNat:Int) > 1)) <;> cases ((putSet ⟨getI p 8,cy,((p.getD 8 0).toNat:Int)==1,p.drop 9⟩).1 != 0) <;> simp [noSe]
theorem o76_eq {n:Nd} {f:Frm} {came:Bool} (hf:f.payload.length≤1000000) (hi:n.se.in_.length≤1000000):o76 f.e came n.e=some (stepE (n.step f came)):=by
 unfold o76 Nd.step
 refine (bdS (o111_eq 3 n)).trans ?_
 cases h0:(n.next != 3) with
 | true=>rfl
 | false =>
  rw [cond_false,cond_false]
  refine (cndF (by decide)).trans ?_
  have hl:(n.stepped f came).se.in_.length≤1000000:=by
   unfold Nd.stepped
   cases (n.role==2) with
   | true=>exact hi
   | false =>
    cases (n.role==3) with
    | false=>exact hi
    | true =>
     have ht:(n.took f came).se.in_.length≤1000000:=by
      unfold Nd.took
      cases n.fits f came 2 <;> cases n.okSet f <;> first | exact hi | exact Nat.le_trans (getSet_len _ _) hf
     rw [cond_false,cond_true]
     cases (n.took f came).has <;> exact ht
  refine (bdS (t:=((n.stepped f came).e,false)) ?_).trans ?_
  ·unfold Nd.stepped
   show cnd (n.role==2) _ (cnd (n.role==3) _ _)=_
   cases (n.role==2) with
   | true=>rfl
   | false =>
    rw [cond_false]
    refine (cndF rfl).trans ?_
    cases (n.role==3) with
    | false=>rfl
    | true =>
     refine (cndT rfl).trans ?_
     refine (bdS (t:=((n.took f came).e,false)) ?_).trans ?_
     ·refine (bdS (o114_eq { n with next:=4 } f came 2)).trans ?_
      have hfit:Nd.fits { n with next:=4 } f came 2=n.fits f came 2:=rfl
      rw [hfit]
      unfold Nd.took
      cases n.fits f came 2 with
      | false=>rfl
      | true =>
       refine (cndT rfl).trans ((bdS (o77_eq hf)).trans ?_)
       unfold Nd.okSet
       refine (bdS (t:=(((n.okSet f),{ n with next:=4 }.e),false,(((getSet n.cycle f.payload).1.steps,(getSet n.cycle f.payload).1.cycle,(getSet n.cycle f.payload).1.fresh)),(getSet n.cycle f.payload).1.in_)) ?_).trans ?_
       ·exact cnd_three _ _ _ (({ n with next:=4 }:Nd).e) (false,(((getSet n.cycle f.payload).1.steps,(getSet n.cycle f.payload).1.cycle,(getSet n.cycle f.payload).1.fresh)),(getSet n.cycle f.payload).1.in_)
       ·rw [cond_true]
        exact cnd_ext (c:=n.okSet f) (F:=fun m:Nd=>(m.e,false)) rfl rfl
     ·rw [cond_true]
      exact cndN_ext (c:=(n.took f came).has) (F:=fun m:Nd=>(m.e,false)) rfl rfl
  exact cndN_ext (c:=(n.stepped f came).has) (F:=stepE) (bdS (o33_eq (by show (n.stepped f came).se.in_.length≤100000000;omega))) rfl
def Nd.tell (n:Nd) (t:Tg):Nd×Frm×Bool×Int :=
 cond (n.next != 4) (n,noFrm,false,8) (cond n.has ({ n with next:=5,ts:=n.steps,tt:=t },⟨3,IntKind.u8.wrap n.number,n.cycle,putRes n.steps t⟩,true,0) ({ n with next:=5 },noFrm,false,0))
theorem o79_eq (n:Nd) (t:Tg):o79 t.e n.e=some (shareE (n.tell t)):=by
 unfold o79 Nd.tell
 refine (bdS (o111_eq 4 n)).trans ?_
 cases h0:(n.next != 4) with
 | true=>rfl
 | false =>
  rw [cond_false,cond_false]
  refine (cndF (by decide)).trans ?_
  exact cndN_ext (c:=n.has) (F:=shareE) (bdS (o121_eq n.steps t)) rfl
def sameRes (s:Int) (t:Tg) (s2:Int) (u:Tg):Bool:=(s==s2)&&((t.lat==u.lat)&&((t.ver==u.ver)&&((t.ph==u.ph)&&((t.bank==u.bank)&&((t.speed==u.speed)&&((t.alt==u.alt)&&(t.vs==u.vs)))))))
def Nd.verdict (n:Nd) (f:Frm):Int:=cond (cond (n.role==3) (sameRes (getRes f.payload).1 (getRes f.payload).2.1 n.ts n.tt) (n.foll&&sameRes (getRes f.payload).1 (getRes f.payload).2.1 n.ts n.tt)) 4 2
def Nd.judge (n:Nd) (f:Frm) (came:Bool):Nd×Int×Int :=
 cond (n.next != 5) (n,0,8) ({ n with next:=0 },cond n.has (cond (n.fits f came 3&&(getRes f.payload).2.2==0) (n.verdict f) 3) 2,0)
theorem o80_eq (n:Nd) (f:Frm) (came:Bool):o80 f.e came n.e=some (((n.judge f came).2.1,(n.judge f came).2.2),(n.judge f came).1.e):=by
 unfold o80 Nd.judge
 refine (bdS (o111_eq 5 n)).trans ?_
 cases h0:(n.next != 5) with
 | true=>rfl
 | false =>
  rw [cond_false,cond_false]
  refine (cndF (by decide)).trans ?_
  refine cndN_ext (c:=n.has) (F:=fun v:Int=>((v,(0:Int)),({ n with next:=0 }:Nd).e)) ?_ rfl
  refine (bdS (o122_eq f.payload)).trans ?_
  refine (bdS (t:=(n.fits f came 3&&(getRes f.payload).2.2==0,{ n with next:=0 }.e,((((getRes f.payload).1,(getRes f.payload).2.1.lat),(getRes f.payload).2.1.ver,(getRes f.payload).2.1.ph),((getRes f.payload).2.1.bank,(getRes f.payload).2.1.speed),(getRes f.payload).2.1.alt,(getRes f.payload).2.1.vs))) ?_).trans ?_
  ·refine (bdS (o114_eq { n with next:=0 } f came 3)).trans ?_
   have hfit:Nd.fits { n with next:=0 } f came 3=n.fits f came 3:=rfl
   rw [hfit]
   cases n.fits f came 3 <;> rfl
  refine cndN_ext (c:=n.fits f came 3&&(getRes f.payload).2.2==0) (F:=fun v:Int=>((v,(0:Int)),({ n with next:=0 }:Nd).e)) ?_ rfl
  unfold Nd.verdict
  refine (bdS (t:=(cond (n.role==3) (sameRes (getRes f.payload).1 (getRes f.payload).2.1 n.ts n.tt) (n.foll&&sameRes (getRes f.payload).1 (getRes f.payload).2.1 n.ts n.tt),{ n with next:=0 }.e)) ?_).trans ?_
  ·refine cnd_ext (c:=n.role==3) (F:=fun b:Bool=>(b,({ n with next:=0 }:Nd).e)) rfl ?_
   refine (bdS (o117_eq { n with next:=0 })).trans ?_
   have hf:Nd.foll { n with next:=0 }=n.foll:=rfl
   rw [hf]
   cases n.foll <;> rfl
  ·exact cnd_ext (F:=fun v:Int=>((v,(0:Int)),({ n with next:=0 }:Nd).e)) rfl rfl
noncomputable section
def Hj:BSh:= .cells 190 [.i .i64,.own 10,.own 11]
def Hk:SSh:= .tup [.agg [.i .i64,.own 6,.own 7],.c (.b),.c (.i .i64)]
abbrev Cr:Type:=(((Int×Bool×Int)×(I3)×Bool×I2)×Ae×List (Int×Int×Int×Bt))×((I2)×Bt)×(List (Int×I4))×List Bt×List (Int×I4)
abbrev Hl:Type:=((Bool×(I3)×Bool×I2)×Ae×List (Int×Int×Int×Bt))×((I2)×List Bt)×(List (Int×I4))×(I2)×Int×Bt
abbrev Hm:Type:=((Bool×(I3)×Bool×I2)×Ae×(List (Int×Int×Int×Bt))×I2)×(Int×List Bt)×(List (Int×I4))×Bt×List (Int×I4)
def o83_s0:Sch:=⟨[(0,.v (.c (.ptr 0 0))),(4,.v (.c (.ptr 6 0))),(6,.v (.c (.ptr 7 0))),(52,.v (.c (.b)))],[AB,Ab,Ad,AM,.row (.a .y) 33,Ac,Dx,Cq]⟩
def o83_s1:Sch:=⟨[(0,.v (.c (.ptr 0 0))),(6,.v (.c (.ptr 6 0))),(12,.v (.c (.ptr 7 0))),(90,.v (.c (.b)))],[AB,Ab,Ad,Aq,.no,.no,Cq,Hj,.row (.a .y) 33,Ac,.row .y 5,Ac]⟩
def o83_s2:Sch:=⟨[(0,.v (.c (.ptr 0 0))),(6,.v (.c (.ptr 6 0)))],[AB,Ab,Ad,Al,.no,.no,Cq,.row (.a .y) 33,Ac]⟩
def p83:Sch:=⟨[(0,.v (.c (.ptr 0 0))),(1,Bl),(2,.v (.c (.b)))],[AB,Ab,Ad,AM,.row (.a .y) 33,Ac]⟩
def r83:List Sch:=[⟨[(0,Hk)],[AB,Ab,Ad,Aq,.no,.no,.row .y 5,Ac,.row (.a .y) 33,Ac]⟩]
def o83 (a0:(I2)×Int×Bt) (a1:Bool) (a2:(I3)×Bool×I2) (a3:Ae) (a4:List (Int×Int×Int×Bt)) (a5:I2) (a6:List Bt) (a7:List (Int×I4)):Option Cr :=
 (bd (α:=Int) (o71 (7:Int) a2 a3 a4 (a5,a6,a7)) (fun v1=>(cnd (v1 != (0:Int)) (some (((((0:Int),false,v1),a2),a3,a4),(a5,([]:Bt)),([]:List (Int×I4)),a6,a7)) (bd (α:=Bool) (o46 ((a2.1.1,(0:Int),a2.1.2.2),a2.2) a3 a4 (a5,a6,a7)) (fun v2=>(cnd (!v2) (some (((((0:Int),false,(0:Int)),(a2.1.1,(0:Int),a2.1.2.2),a2.2),a3,a4),(a5,([]:Bt)),([]:List (Int×I4)),a6,a7)) (bd (α:=AV) (bd (α:=Hl) (cnd a1 (cnd (a0.1.1==(4:Int)) (cnd (a0.1.2==(IntKind.wrap .u8 (IntKind.wrap .i64 ((3:Int) - a2.1.1)))) (some ((((a0.2.1==a2.1.2.2),(a2.1.1,(0:Int),a2.1.2.2),a2.2),a3,a4),(a5,a6),a7,a0)) (some (((false,(a2.1.1,(0:Int),a2.1.2.2),a2.2),a3,a4),(a5,a6),a7,a0))) (some (((false,(a2.1.1,(0:Int),a2.1.2.2),a2.2),a3,a4),(a5,a6),a7,a0))) (some (((false,(a2.1.1,(0:Int),a2.1.2.2),a2.2),a3,a4),(a5,a6),a7,a0))) (fun v3=>(cnd v3.1.1.1 (bd (α:=(((I2)×I2)×Bt)) (o125 v3.2.2.2.2.2) (fun v4=>(cnd (v4.1.2.2==(0:Int)) (bd (α:=AA) (o126 (v4.1.1,v4.1.2.1,v4.2) v3.2.1.1 v3.2.1.2 v3.2.2.1) (fun v6=>(some ((v3.1.1.2,v3.1.2),v6)))) (some ((v3.1.1.2,v3.1.2),v3.2.1.1,v3.2.1.2,v3.2.2.1))))) (some ((v3.1.1.2,v3.1.2),v3.2.1.1,v3.2.1.2,v3.2.2.1))))) (fun v7=>(bd (α:=EG) (o127 v7.2) (fun v8=>(bd (α:=Hm) (cnd (!v8.1.2) (some (((true,v7.1.1),v7.1.2.1,v7.1.2.2,v7.2.1),(v8.1.1,v7.2.2.1),v7.2.2.2,v8.2)) (bd (α:=(Int×Ae)) (o128 (IntKind.wrap .i64 (v8.1.1+((v8.2.2.length:Nat):Int))) v7.1.2.1) (fun v10=>(some ((((v10.1 != (0:Int)),v7.1.1),v10.2,v7.1.2.2,v7.2.1),(v8.1.1,v7.2.2.1),v7.2.2.2,v8.2))))) (fun v11=>(cnd v11.1.1.1 (some (((((0:Int),false,(0:Int)),v11.1.1.2),v11.1.2.1,v11.1.2.2.1),(v11.1.2.2.2,([]:Bt)),([]:List (Int×I4)),v11.2.1.2,v11.2.2.1)) (bd (α:=AO) (o68 v11.1.1.2 v11.1.2.1 v11.1.2.2.1 v11.1.2.2.2 v11.2.1.2 v11.2.2.1) (fun v12=>(some ((((v11.2.1.1,true,(0:Int)),v12.1.1.1),v12.1.1.2,v12.1.2.1),(v12.1.2.2,v11.2.2.2.1),v11.2.2.2.2,v12.2.2)))))))))))))))))
def h83:HC:=(.s .d (.s .d (.s .d (.s .d (.j false [o83_s2] (.s (.s (.j false [o83_s0] .d) (.c (.s .d (.s .d (.c (.r 2) .d))) .d)) (.s .d (.s (.s (.j false [o83_s1] .d) .d) .d))))))))
theorem e83 (t:CE):evF (stpT Tryz.prog T103 K103) Tryz.f83 p83 r83 h83 t=(o83 t.1.1.1 t.1.1.2 t.1.2.1 t.1.2.2 t.2.1.1 t.2.1.2 t.2.2.1 t.2.2.2):=by kernel_rfl
def n83:FSp:=⟨p83,r83,fun t=>(o83 t.1.1.1 t.1.1.2 t.1.2.1 t.1.2.2 t.2.1.1 t.2.1.2 t.2.2.1 t.2.2.2)⟩
theorem fo83:FOk Tryz.prog 83 n83:=fk e83
def T104:Tbl:=(83,n83)::T103
theorem K104:TOk Tryz.prog T104:= .cons K103 fo83
def CM:BSh:= .cells 232 [.i .i64,.i .i64,.own 10,.own 11]
abbrev CN:Type:=((Int×Int×Af)×(I3)×(I3)×(I3)×Bool×I2)×(Ae×(List (Int×Int×Int×Bt))×I2)×(List (Int×I4))×List Bt×List (Int×I4)
abbrev EI:Type:=((((I2)×Int×Bt)×Bool)×Af×(I3)×I3)×(((I3)×Bool×I2)×Ae×List (Int×Int×Int×Bt))×(I2)×List Bt×List (Int×I4)
def o41_s0:Sch:=⟨[(0,.v (.c (.ptr 0 0))),(1,.v (.c (.ic .i64 (0)))),(46,.v (.c (.own 9))),(47,.v (.c (.i .i64))),(48,.v (.c (.i .i64)))],[AF,Aa,Aa,Ai,Ab,Ad,CM,.no,.no,Ac,.row (.a .y) 33,Ac]⟩
def p41:Sch:=⟨[(0,.v (.c (.ptr 0 0))),(1,.v (.c (.ic .i64 (0)))),(2,Bl),(3,.v (.c (.b)))],[AF,Aa,Aa,Ai,Ab,Ad,Al,.row (.a .y) 33,Ac]⟩
def r41:List Sch:=[⟨[(0,.tup [])],[AF,Aa,Aa,Ai,Ab,Ad,AX,.no,.no,.row (.a .y) 33,Ac]⟩]
def o41_b0 (v7:CN) :=
 (cnd (decide (v7.1.1.2.1 < v7.1.1.1)) (gd (decide ((0:Int)≤v7.1.1.2.1∧v7.1.1.2.1 < ((v7.2.2.1.length:Nat):Int))) (bd (α:=(AE×I3)) (o181 (((List.getD v7.2.2.1 v7.1.1.2.1.toNat ((0:Int),((0:Int),(false,([]:Bt))))).2).1) ((((List.getD v7.2.2.1 v7.1.1.2.1.toNat ((0:Int),((0:Int),(false,([]:Bt))))).2).2).2) v7.1.2.1) (fun v9=>(some (Ctl.go (((v7.1.1.1,(IntKind.wrap .i64 (v7.1.1.2.1+(1:Int))),v7.1.1.2.2),v9.2,v7.1.2.2),v7.2)))))) (dnO (some (((v7.1.1.2.2,v7.1.2.1),v7.1.2.2),(v7.2.1.1,v7.2.1.2.1),v7.2.1.2.2,v7.2.2.2))))
def o41 (a0:(I2)×Int×Bt) (a1:Bool) (a2:Af) (a3:I3) (a4:I3) (a5:(I3)×Bool×I2) (a6:Ae) (a7:List (Int×Int×Int×Bt)) (a8:I2) (a9:List Bt) (a10:List (Int×I4)):Option BI :=
 (bd (α:=Cr) (o83 a0 a1 a5 a6 a7 a8 a9 a10) (fun v2=>(cnd (!v2.1.1.1.2.1) (some (((a2,a3),a4,v2.1.1.2),v2.1.2,v2.2.1.1,v2.2.2.2)) (bd (α:=(Int×I3)) (o179 v2.2.1.2 a3) (fun v4=>(cnd (v4.1 != (0:Int)) (bd (α:=AO) (o22 v2.1.1.2 v2.1.2.1 v2.1.2.2 v2.2.1.1 v2.2.2.2.1 v2.2.2.2.2) (fun v5=>(some (((a2,v4.2),a4,v5.1.1.1),(v5.1.1.2,v5.1.2.1),v5.1.2.2,v5.2.2)))) (loopO (σ:=CN) fuelN o41_b0 (((((v2.2.2.1.length:Nat):Int),(0:Int),a2),v4.2,a4,v2.1.1.2),(v2.1.2.1,v2.1.2.2,v2.2.1.1),v2.2.2))))))))
def h41:HC:=(.s .d (.s (.r 5) (.s .d (.s .d (.s .d (.b (.l [o41_s0] .d)))))))
theorem e41 (t:EI):evF (stpT Tryz.prog T104 K104) Tryz.f41 p41 r41 h41 t=(o41 t.1.1.1 t.1.1.2 t.1.2.1 t.1.2.2.1 t.1.2.2.2 t.2.1.1 t.2.1.2.1 t.2.1.2.2 t.2.2.1 t.2.2.2.1 t.2.2.2.2):=by kernel_rfl
def n41:FSp:=⟨p41,r41,fun t=>(o41 t.1.1.1 t.1.1.2 t.1.2.1 t.1.2.2.1 t.1.2.2.2 t.2.1.1 t.2.1.2.1 t.2.1.2.2 t.2.2.1 t.2.2.2.1 t.2.2.2.2)⟩
theorem fo41:FOk Tryz.prog 41 n41:=fk e41
def T105:Tbl:=(41,n41)::T104
theorem K105:TOk Tryz.prog T105:= .cons K104 fo41
def p40:Sch:=⟨[(0,.v (.c (.ic .i64 (0)))),(1,.v (.c (.ptr 0 0))),(2,.v (.c (.ptr 10 0))),(3,.v (.c (.ptr 11 0)))],[.cells 30 [.ptr 1 0],AQ,Aa,Aa,Ak,Ab,Ad,Aq,.row (.a .y) 33,Ac,Am,.cells 34 [.b,.b]]⟩
def r40:List Sch:=[⟨[(0,.tup [])],[.cells 30 [.ptr 1 0],AQ,Aa,Aa,Ak,Ab,Ad,Br,.no,.no,Am,.cells 34 [.b,.b],.row (.a .y) 33,Ac]⟩]
def o40 (a0:Af) (a1:I3) (a2:I3) (a3:(I3)×Bool×I2) (a4:Ae) (a5:List (Int×Int×Int×Bt)) (a6:I2) (a7:List Bt) (a8:List (Int×I4)) (a9:As) (a10:B2):Option AR :=
 (bd (α:=BI) (o41 a9.1 a10.1 a0 a1 a2 a3 a4 a5 a6 a7 a8) (fun v2=>(some ((v2.1.1,v2.1.2.1,v2.1.2.2,v2.2.1.1),(v2.2.1.2,v2.2.2.1,a9),a10,v2.2.2.2))))
theorem e40 (t:BH):evF (stpT Tryz.prog T105 K105) Tryz.f40 p40 r40 (.r 2) t=(o40 t.1.1.1 t.1.1.2 t.1.2.1 t.1.2.2.1 t.1.2.2.2 t.2.1.1 t.2.1.2.1 t.2.1.2.2 t.2.2.1 t.2.2.2.1 t.2.2.2.2):=by kernel_rfl
def n40:FSp:=⟨p40,r40,fun t=>(o40 t.1.1.1 t.1.1.2 t.1.2.1 t.1.2.2.1 t.1.2.2.2 t.2.1.1 t.2.1.2.1 t.2.1.2.2 t.2.2.1 t.2.2.2.1 t.2.2.2.2)⟩
theorem fo40:FOk Tryz.prog 40 n40:=fk e40
def T106:Tbl:=(40,n40)::T105
theorem K106:TOk Tryz.prog T106:= .cons K105 fo40
def EJ:SSh:= .v (.c (.cap (.cap (.cap (.fn 40) (.ptr 9 0)) (.ptr 10 0)) (.ptr 11 0)))
def p26v3:Sch:=⟨[(0,.v (.c (.ptr 0 0))),(1,EJ)],[AF,Aa,Aa,Ai,Ab,Ad,Al,.row (.a .y) 33,Ac,.cells 30 [.ptr 0 0],Am,.cells 34 [.b,.b]]⟩
def r26v3:List Sch:=[⟨[(0,.tup [])],[AF,Aa,Aa,Ai,Ab,Ad,Br,.no,.no,.cells 30 [.ptr 0 0],Am,.cells 34 [.b,.b],.row (.a .y) 33,Ac]⟩]
def o26v3 (a0:Af) (a1:I3) (a2:I3) (a3:(I3)×Bool×I2) (a4:Ae) (a5:List (Int×Int×Int×Bt)) (a6:I2) (a7:List Bt) (a8:List (Int×I4)) (a9:As) (a10:B2):Option AR :=
 (bd (α:=AR) (o40 a0 a1 a2 a3 a4 a5 a6 a7 a8 a9 a10) (fun v1=>(some v1)))
def h26v3:HC:=(.s .d (.b (.u 3 (.v .d (.v .d (.v .d .d))))))
theorem e26v3 (t:BH):evF (stpT Tryz.prog T106 K106) Tryz.f26 p26v3 r26v3 h26v3 t=(o26v3 t.1.1.1 t.1.1.2 t.1.2.1 t.1.2.2.1 t.1.2.2.2 t.2.1.1 t.2.1.2.1 t.2.1.2.2 t.2.2.1 t.2.2.2.1 t.2.2.2.2):=by kernel_rfl
def n26v3:FSp:=⟨p26v3,r26v3,fun t=>(o26v3 t.1.1.1 t.1.1.2 t.1.2.1 t.1.2.2.1 t.1.2.2.2 t.2.1.1 t.2.1.2.1 t.2.1.2.2 t.2.2.1 t.2.2.2.1 t.2.2.2.2)⟩
theorem fo26v3:FOk Tryz.prog 26 n26v3:=fk e26v3
def T107:Tbl:=(26,n26v3)::T106
theorem K107:TOk Tryz.prog T107:= .cons K106 fo26v3
def p84:Sch:=⟨[(0,.v (.c (.ptr 0 0)))],[AN]⟩
def r84:List Sch:=[⟨[(0,.v (.c (.ptr 1 0)))],[.no,Ab]⟩]
def o84 (a0:Ae):Option Ae :=
 (bd (α:=(Bt)) (o33 a0.1.2.1.1) (fun v4=>(bd (α:=(Bt)) (o33 a0.1.2.2.2.1) (fun v5=>(bd (α:=(Bt)) (o33 a0.2.1.2.1.2) (fun v6=>(some ((a0.1.1,(v4,a0.1.2.1.2),a0.1.2.2.1,v5,a0.1.2.2.2.2),(a0.2.1.1,(a0.2.1.2.1.1,v6),a0.2.1.2.2),a0.2.2))))))))
theorem e84 (t:Ae):evF (stpT Tryz.prog T107 K107) Tryz.f84 p84 r84 (.s .d (.s .d (.s .d (.s (.r 3) .d)))) t=(o84 t):=by kernel_rfl
def n84:FSp:=⟨p84,r84,fun t=>(o84 t)⟩
theorem fo84:FOk Tryz.prog 84 n84:=fk e84
def T108:Tbl:=(84,n84)::T107
theorem K108:TOk Tryz.prog T108:= .cons K107 fo84
def p43:Sch:=⟨[(0,.v (.c (.ptr 0 0)))],[Dt,AN,Bz,Be]⟩
def r43:List Sch:=[⟨[(0,.v (.c (.ptr 4 0)))],[.no,.no,.no,.no,Ab]⟩]
def o43 (a0:(I3)×Bool×I2) (a1:Ae) (a2:List (Int×Int×Int×Bt)) (a3:AA):Option Ae :=
 (bd (α:=Ae) (o84 a1) (fun v1=>(some v1)))
theorem e43 (t:Ec):evF (stpT Tryz.prog T108 K108) Tryz.f43 p43 r43 .d t=(o43 t.1.1 t.1.2 t.2.1 t.2.2):=by kernel_rfl
def n43:FSp:=⟨p43,r43,fun t=>(o43 t.1.1 t.1.2 t.2.1 t.2.2)⟩
theorem fo43:FOk Tryz.prog 43 n43:=fk e43
def T109:Tbl:=(43,n43)::T108
theorem K109:TOk Tryz.prog T109:= .cons K108 fo43
def Hn:BSh:= .lent [.ifc 60 (.ptr 2 0),.ifc 60 (.ptr 3 0),.ptr 4 0,.cst (.pointer none),.ro .y false,.i .i64,.i .i64,.i .i64,.i .i64,.i .i64,.i .u8,.i .u8,.i .u8,.i .i64,.i .i64,.i .i64,.i .i64]
def CO:BSh:= .lent [.i .i64,.ptr 5 0,.ptr 6 0,.ptr 7 0,.i .i64,.i .i64,.b,.i .i64,.i .i64]
abbrev EK:Type:=((Af×I3)×(I3)×(I3)×Bool×I2)×(Ae×List (Int×Int×Int×Bt))×AA×Ah
def p42:Sch:=⟨[(0,.v (.c (.ic .i64 (0)))),(1,.v (.c (.ptr 0 0))),(2,.v (.c (.ptr 8 0)))],[.lent [.ptr 1 0],Hn,.lent [.i .u64,.i .i64,.i .i64],.lent [.i .u64,.i .i64,.i .i64],CO,AN,Bz,Be,Ag]⟩
def r42:List Sch:=[⟨[(0,.tup [])],[.no,.no,.no,.no,.no,.no,.no,.no,Ag]⟩]
def o42 (a0:Af) (a1:I3) (a2:I3) (a3:(I3)×Bool×I2) (a4:Ae) (a5:List (Int×Int×Int×Bt)) (a6:AA) (a7:Ah):Option Ah :=
 (bd (α:=Ae) (o43 a3 a4 a5 a6) (fun v1=>(bd (α:=Int) (o44 v1) (fun v4=>(bd (α:=Int) (o45 v1) (fun v5=>(some ((((a7.1.1.1.1,v4,a7.1.1.1.2.2),a7.1.1.2.1,v5,a7.1.1.2.2.2),a7.1.2),a7.2))))))))
theorem e42 (t:EK):evF (stpT Tryz.prog T109 K109) Tryz.f42 p42 r42 .d t=(o42 t.1.1.1 t.1.1.2 t.1.2.1 t.1.2.2 t.2.1.1 t.2.1.2 t.2.2.1 t.2.2.2):=by kernel_rfl
def n42:FSp:=⟨p42,r42,fun t=>(o42 t.1.1.1 t.1.1.2 t.1.2.1 t.1.2.2 t.2.1.1 t.2.1.2 t.2.2.1 t.2.2.2)⟩
theorem fo42:FOk Tryz.prog 42 n42:=fk e42
def T110:Tbl:=(42,n42)::T109
theorem K110:TOk Tryz.prog T110:= .cons K109 fo42
def EL:SSh:= .v (.c (.cap (.cap (.fn 42) (.ptr 9 0)) (.ptr 10 0)))
def p26v4:Sch:=⟨[(0,.v (.c (.ptr 0 0))),(1,EL)],[AF,Aa,Aa,Ai,Ab,Ad,Al,.row (.a .y) 33,Ac,.cells 30 [.ptr 0 0],Ag]⟩
def r26v4:List Sch:=[⟨[(0,.tup [])],[AF,Aa,Aa,Ai,Ab,Ad,Al,.row (.a .y) 33,Ac,.cells 30 [.ptr 0 0],Ag]⟩]
def o26v4 (a0:Af) (a1:I3) (a2:I3) (a3:(I3)×Bool×I2) (a4:Ae) (a5:List (Int×Int×Int×Bt)) (a6:I2) (a7:List Bt) (a8:List (Int×I4)) (a9:Ah):Option Bv :=
 (bd (α:=Ah) (o42 a0 a1 a2 a3 a4 a5 (a6,a7,a8) a9) (fun v1=>(some (((a0,a1),a2,a3,a4),(a5,a6),a7,a8,v1))))
def h26v4:HC:=(.s .d (.b (.u 3 (.v .d (.v .d (.v .d .d))))))
theorem e26v4 (t:Bv):evF (stpT Tryz.prog T110 K110) Tryz.f26 p26v4 r26v4 h26v4 t=(o26v4 t.1.1.1 t.1.1.2 t.1.2.1 t.1.2.2.1 t.1.2.2.2 t.2.1.1 t.2.1.2 t.2.2.1 t.2.2.2.1 t.2.2.2.2):=by kernel_rfl
def n26v4:FSp:=⟨p26v4,r26v4,fun t=>(o26v4 t.1.1.1 t.1.1.2 t.1.2.1 t.1.2.2.1 t.1.2.2.2 t.2.1.1 t.2.1.2 t.2.2.1 t.2.2.2.1 t.2.2.2.2)⟩
theorem fo26v4:FOk Tryz.prog 26 n26v4:=fk e26v4
def T111:Tbl:=(26,n26v4)::T110
theorem K111:TOk Tryz.prog T111:= .cons K110 fo26v4
def BX:BSh:= .cells 105 [.ifc 60 (.ptr 3 0),.ifc 60 (.ptr 4 0),.ptr 5 0,.ptr 11 0,.ro .y true,.i .i64,.i .i64,.i .i64,.i .i64,.i .i64,.i .u8,.i .u8,.i .u8,.i .i64,.i .i64,.i .i64,.i .i64]
def BO:BSh:= .cells 137 [.i .i64,.ptr 12 0,.ptr 13 0,.ptr 14 0,.i .i64,.i .i64,.b,.i .i64,.i .i64]
abbrev CP:Type:=(((((I2)×Int×Bt×Bool)×Af)×(I3)×I3)×(((I3)×Bool×I2)×Ae)×(List (Int×Int×Int×Bt))×I2)×((List Bt×List (Int×I4))×((I3)×Bool×I2)×Ae)×((List (Int×Int×Int×Bt))×I2)×List Bt×List (Int×I4)
abbrev EM:Type:=(((Bt×Bt×Bt)×Af×I3)×((I3)×(I3)×Bool×I2)×Ae×(List (Int×Int×Int×Bt))×I2)×((List Bt×List (Int×I4))×((I3)×Bool×I2)×Ae)×((List (Int×Int×Int×Bt))×I2)×List Bt×(List (Int×I4))×(I2)×Int×Bt
abbrev EN:Type:=((((Bt×Bt)×Af)×(I3)×I3)×(((I3)×Bool×I2)×Ae)×(List (Int×Int×Int×Bt))×I2)×((List Bt×List (Int×I4))×((I3)×Bool×I2)×Ae)×((List (Int×Int×Int×Bt))×I2)×List Bt×List (Int×I4)
def o24v1_s0:Sch:=⟨[(0,.v (.c (.ic .i64 (0)))),(2,.v (.c (.ptr 1 0))),(4,.v (.c (.ptr 17 0))),(6,.v (.c (.ro .y false)))],[.lent [.ro .y false,.ro .y false],.cells 30 [.ptr 2 0],BX,Aa,Aa,AZ,Ab,Ad,AX,.row (.a .y) 33,Ac,BO,Ab,Ad,Bi,.row (.a .y) 33,Ac,AW]⟩
def p24v1:Sch:=⟨[(0,.v (.c (.ic .i64 (0)))),(1,.v (.c (.ptr 0 0))),(2,.v (.c (.ptr 1 0)))],[.lent [.ro .y false,.ro .y false],.cells 30 [.ptr 2 0],BX,Aa,Aa,AZ,Ab,Ad,AX,.row (.a .y) 33,Ac,BO,Ab,Ad,Bi,.row (.a .y) 33,Ac]⟩
def r24v1:List Sch:=[⟨[(0,Cj)],[.no,.cells 30 [.ptr 2 0],BX,Aa,Aa,AZ,Ab,Ad,AX,.row (.a .y) 33,Ac,BO,Ab,Ad,Bi,.row (.a .y) 33,Ac]⟩]
def o24v1 (a0:Bt×Bt) (a1:Af) (a2:I3) (a3:I3) (a4:(I3)×Bool×I2) (a5:Ae) (a6:List (Int×Int×Int×Bt)) (a7:I2) (a8:List Bt) (a9:List (Int×I4)) (a10:(I3)×Bool×I2) (a11:Ae) (a12:List (Int×Int×Int×Bt)) (a13:I2) (a14:List Bt) (a15:List (Int×I4)):Option CP :=
 (bd (α:=EM) (cnd (decide (((a0.1.length:Nat):Int) > (400:Int))) (some ((((([]:Bt),a0),a1,a2),(a3,a4),a5,a6,a7),((a8,a9),a10,a11),(a12,a13),a14,a15,((0:Int),(0:Int)),(0:Int),([]:Bt))) (some ((((a0.1,a0),a1,a2),(a3,a4),a5,a6,a7),((a8,a9),a10,a11),(a12,a13),a14,a15,((0:Int),(0:Int)),(0:Int),([]:Bt)))) (fun v1=>(bd (α:=CC) (o25 v1.1.1.2.1.1.2.2.2 v1.1.1.1.1 v1.1.2.1.2 v1.1.2.2.1 v1.1.2.2.2.1 v1.1.2.2.2.2 v1.2.1.1.1 v1.2.1.1.2) (fun v3=>(some (((((v3.1.1.1,v3.1.1.2.1,v3.1.1.2.2.1,(v3.1.1.2.2.2==(0:Int))),v1.1.1.2.1),v1.1.1.2.2,v1.1.2.1.1),v3.1.2,v3.2.1),(v3.2.2,v1.2.1.2),v1.2.2.1,v1.2.2.2.1,v1.2.2.2.2.1))))))
def h24v1:HC:=(.s .d (.s .d (.j false [o24v1_s0] (.s .d (.s (.r 1) .d)))))
theorem e24v1 (t:EN):evF (stpT Tryz.prog T111 K111) Tryz.f24 p24v1 r24v1 h24v1 t=(o24v1 t.1.1.1.1 t.1.1.1.2 t.1.1.2.1 t.1.1.2.2 t.1.2.1.1 t.1.2.1.2 t.1.2.2.1 t.1.2.2.2 t.2.1.1.1 t.2.1.1.2 t.2.1.2.1 t.2.1.2.2 t.2.2.1.1 t.2.2.1.2 t.2.2.2.1 t.2.2.2.2):=by kernel_rfl
def n24v1:FSp:=⟨p24v1,r24v1,fun t=>(o24v1 t.1.1.1.1 t.1.1.1.2 t.1.1.2.1 t.1.1.2.2 t.1.2.1.1 t.1.2.1.2 t.1.2.2.1 t.1.2.2.2 t.2.1.1.1 t.2.1.1.2 t.2.1.2.1 t.2.1.2.2 t.2.2.1.1 t.2.2.1.2 t.2.2.2.1 t.2.2.2.2)⟩
theorem fo24v1:FOk Tryz.prog 24 n24v1:=fk e24v1
def T112:Tbl:=(24,n24v1)::T111
theorem K112:TOk Tryz.prog T112:= .cons K111 fo24v1
def o24v2_s0:Sch:=⟨[(0,.v (.c (.ic .i64 (1)))),(2,.v (.c (.ptr 1 0))),(4,.v (.c (.ptr 17 0))),(6,.v (.c (.ro .y false)))],[.lent [.ro .y false,.ro .y false],.cells 30 [.ptr 2 0],BX,Aa,Aa,AZ,Ab,Ad,AX,.row (.a .y) 33,Ac,BO,Ab,Ad,Bi,.row (.a .y) 33,Ac,AW]⟩
def p24v2:Sch:=⟨[(0,.v (.c (.ic .i64 (1)))),(1,.v (.c (.ptr 0 0))),(2,.v (.c (.ptr 1 0)))],[.lent [.ro .y false,.ro .y false],.cells 30 [.ptr 2 0],BX,Aa,Aa,AZ,Ab,Ad,AX,.row (.a .y) 33,Ac,BO,Ab,Ad,Bi,.row (.a .y) 33,Ac]⟩
def r24v2:List Sch:=[⟨[(0,Cj)],[.no,.cells 30 [.ptr 2 0],BX,Aa,Aa,AZ,Ab,Ad,AX,.row (.a .y) 33,Ac,BO,Ab,Ad,Bi,.row (.a .y) 33,Ac]⟩]
def o24v2 (a0:Bt×Bt) (a1:Af) (a2:I3) (a3:I3) (a4:(I3)×Bool×I2) (a5:Ae) (a6:List (Int×Int×Int×Bt)) (a7:I2) (a8:List Bt) (a9:List (Int×I4)) (a10:(I3)×Bool×I2) (a11:Ae) (a12:List (Int×Int×Int×Bt)) (a13:I2) (a14:List Bt) (a15:List (Int×I4)):Option CP :=
 (bd (α:=EM) (cnd (decide (((a0.2.length:Nat):Int) > (400:Int))) (some ((((([]:Bt),a0),a1,a2),(a3,a4),a5,a6,a7),((a8,a9),a10,a11),(a12,a13),a14,a15,((0:Int),(0:Int)),(0:Int),([]:Bt))) (some ((((a0.2,a0),a1,a2),(a3,a4),a5,a6,a7),((a8,a9),a10,a11),(a12,a13),a14,a15,((0:Int),(0:Int)),(0:Int),([]:Bt)))) (fun v1=>(bd (α:=CC) (o25 v1.1.1.2.1.1.2.2.2 v1.1.1.1.1 v1.2.1.2.1 v1.2.1.2.2 v1.2.2.1.1 v1.2.2.1.2 v1.2.2.2.1 v1.2.2.2.2.1) (fun v3=>(some (((((v3.1.1.1,v3.1.1.2.1,v3.1.1.2.2.1,(v3.1.1.2.2.2==(0:Int))),v1.1.1.2.1),v1.1.1.2.2,v1.1.2.1.1),(v1.1.2.1.2,v1.1.2.2.1),v1.1.2.2.2),(v1.2.1.1,v3.1.2),v3.2))))))
def h24v2:HC:=(.s .d (.s .d (.j false [o24v2_s0] (.s .d (.s (.r 1) .d)))))
theorem e24v2 (t:EN):evF (stpT Tryz.prog T112 K112) Tryz.f24 p24v2 r24v2 h24v2 t=(o24v2 t.1.1.1.1 t.1.1.1.2 t.1.1.2.1 t.1.1.2.2 t.1.2.1.1 t.1.2.1.2 t.1.2.2.1 t.1.2.2.2 t.2.1.1.1 t.2.1.1.2 t.2.1.2.1 t.2.1.2.2 t.2.2.1.1 t.2.2.1.2 t.2.2.2.1 t.2.2.2.2):=by kernel_rfl
def n24v2:FSp:=⟨p24v2,r24v2,fun t=>(o24v2 t.1.1.1.1 t.1.1.1.2 t.1.1.2.1 t.1.1.2.2 t.1.2.1.1 t.1.2.1.2 t.1.2.2.1 t.1.2.2.2 t.2.1.1.1 t.2.1.1.2 t.2.1.2.1 t.2.1.2.2 t.2.2.1.1 t.2.2.1.2 t.2.2.2.1 t.2.2.2.2)⟩
theorem fo24v2:FOk Tryz.prog 24 n24v2:=fk e24v2
def T113:Tbl:=(24,n24v2)::T112
theorem K113:TOk Tryz.prog T113:= .cons K112 fo24v2
def DE:SSh:= .v (.c (.cap (.cap (.fn 24) (.ptr 15 0)) (.ptr 16 0)))
def Aw:BSh:= .cells 105 [.ifc 60 (.ptr 1 0),.ifc 60 (.ptr 2 0),.ptr 3 0,.ptr 9 0,.ro .y true,.i .i64,.i .i64,.i .i64,.i .i64,.i .i64,.i .u8,.i .u8,.i .u8,.i .i64,.i .i64,.i .i64,.i .i64]
abbrev EO:Type:=(((BU×Af)×(I3)×I3)×(((I3)×Bool×I2)×Ae)×(List (Int×Int×Int×Bt))×I2)×((List Bt×List (Int×I4))×((I3)×Bool×I2)×Ae)×((List (Int×Int×Int×Bt))×I2)×List Bt×(List (Int×I4))×Bt×Bt
abbrev EP:Type:=(((Af×I3)×(I3)×(I3)×Bool×I2)×(Ae×List (Int×Int×Int×Bt))×(I2)×List Bt×List (Int×I4))×((((I3)×Bool×I2)×Ae)×(List (Int×Int×Int×Bt))×(I2)×List Bt)×((List (Int×I4))×Bt×Bt)×Ao×As×B2
abbrev Ho:Type:=(((Ao×Af)×(I3)×I3)×(((I3)×Bool×I2)×Ae)×(List (Int×Int×Int×Bt))×I2)×((List Bt×List (Int×I4))×((I3)×Bool×I2)×Ae)×((List (Int×Int×Int×Bt))×I2)×List Bt×(List (Int×I4))×Bt×Bt
def o23v4_s0:Sch:=⟨[(0,.v (.c (.ptr 0 0))),(1,.v (.c (.ic .i64 (0)))),(3,DE),(6,.v (.c (.ptr 17 0))),(8,.v (.c (.ptr 18 0))),(9,.v (.c (.ptr 19 0))),(15,.v (.c (.ic .i64 (0))))],[Aw,Aa,Aa,Ai,Ab,Ad,Al,.row (.a .y) 33,Ac,Au,Ab,Ad,Ap,.row (.a .y) 33,Ac,Bm,.cells 30 [.ptr 0 0],Aj,Am,.cells 34 [.b,.b]]⟩
def o23v4_s1:Sch:=⟨[(0,.v (.c (.ptr 0 0))),(1,.v (.c (.ic .i64 (0)))),(3,DE),(6,.v (.c (.ptr 17 0))),(8,.v (.c (.ptr 18 0))),(9,.v (.c (.ptr 19 0))),(15,.v (.c (.ic .i64 (1))))],[Aw,Aa,Aa,Ai,Ab,Ad,Al,.row (.a .y) 33,Ac,Au,Ab,Ad,Ap,.row (.a .y) 33,Ac,Bm,.cells 30 [.ptr 0 0],Aj,Am,.cells 34 [.b,.b]]⟩
def p23v4:Sch:=⟨[(0,.v (.c (.ptr 0 0))),(1,.v (.c (.ic .i64 (0)))),(2,AP),(3,DE)],[Aw,Aa,Aa,Ai,Ab,Ad,Al,.row (.a .y) 33,Ac,Au,Ab,Ad,Ap,.row (.a .y) 33,Ac,Bm,.cells 30 [.ptr 0 0]]⟩
def r23v4:List Sch:=[⟨[(0,Bq)],[Aw,Aa,Aa,Ai,Ab,Ad,Al,.row (.a .y) 33,Ac,Au,Ab,Ad,Ap,.row (.a .y) 33,Ac,Bm,.cells 30 [.ptr 0 0]]⟩]
def o23v4 (a0:Ao) (a1:Af) (a2:I3) (a3:I3) (a4:(I3)×Bool×I2) (a5:Ae) (a6:List (Int×Int×Int×Bt)) (a7:I2) (a8:List Bt) (a9:List (Int×I4)) (a10:(I3)×Bool×I2) (a11:Ae) (a12:List (Int×Int×Int×Bt)) (a13:I2) (a14:List Bt) (a15:List (Int×I4)) (a16:Bt×Bt):Option EO :=
 (bd (α:=EP) (bd (α:=CP) (o24v1 a16 a1 a2 a3 a4 a5 a6 a7 a8 a9 a10 a11 a12 a13 a14 a15) (fun v1=>(cnd (!v1.1.1.1.1.2.2.2) (some ((((v1.1.1.1.2,v1.1.1.2.1),v1.1.1.2.2,v1.1.2.1.1),(v1.1.2.1.2,v1.1.2.2.1),v1.1.2.2.2,v1.2.1.1),(v1.2.1.2,v1.2.2.1.1,v1.2.2.1.2,v1.2.2.2.1),(v1.2.2.2.2,a16),a0,((((0:Int),(0:Int)),(0:Int),([]:Bt)),((0:Int),(0:Int)),(0:Int),([]:Bt)),false,false)) (bd (α:=(Int×Bt)) (o69 (v1.1.1.1.1.1,v1.1.1.1.1.2.1,v1.1.1.1.1.2.2.1)) (fun v2=>(cnd (v2.1 != (0:Int)) (some ((((v1.1.1.1.2,v1.1.1.2.1),v1.1.1.2.2,v1.1.2.1.1),(v1.1.2.1.2,v1.1.2.2.1),v1.1.2.2.2,v1.2.1.1),(v1.2.1.2,v1.2.2.1.1,v1.2.2.1.2,v1.2.2.2.1),(v1.2.2.2.2,a16),a0,((((0:Int),(0:Int)),(0:Int),([]:Bt)),((0:Int),(0:Int)),(0:Int),([]:Bt)),false,false)) (bd (α:=((I2)×Int×Bt×Bool)) (o70 v2.2 (a0.1.2.1.1.1,a0.1.2.1.1.2,a0.1.2.1.2.1) (1:Int) (1:Int) v1.1.1.1.2.1.2.2.2) (fun v4=>(some ((((v1.1.1.1.2,v1.1.1.2.1),v1.1.1.2.2,v1.1.2.1.1),(v1.1.2.1.2,v1.1.2.2.1),v1.1.2.2.2,v1.2.1.1),(v1.2.1.2,v1.2.2.1.1,v1.2.2.1.2,v1.2.2.2.1),(v1.2.2.2.2,a16),a0,((((0:Int),(0:Int)),(0:Int),([]:Bt)),v4.1,v4.2.1,v4.2.2.1),false,v4.2.2.2)))))))))) (fun v5=>(bd (α:=EP) (bd (α:=CP) (o24v2 v5.2.2.1.2 v5.1.1.1.1 v5.1.1.1.2 v5.1.1.2.1 v5.1.1.2.2 v5.1.2.1.1 v5.1.2.1.2 v5.1.2.2.1 v5.1.2.2.2.1 v5.1.2.2.2.2 v5.2.1.1.1 v5.2.1.1.2 v5.2.1.2.1 v5.2.1.2.2.1 v5.2.1.2.2.2 v5.2.2.1.1) (fun v6=>(cnd (!v6.1.1.1.1.2.2.2) (some ((((v6.1.1.1.2,v6.1.1.2.1),v6.1.1.2.2,v6.1.2.1.1),(v6.1.2.1.2,v6.1.2.2.1),v6.1.2.2.2,v6.2.1.1),(v6.2.1.2,v6.2.2.1.1,v6.2.2.1.2,v6.2.2.2.1),(v6.2.2.2.2,v5.2.2.1.2),v5.2.2.2)) (bd (α:=(Int×Bt)) (o69 (v6.1.1.1.1.1,v6.1.1.1.1.2.1,v6.1.1.1.1.2.2.1)) (fun v7=>(cnd (v7.1 != (0:Int)) (some ((((v6.1.1.1.2,v6.1.1.2.1),v6.1.1.2.2,v6.1.2.1.1),(v6.1.2.1.2,v6.1.2.2.1),v6.1.2.2.2,v6.2.1.1),(v6.2.1.2,v6.2.2.1.1,v6.2.2.1.2,v6.2.2.2.1),(v6.2.2.2.2,v5.2.2.1.2),v5.2.2.2)) (bd (α:=((I2)×Int×Bt×Bool)) (o70 v7.2 (v5.2.2.2.1.2.1.2.1.1,v5.2.2.2.1.2.1.2.1.2,v5.2.2.2.1.2.1.2.2.1) (1:Int) (2:Int) v6.1.1.1.2.1.2.2.2) (fun v9=>(some ((((v6.1.1.1.2,v6.1.1.2.1),v6.1.1.2.2,v6.1.2.1.1),(v6.1.2.1.2,v6.1.2.2.1),v6.1.2.2.2,v6.2.1.1),(v6.2.1.2,v6.2.2.1.1,v6.2.2.1.2,v6.2.2.2.1),(v6.2.2.2.2,v5.2.2.1.2),v5.2.2.2.1,((v9.1,v9.2.1,v9.2.2.1),v5.2.2.2.2.1.2),v9.2.2.2,v5.2.2.2.2.2.2)))))))))) (fun v10=>(some ((((((v10.2.2.2.2.1.1.1,v10.2.2.2.2.1.1.2.1,v10.2.2.2.2.1.1.2.2,v10.2.2.2.2.1.2.1.1),(v10.2.2.2.2.1.2.1.2,v10.2.2.2.2.1.2.2.1),v10.2.2.2.2.1.2.2.2,v10.2.2.2.2.2),v10.1.1.1.1),v10.1.1.1.2,v10.1.1.2.1),(v10.1.1.2.2,v10.1.2.1.1),v10.1.2.1.2,v10.1.2.2.1),(v10.1.2.2.2,v10.2.1.1),(v10.2.1.2.1,v10.2.1.2.2.1),v10.2.1.2.2.2,v10.2.2.1))))))
def h23v4:HC:=(.s .d (.s (.s .d (.b (.u 3 (.v (.s .d (.s .d (.j false [o23v4_s0] .d))) (.v (.s .d (.s .d (.j false [o23v4_s1] .d))) (.v .d .d)))))) .d))
theorem e23v4 (t:Ho):evF (stpT Tryz.prog T113 K113) Tryz.f23 p23v4 r23v4 h23v4 t=(o23v4 t.1.1.1.1 t.1.1.1.2 t.1.1.2.1 t.1.1.2.2 t.1.2.1.1 t.1.2.1.2 t.1.2.2.1 t.1.2.2.2 t.2.1.1.1 t.2.1.1.2 t.2.1.2.1 t.2.1.2.2 t.2.2.1.1 t.2.2.1.2 t.2.2.2.1 t.2.2.2.2.1 t.2.2.2.2.2):=by kernel_rfl
def n23v4:FSp:=⟨p23v4,r23v4,fun t=>(o23v4 t.1.1.1.1 t.1.1.1.2 t.1.1.2.1 t.1.1.2.2 t.1.2.1.1 t.1.2.1.2 t.1.2.2.1 t.1.2.2.2 t.2.1.1.1 t.2.1.1.2 t.2.1.2.1 t.2.1.2.2 t.2.2.1.1 t.2.2.1.2 t.2.2.2.1 t.2.2.2.2.1 t.2.2.2.2.2)⟩
theorem fo23v4:FOk Tryz.prog 23 n23v4:=fk e23v4
def T114:Tbl:=(23,n23v4)::T113
theorem K114:TOk Tryz.prog T114:= .cons K113 fo23v4
def AC:BSh:= .cells 105 [.ifc 60 (.ptr 2 0),.ifc 60 (.ptr 3 0),.ptr 4 0,.ptr 10 0,.ro .y true,.i .i64,.i .i64,.i .i64,.i .i64,.i .i64,.i .u8,.i .u8,.i .u8,.i .i64,.i .i64,.i .i64,.i .i64]
def Av:BSh:= .cells 137 [.i .i64,.ptr 11 0,.ptr 12 0,.ptr 13 0,.i .i64,.i .i64,.b,.i .i64,.i .i64]
def Ay:BSh:= .cells 232 [.i .i64,.i .i64,.own 14,.own 15]
def BZ:BSh:= .cells 232 [.i .i64,.i .i64,.own 18,.own 19]
abbrev CQ:Type:=(((Af×I3)×(I3)×(I3)×Bool×I2)×(Ae×List (Int×Int×Int×Bt))×(I2)×(I3)×Bool×I2)×((Ae×List (Int×Int×Int×Bt))×(I2)×List Bt)×((List (Int×I4))×As)×(B2)×List Bt×List (Int×I4)
abbrev Ca:Type:=(((Af×I3)×(I3)×(I3)×Bool×I2)×(Ae×List (Int×Int×Int×Bt))×(I2)×List Bt)×(((List (Int×I4))×(I3)×Bool×I2)×Ae×List (Int×Int×Int×Bt))×((I2)×List Bt)×(List (Int×I4))×As×B2
def p27v1:Sch:=⟨[(0,.v (.c (.ic .i64 (0)))),(1,.v (.c (.ptr 0 0))),(2,.v (.c (.ptr 16 0))),(3,.v (.c (.ptr 17 0)))],[.cells 30 [.ptr 1 0],AC,Aa,Aa,Ak,Ab,Ad,Aq,.row (.a .y) 33,Ac,Av,Ab,Ad,Ay,.row (.a .y) 33,Ac,Am,.cells 34 [.b,.b]]⟩
def r27v1:List Sch:=[⟨[(0,.tup [])],[.cells 30 [.ptr 1 0],AC,Aa,Aa,Ak,Ab,Ad,BZ,.no,.no,Av,Ab,Ad,Ay,.row (.a .y) 33,Ac,Am,.cells 34 [.b,.b],.row (.a .y) 33,Ac]⟩]
def o27v1 (a0:Af) (a1:I3) (a2:I3) (a3:(I3)×Bool×I2) (a4:Ae) (a5:List (Int×Int×Int×Bt)) (a6:I2) (a7:List Bt) (a8:List (Int×I4)) (a9:(I3)×Bool×I2) (a10:Ae) (a11:List (Int×Int×Int×Bt)) (a12:I2) (a13:List Bt) (a14:List (Int×I4)) (a15:As) (a16:B2):Option CQ :=
 (bd (α:=Cl) (o28 a15.1 a16.1 a3 a4 a5 a6 a7 a8) (fun v2=>(some ((((a0,a1),a2,v2.1.2.1),(v2.1.2.2,v2.2.1.1),v2.2.1.2,a9),((a10,a11),a12,a13),(a14,a15),a16,v2.2.2))))
theorem e27v1 (t:Ca):evF (stpT Tryz.prog T114 K114) Tryz.f27 p27v1 r27v1 (.r 2) t=(o27v1 t.1.1.1.1 t.1.1.1.2 t.1.1.2.1 t.1.1.2.2 t.1.2.1.1 t.1.2.1.2 t.1.2.2.1 t.1.2.2.2 t.2.1.1.1 t.2.1.1.2 t.2.1.2.1 t.2.1.2.2 t.2.2.1.1 t.2.2.1.2 t.2.2.2.1 t.2.2.2.2.1 t.2.2.2.2.2):=by kernel_rfl
def n27v1:FSp:=⟨p27v1,r27v1,fun t=>(o27v1 t.1.1.1.1 t.1.1.1.2 t.1.1.2.1 t.1.1.2.2 t.1.2.1.1 t.1.2.1.2 t.1.2.2.1 t.1.2.2.2 t.2.1.1.1 t.2.1.1.2 t.2.1.2.1 t.2.1.2.2 t.2.2.1.1 t.2.2.1.2 t.2.2.2.1 t.2.2.2.2.1 t.2.2.2.2.2)⟩
theorem fo27v1:FOk Tryz.prog 27 n27v1:=fk e27v1
def T115:Tbl:=(27,n27v1)::T114
theorem K115:TOk Tryz.prog T115:= .cons K114 fo27v1
abbrev CR:Type:=(((Af×I3)×(I3)×(I3)×Bool×I2)×(Ae×List (Int×Int×Int×Bt))×(I2)×List Bt)×(((List (Int×I4))×(I3)×Bool×I2)×Ae×List (Int×Int×Int×Bt))×((I2)×As)×(B2)×List Bt×List (Int×I4)
def p27v2:Sch:=⟨[(0,.v (.c (.ic .i64 (1)))),(1,.v (.c (.ptr 0 0))),(2,.v (.c (.ptr 16 0))),(3,.v (.c (.ptr 17 0)))],[.cells 30 [.ptr 1 0],AC,Aa,Aa,Ak,Ab,Ad,Aq,.row (.a .y) 33,Ac,Av,Ab,Ad,Ay,.row (.a .y) 33,Ac,Am,.cells 34 [.b,.b]]⟩
def r27v2:List Sch:=[⟨[(0,.tup [])],[.cells 30 [.ptr 1 0],AC,Aa,Aa,Ak,Ab,Ad,Aq,.row (.a .y) 33,Ac,Av,Ab,Ad,BZ,.no,.no,Am,.cells 34 [.b,.b],.row (.a .y) 33,Ac]⟩]
def o27v2 (a0:Af) (a1:I3) (a2:I3) (a3:(I3)×Bool×I2) (a4:Ae) (a5:List (Int×Int×Int×Bt)) (a6:I2) (a7:List Bt) (a8:List (Int×I4)) (a9:(I3)×Bool×I2) (a10:Ae) (a11:List (Int×Int×Int×Bt)) (a12:I2) (a13:List Bt) (a14:List (Int×I4)) (a15:As) (a16:B2):Option CR :=
 (bd (α:=Cl) (o28 a15.2 a16.2 a9 a10 a11 a12 a13 a14) (fun v2=>(some ((((a0,a1),a2,a3),(a4,a5),a6,a7),((a8,v2.1.2.1),v2.1.2.2,v2.2.1.1),(v2.2.1.2,a15),a16,v2.2.2))))
theorem e27v2 (t:Ca):evF (stpT Tryz.prog T115 K115) Tryz.f27 p27v2 r27v2 (.r 2) t=(o27v2 t.1.1.1.1 t.1.1.1.2 t.1.1.2.1 t.1.1.2.2 t.1.2.1.1 t.1.2.1.2 t.1.2.2.1 t.1.2.2.2 t.2.1.1.1 t.2.1.1.2 t.2.1.2.1 t.2.1.2.2 t.2.2.1.1 t.2.2.1.2 t.2.2.2.1 t.2.2.2.2.1 t.2.2.2.2.2):=by kernel_rfl
def n27v2:FSp:=⟨p27v2,r27v2,fun t=>(o27v2 t.1.1.1.1 t.1.1.1.2 t.1.1.2.1 t.1.1.2.2 t.1.2.1.1 t.1.2.1.2 t.1.2.2.1 t.1.2.2.2 t.2.1.1.1 t.2.1.1.2 t.2.1.2.1 t.2.1.2.2 t.2.2.1.1 t.2.2.1.2 t.2.2.2.1 t.2.2.2.2.1 t.2.2.2.2.2)⟩
theorem fo27v2:FOk Tryz.prog 27 n27v2:=fk e27v2
def T116:Tbl:=(27,n27v2)::T115
theorem K116:TOk Tryz.prog T116:= .cons K115 fo27v2
def Hp:SSh:= .v (.c (.cap (.cap (.cap (.fn 27) (.ptr 15 0)) (.ptr 16 0)) (.ptr 17 0)))
def CS:BSh:= .cells 232 [.i .i64,.i .i64,.own 20,.own 21]
abbrev CT:Type:=(((Af×I3)×(I3)×(I3)×Bool×I2)×(Ae×List (Int×Int×Int×Bt))×(I2)×(I3)×Bool×I2)×((Ae×List (Int×Int×Int×Bt))×(I2)×As)×((B2)×List Bt)×(List (Int×I4))×List Bt×List (Int×I4)
def p26v5:Sch:=⟨[(0,.v (.c (.ptr 0 0))),(1,Hp)],[Aw,Aa,Aa,Ai,Ab,Ad,Al,.row (.a .y) 33,Ac,Au,Ab,Ad,Ap,.row (.a .y) 33,Ac,.cells 30 [.ptr 0 0],Am,.cells 34 [.b,.b]]⟩
def r26v5:List Sch:=[⟨[(0,.tup [])],[Aw,Aa,Aa,Ai,Ab,Ad,BZ,.no,.no,Au,Ab,Ad,CS,.no,.no,.cells 30 [.ptr 0 0],Am,.cells 34 [.b,.b],.row (.a .y) 33,Ac,.row (.a .y) 33,Ac]⟩]
def o26v5 (a0:Af) (a1:I3) (a2:I3) (a3:(I3)×Bool×I2) (a4:Ae) (a5:List (Int×Int×Int×Bt)) (a6:I2) (a7:List Bt) (a8:List (Int×I4)) (a9:(I3)×Bool×I2) (a10:Ae) (a11:List (Int×Int×Int×Bt)) (a12:I2) (a13:List Bt) (a14:List (Int×I4)) (a15:As) (a16:B2):Option CT :=
 (bd (α:=CQ) (o27v1 a0 a1 a2 a3 a4 a5 a6 a7 a8 a9 a10 a11 a12 a13 a14 a15 a16) (fun v1=>(bd (α:=CR) (o27v2 v1.1.1.1.1 v1.1.1.1.2 v1.1.1.2.1 v1.1.1.2.2 v1.1.2.1.1 v1.1.2.1.2 v1.1.2.2.1 v1.2.2.2.2.1 v1.2.2.2.2.2 v1.1.2.2.2 v1.2.1.1.1 v1.2.1.1.2 v1.2.1.2.1 v1.2.1.2.2 v1.2.2.1.1 v1.2.2.1.2 v1.2.2.2.1) (fun v2=>(some ((v2.1.1,v2.1.2.1,v2.1.2.2.1,v2.2.1.1.2),(v2.2.1.2,v2.2.2.1),(v2.2.2.2.1,v2.1.2.2.2),v2.2.1.1.1,v2.2.2.2.2))))))
def h26v5:HC:=(.s .d (.b (.u 3 (.v .d (.v .d (.v .d .d))))))
theorem e26v5 (t:Ca):evF (stpT Tryz.prog T116 K116) Tryz.f26 p26v5 r26v5 h26v5 t=(o26v5 t.1.1.1.1 t.1.1.1.2 t.1.1.2.1 t.1.1.2.2 t.1.2.1.1 t.1.2.1.2 t.1.2.2.1 t.1.2.2.2 t.2.1.1.1 t.2.1.1.2 t.2.1.2.1 t.2.1.2.2 t.2.2.1.1 t.2.2.1.2 t.2.2.2.1 t.2.2.2.2.1 t.2.2.2.2.2):=by kernel_rfl
def n26v5:FSp:=⟨p26v5,r26v5,fun t=>(o26v5 t.1.1.1.1 t.1.1.1.2 t.1.1.2.1 t.1.1.2.2 t.1.2.1.1 t.1.2.1.2 t.1.2.2.1 t.1.2.2.2 t.2.1.1.1 t.2.1.1.2 t.2.1.2.1 t.2.1.2.2 t.2.2.1.1 t.2.2.1.2 t.2.2.2.1 t.2.2.2.2.1 t.2.2.2.2.2)⟩
theorem fo26v5:FOk Tryz.prog 26 n26v5:=fk e26v5
def T117:Tbl:=(26,n26v5)::T116
theorem K117:TOk Tryz.prog T117:= .cons K116 fo26v5
def CU:SSh:= .tup [.agg [.i .u8,.i .u8,.i .i64,.own 16],.c (.b)]
abbrev Bn:Type:=(((((I2)×Int×Bool)×Af)×(I3)×I3)×(((I3)×Bool×I2)×Ae)×(List (Int×Int×Int×Bt))×I2)×((List Bt×List (Int×I4))×((I3)×Bool×I2)×Ae)×((List (Int×Int×Int×Bt))×I2)×List Bt×(List (Int×I4))×Bt
abbrev Cb:Type:=((Af×(I3)×I3)×(((I3)×Bool×I2)×Ae)×(List (Int×Int×Int×Bt))×I2)×((List Bt×List (Int×I4))×((I3)×Bool×I2)×Ae)×((List (Int×Int×Int×Bt))×I2)×List Bt×List (Int×I4)
def p29v1:Sch:=⟨[(0,.v (.c (.ic .i64 (0)))),(1,.v (.c (.ptr 0 0)))],[.cells 30 [.ptr 1 0],AC,Aa,Aa,Ak,Ab,Ad,Aq,.row (.a .y) 33,Ac,Av,Ab,Ad,Ay,.row (.a .y) 33,Ac]⟩
def r29v1:List Sch:=[⟨[(0,CU)],[.cells 30 [.ptr 1 0],AC,Aa,Aa,Ak,Ab,Ad,Aq,.row (.a .y) 33,Ac,Av,Ab,Ad,Ay,.row (.a .y) 33,Ac,.row .y 5]⟩]
def o29v1 (a0:Af) (a1:I3) (a2:I3) (a3:(I3)×Bool×I2) (a4:Ae) (a5:List (Int×Int×Int×Bt)) (a6:I2) (a7:List Bt) (a8:List (Int×I4)) (a9:(I3)×Bool×I2) (a10:Ae) (a11:List (Int×Int×Int×Bt)) (a12:I2) (a13:List Bt) (a14:List (Int×I4)):Option Bn :=
 (bd (α:=Bf) (o30 a3 a4 a5 a6 a7 a8) (fun v1=>(some (((((v1.1.1.1.1,v1.1.1.1.2.1,v1.1.1.1.2.2.1),a0),a1,a2),(v1.1.1.2,v1.1.2.1),v1.1.2.2,v1.2.1.1),((v1.2.1.2,v1.2.2.1),a9,a10),(a11,a12),a13,a14,v1.2.2.2))))
theorem e29v1 (t:Cb):evF (stpT Tryz.prog T117 K117) Tryz.f29 p29v1 r29v1 .d t=(o29v1 t.1.1.1 t.1.1.2.1 t.1.1.2.2 t.1.2.1.1 t.1.2.1.2 t.1.2.2.1 t.1.2.2.2 t.2.1.1.1 t.2.1.1.2 t.2.1.2.1 t.2.1.2.2 t.2.2.1.1 t.2.2.1.2 t.2.2.2.1 t.2.2.2.2):=by kernel_rfl
def n29v1:FSp:=⟨p29v1,r29v1,fun t=>(o29v1 t.1.1.1 t.1.1.2.1 t.1.1.2.2 t.1.2.1.1 t.1.2.1.2 t.1.2.2.1 t.1.2.2.2 t.2.1.1.1 t.2.1.1.2 t.2.1.2.1 t.2.1.2.2 t.2.2.1.1 t.2.2.1.2 t.2.2.2.1 t.2.2.2.2)⟩
theorem fo29v1:FOk Tryz.prog 29 n29v1:=fk e29v1
def T118:Tbl:=(29,n29v1)::T117
theorem K118:TOk Tryz.prog T118:= .cons K117 fo29v1
def p29v2:Sch:=⟨[(0,.v (.c (.ic .i64 (1)))),(1,.v (.c (.ptr 0 0)))],[.cells 30 [.ptr 1 0],AC,Aa,Aa,Ak,Ab,Ad,Aq,.row (.a .y) 33,Ac,Av,Ab,Ad,Ay,.row (.a .y) 33,Ac]⟩
def r29v2:List Sch:=[⟨[(0,CU)],[.cells 30 [.ptr 1 0],AC,Aa,Aa,Ak,Ab,Ad,Aq,.row (.a .y) 33,Ac,Av,Ab,Ad,Ay,.row (.a .y) 33,Ac,.row .y 5]⟩]
def o29v2 (a0:Af) (a1:I3) (a2:I3) (a3:(I3)×Bool×I2) (a4:Ae) (a5:List (Int×Int×Int×Bt)) (a6:I2) (a7:List Bt) (a8:List (Int×I4)) (a9:(I3)×Bool×I2) (a10:Ae) (a11:List (Int×Int×Int×Bt)) (a12:I2) (a13:List Bt) (a14:List (Int×I4)):Option Bn :=
 (bd (α:=Bf) (o30 a9 a10 a11 a12 a13 a14) (fun v1=>(some (((((v1.1.1.1.1,v1.1.1.1.2.1,v1.1.1.1.2.2.1),a0),a1,a2),(a3,a4),a5,a6),((a7,a8),v1.1.1.2,v1.1.2.1),(v1.1.2.2,v1.2.1.1),v1.2.1.2,v1.2.2))))
theorem e29v2 (t:Cb):evF (stpT Tryz.prog T118 K118) Tryz.f29 p29v2 r29v2 .d t=(o29v2 t.1.1.1 t.1.1.2.1 t.1.1.2.2 t.1.2.1.1 t.1.2.1.2 t.1.2.2.1 t.1.2.2.2 t.2.1.1.1 t.2.1.1.2 t.2.1.2.1 t.2.1.2.2 t.2.2.1.1 t.2.2.1.2 t.2.2.2.1 t.2.2.2.2):=by kernel_rfl
def n29v2:FSp:=⟨p29v2,r29v2,fun t=>(o29v2 t.1.1.1 t.1.1.2.1 t.1.1.2.2 t.1.2.1.1 t.1.2.1.2 t.1.2.2.1 t.1.2.2.2 t.2.1.1.1 t.2.1.1.2 t.2.1.2.1 t.2.1.2.2 t.2.2.1.1 t.2.2.1.2 t.2.2.2.1 t.2.2.2.2)⟩
theorem fo29v2:FOk Tryz.prog 29 n29v2:=fk e29v2
def T119:Tbl:=(29,n29v2)::T118
theorem K119:TOk Tryz.prog T119:= .cons K118 fo29v2
def DF:SSh:= .v (.c (.cap (.fn 29) (.ptr 15 0)))
abbrev Cs:Type:=(((BU×Af)×(I3)×I3)×(((I3)×Bool×I2)×Ae)×(List (Int×Int×Int×Bt))×I2)×((List Bt×List (Int×I4))×((I3)×Bool×I2)×Ae)×((List (Int×Int×Int×Bt))×I2)×List Bt×List (Int×I4)
abbrev Cc:Type:=(((Af×I3)×(I3)×(I3)×Bool×I2)×(Ae×List (Int×Int×Int×Bt))×(I2)×List Bt×List (Int×I4))×((((I3)×Bool×I2)×Ae)×(List (Int×Int×Int×Bt))×I2)×(List Bt×List (Int×I4))×Ao×As×B2
def EQ (v1:Bn) (a0:Ao) (v4:(I2)×Int×Bt×Bool):Option Cc :=
 (some ((((v1.1.1.1.2,v1.1.1.2.1),v1.1.1.2.2,v1.1.2.1.1),(v1.1.2.1.2,v1.1.2.2.1),v1.1.2.2.2,v1.2.1.1),(v1.2.1.2,v1.2.2.1),(v1.2.2.2.1,v1.2.2.2.2.1),a0,((((0:Int),(0:Int)),(0:Int),([]:Bt)),v4.1,v4.2.1,v4.2.2.1),false,v4.2.2.2))
def ER (v10:Cc):Option Cs :=
 (some ((((((v10.2.2.2.2.1.1.1,v10.2.2.2.2.1.1.2.1,v10.2.2.2.2.1.1.2.2,v10.2.2.2.2.1.2.1.1),(v10.2.2.2.2.1.2.1.2,v10.2.2.2.2.1.2.2.1),v10.2.2.2.2.1.2.2.2,v10.2.2.2.2.2),v10.1.1.1.1),v10.1.1.1.2,v10.1.1.2.1),(v10.1.1.2.2,v10.1.2.1.1),v10.1.2.1.2,v10.1.2.2.1),(v10.1.2.2.2,v10.2.1.1),v10.2.1.2,v10.2.2.1))
abbrev ES:Type:=(((Ao×Af)×(I3)×I3)×(((I3)×Bool×I2)×Ae)×(List (Int×Int×Int×Bt))×I2)×((List Bt×List (Int×I4))×((I3)×Bool×I2)×Ae)×((List (Int×Int×Int×Bt))×I2)×List Bt×List (Int×I4)
def o23v5_s0:Sch:=⟨[(0,.v (.c (.ptr 0 0))),(1,.v (.c (.ic .i64 (1)))),(3,DF),(6,.v (.c (.ptr 16 0))),(8,.v (.c (.ptr 17 0))),(9,.v (.c (.ptr 18 0))),(15,.v (.c (.ic .i64 (0))))],[Aw,Aa,Aa,Ai,Ab,Ad,Al,.row (.a .y) 33,Ac,Au,Ab,Ad,Ap,.row (.a .y) 33,Ac,.cells 30 [.ptr 0 0],Aj,Am,.cells 34 [.b,.b]]⟩
def o23v5_s1:Sch:=⟨[(0,.v (.c (.ptr 0 0))),(1,.v (.c (.ic .i64 (1)))),(3,DF),(6,.v (.c (.ptr 16 0))),(8,.v (.c (.ptr 17 0))),(9,.v (.c (.ptr 18 0))),(15,.v (.c (.ic .i64 (1))))],[Aw,Aa,Aa,Ai,Ab,Ad,Al,.row (.a .y) 33,Ac,Au,Ab,Ad,Ap,.row (.a .y) 33,Ac,.cells 30 [.ptr 0 0],Aj,Am,.cells 34 [.b,.b]]⟩
def p23v5:Sch:=⟨[(0,.v (.c (.ptr 0 0))),(1,.v (.c (.ic .i64 (1)))),(2,AP),(3,DF)],[Aw,Aa,Aa,Ai,Ab,Ad,Al,.row (.a .y) 33,Ac,Au,Ab,Ad,Ap,.row (.a .y) 33,Ac,.cells 30 [.ptr 0 0]]⟩
def r23v5:List Sch:=[⟨[(0,Bq)],[Aw,Aa,Aa,Ai,Ab,Ad,Al,.row (.a .y) 33,Ac,Au,Ab,Ad,Ap,.row (.a .y) 33,Ac,.cells 30 [.ptr 0 0]]⟩]
def o23v5 (a0:Ao) (a1:Af) (a2:I3) (a3:I3) (a4:(I3)×Bool×I2) (a5:Ae) (a6:List (Int×Int×Int×Bt)) (a7:I2) (a8:List Bt) (a9:List (Int×I4)) (a10:(I3)×Bool×I2) (a11:Ae) (a12:List (Int×Int×Int×Bt)) (a13:I2) (a14:List Bt) (a15:List (Int×I4)):Option Cs :=
 (bd (α:=Cc) (bd (α:=Bn) (o29v1 a1 a2 a3 a4 a5 a6 a7 a8 a9 a10 a11 a12 a13 a14 a15) (fun v1=>(cnd (!v1.1.1.1.1.2.2) (some ((((v1.1.1.1.2,v1.1.1.2.1),v1.1.1.2.2,v1.1.2.1.1),(v1.1.2.1.2,v1.1.2.2.1),v1.1.2.2.2,v1.2.1.1),(v1.2.1.2,v1.2.2.1),(v1.2.2.2.1,v1.2.2.2.2.1),a0,((((0:Int),(0:Int)),(0:Int),([]:Bt)),((0:Int),(0:Int)),(0:Int),([]:Bt)),false,false)) (bd (α:=(Int×Bt)) (o69 (v1.1.1.1.1.1,v1.1.1.1.1.2.1,v1.2.2.2.2.2)) (fun v2=>(cnd (v2.1 != (0:Int)) (some ((((v1.1.1.1.2,v1.1.1.2.1),v1.1.1.2.2,v1.1.2.1.1),(v1.1.2.1.2,v1.1.2.2.1),v1.1.2.2.2,v1.2.1.1),(v1.2.1.2,v1.2.2.1),(v1.2.2.2.1,v1.2.2.2.2.1),a0,((((0:Int),(0:Int)),(0:Int),([]:Bt)),((0:Int),(0:Int)),(0:Int),([]:Bt)),false,false)) (bd (α:=((I2)×Int×Bt×Bool)) (o70 v2.2 (a0.1.2.1.2.2,a0.1.2.2.1) (2:Int) (1:Int) v1.1.1.1.2.1.2.2.2) (EQ v1 a0)))))))) (fun v5=>(bd (α:=Cc) (bd (α:=Bn) (o29v2 v5.1.1.1.1 v5.1.1.1.2 v5.1.1.2.1 v5.1.1.2.2 v5.1.2.1.1 v5.1.2.1.2 v5.1.2.2.1 v5.1.2.2.2.1 v5.1.2.2.2.2 v5.2.1.1.1 v5.2.1.1.2 v5.2.1.2.1 v5.2.1.2.2 v5.2.2.1.1 v5.2.2.1.2) (fun v6=>(cnd (!v6.1.1.1.1.2.2) (some ((((v6.1.1.1.2,v6.1.1.2.1),v6.1.1.2.2,v6.1.2.1.1),(v6.1.2.1.2,v6.1.2.2.1),v6.1.2.2.2,v6.2.1.1),(v6.2.1.2,v6.2.2.1),(v6.2.2.2.1,v6.2.2.2.2.1),v5.2.2.2)) (bd (α:=(Int×Bt)) (o69 (v6.1.1.1.1.1,v6.1.1.1.1.2.1,v6.2.2.2.2.2)) (fun v7=>(cnd (v7.1 != (0:Int)) (some ((((v6.1.1.1.2,v6.1.1.2.1),v6.1.1.2.2,v6.1.2.1.1),(v6.1.2.1.2,v6.1.2.2.1),v6.1.2.2.2,v6.2.1.1),(v6.2.1.2,v6.2.2.1),(v6.2.2.2.1,v6.2.2.2.2.1),v5.2.2.2)) (bd (α:=((I2)×Int×Bt×Bool)) (o70 v7.2 (v5.2.2.2.1.2.1.2.2.2,v5.2.2.2.1.2.2.1.1) (2:Int) (2:Int) v6.1.1.1.2.1.2.2.2) (fun v9=>(some ((((v6.1.1.1.2,v6.1.1.2.1),v6.1.1.2.2,v6.1.2.1.1),(v6.1.2.1.2,v6.1.2.2.1),v6.1.2.2.2,v6.2.1.1),(v6.2.1.2,v6.2.2.1),(v6.2.2.2.1,v6.2.2.2.2.1),v5.2.2.2.1,((v9.1,v9.2.1,v9.2.2.1),v5.2.2.2.2.1.2),v9.2.2.2,v5.2.2.2.2.2.2)))))))))) ER)))
def h23v5:HC:=(.s .d (.s (.s .d (.b (.u 3 (.v (.s .d (.s .d (.j false [o23v5_s0] .d))) (.v (.s .d (.s .d (.j false [o23v5_s1] .d))) (.v .d .d)))))) .d))
theorem e23v5 (t:ES):evF (stpT Tryz.prog T119 K119) Tryz.f23 p23v5 r23v5 h23v5 t=(o23v5 t.1.1.1.1 t.1.1.1.2 t.1.1.2.1 t.1.1.2.2 t.1.2.1.1 t.1.2.1.2 t.1.2.2.1 t.1.2.2.2 t.2.1.1.1 t.2.1.1.2 t.2.1.2.1 t.2.1.2.2 t.2.2.1.1 t.2.2.1.2 t.2.2.2.1 t.2.2.2.2):=by kernel_rfl
def n23v5:FSp:=⟨p23v5,r23v5,fun t=>(o23v5 t.1.1.1.1 t.1.1.1.2 t.1.1.2.1 t.1.1.2.2 t.1.2.1.1 t.1.2.1.2 t.1.2.2.1 t.1.2.2.2 t.2.1.1.1 t.2.1.1.2 t.2.1.2.1 t.2.1.2.2 t.2.2.1.1 t.2.2.1.2 t.2.2.2.1 t.2.2.2.2)⟩
theorem fo23v5:FOk Tryz.prog 23 n23v5:=fk e23v5
def T120:Tbl:=(23,n23v5)::T119
theorem K120:TOk Tryz.prog T120:= .cons K119 fo23v5
def Ce:BSh:= .cells 232 [.i .i64,.i .i64,.own 22,.own 23]
def ET:BSh:= .cells 123 [.i .i64,.i .i64,.b,.own 24]
def Cf:BSh:= .cells 232 [.i .i64,.i .i64,.own 21,.own 22]
abbrev EU:Type:=(((Af×I3)×(I3)×((I3)×Bool×I2)×Ae)×((List (Int×Int×Int×Bt))×I2)×((I3)×Bool×I2)×Ae×List (Int×Int×Int×Bt))×(((I2)×List Bt)×(List (Int×I4))×As×B2)×((B2)×Ah)×Ao×List Bt×List (Int×I4)
abbrev Hq:Type:=(((Af×I3)×(I3)×((I3)×Bool×I2)×Ae)×((List (Int×Int×Int×Bt))×(I2)×(I3)×Bool×I2)×Ae×(List (Int×Int×Int×Bt))×I2)×((List Bt×List (Int×I4))×As×(B2)×B2)×(Ah×Ao×Int×Int×Bool)×List Bt×(List (Int×I4))×Bt
abbrev DG:Type:=(((Af×I3)×(I3)×((I3)×Bool×I2)×Ae)×((List (Int×Int×Int×Bt))×I2)×List Bt×(List (Int×I4))×(I3)×Bool×I2)×((Ae×List (Int×Int×Int×Bt))×(I2)×List Bt×List (Int×I4))×(As×B2)×(B2)×Ah×Ao
def o31v1_s0:Sch:=⟨[(0,.v (.c (.ic .i64 (0)))),(1,.v (.c (.ptr 0 0))),(4,.v (.c (.ptr 18 0))),(5,.v (.c (.ptr 19 0))),(6,.v (.c (.ptr 20 0))),(8,.v (.c (.ptr 21 0)))],[.cells 30 [.ptr 1 0],AC,Aa,Aa,Ak,Ab,Ad,Ce,.no,.no,Av,Ab,Ad,Ay,.row (.a .y) 33,Ac,Am,.cells 34 [.b,.b],.cells 34 [.b,.b],Ag,Aj,ET,.row (.a .y) 33,Ac,.row .y 5]⟩
def p31v1:Sch:=⟨[(0,.v (.c (.ic .i64 (0)))),(1,.v (.c (.ptr 0 0))),(2,.v (.c (.ptr 16 0))),(3,.v (.c (.ptr 17 0))),(4,.v (.c (.ptr 18 0))),(5,.v (.c (.ptr 19 0))),(6,.v (.c (.ptr 20 0)))],[.cells 30 [.ptr 1 0],AC,Aa,Aa,Ak,Ab,Ad,Aq,.row (.a .y) 33,Ac,Av,Ab,Ad,Ay,.row (.a .y) 33,Ac,Am,.cells 34 [.b,.b],.cells 34 [.b,.b],Ag,Aj]⟩
def r31v1:List Sch:=[⟨[(0,.tup [])],[.cells 30 [.ptr 1 0],AC,Aa,Aa,Ak,Ab,Ad,Cf,.no,.no,Av,Ab,Ad,Ay,.row (.a .y) 33,Ac,Am,.cells 34 [.b,.b],.cells 34 [.b,.b],Ag,Aj,.row (.a .y) 33,Ac]⟩]
def o31v1 (a0:Af) (a1:I3) (a2:I3) (a3:(I3)×Bool×I2) (a4:Ae) (a5:List (Int×Int×Int×Bt)) (a6:I2) (a7:List Bt) (a8:List (Int×I4)) (a9:(I3)×Bool×I2) (a10:Ae) (a11:List (Int×Int×Int×Bt)) (a12:I2) (a13:List Bt) (a14:List (Int×I4)) (a15:As) (a16:B2) (a17:B2) (a18:Ah) (a19:Ao):Option EU :=
 (bd (α:=Cm) (o32 a15.1 a16.1 a3 a4 a5 a6 a7 a8) (fun v2=>(cnd (!v2.1.1.1.2.2.1) (some ((((a0,a1),a2,v2.1.1.2,v2.1.2.1),(v2.1.2.2,v2.2.1.1),a9,a10,a11),((a12,a13),a14,a15,a16),(a17,a18),a19,v2.2.2)) (bd (α:=Hq) (cnd v2.1.1.1.2.1 (bd (α:=(Bt)) (o33 a0.1.1.1) (fun v5=>(bd (α:=(Int×I3)) (o179 v5 a1) (fun v6=>(some ((((a0,v6.2),a2,v2.1.1.2,v2.1.2.1),(v2.1.2.2,v2.2.1.1,a9),a10,a11,a12),((a13,a14),a15,a16,a17),(a18,a19,v2.1.1.1.1.1,v2.1.1.1.1.2,v2.1.1.1.2.1),v2.2.2.1,v2.2.2.2,v2.2.1.2)))))) (some ((((a0,a1),a2,v2.1.1.2,v2.1.2.1),(v2.1.2.2,v2.2.1.1,a9),a10,a11,a12),((a13,a14),a15,a16,a17),(a18,a19,v2.1.1.1.1.1,v2.1.1.1.1.2,v2.1.1.1.2.1),v2.2.2.1,v2.2.2.2,v2.2.1.2))) (fun v7=>(bd (α:=(AE×I3)) (o181 v7.2.2.1.2.2.2.1 v7.2.2.2.2.2 v7.1.1.1.2) (fun v9=>(some ((((v7.1.1.1.1,v9.2),v7.1.1.2),(v7.1.2.1.1,v7.1.2.1.2.1),v7.1.2.1.2.2,v7.1.2.2.1,v7.1.2.2.2.1),((v7.1.2.2.2.2,v7.2.1.1.1),v7.2.1.1.2,v7.2.1.2.1,v7.2.1.2.2.1),((true,v7.2.1.2.2.2.2),(v7.2.2.1.1.1.1,v9.1.1,((lxorK .i64 v9.1.2.1.1 v7.2.2.1.2.1.1.1.2.2.1),v9.1.2.1.2),v9.1.2.2),v7.2.2.1.1.2),v7.2.2.1.2.1,v7.2.2.2.1,v7.2.2.2.2.1)))))))))
def h31v1:HC:=(.s (.r 4) (.s .d (.j false [o31v1_s0] (.s (.s .d (.c (.r 1) .d)) .d))))
theorem e31v1 (t:DG):evF (stpT Tryz.prog T120 K120) Tryz.f31 p31v1 r31v1 h31v1 t=(o31v1 t.1.1.1.1 t.1.1.1.2 t.1.1.2.1 t.1.1.2.2.1 t.1.1.2.2.2 t.1.2.1.1 t.1.2.1.2 t.1.2.2.1 t.1.2.2.2.1 t.1.2.2.2.2 t.2.1.1.1 t.2.1.1.2 t.2.1.2.1 t.2.1.2.2.1 t.2.1.2.2.2 t.2.2.1.1 t.2.2.1.2 t.2.2.2.1 t.2.2.2.2.1 t.2.2.2.2.2):=by kernel_rfl
def n31v1:FSp:=⟨p31v1,r31v1,fun t=>(o31v1 t.1.1.1.1 t.1.1.1.2 t.1.1.2.1 t.1.1.2.2.1 t.1.1.2.2.2 t.1.2.1.1 t.1.2.1.2 t.1.2.2.1 t.1.2.2.2.1 t.1.2.2.2.2 t.2.1.1.1 t.2.1.1.2 t.2.1.2.1 t.2.1.2.2.1 t.2.1.2.2.2 t.2.2.1.1 t.2.2.1.2 t.2.2.2.1 t.2.2.2.2.1 t.2.2.2.2.2)⟩
theorem fo31v1:FOk Tryz.prog 31 n31v1:=fk e31v1
def T121:Tbl:=(31,n31v1)::T120
theorem K121:TOk Tryz.prog T121:= .cons K120 fo31v1
abbrev EV:Type:=(((Af×I3)×(I3)×((I3)×Bool×I2)×Ae)×((List (Int×Int×Int×Bt))×I2)×List Bt×(List (Int×I4))×(I3)×Bool×I2)×((Ae×List (Int×Int×Int×Bt))×(I2)×As×B2)×((B2)×Ah)×Ao×List Bt×List (Int×I4)
abbrev Hr:Type:=(((Af×I3)×(I3)×((I3)×Bool×I2)×Ae)×((List (Int×Int×Int×Bt))×(I2)×List Bt)×(List (Int×I4))×((I3)×Bool×I2)×Ae)×(((List (Int×Int×Int×Bt))×I2)×As×(B2)×B2)×(Ah×Ao×Int×Int×Bool)×List Bt×(List (Int×I4))×Bt
def o31v2_s0:Sch:=⟨[(0,.v (.c (.ic .i64 (1)))),(1,.v (.c (.ptr 0 0))),(4,.v (.c (.ptr 18 0))),(5,.v (.c (.ptr 19 0))),(6,.v (.c (.ptr 20 0))),(8,.v (.c (.ptr 21 0)))],[.cells 30 [.ptr 1 0],AC,Aa,Aa,Ak,Ab,Ad,Aq,.row (.a .y) 33,Ac,Av,Ab,Ad,Ce,.no,.no,Am,.cells 34 [.b,.b],.cells 34 [.b,.b],Ag,Aj,ET,.row (.a .y) 33,Ac,.row .y 5]⟩
def p31v2:Sch:=⟨[(0,.v (.c (.ic .i64 (1)))),(1,.v (.c (.ptr 0 0))),(2,.v (.c (.ptr 16 0))),(3,.v (.c (.ptr 17 0))),(4,.v (.c (.ptr 18 0))),(5,.v (.c (.ptr 19 0))),(6,.v (.c (.ptr 20 0)))],[.cells 30 [.ptr 1 0],AC,Aa,Aa,Ak,Ab,Ad,Aq,.row (.a .y) 33,Ac,Av,Ab,Ad,Ay,.row (.a .y) 33,Ac,Am,.cells 34 [.b,.b],.cells 34 [.b,.b],Ag,Aj]⟩
def r31v2:List Sch:=[⟨[(0,.tup [])],[.cells 30 [.ptr 1 0],AC,Aa,Aa,Ak,Ab,Ad,Aq,.row (.a .y) 33,Ac,Av,Ab,Ad,Cf,.no,.no,Am,.cells 34 [.b,.b],.cells 34 [.b,.b],Ag,Aj,.row (.a .y) 33,Ac]⟩]
def o31v2 (a0:Af) (a1:I3) (a2:I3) (a3:(I3)×Bool×I2) (a4:Ae) (a5:List (Int×Int×Int×Bt)) (a6:I2) (a7:List Bt) (a8:List (Int×I4)) (a9:(I3)×Bool×I2) (a10:Ae) (a11:List (Int×Int×Int×Bt)) (a12:I2) (a13:List Bt) (a14:List (Int×I4)) (a15:As) (a16:B2) (a17:B2) (a18:Ah) (a19:Ao):Option EV :=
 (bd (α:=Cm) (o32 a15.2 a16.2 a9 a10 a11 a12 a13 a14) (fun v2=>(cnd (!v2.1.1.1.2.2.1) (some ((((a0,a1),a2,a3,a4),(a5,a6),a7,a8,v2.1.1.2),(v2.1.2,v2.2.1.1,a15,a16),(a17,a18),a19,v2.2.2)) (bd (α:=Hr) (cnd v2.1.1.1.2.1 (bd (α:=(Bt)) (o33 a0.1.1.1) (fun v5=>(bd (α:=(Int×I3)) (o179 v5 a2) (fun v6=>(some ((((a0,a1),v6.2,a3,a4),(a5,a6,a7),a8,v2.1.1.2,v2.1.2.1),((v2.1.2.2,v2.2.1.1),a15,a16,a17),(a18,a19,v2.1.1.1.1.1,v2.1.1.1.1.2,v2.1.1.1.2.1),v2.2.2.1,v2.2.2.2,v2.2.1.2)))))) (some ((((a0,a1),a2,a3,a4),(a5,a6,a7),a8,v2.1.1.2,v2.1.2.1),((v2.1.2.2,v2.2.1.1),a15,a16,a17),(a18,a19,v2.1.1.1.1.1,v2.1.1.1.1.2,v2.1.1.1.2.1),v2.2.2.1,v2.2.2.2,v2.2.1.2))) (fun v7=>(bd (α:=(AE×I3)) (o181 v7.2.2.1.2.2.2.1 v7.2.2.2.2.2 v7.1.1.2.1) (fun v9=>(some (((v7.1.1.1,v9.2,v7.1.1.2.2),(v7.1.2.1.1,v7.1.2.1.2.1),v7.1.2.1.2.2,v7.1.2.2.1,v7.1.2.2.2.1),((v7.1.2.2.2.2,v7.2.1.1.1),v7.2.1.1.2,v7.2.1.2.1,v7.2.1.2.2.1),((v7.2.1.2.2.2.1,true),v7.2.2.1.1.1,(v9.1.1,((lxorK .i64 v9.1.2.1.1 v7.2.2.1.2.1.1.1.2.2.2),v9.1.2.1.2),v9.1.2.2),v7.2.2.1.1.2.2),v7.2.2.1.2.1,v7.2.2.2.1,v7.2.2.2.2.1)))))))))
def h31v2:HC:=(.s (.r 4) (.s .d (.j false [o31v2_s0] (.s (.s .d (.c (.r 1) .d)) .d))))
theorem e31v2 (t:DG):evF (stpT Tryz.prog T121 K121) Tryz.f31 p31v2 r31v2 h31v2 t=(o31v2 t.1.1.1.1 t.1.1.1.2 t.1.1.2.1 t.1.1.2.2.1 t.1.1.2.2.2 t.1.2.1.1 t.1.2.1.2 t.1.2.2.1 t.1.2.2.2.1 t.1.2.2.2.2 t.2.1.1.1 t.2.1.1.2 t.2.1.2.1 t.2.1.2.2.1 t.2.1.2.2.2 t.2.2.1.1 t.2.2.1.2 t.2.2.2.1 t.2.2.2.2.1 t.2.2.2.2.2):=by kernel_rfl
def n31v2:FSp:=⟨p31v2,r31v2,fun t=>(o31v2 t.1.1.1.1 t.1.1.1.2 t.1.1.2.1 t.1.1.2.2.1 t.1.1.2.2.2 t.1.2.1.1 t.1.2.1.2 t.1.2.2.1 t.1.2.2.2.1 t.1.2.2.2.2 t.2.1.1.1 t.2.1.1.2 t.2.1.2.1 t.2.1.2.2.1 t.2.1.2.2.2 t.2.2.1.1 t.2.2.1.2 t.2.2.2.1 t.2.2.2.2.1 t.2.2.2.2.2)⟩
theorem fo31v2:FOk Tryz.prog 31 n31v2:=fk e31v2
def T122:Tbl:=(31,n31v2)::T121
theorem K122:TOk Tryz.prog T122:= .cons K121 fo31v2
def Hs:SSh:= .v (.c (.cap (.cap (.cap (.cap (.cap (.cap (.fn 31) (.ptr 15 0)) (.ptr 16 0)) (.ptr 17 0)) (.ptr 18 0)) (.ptr 19 0)) (.ptr 20 0)))
def Bo:BSh:= .cells 232 [.i .i64,.i .i64,.own 23,.own 24]
abbrev EW:Type:=(((Af×I3)×(I3)×((I3)×Bool×I2)×Ae)×((List (Int×Int×Int×Bt))×I2)×((I3)×Bool×I2)×Ae×List (Int×Int×Int×Bt))×(((I2)×As)×(B2)×(B2)×Ah)×(Ao×List Bt)×(List (Int×I4))×List Bt×List (Int×I4)
def p26v6:Sch:=⟨[(0,.v (.c (.ptr 0 0))),(1,Hs)],[Aw,Aa,Aa,Ai,Ab,Ad,Al,.row (.a .y) 33,Ac,Au,Ab,Ad,Ap,.row (.a .y) 33,Ac,.cells 30 [.ptr 0 0],Am,.cells 34 [.b,.b],.cells 34 [.b,.b],Ag,Aj]⟩
def r26v6:List Sch:=[⟨[(0,.tup [])],[Aw,Aa,Aa,Ai,Ab,Ad,Cf,.no,.no,Au,Ab,Ad,Bo,.no,.no,.cells 30 [.ptr 0 0],Am,.cells 34 [.b,.b],.cells 34 [.b,.b],Ag,Aj,.row (.a .y) 33,Ac,.row (.a .y) 33,Ac]⟩]
def o26v6 (a0:Af) (a1:I3) (a2:I3) (a3:(I3)×Bool×I2) (a4:Ae) (a5:List (Int×Int×Int×Bt)) (a6:I2) (a7:List Bt) (a8:List (Int×I4)) (a9:(I3)×Bool×I2) (a10:Ae) (a11:List (Int×Int×Int×Bt)) (a12:I2) (a13:List Bt) (a14:List (Int×I4)) (a15:As) (a16:B2) (a17:B2) (a18:Ah) (a19:Ao):Option EW :=
 (bd (α:=EU) (o31v1 a0 a1 a2 a3 a4 a5 a6 a7 a8 a9 a10 a11 a12 a13 a14 a15 a16 a17 a18 a19) (fun v1=>(bd (α:=EV) (o31v2 v1.1.1.1.1 v1.1.1.1.2 v1.1.1.2.1 v1.1.1.2.2.1 v1.1.1.2.2.2 v1.1.2.1.1 v1.1.2.1.2 v1.2.2.2.2.1 v1.2.2.2.2.2 v1.1.2.2.1 v1.1.2.2.2.1 v1.1.2.2.2.2 v1.2.1.1.1 v1.2.1.1.2 v1.2.1.2.1 v1.2.1.2.2.1 v1.2.1.2.2.2 v1.2.2.1.1 v1.2.2.1.2 v1.2.2.2.1) (fun v2=>(some ((v2.1.1,v2.1.2.1,v2.1.2.2.2.2,v2.2.1.1),((v2.2.1.2.1,v2.2.1.2.2.1),v2.2.1.2.2.2,v2.2.2.1),(v2.2.2.2.1,v2.1.2.2.1),v2.1.2.2.2.1,v2.2.2.2.2))))))
def h26v6:HC:=(.s .d (.b (.u 3 (.v .d (.v .d (.v .d .d))))))
theorem e26v6 (t:DG):evF (stpT Tryz.prog T122 K122) Tryz.f26 p26v6 r26v6 h26v6 t=(o26v6 t.1.1.1.1 t.1.1.1.2 t.1.1.2.1 t.1.1.2.2.1 t.1.1.2.2.2 t.1.2.1.1 t.1.2.1.2 t.1.2.2.1 t.1.2.2.2.1 t.1.2.2.2.2 t.2.1.1.1 t.2.1.1.2 t.2.1.2.1 t.2.1.2.2.1 t.2.1.2.2.2 t.2.2.1.1 t.2.2.1.2 t.2.2.2.1 t.2.2.2.2.1 t.2.2.2.2.2):=by kernel_rfl
def n26v6:FSp:=⟨p26v6,r26v6,fun t=>(o26v6 t.1.1.1.1 t.1.1.1.2 t.1.1.2.1 t.1.1.2.2.1 t.1.1.2.2.2 t.1.2.1.1 t.1.2.1.2 t.1.2.2.1 t.1.2.2.2.1 t.1.2.2.2.2 t.2.1.1.1 t.2.1.1.2 t.2.1.2.1 t.2.1.2.2.1 t.2.1.2.2.2 t.2.2.1.1 t.2.2.1.2 t.2.2.2.1 t.2.2.2.2.1 t.2.2.2.2.2)⟩
theorem fo26v6:FOk Tryz.prog 26 n26v6:=fk e26v6
def T123:Tbl:=(26,n26v6)::T122
theorem K123:TOk Tryz.prog T123:= .cons K122 fo26v6
def EX:SSh:= .tup [.agg [.i .u8,.i .u8,.i .i64,.own 17],.c (.b)]
abbrev Ct:Type:=(((Af×I3)×(I3)×(I3)×Bool×I2)×(Ae×List (Int×Int×Int×Bt))×(I2)×List Bt)×(((List (Int×I4))×(I3)×Bool×I2)×Ae×List (Int×Int×Int×Bt))×((I2)×List Bt)×(List (Int×I4))×Ah
def p34v1:Sch:=⟨[(0,.v (.c (.ic .i64 (0)))),(1,.v (.c (.ptr 0 0))),(2,.v (.c (.ptr 16 0)))],[.cells 30 [.ptr 1 0],AC,Aa,Aa,Ak,Ab,Ad,Aq,.row (.a .y) 33,Ac,Av,Ab,Ad,Ay,.row (.a .y) 33,Ac,CJ]⟩
def r34v1:List Sch:=[⟨[(0,EX)],[.cells 30 [.ptr 1 0],AC,Aa,Aa,Ak,Ab,Ad,Aq,.row (.a .y) 33,Ac,Av,Ab,Ad,Ay,.row (.a .y) 33,Ac,.no,.row .y 5]⟩]
def o34v1 (a0:Af) (a1:I3) (a2:I3) (a3:(I3)×Bool×I2) (a4:Ae) (a5:List (Int×Int×Int×Bt)) (a6:I2) (a7:List Bt) (a8:List (Int×I4)) (a9:(I3)×Bool×I2) (a10:Ae) (a11:List (Int×Int×Int×Bt)) (a12:I2) (a13:List Bt) (a14:List (Int×I4)) (a15:Ah):Option Bn :=
 (bd (α:=Bf) (o35 a15.1.2 a3 a4 a5 a6 a7 a8) (fun v2=>(some (((((v2.1.1.1.1,v2.1.1.1.2.1,v2.1.1.1.2.2.1),a0),a1,a2),(v2.1.1.2,v2.1.2.1),v2.1.2.2,v2.2.1.1),((v2.2.1.2,v2.2.2.1),a9,a10),(a11,a12),a13,a14,v2.2.2.2))))
theorem e34v1 (t:Ct):evF (stpT Tryz.prog T123 K123) Tryz.f34 p34v1 r34v1 (.s .d (.s (.r 2) .d)) t=(o34v1 t.1.1.1.1 t.1.1.1.2 t.1.1.2.1 t.1.1.2.2 t.1.2.1.1 t.1.2.1.2 t.1.2.2.1 t.1.2.2.2 t.2.1.1.1 t.2.1.1.2 t.2.1.2.1 t.2.1.2.2 t.2.2.1.1 t.2.2.1.2 t.2.2.2.1 t.2.2.2.2):=by kernel_rfl
def n34v1:FSp:=⟨p34v1,r34v1,fun t=>(o34v1 t.1.1.1.1 t.1.1.1.2 t.1.1.2.1 t.1.1.2.2 t.1.2.1.1 t.1.2.1.2 t.1.2.2.1 t.1.2.2.2 t.2.1.1.1 t.2.1.1.2 t.2.1.2.1 t.2.1.2.2 t.2.2.1.1 t.2.2.1.2 t.2.2.2.1 t.2.2.2.2)⟩
theorem fo34v1:FOk Tryz.prog 34 n34v1:=fk e34v1
def T124:Tbl:=(34,n34v1)::T123
theorem K124:TOk Tryz.prog T124:= .cons K123 fo34v1
def p34v2:Sch:=⟨[(0,.v (.c (.ic .i64 (1)))),(1,.v (.c (.ptr 0 0))),(2,.v (.c (.ptr 16 0)))],[.cells 30 [.ptr 1 0],AC,Aa,Aa,Ak,Ab,Ad,Aq,.row (.a .y) 33,Ac,Av,Ab,Ad,Ay,.row (.a .y) 33,Ac,CJ]⟩
def r34v2:List Sch:=[⟨[(0,EX)],[.cells 30 [.ptr 1 0],AC,Aa,Aa,Ak,Ab,Ad,Aq,.row (.a .y) 33,Ac,Av,Ab,Ad,Ay,.row (.a .y) 33,Ac,.no,.row .y 5]⟩]
def o34v2 (a0:Af) (a1:I3) (a2:I3) (a3:(I3)×Bool×I2) (a4:Ae) (a5:List (Int×Int×Int×Bt)) (a6:I2) (a7:List Bt) (a8:List (Int×I4)) (a9:(I3)×Bool×I2) (a10:Ae) (a11:List (Int×Int×Int×Bt)) (a12:I2) (a13:List Bt) (a14:List (Int×I4)) (a15:Ah):Option Bn :=
 (bd (α:=Bf) (o35 a15.2.1 a9 a10 a11 a12 a13 a14) (fun v2=>(some (((((v2.1.1.1.1,v2.1.1.1.2.1,v2.1.1.1.2.2.1),a0),a1,a2),(a3,a4),a5,a6),((a7,a8),v2.1.1.2,v2.1.2.1),(v2.1.2.2,v2.2.1.1),v2.2.1.2,v2.2.2))))
theorem e34v2 (t:Ct):evF (stpT Tryz.prog T124 K124) Tryz.f34 p34v2 r34v2 (.s .d (.s (.r 2) .d)) t=(o34v2 t.1.1.1.1 t.1.1.1.2 t.1.1.2.1 t.1.1.2.2 t.1.2.1.1 t.1.2.1.2 t.1.2.2.1 t.1.2.2.2 t.2.1.1.1 t.2.1.1.2 t.2.1.2.1 t.2.1.2.2 t.2.2.1.1 t.2.2.1.2 t.2.2.2.1 t.2.2.2.2):=by kernel_rfl
def n34v2:FSp:=⟨p34v2,r34v2,fun t=>(o34v2 t.1.1.1.1 t.1.1.1.2 t.1.1.2.1 t.1.1.2.2 t.1.2.1.1 t.1.2.1.2 t.1.2.2.1 t.1.2.2.2 t.2.1.1.1 t.2.1.1.2 t.2.1.2.1 t.2.1.2.2 t.2.2.1.1 t.2.2.1.2 t.2.2.2.1 t.2.2.2.2)⟩
theorem fo34v2:FOk Tryz.prog 34 n34v2:=fk e34v2
def T125:Tbl:=(34,n34v2)::T124
theorem K125:TOk Tryz.prog T125:= .cons K124 fo34v2
end
end Go.Proofs.YtpleflcfaecojaaGreat
