/-
Numbers as bytes, the lowest first, in the words of the printed functions. Conditions: each lemma's own.
-/
import Derived.Test.YtpleflcfaecojaaGreatM9
namespace Go.Proofs.YtpleflcfaecojaaGreat
set_option linter.unusedVariables false
set_option linter.unusedSimpArgs false
open Go.RowKit
theorem Bv {α:Type} {b:Bool} {x y:α} (h:b=true):cond b x y=x:=by subst h;rfl
theorem Bf {α:Type} {b:Bool} {x y:α} (h:b=false):cond b x y=y:=by subst h;rfl
def byteAt (n:Int) (i:Nat):UInt8:=u8 (IntKind.u8.wrap (shrK .i64 n (8*(i:Int))))
def putB (n:Int) (k:Nat):List UInt8:=(List.range k).map (byteAt n)
theorem Av (n:Int) (k:Nat):(putB n k).length=k:=by simp [putB]
theorem Is (n:Int):putB n 0=[]:=rfl
theorem Cm (n:Int) (k:Nat):putB n (k+1)=putB n k++[byteAt n k]:=by simp [putB,List.range_succ]
theorem Pb {z:Int} (h:0≤z∧z≤255):((u8 z).toNat:Int)=z:=by
 unfold u8
 rw [UInt8.toNat_ofNat']
 omega
theorem Pc (b:UInt8):u8 ((b.toNat:Nat):Int)=b:=by
 unfold u8
 simp
theorem AjH (i:Nat) (h:i < 8):(2:Int) ^ (min (8*(i:Int)).toNat 64)=256 ^ i:=by
 have:min (8*(i:Int)).toNat 64=8*i:=by omega
 rw [this,Int.pow_mul]
 rfl
theorem IU (n:Int) (i:Nat) (h:i < 8):shrK .i64 n (8*(i:Int))=n / 256 ^ i:=by
 unfold shrK
 rw [show IntKind.i64.bits=64 from rfl,AjH i h,Int.fdiv_eq_ediv_of_nonneg]
 exact Int.pow_nonneg (by decide)
theorem Agm (n:Int) (i:Nat) (h:i < 8):shrK .u64 n (8*(i:Int))=n / 256 ^ i:=by
 unfold shrK
 rw [show IntKind.u64.bits=64 from rfl,AjH i h,Int.fdiv_eq_ediv_of_nonneg]
 exact Int.pow_nonneg (by decide)
theorem MI (n:Int) (i:Nat) (h:i < 8):((byteAt n i).toNat:Int)=n / 256 ^ i % 256:=by
 unfold byteAt
 rw [Pb (Cf _),IU n i h,IntKind.wrap_u8]
theorem Pd (n:Int) (i:Nat) (h:i < 8):u8 (IntKind.u8.wrap (shrK .u64 (IntKind.u64.wrap n) (8*(i:Int))))=byteAt n i:=by
 unfold byteAt
 rw [Agm _ i h,IU n i h,IntKind.wrap_u8,IntKind.wrap_u8,IntKind.wrap_u64]
 congr 1
 have h8:i=0∨i=1∨i=2∨i=3∨i=4∨i=5∨i=6∨i=7:=by omega
 rcases h8 with rfl | rfl | rfl | rfl | rfl | rfl | rfl | rfl <;> simp only [Int.reducePow] <;> omega
def natL (p:List UInt8):Nat→Nat
 | 0=>0
 | k+1=>natL p k+(p.getD k 0).toNat*256 ^ k
theorem Dd (p:List UInt8):∀ k,natL p k < 256 ^ k
 | 0=>by simp [natL]
 | k+1=>by
  have:=Dd p k
  have h:=UInt8.toNat_lt (p.getD k 0)
  rw [natL,Nat.pow_succ]
  have:(p.getD k 0).toNat*256 ^ k≤255*256 ^ k:=Nat.mul_le_mul_right _ (by omega)
  omega
def getK (p:List UInt8):Nat→Int
 | 0=>0
 | k+1=>lorK .u64 (getK p k) (shlK .u64 ((p.getD k 0).toNat:Int) (8*(k:Int)))
theorem Agn {a b:Nat} (ha:a < 2 ^ 64) (hb:b < 2 ^ 64):lorK .u64 (a:Int) (b:Int)=((a ||| b:Nat):Int):=by
 unfold lorK
 have h1:(BitVec.ofInt IntKind.u64.bits (a:Int) ||| BitVec.ofInt IntKind.u64.bits (b:Int)).toNat=a ||| b:=by
  rw [BitVec.toNat_or]
  have e:∀ x:Nat,x < 2 ^ 64→(BitVec.ofInt IntKind.u64.bits (x:Int)).toNat=x:=fun x hx=>by
   rw [BitVec.toNat_ofInt]
   show ((x:Int) % ((2 ^ 64:Nat):Int)).toNat=x
   omega
  rw [e a ha,e b hb]
 rw [h1]
 have:a ||| b < 2 ^ 64:=Nat.or_lt_two_pow ha hb
 exact Sd (by omega)
theorem Ago {b k:Nat} (hb:b < 256) (hk:k < 8):shlK .u64 (b:Int) (8*(k:Int))=((b*256 ^ k:Nat):Int):=by
 unfold shlK
 rw [show IntKind.u64.bits=64 from rfl,AjH k hk]
 have:b*256 ^ k < 2 ^ 64:=by
  have h8:k=0∨k=1∨k=2∨k=3∨k=4∨k=5∨k=6∨k=7:=by omega
  rcases h8 with rfl | rfl | rfl | rfl | rfl | rfl | rfl | rfl <;> simp only [Nat.reducePow] <;> omega
 have e:(b:Int)*256 ^ k=((b*256 ^ k:Nat):Int):=by simp
 rw [e]
 exact Sd (by omega)
theorem Hh (p:List UInt8):∀ k,k≤8→getK p k=(natL p k:Int)
 | 0,_=>rfl
 | k+1,h=>by
  have ih:=Hh p k (by omega)
  have hb:=UInt8.toNat_lt (p.getD k 0)
  have hlt:=Dd p k
  have hp:(256:Nat) ^ k=2 ^ (8*k):=by rw [Nat.pow_mul]
  have h64:256 ^ (k+1)≤2 ^ 64:=by
   have:(256:Nat) ^ (k+1)≤256 ^ 8:=Nat.pow_le_pow_right (by decide) h
   exact this
  have hs:=Dd p (k+1)
  rw [natL] at hs
  rw [getK,ih,Ago hb (by omega),Agn (by omega) (by omega),natL]
  congr 1
  have:=Nat.two_pow_add_eq_or_of_lt (i:=8*k) (b:=natL p k) (by rw [← hp];exact hlt) (p.getD k 0).toNat
  rw [← hp] at this
  rw [Nat.or_comm,Nat.mul_comm ((p.getD k 0).toNat),← this,Nat.add_comm]
def getI (p:List UInt8) (k:Nat):Int:=IntKind.i64.wrap (natL p k:Int)
theorem SP (p:List UInt8) (k:Nat) (h:k≤7):getI p k=(natL p k:Int):=by
 unfold getI
 have:=Dd p k
 have h2:(256:Nat) ^ k≤256 ^ 7:=Nat.pow_le_pow_right (by decide) h
 exact AM (by omega)
theorem LO (n:Int):∀ (k m:Nat) (q:List UInt8),k≤m→m≤8→(natL (putB n m++q) k:Int)=n % 256 ^ k
 | 0,m,q,_,_=>by simp [natL,Int.emod_one]
 | k+1,m,q,h,h8=>by
  have ih:=LO n k m q (by omega) h8
  have e:(putB n m++q).getD k 0=byteAt n k:=by
   rw [List.getD_eq_getElem?_getD,List.getElem?_append_left (by rw [Av];omega)]
   simp [putB,List.getElem?_range (by omega:k < m)]
  rw [natL,e]
  have hb:=MI n k (by omega)
  have:((natL (putB n m++q) k+(byteAt n k).toNat*256 ^ k:Nat):Int)=(natL (putB n m++q) k:Int)+((byteAt n k).toNat:Int)*256 ^ k:=by simp
  rw [this,ih,hb,Int.pow_succ]
  have hpos:(0:Int) < 256 ^ k:=Int.pow_pos (by decide)
  rw [Int.mul_comm (256 ^ k) 256]
  have e1:=Int.emod_add_mul_ediv n (256 ^ k)
  have e2:=Int.emod_add_mul_ediv (n / 256 ^ k) 256
  have e3:n / (256*256 ^ k)=n / 256 ^ k / 256:=by rw [Int.mul_comm,Int.ediv_ediv,if_neg (fun h=>absurd h.1 (by omega))];simp
  have e4:=Int.emod_add_mul_ediv n (256*256 ^ k)
  rw [e3] at e4
  generalize n / 256 ^ k=q at *
  generalize (256:Int) ^ k=b at *
  have e5:b*q=b*(q % 256)+256*b*(q / 256):=by
   conv=>lhs;rw [← e2]
   rw [Int.mul_add,← Int.mul_assoc,Int.mul_comm b 256]
  rw [Int.mul_comm (q % 256) b]
  omega
theorem dt {p:Prop} [Decidable p] (h:p):decide p=true:=decide_eq_true h
theorem df {p:Prop} [Decidable p] (h:¬ p):decide p=false:=decide_eq_false h
theorem w8 {k:Nat} (h:k≤1000):IntKind.i64.wrap (8*((k:Nat):Int))=8*(k:Int):=AM (by omega)
theorem LP (p:List UInt8):∀ (k m:Nat),k≤m→natL (p.take m) k=natL p k
 | 0,m,_=>rfl
 | k+1,m,h=>by
  rw [natL,natL,LP p k m (by omega)]
  congr 2
  rw [List.getD_eq_getElem?_getD,List.getD_eq_getElem?_getD,List.getElem?_take,if_pos (by omega)]
theorem Gg (p:List UInt8) (m:Nat):getI (p.take m) m=getI p m:=by unfold getI;rw [LP p m m (Nat.le_refl _)]
theorem Bb {a b:Int} (h:a≠b):(a != b)=true:=by simpa using h
theorem AF {a b:Int} (h:a=b):(a != b)=false:=by simpa using h
theorem CF {a b:Int} (h:a=b):(a==b)=true:=by simpa using h
theorem BN {a b:Int} (h:a≠b):(a==b)=false:=by simpa using h
set_option maxRecDepth 100000
theorem cndT {α:Type} {c:Bool} {x y:α} (h:c=true):cnd c x y=x:=by subst h;rfl
theorem cndF {α:Type} {c:Bool} {x y:α} (h:c=false):cnd c x y=y:=by subst h;rfl
theorem gdT {α:Type} {c:Bool} {x:Option α} (h:c=true):gd c x=x:=by subst h;rfl
theorem bdS {α β:Type} {x:Option α} {t:α} {k:α→Option β} (h:x=some t):bd x k=k t:=by subst h;rfl
theorem bdI {α β:Type} (t:α) (k:α→Option β):bd (some t) k=k t:=rfl
theorem dnS {α β:Type} (x:β):dnO (α:=α) (some x)=some (.done x):=rfl
theorem smL {α β ρ:Type} (a:α) (f:α→ρ) (g:β→ρ):sm (.inl a) f g=f a:=rfl
theorem smR {α β ρ:Type} (b:β) (f:α→ρ) (g:β→ρ):sm (.inr b) f g=g b:=rfl
theorem Zp {σ ρ:Type} {B:σ→Option (Ctl σ ρ)} (S:Nat→σ) {r:ρ} {n:Nat} (h:∀ i,i < n→B (S i)=some (.go (S (i+1)))) (hd:B (S n)=some (.done r)) (hn:n < 18446744073709551616):loopO fuelN B (S 0)=some r:=by
 have key:∀ k m,k≤n→k < m→loopO m B (S (n - k))=some r:=by
  intro k
  induction k with
  | zero =>
   intro m _ hm
   obtain ⟨j,rfl⟩:∃ j,m=j+1:=⟨m - 1,by omega⟩
   exact BE hd
  | succ k ih =>
   intro m hk hm
   obtain ⟨j,rfl⟩:∃ j,m=j+1:=⟨m - 1,by omega⟩
   rw [BO (h (n - (k+1)) (by omega)),show n - (k+1)+1=n - k by omega]
   exact ih j (by omega) (by omega)
 have:=key n fuelN (Nat.le_refl _) (by show n < 18446744073709551616;exact hn)
 rw [Nat.sub_self] at this
 exact this
theorem Zq {σ ρ:Type} {B:σ→Option (Ctl σ ρ)} (I:Nat→σ→Prop) {Q:ρ→Prop} {n:Nat} (h:∀ i s,i < n→I i s→∃ s',B s=some (.go s')∧I (i+1) s') (hd:∀ s,I n s→∃ r,B s=some (.done r)∧Q r) (hn:n < 18446744073709551616) {s0:σ} (h0:I 0 s0):∃ r,loopO fuelN B s0=some r∧Q r:=by
 have key:∀ k m s,k≤n→k < m→I (n - k) s→∃ r,loopO m B s=some r∧Q r:=by
  intro k
  induction k with
  | zero =>
   intro m s _ hm hi
   obtain ⟨j,rfl⟩:∃ j,m=j+1:=⟨m - 1,by omega⟩
   obtain ⟨r,h1,h2⟩:=hd s hi
   exact ⟨r,BE h1,h2⟩
  | succ k ih =>
   intro m s hk hm hi
   obtain ⟨j,rfl⟩:∃ j,m=j+1:=⟨m - 1,by omega⟩
   obtain ⟨s',h1,h2⟩:=h (n - (k+1)) s (by omega) hi
   rw [BO h1]
   rw [show n - (k+1)+1=n - k by omega] at h2
   exact ih j s' (by omega) (by omega) h2
 exact key n fuelN s0 (Nat.le_refl _) (by show n < 18446744073709551616;exact hn) (by rw [Nat.sub_self];exact h0)
theorem BX {α:Type} {l:List α} {i:Nat} {d:α} (h:i < l.length):l.getD i d=l[i]:=by
 rw [List.getD_eq_getElem?_getD,List.getElem?_eq_getElem h];rfl
theorem Zr {σ ρ τ:Type} {B:σ→Option (Ctl σ ρ)} (S:Nat→τ→σ) (f:Nat→τ→ρ) (Pr:Nat→τ→Prop) {n:Nat}
  (h:∀ i t,i < n→Pr i t→(∃ t',B (S i t)=some (.go (S (i+1) t'))∧f i t=f (i+1) t'∧Pr (i+1) t')∨B (S i t)=some (.done (f i t)))
  (hd:∀ t,Pr n t→B (S n t)=some (.done (f n t))) (hn:n < 18446744073709551616) {t0:τ} (h0:Pr 0 t0):loopO fuelN B (S 0 t0)=some (f 0 t0):=by
 have key:∀ k m t,k≤n→k < m→Pr (n - k) t→loopO m B (S (n - k) t)=some (f (n - k) t):=by
  intro k
  induction k with
  | zero =>
   intro m t _ hm hp
   obtain ⟨j,rfl⟩:∃ j,m=j+1:=⟨m - 1,by omega⟩
   exact BE (hd t hp)
  | succ k ih =>
   intro m t hk hm hp
   obtain ⟨j,rfl⟩:∃ j,m=j+1:=⟨m - 1,by omega⟩
   rcases h (n - (k+1)) t (by omega) hp with ⟨t',h1,h2,h3⟩ | h1
   ·rw [BO h1,h2]
    rw [show n - (k+1)+1=n - k by omega] at h3 ⊢
    exact ih j t' (by omega) (by omega) h3
   ·exact BE h1
 have:=key n fuelN t0 (Nat.le_refl _) (by show n < 18446744073709551616;exact hn) (by rw [Nat.sub_self];exact h0)
 rwa [Nat.sub_self] at this
theorem AJ {σ ρ:Type} {B:σ→Option (Ctl σ ρ)} (S:Nat→σ) (n:Nat) {s0:σ} {r:ρ} (e:S 0=s0) (h:∀ i,i < n→B (S i)=some (.go (S (i+1)))) (hd:B (S n)=some (.done r)) (hn:n < 18446744073709551616):loopO fuelN B s0=some r:=e ▸ Zp S h hd hn
theorem As {α β:Type} {c:Bool} {A B:Option β} {F:α→β} {X Y:α} (hT:A=some (F X)) (hF:B=some (F Y)):cnd c A B=some (F (cond c X Y)):=by cases c <;> assumption
theorem Bw {α β:Type} {c:Bool} {A B:Option β} {F:α→β} {X Y:α} (hT:B=some (F X)) (hF:A=some (F Y)):cnd (!c) A B=some (F (cond c X Y)):=by cases c <;> assumption
theorem Pe {α:Type} (c:Bool) (x y:α):cnd c (some x) (some y)=some (cond c x y):=by cases c <;> rfl
theorem Bu {l:List UInt8} (h:l.length≤100000000):o33 l=some l:=by
 unfold o33
 rw [XF fun e=>?_]
 ·rw [gdT (dt (by simp;omega))];rfl
 ·have:l=[]:=by simpa using e
  subst this
  rfl
theorem Hi (n:Int) {k:Nat} (hk:k≤8) {l:List UInt8} (hl:l.length≤1000000):o148 n (k:Int) l=some (l++putB n k):=by
 unfold o148
 refine AJ (fun i=>((n,(k:Int)),((i:Nat):Int),l++putB n i)) k (by rw [Is,List.append_nil];rfl) (fun i hi=>?_) ?_ (by omega)
 ·refine (cndT (dt ?_)).trans ((gdT (dt ?_)).trans ((gdT (dt ?_)).trans ?_))
  ·show (i:Int) < (k:Int);omega
  ·show (0:Int)≤IntKind.i64.wrap (8*(i:Int));rw [AM (by omega)];omega
  ·show ((l++putB n i).length+1)*1≤140737488355328
   rw [List.length_append,Av];omega
  ·show some (Ctl.go ((n,(k:Int)),IntKind.i64.wrap ((i:Int)+1),(l++putB n i)++[u8 (IntKind.u8.wrap (shrK .i64 n (IntKind.i64.wrap (8*(i:Int)))))]))=_
   rw [AM (by omega),AM (by omega),List.append_assoc,Cm]
   rfl
 ·exact (cndF (df (by show ¬ (k:Int) < (k:Int);omega))).trans (dnS _)
theorem LQ (n:Int) {k:Nat} (hk:k≤8):JQ n (k:Int)=some (putB n k):=by
 unfold JQ
 refine AJ (fun i=>((n,(k:Int)),((i:Nat):Int),putB n i)) k rfl (fun i hi=>?_) ?_ (by omega)
 ·refine (cndT (dt ?_)).trans ((gdT (dt ?_)).trans ((gdT (dt ?_)).trans ?_))
  ·show (i:Int) < (k:Int);omega
  ·show (0:Int)≤IntKind.i64.wrap (8*(i:Int));rw [AM (by omega)];omega
  ·show ((putB n i).length+1)*1≤140737488355328
   rw [Av];omega
  ·show some (Ctl.go ((n,(k:Int)),IntKind.i64.wrap ((i:Int)+1),putB n i++[u8 (IntKind.u8.wrap (shrK .i64 n (IntKind.i64.wrap (8*(i:Int)))))]))=_
   rw [AM (by omega),AM (by omega),Cm]
   rfl
 ·exact (cndF (df (by show ¬ (k:Int) < (k:Int);omega))).trans (dnS _)
theorem Fh {p:List UInt8} {k:Nat} (hk:k≤8) (hl:k≤p.length):o120 p (k:Int)=some (getI p k):=by
 unfold o120
 refine AJ (fun i=>((p,getK p i),(k:Int),((i:Nat):Int))) k rfl (fun i hi=>?_) ?_ (by omega)
 ·refine (cndT (dt ?_)).trans ((gdT (dt ?_)).trans ((gdT (dt ?_)).trans ?_))
  ·show (i:Int) < (k:Int);omega
  ·show (0:Int)≤(i:Int)∧(i:Int) < (p.length:Int);omega
  ·show (0:Int)≤IntKind.i64.wrap (8*(i:Int));rw [AM (by omega)];omega
  ·show some (Ctl.go ((p,lorK .u64 (getK p i) (shlK .u64 (IntKind.u64.wrap ((p.getD (i:Int).toNat 0).toNat:Int)) (IntKind.i64.wrap (8*(i:Int))))),(k:Int),IntKind.i64.wrap ((i:Int)+1)))=_
   have hb:=(p.getD (i:Int).toNat 0).toNat_lt
   rw [AM (by omega),AM (by omega),IntWalk.u64_in _ (by omega)]
   rfl
 ·refine (cndF (df (by show ¬ (k:Int) < (k:Int);omega))).trans ?_
  refine (dnS _).trans ?_
  show some (Ctl.done (IntKind.i64.wrap (getK p k)))=_
  rw [Hh p _ (by omega)]
  rfl
structure Hd where
 role:Int
 steps:Int
 base:Int
 have_:Int
 input:List UInt8
abbrev HdT:Type:=(Int×Int)×Int×Int×List UInt8
def Hd.e (h:Hd):HdT:=((h.role,h.steps),h.base,h.have_,h.input)
def badHello (h:Hd):Bool:=decide (h.role < 1) || (decide (h.role > 3) || (decide (h.steps < 0) || (decide (h.base < 0) || (decide (h.have_ < 0) || decide (h.have_ > 65535)))))
def helloB (h:Hd):List UInt8:=[u8 h.role]++putB h.steps 8++putB h.base 8++putB h.have_ 2++h.input
def putHello (h:Hd):Int×List UInt8:=cond (badHello h) (1,[]) (cond (decide ((h.input.length:Int) > 400)) (3,[]) (0,helloB h))
theorem SQ {α:Type} (a b:Bool) (x:α):cnd a (some (true,x)) (some (b,x))=some (a || b,x):=by cases a <;> rfl
theorem TM {α:Type} (a b:Bool) (x:α):cnd a (some (x,true)) (some (x,b))=some (x,a || b):=by cases a <;> rfl
theorem TN (h:Hd):o112 h.e=some (putHello h):=by
 unfold o112 putHello
 simp only [Hd.e,SQ,bdI]
 show cnd (badHello h) _ _=_
 cases badHello h with
 | true=>rfl
 | false =>
  rw [cndF rfl,cond_false]
  by_cases hl:((h.input.length:Nat):Int) > 400
  ·rw [cndT (dt hl),dt hl];rfl
  ·rw [cndF (df hl),df hl,cond_false]
   have e8:(8:Int)=((8:Nat):Int):=rfl
   have e2:(2:Int)=((2:Nat):Int):=rfl
   rw [e8,e2,Hi _ (by decide) (by simp),bdI,Hi _ (by decide) (by simp [Av]),bdI,Hi _ (by decide) (by simp [Av]),bdI,gdT (dt (by simp [Av];omega))]
   rfl
def noHd:Hd:=⟨0,0,0,0,[]⟩
def getHello (p:List UInt8):Hd×Int :=
 cond (decide ((p.length:Int) < 19) || decide ((p.length:Int) > 419)) (noHd,4)
  (cond (badHello ⟨((p.getD 0 0).toNat:Int),getI (p.drop 1) 8,getI (p.drop 9) 8,getI (p.drop 17) 2,p.drop 19⟩) (noHd,4) (⟨((p.getD 0 0).toNat:Int),getI (p.drop 1) 8,getI (p.drop 9) 8,getI (p.drop 17) 2,p.drop 19⟩,0))
theorem Agp (p:List UInt8):o115 p=some ((((getHello p).1.role,(getHello p).1.steps),(getHello p).1.base,(getHello p).1.have_,(getHello p).2),(getHello p).1.input):=by
 unfold o115 getHello
 simp only [TM,bdI]
 by_cases h1:((p.length:Nat):Int) < 19
 ·rw [dt h1,Bool.true_or];rfl
 by_cases h2:((p.length:Nat):Int) > 419
 ·rw [dt h2,Bool.or_true];rfl
 rw [df h1,df h2,Bool.or_false,cond_false,cndF rfl]
 have e8:(8:Int)=((8:Nat):Int):=rfl
 have e2:(2:Int)=((2:Nat):Int):=rfl
 have d1:(1:Int).toNat=1:=rfl
 have d9:(9:Int).toNat=9:=rfl
 have d17:(17:Int).toNat=17:=rfl
 have d19:(19:Int).toNat=19:=rfl
 have d0:(0:Int).toNat=0:=rfl
 rw [gdT (dt (by omega)),gdT (dt (by omega)),e8,e2,d1,d9,d17,d19,d0,Fh (by decide) (by simp;omega),bdI,gdT (dt (by omega)),Fh (by decide) (by simp;omega),bdI,gdT (dt (by omega)),Fh (by decide) (by simp;omega),bdI,gdT (dt (by omega)),Bu (by simp;omega),bdI]
 have hh:=TN ⟨((p.getD 0 0).toNat:Int),getI (p.drop 1) 8,getI (p.drop 9) 8,getI (p.drop 17) 2,p.drop 19⟩
 rw [show o112 ((((p.getD 0 0).toNat:Int),getI (p.drop 1) 8),getI (p.drop 9) 8,getI (p.drop 17) 2,p.drop 19)=_ from hh,bdI]
 unfold putHello
 rw [df (show ¬ (((p.drop 19).length:Nat):Int) > 400 by simp;omega)]
 cases badHello ⟨((p.getD 0 0).toNat:Int),getI (p.drop 1) 8,getI (p.drop 9) 8,getI (p.drop 17) 2,p.drop 19⟩ <;> rfl
theorem e8':(8:Int)=((8:Nat):Int):=rfl
theorem e2':(2:Int)=((2:Nat):Int):=rfl
def long (one:List UInt8) (isOne:Bool) (two:List UInt8) (isTwo:Bool):Bool:=(isOne&&decide ((one.length:Int) > 400)) || (isTwo&&decide ((two.length:Int) > 400))
def Cx (p:List UInt8) (is:Bool):List UInt8:=cond is (putB (p.length:Int) 2++p) []
def flagB (isOne isTwo:Bool):UInt8:=cond isOne (cond isTwo 3 1) (cond isTwo 2 0)
def packC (one:List UInt8) (isOne:Bool) (two:List UInt8) (isTwo:Bool):Int×List UInt8:=cond (long one isOne two isTwo) (3,[]) (0,[flagB isOne isTwo]++Cx one isOne++Cx two isTwo)
theorem VY (p:List UInt8) (is:Bool):(Cx p is).length≤p.length+2:=by cases is <;> simp [Cx,Av];omega
theorem MJ {p:List UInt8} {is:Bool} {bit:Int} {b:UInt8} {l:List UInt8} (hl:l.length≤1000) (hp:is=true→p.length≤400):o149 p is bit (b::l)=some (cond is ((u8 (lorK .u8 (b.toNat:Int) bit)::l)++Cx p is) (b::l)):=by
 unfold o149
 cases is with
 | false=>rfl
 | true =>
  have:=hp rfl
  rw [cndT rfl,gdT (dt (by simp)),gdT (dt (by simp))]
  have e:List.set (b::l) ((0:Int).toNat) (u8 (lorK .u8 ((List.getD (b::l) ((0:Int).toNat) 0).toNat:Int) bit))=u8 (lorK .u8 (b.toNat:Int) bit)::l:=rfl
  rw [e,e2',Hi _ (by decide) (by simp;omega),bdI,gdT (dt (by simp [Av];omega)),cond_true]
  simp [Cx]
theorem Agq (one:List UInt8) (isOne:Bool) (two:List UInt8) (isTwo:Bool):o118 one isOne two isTwo=some (packC one isOne two isTwo):=by
 unfold o118 packC
 have e:(cnd isOne (cnd (decide (((one.length:Nat):Int) > (400:Int))) (some ((one,isOne),two,isTwo,true)) (cnd isTwo (some ((one,isOne),two,isTwo,(decide (((two.length:Nat):Int) > (400:Int))))) (some ((one,isOne),two,isTwo,false)))) (cnd isTwo (some ((one,isOne),two,isTwo,(decide (((two.length:Nat):Int) > (400:Int))))) (some ((one,isOne),two,isTwo,false))))
   = some ((one,isOne),two,isTwo,long one isOne two isTwo):=by
  unfold long
  cases isOne <;> cases isTwo <;> cases decide (((one.length:Nat):Int) > (400:Int)) <;> rfl
 rw [e,bdI]
 cases hb:long one isOne two isTwo with
 | true=>rfl
 | false =>
  rw [cndF rfl,cond_false]
  unfold long at hb
  simp only [Bool.or_eq_false_iff,Bool.and_eq_false_iff,decide_eq_false_iff_not] at hb
  have h1:isOne=true→one.length≤400:=fun e=>by
   rcases hb.1 with h | h
   ·rw [e] at h;cases h
   ·omega
  have h2:isTwo=true→two.length≤400:=fun e=>by
   rcases hb.2 with h | h
   ·rw [e] at h;cases h
   ·omega
  have hp1:=VY one isOne
  have g:o149 one isOne 1 [u8 0]=some (cond isOne ((u8 (lorK .u8 ((u8 0).toNat:Int) 1)::[])++Cx one isOne) (u8 0::[])):=MJ (by simp) h1
  rw [show ([(u8 (0:Int))]:List UInt8)=[u8 0] from rfl,g,bdI]
  cases isOne with
  | false =>
   rw [cond_false,MJ (by simp) h2,bdI]
   cases isTwo <;> rfl
  | true =>
   have:=h1 rfl
   rw [cond_true,List.cons_append,List.nil_append,MJ (by omega) h2,bdI]
   cases isTwo
   ·simp only [cond_false,Cx,List.append_nil,cond_true]
    rfl
   ·simp only [cond_true,List.cons_append,List.nil_append]
    rfl
def inputC (p:List UInt8) (is:Bool):List UInt8×List UInt8×Bool :=
 cond (!is) ([],p,true) (cond (decide ((p.length:Int) < 2)) ([],[],false) (cond (decide ((natL p 2:Int) > 400) || decide ((natL p 2:Int) > (p.length:Int) - 2)) ([],[],false) ((p.drop 2).take (natL p 2),p.drop (2+natL p 2),true)))
structure Un where
 one:List UInt8
 isOne:Bool
 two:List UInt8
 isTwo:Bool
 err:Int
def Un.e (x:Un):(Bool×Bool×Int)×List UInt8×List UInt8:=((x.isOne,x.isTwo,x.err),x.one,x.two)
def nothing:Un:=⟨[],false,[],false,4⟩
def unpackC (p:List UInt8):Un :=
 cond ((((p.length:Nat):Int)==0) || decide (((p.getD 0 0).toNat:Int) > 3)) nothing
  (cond (!(inputC (p.drop 1) (landK .u8 ((p.getD 0 0).toNat:Int) 1==1)).2.2) nothing
   (cond (!(inputC (inputC (p.drop 1) (landK .u8 ((p.getD 0 0).toNat:Int) 1==1)).2.1 (landK .u8 ((p.getD 0 0).toNat:Int) 2==2)).2.2) nothing
    (cond ((((inputC (inputC (p.drop 1) (landK .u8 ((p.getD 0 0).toNat:Int) 1==1)).2.1 (landK .u8 ((p.getD 0 0).toNat:Int) 2==2)).2.1.length:Nat):Int) != 0) nothing
    ⟨(inputC (p.drop 1) (landK .u8 ((p.getD 0 0).toNat:Int) 1==1)).1,(landK .u8 ((p.getD 0 0).toNat:Int) 1==1),(inputC (inputC (p.drop 1) (landK .u8 ((p.getD 0 0).toNat:Int) 1==1)).2.1 (landK .u8 ((p.getD 0 0).toNat:Int) 2==2)).1,(landK .u8 ((p.getD 0 0).toNat:Int) 2==2),0⟩)))
theorem AlZ (b:Nat) (h:b≤3):(landK .u8 (shrK .u8 (b:Int) 0) 1==0)=(!(landK .u8 (b:Int) 1==1))∧(landK .u8 (shrK .u8 (b:Int) 1) 1==0)=(!(landK .u8 (b:Int) 2==2)):=by
 have:b=0∨b=1∨b=2∨b=3:=by omega
 rcases this with rfl | rfl | rfl | rfl <;> decide
theorem wrapsub {k:Nat} (h:k≤100000000):IntKind.i64.wrap ((k:Int) - 2)=(k:Int) - 2:=AM (by omega)
theorem stepU {p rest:List UInt8} {b:Nat} {i:Int} {x y:List UInt8} {is:Bool} (hp:p≠[]) (hl:rest.length≤100000000) (hi:i=0∨i=1) (hb:(landK .u8 (shrK .u8 ((p.getD 0 0).toNat:Int) i) 1==0) = !is) (hx:i=0→x=[]) (hy:y=[]) :
  IQ ((p,rest),i,x,y)=some (cond (inputC rest is).2.2 (.go ((p,(inputC rest is).2.1),i+1,cond (i==0) (inputC rest is).1 x,cond (i==1) (inputC rest is).1 y)) (.done nothing.e)):=by
 have hp2:0 < p.length:=List.length_pos_iff.2 hp
 have hi2:IntKind.i64.wrap (i+1)=i+1:=AM (by omega)
 unfold IQ
 refine (cndT (dt (by show i < 2;omega))).trans ((gdT (dt (by show (0:Int)≤0∧(0:Int) < (p.length:Int);omega))).trans ((gdT (dt (by show 0≤i;omega))).trans ?_))
 rw [show (landK .u8 (shrK .u8 ((List.getD ((p,rest),i,x,y).1.1 (0:Int).toNat 0).toNat:Int) ((p,rest),i,x,y).2.1) 1==0) = !is from hb]
 cases is with
 | false =>
  refine (cndT rfl).trans ?_
  show some (Ctl.go ((p,rest),IntKind.i64.wrap (i+1),x,y))=_
  rw [hi2]
  subst hy
  rcases hi with rfl | rfl
  ·rw [hx rfl];rfl
  ·rfl
 | true =>
  refine (cndF rfl).trans ?_
  unfold inputC
  rw [Bool.not_true,cond_false]
  by_cases h2:((rest.length:Nat):Int) < 2
  ·refine (cndT (dt h2)).trans ?_
   rw [dt h2];rfl
  refine (cndF (df h2)).trans ?_
  rw [df h2,cond_false]
  dsimp only
  have g:o120 rest 2=some (natL rest 2:Int):=(Fh (k:=2) (by decide) (by show 2≤rest.length;omega)).trans (congrArg some (SP rest 2 (by decide)))
  rw [g,bdI]
  have hn:=Dd rest 2
  simp only [wrapsub hl]
  have e:(cnd (decide ((natL rest 2:Int) > (400:Int))) (some (((p,rest),i,(natL rest 2:Int)),(i,true),x,y)) (some (((p,rest),i,(natL rest 2:Int)),(i,(decide ((natL rest 2:Int) > (rest.length:Int) - 2))),x,y)))
    = some (((p,rest),i,(natL rest 2:Int)),(i,decide ((natL rest 2:Int) > 400) || decide ((natL rest 2:Int) > (rest.length:Int) - 2)),x,y):=by
   cases decide ((natL rest 2:Int) > (400:Int)) <;> rfl
  rw [e,bdI]
  cases hb:(decide ((natL rest 2:Int) > 400) || decide ((natL rest 2:Int) > ((rest.length:Nat):Int) - 2)) with
  | true=>rfl
  | false =>
   simp only [Bool.or_eq_false_iff,decide_eq_false_iff_not] at hb
   have hw:IntKind.i64.wrap (2+(natL rest 2:Int))=2+(natL rest 2:Int):=AM (by omega)
   have hd:(2+(natL rest 2:Int)).toNat=2+natL rest 2:=by omega
   have d2:(2:Int).toNat=2:=rfl
   have h3:2+natL rest 2≤rest.length:=by omega
   simp only [hw,hd,d2]
   rw [cndF rfl,gdT (dt (by omega)),Bu (by simp;omega),bdI,gdT (dt (by omega)),show 2+natL rest 2 - 2=natL rest 2 by omega]
   simp only [cond_false]
   rcases hi with rfl | rfl
   ·show bd (sm (isZ 0 0) _ _) _=_
    rw [show isZ 0 0 = .inl () from rfl,smL,bdI]
    show some (Ctl.go ((p,rest.drop (2+natL rest 2)),IntKind.i64.wrap (0+1),_,_))=_
    rw [hi2]
    rfl
   ·show bd (sm (isZ 1 0) _ _) _=_
    rw [show isZ 1 0 = .inr () from rfl,smR,show isZ 1 1 = .inl () from rfl,smL,bdI]
    show some (Ctl.go ((p,rest.drop (2+natL rest 2)),IntKind.i64.wrap (1+1),_,_))=_
    rw [hi2]
    rfl
theorem JW {p:List UInt8} {is:Bool}:(inputC p is).2.1.length≤p.length:=by
 unfold inputC
 cases is with
 | false=>simp
 | true =>
  simp only [Bool.not_true,cond_false]
  cases decide ((p.length:Int) < 2) <;> cases (decide ((natL p 2:Int) > 400) || decide ((natL p 2:Int) > (p.length:Int) - 2)) <;> simp
theorem Agr {p:List UInt8} (h:p.length≤1000000):o150 p=some (unpackC p).e:=by
 unfold o150 unpackC
 cases p with
 | nil=>rfl
 | cons b q =>
  have hl:¬ (((b::q).length:Nat):Int)=0:=by simp only [List.length_cons];omega
  rw [cndF (BN hl),gdT (dt (by simp only [List.length_cons];omega)),bdI,BN hl,Bool.false_or]
  have d0:(0:Int).toNat=0:=rfl
  simp only [d0]
  cases hb:decide ((((b::q).getD 0 0).toNat:Int) > 3) with
  | true=>rfl
  | false =>
   simp only [decide_eq_false_iff_not] at hb
   obtain ⟨b1,b2⟩:=AlZ ((b::q).getD 0 0).toNat (by omega)
   rw [cndF rfl,cond_false,gdT (dt (by simp only [List.length_cons];omega)),show (1:Int).toNat=1 from rfl]
   have hq:((b::q).drop 1).length≤1000000:=by simp at h ⊢;omega
   have hf:fuelN=(((fuelN - 3)+1)+1)+1:=by simp [fuelN]
   rw [hf]
   have s1:=stepU (b:=0) (p:=b::q) (rest:=(b::q).drop 1) (i:=0) (x:=[]) (y:=[]) (by simp) (by omega) (.inl rfl) b1 (fun _=>rfl) rfl
   have hlen:=@JW ((b::q).drop 1) (landK .u8 (((b::q).getD 0 0).toNat:Int) 1==1)
   generalize inputC ((b::q).drop 1) (landK .u8 (((b::q).getD 0 0).toNat:Int) 1==1)=A at s1 hlen ⊢
   obtain ⟨a1,a2,a3⟩:=A
   dsimp only at s1 hlen ⊢
   cases a3 with
   | false =>
    rw [cond_false] at s1
    rw [BE s1];rfl
   | true =>
    rw [cond_true,show (cond ((0:Int)==0) a1 [])=a1 from rfl,show (cond ((0:Int)==1) a1 ([]:List UInt8))=[] from rfl,show (0:Int)+1=1 from rfl] at s1
    rw [BO s1,Bool.not_true,cond_false]
    have s2:=stepU (b:=0) (p:=b::q) (rest:=a2) (i:=1) (x:=a1) (y:=[]) (by simp) (by omega) (.inr rfl) b2 (fun h=>by cases h) rfl
    generalize inputC a2 (landK .u8 (((b::q).getD 0 0).toNat:Int) 2==2)=C at s2 ⊢
    obtain ⟨c1,c2,c3⟩:=C
    dsimp only at s2 ⊢
    cases c3 with
    | false =>
     rw [cond_false] at s2
     rw [BE s2];rfl
    | true =>
     rw [cond_true,show (cond ((1:Int)==0) c1 a1)=a1 from rfl,show (cond ((1:Int)==1) c1 ([]:List UInt8))=c1 from rfl,show (1:Int)+1=2 from rfl] at s2
     rw [BO s2,Bool.not_true,cond_false]
     refine BE (r:=_) ?_
     unfold IQ
     refine (cndF (df (by show ¬ ((2:Int) < 2);omega))).trans ?_
     dsimp only
     cases (((c2.length:Nat):Int) != 0) with
     | true=>rfl
     | false =>
      rw [cond_false,cndF rfl,gdT (dt (by simp only [List.length_cons];omega)),gdT (dt (by simp only [List.length_cons];omega)),dnS]
      rfl
structure Se where
 steps:Int
 cycle:Int
 fresh:Bool
 in_:List UInt8
def Se.e (x:Se):(Int×Int)×Bool×List UInt8:=((x.steps,x.cycle),x.fresh,x.in_)
def noSe:Se:=⟨0,0,false,[]⟩
def setB (x:Se):List UInt8:=putB x.steps 8++[u8 (cond x.fresh 1 0)]++x.in_
def putSet (x:Se):Int×List UInt8:=cond (decide (x.steps < 0)) (1,[]) (cond ((unpackC x.in_).err != 0) ((unpackC x.in_).err,[]) (0,setB x))
theorem TO {x:Se} (h:x.in_.length≤1000000):o119 x.e=some (putSet x):=by
 unfold o119 putSet
 by_cases h1:x.steps < 0
 ·refine (cndT (dt h1)).trans ?_
  rw [dt h1];rfl
 refine (cndF (df h1)).trans ?_
 rw [df h1,cond_false]
 refine (bdS (Agr h)).trans ?_
 show cnd ((unpackC x.in_).err != 0) (some ((unpackC x.in_).err,[])) (bd (cnd x.fresh (some ((1:Int),((x.steps,x.cycle),x.fresh,x.in_))) (some ((0:Int),((x.steps,x.cycle),x.fresh,x.in_)))) _)=_
 cases (unpackC x.in_).err != 0 with
 | true=>rfl
 | false =>
  rw [cndF rfl,cond_false]
  have e:(cnd x.fresh (some ((1:Int),((x.steps,x.cycle),x.fresh,x.in_))) (some ((0:Int),((x.steps,x.cycle),x.fresh,x.in_))))=some (cond x.fresh 1 0,((x.steps,x.cycle),x.fresh,x.in_)):=by cases x.fresh <;> rfl
  rw [e,bdI,e8',LQ _ (by decide),bdI,gdT (dt (by simp [Av])),gdT (dt (by simp [Av];omega))]
  rfl
theorem Hj {b:Bool} {x:Un} (h:x.err=0∨x.err=4):(cond b nothing x).err=0∨(cond b nothing x).err=4:=by
 cases b with
 | false=>exact h
 | true=>exact .inr rfl
theorem Pf (p:List UInt8):(unpackC p).err=0∨(unpackC p).err=4:=Hj (Hj (Hj (Hj (.inl rfl))))
def getSet (cycle:Int) (p:List UInt8):Se×Int :=
 cond (decide ((p.length:Int) < 9)) (noSe,4) (cond (decide (((p.getD 8 0).toNat:Int) > 1)) (noSe,4)
  (cond ((putSet ⟨getI p 8,cycle,((p.getD 8 0).toNat:Int)==1,p.drop 9⟩).1 != 0) (noSe,4) (⟨getI p 8,cycle,((p.getD 8 0).toNat:Int)==1,p.drop 9⟩,0)))
theorem Zs {cycle:Int} {p:List UInt8} (h:p.length≤1000000):o77 cycle p=some ((((getSet cycle p).1.steps,(getSet cycle p).1.cycle),(getSet cycle p).1.fresh,(getSet cycle p).2),(getSet cycle p).1.in_):=by
 unfold o77 getSet
 by_cases h1:((p.length:Nat):Int) < 9
 ·rw [cndT (dt h1),dt h1];rfl
 rw [cndF (df h1),df h1,cond_false,gdT (dt (by omega)),bdI]
 have d8:(8:Int).toNat=8:=rfl
 have d9:(9:Int).toNat=9:=rfl
 simp only [d8,d9]
 cases decide (((p.getD 8 0).toNat:Int) > 1) with
 | true=>rfl
 | false =>
  rw [cndF rfl,cond_false,e8',Fh (by decide) (by omega),bdI,gdT (dt (by omega)),gdT (dt (by omega)),Bu (by simp;omega),bdI]
  have g:=TO (x:=⟨getI p 8,cycle,((p.getD 8 0).toNat:Int)==1,p.drop 9⟩) (by simp;omega)
  rw [show o119 ((getI p 8,cycle),((p.getD 8 0).toNat:Int)==1,p.drop 9)=_ from g,bdI]
  cases ((putSet ⟨getI p 8,cycle,((p.getD 8 0).toNat:Int)==1,p.drop 9⟩).1 != 0) <;> rfl
structure Tg where
 lat:Int
 ver:Int
 ph:Int
 bank:Int
 speed:Int
 alt:Int
 vs:Int
def Tg.e (t:Tg):(Int×Int×Int)×(Int×Int)×Int×Int:=((t.lat,t.ver,t.ph),(t.bank,t.speed),t.alt,t.vs)
def noTg:Tg:=⟨0,0,0,0,0,0,0⟩
def putRes (s:Int) (t:Tg):List UInt8:=putB s 8++[u8 t.lat,u8 t.ver,u8 t.ph]++putB t.bank 8++putB t.speed 8++putB t.alt 8++putB t.vs 8
theorem resStep {l:List UInt8} {t:Tg} {i:Nat} (hi:i < 4) (hl:l.length≤1000):IR ((4,(i:Int)),l,[t.bank,t.speed,t.alt,t.vs])=some (.go ((4,((i+1:Nat):Int)),l++putB ([t.bank,t.speed,t.alt,t.vs].getD i 0) 8,[t.bank,t.speed,t.alt,t.vs])):=by
 unfold IR
 refine (cndT (dt (by show (i:Int) < 4;omega))).trans ((gdT (dt (by show (0:Int)≤i∧(i:Int) < 4;omega))).trans ?_)
 dsimp only
 rw [e8',Hi _ (by decide) (by omega),bdI,AM (by omega)]
 rfl
theorem Ags (s:Int) (t:Tg):o121 (((s,t.lat),t.ver,t.ph),(t.bank,t.speed),t.alt,t.vs)=some (putRes s t):=by
 unfold o121
 dsimp only
 rw [e8',LQ _ (by decide),bdI,gdT (dt (by simp [Av]))]
 have hf:fuelN=(((((fuelN - 5)+1)+1)+1)+1)+1:=by simp [fuelN]
 rw [hf]
 have s0:=resStep (t:=t) (i:=0) (l:=putB s 8++[u8 t.lat,u8 t.ver,u8 t.ph]) (by decide) (by simp [Av])
 refine (BO s0).trans ((BO (resStep (t:=t) (i:=1) (by decide) (by simp [Av]))).trans ((BO (resStep (t:=t) (i:=2) (by decide) (by simp [Av]))).trans ((BO (resStep (t:=t) (i:=3) (by decide) (by simp [Av]))).trans (BE ?_))))
 unfold IR
 refine (cndF (df (by show ¬ ((4:Nat):Int) < 4;decide))).trans ?_
 rw [dnS]
 rfl
def getRes (p:List UInt8):Int×Tg×Int:=cond (((p.length:Nat):Int) != 43) (0,noTg,4) (getI p 8,⟨((p.getD 8 0).toNat:Int),((p.getD 9 0).toNat:Int),((p.getD 10 0).toNat:Int),getI (p.drop 11) 8,getI (p.drop 19) 8,getI (p.drop 27) 8,getI (p.drop 35) 8⟩,0)
def resE (x:Int×Tg×Int):(((Int×Int)×Int×Int)×(Int×Int)×Int×Int×Int):=(((x.1,x.2.1.lat),x.2.1.ver,x.2.1.ph),(x.2.1.bank,x.2.1.speed),x.2.1.alt,x.2.1.vs,x.2.2)
theorem Agt (p:List UInt8):o122 p=some (resE (getRes p)):=by
 unfold o122 getRes
 by_cases h:((p.length:Nat):Int)=43
 ·rw [cndF (AF h),AF h,cond_false]
  have d8:(8:Int).toNat=8:=rfl
  have d9:(9:Int).toNat=9:=rfl
  have d10:(10:Int).toNat=10:=rfl
  have d11:(11:Int).toNat=11:=rfl
  have d19:(19:Int).toNat=19:=rfl
  have d27:(27:Int).toNat=27:=rfl
  have d35:(35:Int).toNat=35:=rfl
  have g:∀ j,j+8≤43→o120 (p.drop j) 8=some (getI (p.drop j) 8):=fun j hj=>Fh (k:=8) (by decide) (by simp;omega)
  have g0:o120 p 8=some (getI p 8):=Fh (k:=8) (by decide) (by omega)
  rw [d8,d9,d10,d11,d19,d27,d35,g0,bdI,gdT (dt (by omega)),gdT (dt (by omega)),gdT (dt (by omega)),gdT (dt (by omega)),g 11 (by decide),bdI,gdT (dt (by omega)),g 19 (by decide),bdI,gdT (dt (by omega)),g 27 (by decide),bdI,gdT (dt (by omega)),g 35 (by decide),bdI]
  rfl
 ·rw [cndT (Bb h),Bb h];rfl
structure Nd where
 number:Int
 role:Int
 steps:Int
 alone:Int
 next:Int
 cycle:Int
 input:List UInt8
 hd:Hd
 is:Bool
 fresh:Bool
 se:Se
 has:Bool
 ts:Int
 tt:Tg
def Nd.e (n:Nd):(((Int×Int×Int)×Int×Int×Int)×(List UInt8×Int×Int)×(Int×Int)×List UInt8×Bool)×((Bool×Int×Int)×(Bool×List UInt8)×Bool×Int)×(Int×Int×Int)×(Int×Int)×Int×Int :=
 ((((n.number,n.role,n.steps),n.alone,n.next,n.cycle),(n.input,n.hd.role,n.hd.steps),(n.hd.base,n.hd.have_),n.hd.input,n.is),((n.fresh,n.se.steps,n.se.cycle),(n.se.fresh,n.se.in_),n.has,n.ts),(n.tt.lat,n.tt.ver,n.tt.ph),(n.tt.bank,n.tt.speed),n.tt.alt,n.tt.vs)
structure Frm where
 label:Int
 from_:Int
 cycle:Int
 payload:List UInt8
def Frm.e (f:Frm):(Int×Int)×Int×List UInt8:=((f.label,f.from_),f.cycle,f.payload)
def noFrm:Frm:=⟨0,0,0,[]⟩
def newNd (k:Int):Nd:=⟨k,1,0,0,0,0,[],noHd,false,false,noSe,false,0,noTg⟩
theorem Zt (n:Nd):o44 n.e=some n.role:=rfl
theorem AjI (n:Nd):o45 n.e=some n.steps:=rfl
def Nd.out (n:Nd):Nd:={ n with role:=1,steps:=0 }
def Nd.drop (n:Nd):Nd:={ n.out with next:=0 }
theorem Gi (c:Int) (n:Nd):o111 c n.e=some (cond (n.next != c) 8 0):=Pe _ _ _
def Nd.fits (n:Nd) (f:Frm) (came:Bool) (l:Int):Bool:=came&&(f.label==l&&(f.from_==IntKind.u8.wrap (IntKind.i64.wrap (3 - n.number))&&f.cycle==n.cycle))
theorem MK (n:Nd) (f:Frm) (came:Bool) (l:Int):o114 f.e came l n.e=some (n.fits f came l):=by
 unfold o114 Nd.fits
 show bd (cnd came (cnd (f.label==l) (cnd (f.from_==IntKind.u8.wrap (IntKind.i64.wrap (3 - n.number))) (some (f.cycle==n.cycle,n.e)) (some (false,n.e))) (some (false,n.e))) (some (false,n.e))) _=_
 cases came <;> cases (f.label==l) <;> cases (f.from_==IntKind.u8.wrap (IntKind.i64.wrap (3 - n.number))) <;> rfl
def Nd.begun (n:Nd) (cy:Int) (inp:List UInt8):Nd:={ n with next:=1,cycle:=cy,input:=inp,hd:=noHd,is:=false,se:=noSe,has:=false,ts:=0,tt:=noTg }
def Nd.hello (n:Nd) (cy:Int) (inp:List UInt8) (base have_:Int):Nd×Frm×Int :=
 cond (n.next != 0) (n,noFrm,8) (cond (decide (cy < 0)) (n,noFrm,1)
  (cond ((putHello ⟨n.role,n.steps,base,have_,inp⟩).1 != 0) (n,noFrm,(putHello ⟨n.role,n.steps,base,have_,inp⟩).1)
   (n.begun cy inp,⟨1,IntKind.u8.wrap n.number,cy,(putHello ⟨n.role,n.steps,base,have_,inp⟩).2⟩,0)))
def helloE (x:Nd×Frm×Int):=(((x.2.1.label,x.2.1.from_),x.2.1.cycle,x.2.2),x.1.e,x.2.1.payload)
theorem AjJ {n:Nd} {cy:Int} {inp:List UInt8} {base have_:Int} (hi:inp.length≤100000000):o73 cy inp (base,have_) n.e=some (helloE (n.hello cy inp base have_)):=by
 unfold o73 Nd.hello
 refine (bdS (Gi 0 n)).trans ?_
 cases h0:(n.next != 0) with
 | true=>rfl
 | false =>
  rw [cond_false,cond_false]
  refine (cndF (by decide)).trans ?_
  by_cases hc:cy < 0
  ·rw [cndT (dt hc),dt hc];rfl
  rw [cndF (df hc),df hc,cond_false]
  refine (bdS (TN ⟨n.role,n.steps,base,have_,inp⟩)).trans ?_
  cases ((putHello ⟨n.role,n.steps,base,have_,inp⟩).1 != 0) with
  | true=>rfl
  | false=>exact (cndF rfl).trans (bdS (Bu hi))
def decR (number role steps alone:Int) (heard:Bool) (other theirs:Int):Int :=
 cond (role==2) (cond (heard&&(other==2&&(decide (theirs > steps) || (theirs==steps&&number==2)))) 1 2)
  (cond (role==3) (cond (!heard || (other != 2&&other != 3)) 2 (cond (other==2) (cond (theirs==steps) 3 1) (cond (decide (theirs > steps)) 1 (cond (decide (theirs < steps) || number==1) 2 3))))
   (cond ((!heard&&decide (alone≥3)) || (heard&&(other != 2&&(other != 3&&number==1)))) 2 1))
theorem Agu (number role steps alone:Int) (heard:Bool) (other theirs:Int):o116 number role steps alone heard other theirs=some (decR number role steps alone heard other theirs):=by
 unfold o116 decR
 cases (role==2) with
 | true =>
  cases heard <;> cases (other==2) <;> cases decide (theirs > steps) <;> cases (theirs==steps) <;> cases (number==2) <;> rfl
 | false =>
  rw [cndF rfl,cond_false]
  cases (role==3) with
  | true =>
   rw [cond_true]
   refine (cndT rfl).trans ((bdS (t:=((number,steps),other,theirs,!heard || (other != 2&&other != 3))) ?_).trans ?_)
   ·cases heard <;> cases (other != 2) <;> rfl
   show cnd (!heard || (other != 2&&other != 3)) (some 2) (cnd (other==2) (cnd (theirs==steps) (some 3) (some 1)) (cnd (decide (theirs > steps)) (some 1) (bd (cnd (decide (theirs < steps)) (some true) (some (number==1))) fun v3=>cnd v3 (some 2) (some 3))))=_
   cases (!heard || (other != 2&&other != 3)) <;> cases (other==2) <;> cases decide (theirs > steps) <;> cases (theirs==steps) <;> cases decide (theirs < steps) <;> cases (number==1) <;> rfl
  | false =>
   cases heard <;> cases decide (alone≥3) <;> cases (other != 2) <;> cases (other != 3) <;> cases (number==1) <;> rfl
def Nd.heard1 (n:Nd) (f:Frm) (came:Bool):Nd:=cond (n.fits f came 1) { n with hd:=(getHello f.payload).1,is:=(getHello f.payload).2==0 } n
def Nd.heard2 (n:Nd):Nd:=cond n.is { n with next:=2,alone:=0 } { n with next:=2,alone:=IntKind.i64.wrap (n.alone+1),hd:=noHd }
def Nd.heard3 (n:Nd) (r:Int):Nd:=cond (r==1) { n with role:=r }.out { n with role:=r }
def Nd.heard4 (n:Nd) (was:Int):Nd:={ n with fresh:=was==1&&n.role==2,steps:=cond (was==1&&n.role==2) 0 n.steps }
def Nd.newRole (n:Nd):Int:=decR n.number n.role n.steps n.alone n.is n.hd.role n.hd.steps
def Nd.hear (n:Nd) (f:Frm) (came:Bool):Nd×Hd×Bool×Int :=
 cond (n.next != 1) (n,noHd,false,8) (((((n.heard1 f came).heard2).heard3 ((n.heard1 f came).heard2).newRole).heard4 n.role),((((n.heard1 f came).heard2).heard3 ((n.heard1 f came).heard2).newRole).heard4 n.role).hd,((((n.heard1 f came).heard2).heard3 ((n.heard1 f came).heard2).newRole).heard4 n.role).is,0)
def hearE (x:Nd×Hd×Bool×Int):=(((x.2.1.role,x.2.1.steps,x.2.1.base),x.2.1.have_,x.2.2.1,x.2.2.2),x.1.e,x.2.1.input)
theorem Hk (p:List UInt8):(getHello p).1.input.length≤400:=by
 unfold getHello
 by_cases h:((p.length:Nat):Int) > 419
 ·rw [dt h,Bool.or_true];simp [noHd]
 ·cases (decide ((p.length:Int) < 19) || decide ((p.length:Int) > 419)) <;> cases badHello ⟨((p.getD 0 0).toNat:Int),getI (p.drop 1) 8,getI (p.drop 9) 8,getI (p.drop 17) 2,p.drop 19⟩ <;> simp [noHd] <;> omega
theorem AjK {n:Nd} {f:Frm} {came:Bool} (hi:n.hd.input.length≤1000000):o74 f.e came n.e=some (hearE (n.hear f came)):=by
 unfold o74 Nd.hear
 refine (bdS (Gi 1 n)).trans ?_
 cases h0:(n.next != 1) with
 | true=>rfl
 | false =>
  rw [cond_false,cond_false]
  refine (cndF (by decide)).trans ?_
  refine (bdS (t:=(n.heard1 f came).e) ?_).trans ?_
  ·refine (bdS (MK n f came 1)).trans ?_
   unfold Nd.heard1
   cases n.fits f came 1 with
   | false=>rfl
   | true=>exact (cndT rfl).trans (bdS (Agp f.payload))
  have hl:(n.heard1 f came).hd.input.length≤1000000:=by
   unfold Nd.heard1
   cases n.fits f came 1 with
   | false=>exact hi
   | true=>exact Nat.le_trans (Hk _) (by decide)
  have hr:(n.heard1 f came).role=n.role:=by unfold Nd.heard1;cases n.fits f came 1 <;> rfl
  generalize n.heard1 f came=m at hl hr
  rw [← hr]
  refine (bdS (t:=m.heard2.e) ?_).trans ?_
  ·unfold Nd.heard2
   show cnd m.is _ _=_
   cases hm:m.is with
   | false=>show some _=some _;simp only [cond_false,Nd.e,hm,noHd]
   | true=>show some _=some _;simp only [cond_true,Nd.e,hm]
  have hl2:m.heard2.hd.input.length≤1000000:=by
   unfold Nd.heard2
   cases m.is with
   | false=>simp [noHd]
   | true=>exact hl
  have hr2:m.heard2.role=m.role:=by unfold Nd.heard2;cases m.is <;> rfl
  rw [← hr2]
  generalize m.heard2=k at hl2
  refine (bdS (Agu k.number k.role k.steps k.alone k.is k.hd.role k.hd.steps)).trans ?_
  refine (bdS (t:=(k.role,(k.heard3 k.newRole).e)) ?_).trans ?_
  ·unfold Nd.heard3
   show cnd (k.newRole==1) _ _=_
   cases (k.newRole==1) <;> rfl
  have hl3:(k.heard3 k.newRole).hd.input.length≤1000000:=by
   unfold Nd.heard3
   cases (k.newRole==1) <;> exact hl2
  generalize k.heard3 k.newRole=q at hl3
  refine (bdS (t:={ q with fresh:=k.role==1&&q.role==2 }.e) ?_).trans ?_
  ·show cnd (k.role==1) _ _=_
   cases (k.role==1) <;> rfl
  refine (bdS (t:=(q.heard4 k.role).e) ?_).trans ?_
  ·unfold Nd.heard4
   show cnd (k.role==1&&q.role==2) _ _=_
   cases (k.role==1&&q.role==2) <;> rfl
  exact bdS (Bu (by show q.hd.input.length≤100000000;omega))
def Nd.foll (n:Nd):Bool:=n.is&&n.hd.role==3
theorem TP (n:Nd):o117 n.e=some n.foll:=by
 unfold o117 Nd.foll
 show bd (cnd n.is (some (n.hd.role==3,n.e)) (some (false,n.e))) _=_
 cases n.is <;> rfl
theorem VZ (one two:List UInt8) (a b:Bool):(packC one a two b).2.length≤1000:=by
 unfold packC
 cases hb:long one a two b with
 | true=>simp
 | false =>
  rw [cond_false]
  unfold long at hb
  simp only [Bool.or_eq_false_iff,Bool.and_eq_false_iff,decide_eq_false_iff_not] at hb
  have h1:(Cx one a).length≤402:=by
   cases a with
   | false=>simp [Cx]
   | true=>simp [Cx,Av] at hb ⊢;omega
  have h2:(Cx two b).length≤402:=by
   cases b with
   | false=>simp [Cx]
   | true=>simp [Cx,Av] at hb ⊢;omega
  simp only [List.length_append,List.length_cons,List.length_nil]
  omega
def Nd.other (n:Nd):List UInt8:=cond n.foll n.hd.input []
def Nd.packed (n:Nd):List UInt8:=(cond (n.number==1) (packC n.input true n.other n.foll) (packC n.other n.foll n.input true)).2
def Nd.shared (n:Nd):Nd:={ n with next:=3,se:=⟨n.steps,n.cycle,n.fresh,n.packed⟩ }
def Nd.share (n:Nd):Nd×Frm×Bool×Int :=
 cond (n.next != 2) (n,noFrm,false,8) (cond (n.role != 2) ({ n with next:=3 },noFrm,false,0) (n.shared,⟨2,IntKind.u8.wrap n.number,n.cycle,(putSet n.shared.se).2⟩,true,0))
def shareE (x:Nd×Frm×Bool×Int):=(((x.2.1.label,x.2.1.from_),x.2.1.cycle,x.2.2.1,x.2.2.2),x.1.e,x.2.1.payload)
theorem Nd.packed_len (n:Nd):n.packed.length≤1000:=by
 unfold Nd.packed
 cases (n.number==1) <;> exact VZ _ _ _ _
theorem AjL {n:Nd} (hn:n.number=1∨n.number=2):o75 n.e=some (shareE n.share):=by
 unfold o75 Nd.share
 refine (bdS (Gi 2 n)).trans ?_
 cases h0:(n.next != 2) with
 | true=>rfl
 | false =>
  rw [cond_false,cond_false]
  refine (cndF (by decide)).trans ?_
  show cnd (n.role != 2) _ _=_
  cases (n.role != 2) with
  | true=>rfl
  | false =>
   rw [cond_false]
   refine (cndF rfl).trans ?_
   refine (bdS (t:=(({ n with next:=3 }.e,((0:Int),(0:Int)),(0:Int),([]:List UInt8)),(cond (n.number==1) n.input [],cond (n.number==1) [] n.input),(n.number==1),!(n.number==1))) ?_).trans ?_
   ·obtain ⟨number,role,steps,alone,next,cycle,input,hd,is,fresh,se,has,ts,tt⟩:=n
    rcases hn with h | h <;> (dsimp only at h;subst h;rfl)
   refine (bdS (t:=(({ n with next:=3 }.e,((0:Int),(0:Int)),(0:Int),([]:List UInt8)),(cond (n.number==1) n.input n.other,cond (n.number==1) n.other n.input),(n.number==1) || n.foll,!(n.number==1) || n.foll)) ?_).trans ?_
   ·refine (bdS (TP { n with next:=3 })).trans ?_
    have hf:Nd.foll { n with next:=3 }=n.foll:=rfl
    rw [hf]
    unfold Nd.other
    cases n.foll with
    | false =>
     refine (cndF rfl).trans ?_
     rw [Bool.or_false,Bool.or_false]
     rfl
    | true =>
     obtain ⟨number,role,steps,alone,next,cycle,input,hd,is,fresh,se,has,ts,tt⟩:=n
     rcases hn with h | h <;> (dsimp only at h;subst h;rfl)
   have hp:(cond (n.number==1) n.input n.other,(n.number==1) || n.foll,cond (n.number==1) n.other n.input,!(n.number==1) || n.foll)=(cond (n.number==1) n.input n.other,cond (n.number==1) true n.foll,cond (n.number==1) n.other n.input,cond (n.number==1) n.foll true):=by
    cases (n.number==1) <;> simp
   refine (bdS (Agq _ _ _ _)).trans ?_
   have hpk:(packC (cond (n.number==1) n.input n.other) ((n.number==1) || n.foll) (cond (n.number==1) n.other n.input) (!(n.number==1) || n.foll)).2=n.packed:=by
    unfold Nd.packed
    cases (n.number==1) <;> simp
   refine (bdS ((congrArg o119 ?_).trans (TO (x:=⟨n.steps,n.cycle,n.fresh,n.packed⟩) (Nat.le_trans n.packed_len (by decide))))).trans ?_
   ·show ((n.steps,n.cycle),n.fresh,_)=((n.steps,n.cycle),n.fresh,n.packed)
    rw [← hpk]
   ·show some _=some _
    unfold shareE Nd.shared
    simp only [Nd.e,← hpk]
theorem Wa {α β:Type} (a b c:Bool) (x:α) (y:β):cnd a (cnd (!b) (some ((c,x),y)) (some ((false,x),y))) (some ((false,x),y))=some ((a&&(!b&&c),x),y):=by cases a <;> cases b <;> rfl
def Nd.okSet (n:Nd) (f:Frm):Bool:=(getSet n.cycle f.payload).2==0&&(!(getSet n.cycle f.payload).1.fresh&&(getSet n.cycle f.payload).1.steps==n.steps)
def Nd.took (n:Nd) (f:Frm) (came:Bool):Nd:=cond (n.fits f came 2) (cond (n.okSet f) { n with next:=4,se:=(getSet n.cycle f.payload).1,has:=true } { n with next:=4 }) { n with next:=4 }
def Nd.stepped (n:Nd) (f:Frm) (came:Bool):Nd:=cond (n.role==2) { n with next:=4,has:=true } (cond (n.role==3) (cond (n.took f came).has (n.took f came) (n.took f came).out) { n with next:=4 })
def Nd.step (n:Nd) (f:Frm) (came:Bool):Nd×Se×Bool×Int :=
 cond (n.next != 3) (n,noSe,false,8) (cond (n.stepped f came).has ({ n.stepped f came with steps:=IntKind.i64.wrap ((n.stepped f came).steps+1) },(n.stepped f came).se,true,0) (n.stepped f came,noSe,false,0))
def stepE (x:Nd×Se×Bool×Int):=(((x.2.1.steps,x.2.1.cycle),x.2.1.fresh,x.2.2.1,x.2.2.2),x.1.e,x.2.1.in_)
theorem Fi (cy:Int) (p:List UInt8):(getSet cy p).1.in_.length≤p.length:=by
 unfold getSet
 cases (decide ((p.length:Int) < 9)) <;> cases (decide (((p.getD 8 0).toNat:Int) > 1)) <;> cases ((putSet ⟨getI p 8,cy,((p.getD 8 0).toNat:Int)==1,p.drop 9⟩).1 != 0) <;> simp [noSe]
theorem AjM {n:Nd} {f:Frm} {came:Bool} (hf:f.payload.length≤1000000) (hi:n.se.in_.length≤1000000):o76 f.e came n.e=some (stepE (n.step f came)):=by
 unfold o76 Nd.step
 refine (bdS (Gi 3 n)).trans ?_
 cases h0:(n.next != 3) with
 | true=>rfl
 | false =>
  rw [cond_false,cond_false]
  refine (cndF (by decide)).trans ?_
  have hl:(n.stepped f came).se.in_.length≤1000000:=by
   unfold Nd.stepped
   cases (n.role==2) with
   | true=>exact hi
   | false =>
    cases (n.role==3) with
    | false=>exact hi
    | true =>
     have ht:(n.took f came).se.in_.length≤1000000:=by
      unfold Nd.took
      cases n.fits f came 2 <;> cases n.okSet f <;> first | exact hi | exact Nat.le_trans (Fi _ _) hf
     rw [cond_false,cond_true]
     cases (n.took f came).has <;> exact ht
  refine (bdS (t:=((n.stepped f came).e,false)) ?_).trans ?_
  ·unfold Nd.stepped
   show cnd (n.role==2) _ (cnd (n.role==3) _ _)=_
   cases (n.role==2) with
   | true=>rfl
   | false =>
    rw [cond_false]
    refine (cndF rfl).trans ?_
    cases (n.role==3) with
    | false=>rfl
    | true =>
     refine (cndT rfl).trans ?_
     refine (bdS (t:=((n.took f came).e,false)) ?_).trans ?_
     ·refine (bdS (MK { n with next:=4 } f came 2)).trans ?_
      have hfit:Nd.fits { n with next:=4 } f came 2=n.fits f came 2:=rfl
      rw [hfit]
      unfold Nd.took
      cases n.fits f came 2 with
      | false=>rfl
      | true =>
       refine (cndT rfl).trans ((bdS (Zs hf)).trans ?_)
       unfold Nd.okSet
       refine (bdS (t:=(((n.okSet f),{ n with next:=4 }.e),false,(((getSet n.cycle f.payload).1.steps,(getSet n.cycle f.payload).1.cycle,(getSet n.cycle f.payload).1.fresh)),(getSet n.cycle f.payload).1.in_)) ?_).trans ?_
       ·exact Wa _ _ _ (({ n with next:=4 }:Nd).e) (false,(((getSet n.cycle f.payload).1.steps,(getSet n.cycle f.payload).1.cycle,(getSet n.cycle f.payload).1.fresh)),(getSet n.cycle f.payload).1.in_)
       ·rw [cond_true]
        exact As (c:=n.okSet f) (F:=fun m:Nd=>(m.e,false)) rfl rfl
     ·rw [cond_true]
      exact Bw (c:=(n.took f came).has) (F:=fun m:Nd=>(m.e,false)) rfl rfl
  exact Bw (c:=(n.stepped f came).has) (F:=stepE) (bdS (Bu (by show (n.stepped f came).se.in_.length≤100000000;omega))) rfl
def Nd.tell (n:Nd) (t:Tg):Nd×Frm×Bool×Int :=
 cond (n.next != 4) (n,noFrm,false,8) (cond n.has ({ n with next:=5,ts:=n.steps,tt:=t },⟨3,IntKind.u8.wrap n.number,n.cycle,putRes n.steps t⟩,true,0) ({ n with next:=5 },noFrm,false,0))
theorem AjN (n:Nd) (t:Tg):o79 t.e n.e=some (shareE (n.tell t)):=by
 unfold o79 Nd.tell
 refine (bdS (Gi 4 n)).trans ?_
 cases h0:(n.next != 4) with
 | true=>rfl
 | false =>
  rw [cond_false,cond_false]
  refine (cndF (by decide)).trans ?_
  exact Bw (c:=n.has) (F:=shareE) (bdS (Ags n.steps t)) rfl
def sameRes (s:Int) (t:Tg) (s2:Int) (u:Tg):Bool:=(s==s2)&&((t.lat==u.lat)&&((t.ver==u.ver)&&((t.ph==u.ph)&&((t.bank==u.bank)&&((t.speed==u.speed)&&((t.alt==u.alt)&&(t.vs==u.vs)))))))
def Nd.verdict (n:Nd) (f:Frm):Int:=cond (cond (n.role==3) (sameRes (getRes f.payload).1 (getRes f.payload).2.1 n.ts n.tt) (n.foll&&sameRes (getRes f.payload).1 (getRes f.payload).2.1 n.ts n.tt)) 4 2
def Nd.judge (n:Nd) (f:Frm) (came:Bool):Nd×Int×Int :=
 cond (n.next != 5) (n,0,8) ({ n with next:=0 },cond n.has (cond (n.fits f came 3&&(getRes f.payload).2.2==0) (n.verdict f) 3) 2,0)
theorem AjO (n:Nd) (f:Frm) (came:Bool):o80 f.e came n.e=some (((n.judge f came).2.1,(n.judge f came).2.2),(n.judge f came).1.e):=by
 unfold o80 Nd.judge
 refine (bdS (Gi 5 n)).trans ?_
 cases h0:(n.next != 5) with
 | true=>rfl
 | false =>
  rw [cond_false,cond_false]
  refine (cndF (by decide)).trans ?_
  refine Bw (c:=n.has) (F:=fun v:Int=>((v,(0:Int)),({ n with next:=0 }:Nd).e)) ?_ rfl
  refine (bdS (Agt f.payload)).trans ?_
  refine (bdS (t:=(n.fits f came 3&&(getRes f.payload).2.2==0,{ n with next:=0 }.e,((((getRes f.payload).1,(getRes f.payload).2.1.lat),(getRes f.payload).2.1.ver,(getRes f.payload).2.1.ph),((getRes f.payload).2.1.bank,(getRes f.payload).2.1.speed),(getRes f.payload).2.1.alt,(getRes f.payload).2.1.vs))) ?_).trans ?_
  ·refine (bdS (MK { n with next:=0 } f came 3)).trans ?_
   have hfit:Nd.fits { n with next:=0 } f came 3=n.fits f came 3:=rfl
   rw [hfit]
   cases n.fits f came 3 <;> rfl
  refine Bw (c:=n.fits f came 3&&(getRes f.payload).2.2==0) (F:=fun v:Int=>((v,(0:Int)),({ n with next:=0 }:Nd).e)) ?_ rfl
  unfold Nd.verdict
  refine (bdS (t:=(cond (n.role==3) (sameRes (getRes f.payload).1 (getRes f.payload).2.1 n.ts n.tt) (n.foll&&sameRes (getRes f.payload).1 (getRes f.payload).2.1 n.ts n.tt),{ n with next:=0 }.e)) ?_).trans ?_
  ·refine As (c:=n.role==3) (F:=fun b:Bool=>(b,({ n with next:=0 }:Nd).e)) rfl ?_
   refine (bdS (TP { n with next:=0 })).trans ?_
   have hf:Nd.foll { n with next:=0 }=n.foll:=rfl
   rw [hf]
   cases n.foll <;> rfl
  ·exact As (F:=fun v:Int=>((v,(0:Int)),({ n with next:=0 }:Nd).e)) rfl rfl
end Go.Proofs.YtpleflcfaecojaaGreat
