/-
A pair of computers: its state in a cycle, stage by stage. Conditions: each lemma's own.
-/
import Derived.Test.YtpleflcfaecojaaGreatC12
namespace Go.Proofs.YtpleflcfaecojaaGreat
set_option linter.unusedVariables false
set_option linter.unusedSimpArgs false
set_option maxRecDepth 100000
open Go.RowKit
structure Pr where
  init : List UInt8
  r1 : Int
  r2 : Int
  r3 : Int
  r4 : Int
  cycle : Int
  use : Tg
def Pr.e (p : Pr) : ((List UInt8 × Int × Int) × Int × Int × Int) × (Int × Int × Int) × (Int × Int) × Int × Int := (((p.init, p.r1, p.r2), p.r3, p.r4, p.cycle), p.use.e)
structure Ev where
  s1 : Bool
  s2 : Bool
  r1 : Bool
  r2 : Bool
  k1 : Bool
  k2 : Bool
  w1 : Int
  w2 : Int
  f10 : Ft
  f11 : Ft
  f12 : Ft
  f13 : Ft
  f20 : Ft
  f21 : Ft
  f22 : Ft
  f23 : Ft
def Ev.e (v : Ev) : (((((Bool × Bool) × Bool × Bool) × (Bool × Bool) × Int × Int) × ((Bool × Int) × Int × Bool) × (Int × Int) × Bool × Int) × (((Int × Bool) × Int × Int) × (Bool × Int) × Int × Bool) × ((Int × Int) × Bool × Int) × (Int × Bool) × Int × Int) :=
  (((((v.s1, v.s2), v.r1, v.r2), (v.k1, v.k2), v.w1, v.w2), ((v.f10.lost, v.f10.bit), v.f10.pat, v.f11.lost), (v.f11.bit, v.f11.pat), v.f12.lost, v.f12.bit), (((v.f12.pat, v.f13.lost), v.f13.bit, v.f13.pat), (v.f20.lost, v.f20.bit), v.f20.pat, v.f21.lost), ((v.f21.bit, v.f21.pat), v.f22.lost, v.f22.bit), (v.f22.pat, v.f23.lost), v.f23.bit, v.f23.pat)
structure Rep where
  cycle : Int
  role1 : Int
  role2 : Int
  st1 : Int
  st2 : Int
  steps1 : Int
  steps2 : Int
  t1 : Tg
  t2 : Tg
  src : Int
  use : Tg
def Rep.e (r : Rep) : (((Int × Int × Int) × (Int × Int) × Int × Int) × (Int × Int × Int) × (Int × Int) × Int × Int) × ((Int × Int × Int) × (Int × Int) × Int × Int) × ((Int × Int) × Int × Int) × (Int × Int) × Int × Int :=
  ((((r.cycle, r.role1, r.role2), (r.st1, r.st2), r.steps1, r.steps2), r.t1.e), r.t2.e, ((r.src, r.use.lat), r.use.ver, r.use.ph), (r.use.bank, r.use.speed), r.use.alt, r.use.vs)
structure W where
  p : Pr
  m1 : Mc
  m2 : Mc
  c1 : Cp
  c2 : Cp
  r : Rep
  f1 : Frm
  f2 : Frm
  b1 : Bool
  b2 : Bool
  s1 : Bool
  s2 : Bool
def wire (f : Frm) (ok : Bool) (ft : Ft) (lab frm cy : Int) : Frm × Bool := cond ok (cond ((encF f).1 != 0) (noFrm, false) (receive (encF f).2 ft lab frm cy)) (noFrm, false)
theorem encF_len (f : Frm) : (encF f).2.length ≤ 1016 := by
  unfold encF
  refine cond_pT (P := fun z : Int × List UInt8 => z.2.length ≤ 1016) (fun _ => Nat.zero_le _) fun h => ?_
  have h := of_decide_eq_false h
  show (hdrB f ++ seal4 (crcI (hdrB f))).length ≤ 1016
  simp only [hdrB, seal4, List.length_append, List.length_cons, List.length_nil, putB_len]
  omega
theorem wire_eq {α : Type} (f : Frm) (ok : Bool) (ft : Ft) (lab frm cy : Int) (G : Frm × Bool → α) :
    cnd (!ok) (some (G (noFrm, false))) (bd (o69 f.e) (fun v2 => cnd (v2.1 != 0) (some (G (noFrm, false))) (bd (o70 v2.2 ft.e lab frm cy) (fun v4 => some (G (⟨v4.1.1, v4.1.2, v4.2.1, v4.2.2.1⟩, v4.2.2.2)))))) = some (G (wire f ok ft lab frm cy)) := by
  unfold wire
  refine cndN_ext (c := ok) (F := G) ?_ rfl
  refine (bdS (o69_eq f)).trans ?_
  refine cnd_ext (c := (encF f).1 != 0) (F := G) rfl ?_
  exact bdS (o70_eq (Nat.le_trans (encF_len f) (by decide)))
theorem decF_len (q : List UInt8) : (decF q).1.payload.length ≤ q.length := by
  have h := opn_len q
  unfold decF
  refine cond_p (P := fun z : Frm × Int => z.1.payload.length ≤ q.length) (Nat.zero_le _) (cond_p (P := fun z : Frm × Int => z.1.payload.length ≤ q.length) (Nat.zero_le _) (cond_p (P := fun z : Frm × Int => z.1.payload.length ≤ q.length) (Nat.zero_le _) ?_))
  show ((opn q).2.drop 12).length ≤ q.length
  rw [List.length_drop]; omega
theorem receive_len (b : List UInt8) (ft : Ft) (lab frm cy : Int) : (receive b ft lab frm cy).1.payload.length ≤ b.length := by
  have h1 := carry_len b ft
  have h2 := decF_len (carry b ft).2
  unfold receive
  refine cond_p (P := fun z : Frm × Bool => z.1.payload.length ≤ b.length) ?_ (Nat.zero_le _)
  unfold arrived
  exact cond_p (P := fun z : Frm × Bool => z.1.payload.length ≤ b.length) (Nat.zero_le _) (Nat.le_trans h2 h1)
theorem wire_len (f : Frm) (ok : Bool) (ft : Ft) (lab frm cy : Int) : (wire f ok ft lab frm cy).1.payload.length ≤ 1100 := by
  unfold wire
  refine cond_p (P := fun z : Frm × Bool => z.1.payload.length ≤ 1100) (cond_p (P := fun z : Frm × Bool => z.1.payload.length ≤ 1100) (Nat.zero_le _) ?_) (Nat.zero_le _)
  exact Nat.le_trans (receive_len _ _ _ _ _) (Nat.le_trans (encF_len f) (by decide))
def inpC (l : List UInt8) : List UInt8 := cond (decide ((l.length : Int) > 400)) [] l
theorem inpC_len (l : List UInt8) : (inpC l).length ≤ 400 := by
  unfold inpC
  exact cond_pT (P := fun z : List UInt8 => z.length ≤ 400) (fun _ => Nat.zero_le _) fun h => by have := of_decide_eq_false h; omega
def snd0 (c : Cp) (cy : Int) (l : List UInt8) : Cp × Frm × Bool := ((c.hello cy (inpC l)).1, (c.hello cy (inpC l)).2.1, (c.hello cy (inpC l)).2.2 == 0)
def snd1 (c : Cp) : Cp × Frm × Bool := (c.share.1, c.share.2.1, c.share.2.2.1)
def snd2 (c : Cp) (t : Tg) : Cp × Frm × Bool := ((c.tell t).1, (c.tell t).2.1, (c.tell t).2.2.1)
def snd3 (c : Cp) (m : Mc) : Cp × Frm × Bool := ((c.serve (cond c.asked (saveB m) [])).1, (c.serve (cond c.asked (saveB m) [])).2.1, (c.serve (cond c.asked (saveB m) [])).2.2.1)
theorem snd0_ok {c : Cp} (h : c.ok) {cy : Int} {l : List UInt8} : (snd0 c cy l).1.ok := hello_ok h (Nat.le_trans (inpC_len l) (by decide))
theorem snd1_ok {c : Cp} (h : c.ok) : (snd1 c).1.ok := share_ok h
theorem snd2_ok {c : Cp} (h : c.ok) {t : Tg} : (snd2 c t).1.ok := tell_ok h
theorem snd3_ok {c : Cp} (h : c.ok) {m : Mc} : (snd3 c m).1.ok := serve_ok h
def W.clr (w : W) : W := { w with f1 := noFrm, f2 := noFrm, b1 := false, b2 := false, s1 := false, s2 := false }
def W.put1 (w : W) (a : Bool) (x : Cp × Frm × Bool) (ft : Ft) (lab : Int) : W := { w with c1 := cond a x.1 w.c1, f2 := cond a (wire x.2.1 x.2.2 ft lab 1 w.p.cycle).1 w.f2, b2 := cond a (wire x.2.1 x.2.2 ft lab 1 w.p.cycle).2 w.b2 }
def W.put2 (w : W) (a : Bool) (x : Cp × Frm × Bool) (ft : Ft) (lab : Int) : W := { w with c2 := cond a x.1 w.c2, f1 := cond a (wire x.2.1 x.2.2 ft lab 2 w.p.cycle).1 w.f1, b1 := cond a (wire x.2.1 x.2.2 ft lab 2 w.p.cycle).2 w.b1 }
def W.ex0 (w : W) (a b : Bool) (v : Ev) (one two : List UInt8) : W := (w.clr.put1 a (snd0 w.c1 w.p.cycle one) v.f10 1).put2 b (snd0 w.c2 w.p.cycle two) v.f20 1
def W.ex1 (w : W) (a b : Bool) (v : Ev) : W := (w.clr.put1 a (snd1 w.c1) v.f11 2).put2 b (snd1 w.c2) v.f21 2
def W.ex2 (w : W) (a b : Bool) (v : Ev) : W := (w.clr.put1 a (snd2 w.c1 w.r.t1) v.f12 3).put2 b (snd2 w.c2 w.r.t2) v.f22 3
def W.ex3 (w : W) (a b : Bool) (v : Ev) : W := (w.clr.put1 a (snd3 w.c1 w.m1) v.f13 4).put2 b (snd3 w.c2 w.m2) v.f23 4
def W.hear (w : W) (a b : Bool) : W := { w with c1 := cond a (w.c1.hear w.f1 w.b1).1 w.c1, c2 := cond b (w.c2.hear w.f2 w.b2).1 w.c2 }
def stepA (init : List UInt8) (m : Mc) (x : Se) : Mc := (cond x.fresh (m.load init).1 m).stepM x.cycle x.in_
def Tg.wrong (t : Tg) (k : Int) : Tg := { t with bank := lxorK .i64 t.bank k }
def W.step1 (w : W) (v : Ev) (x : Cp × Se × Bool × Int) : W := { w with c1 := x.1, m1 := cond x.2.2.1 (stepA w.p.init w.m1 x.2.1) w.m1, s1 := cond x.2.2.1 true w.s1, r := { w.r with t1 := cond x.2.2.1 ((stepA w.p.init w.m1 x.2.1).tg.wrong v.w1) w.r.t1 } }
def W.step2 (w : W) (v : Ev) (x : Cp × Se × Bool × Int) : W := { w with c2 := x.1, m2 := cond x.2.2.1 (stepA w.p.init w.m2 x.2.1) w.m2, s2 := cond x.2.2.1 true w.s2, r := { w.r with t2 := cond x.2.2.1 ((stepA w.p.init w.m2 x.2.1).tg.wrong v.w2) w.r.t2 } }
def W.stepA1 (w : W) (a : Bool) (v : Ev) : W := cond a (w.step1 v (w.c1.step w.f1 w.b1)) w
def W.stepA2 (w : W) (a : Bool) (v : Ev) : W := cond a (w.step2 v (w.c2.step w.f2 w.b2)) w
def W.step (w : W) (a b : Bool) (v : Ev) : W := (w.stepA1 a v).stepA2 b v
def W.judge (w : W) (a b : Bool) : W := { w with c1 := cond a (w.c1.judge w.f1 w.b1).1 w.c1, c2 := cond b (w.c2.judge w.f2 w.b2).1 w.c2, r := { w.r with st1 := cond a (w.c1.judge w.f1 w.b1).2.1 w.r.st1, st2 := cond b (w.c2.judge w.f2 w.b2).2.1 w.r.st2 } }
def runL (m : Mc) (l : List ST) : Mc := l.foldl (fun m x => m.stepM x.2.1 x.2.2.2) m
def tookA (m : Mc) (x : Cp × JobT × Bool × Int) : Cp × Mc := cond x.2.2.1 (cond ((m.load x.2.1.2.1).2 != 0) (x.1.drop, (m.load x.2.1.2.1).1) (x.1, runL (m.load x.2.1.2.1).1 x.2.1.2.2)) (x.1, m)
def W.take (w : W) (a b : Bool) : W := { w with c1 := cond a (tookA w.m1 (w.c1.take w.f1 w.b1)).1 w.c1, m1 := cond a (tookA w.m1 (w.c1.take w.f1 w.b1)).2 w.m1, c2 := cond b (tookA w.m2 (w.c2.take w.f2 w.b2)).1 w.c2, m2 := cond b (tookA w.m2 (w.c2.take w.f2 w.b2)).2 w.m2 }
def W.node (w : W) (a b : Bool) : W := { w with r := { w.r with role1 := cond a w.c1.nd.role w.r.role1, steps1 := cond a w.c1.nd.steps w.r.steps1, role2 := cond b w.c2.nd.role w.r.role2, steps2 := cond b w.c2.nd.steps w.r.steps2 } }
def W.src (w : W) : Int := select w.r.st1 w.r.st2
def W.used (w : W) : Tg := cond (w.src != 0) (limit w.p.use (cond (w.src == 1) w.r.t1 w.r.t2) w.p.r1 w.p.r2 w.p.r3 w.p.r4) w.p.use
def W.fin (w : W) : W := { w with p := { w.p with use := w.used }, r := { w.r with src := w.src, use := w.used } }
def W.all (w : W) (a b : Bool) (v : Ev) (one two : List UInt8) : W :=
  (((((((((w.ex0 a b v one two).hear a b).ex1 a b v).step a b v).ex2 a b v).judge a b).ex3 a b v).take a b).node a b).fin
structure W.ok (w : W) (a b : Bool) : Prop where
  init : w.p.init.length ≤ 1000000
  p1 : 0 ≤ w.m1.pad ∧ w.m1.pad ≤ 10000
  p2 : 0 ≤ w.m2.pad ∧ w.m2.pad ≤ 10000
  c1 : a = true → w.c1.ok
  c2 : b = true → w.c2.ok
  f1 : w.f1.payload.length ≤ 1100
  f2 : w.f2.payload.length ≤ 1100
theorem tookA_ok {m : Mc} {c : Cp} (h : c.ok) {f : Frm} {came : Bool} : (tookA m (c.take f came)).1.ok := by
  have := take_ok h (f := f) (came := came)
  unfold tookA
  exact cond_p (P := fun z : Cp × Mc => z.1.ok) (cond_p (P := fun z : Cp × Mc => z.1.ok) (drop_ok this) this) this
theorem runL_pad (m : Mc) (l : List ST) : (runL m l).pad = m.pad := by
  unfold runL
  induction l generalizing m with
  | nil => rfl
  | cons x l ih => exact (ih _).trans (stepM_pad _ _ _)
theorem tookA_pad (m : Mc) (x : Cp × JobT × Bool × Int) : (tookA m x).2.pad = m.pad := by
  have h := load_pad m x.2.1.2.1
  unfold tookA
  exact cond_p (P := fun z : Cp × Mc => z.2.pad = m.pad) (cond_p (P := fun z : Cp × Mc => z.2.pad = m.pad) h ((runL_pad _ _).trans h)) rfl
theorem stepA_pad (i : List UInt8) (m : Mc) (x : Se) : (stepA i m x).pad = m.pad := by
  have h := load_pad m i
  unfold stepA
  exact (stepM_pad _ _ _).trans (cond_p (P := fun z : Mc => z.pad = m.pad) h rfl)
theorem ex_ok {w : W} {a b : Bool} (h : w.ok a b) {x y : Cp × Frm × Bool} {ft gt : Ft} {lab mab : Int} (hx : a = true → x.1.ok) (hy : b = true → y.1.ok) : ((w.clr.put1 a x ft lab).put2 b y gt mab).ok a b := by
  refine ⟨h.init, h.p1, h.p2, fun e => ?_, fun e => ?_, ?_, ?_⟩
  · subst e; exact hx rfl
  · subst e; exact hy rfl
  · exact cond_p (P := fun z : Frm => z.payload.length ≤ 1100) (wire_len _ _ _ _ _ _) (Nat.zero_le _)
  · exact cond_p (P := fun z : Frm => z.payload.length ≤ 1100) (wire_len _ _ _ _ _ _) (Nat.zero_le _)
theorem ex0_ok {w : W} {a b : Bool} (h : w.ok a b) {v : Ev} {one two : List UInt8} : (w.ex0 a b v one two).ok a b := ex_ok h (fun e => snd0_ok (h.c1 e)) (fun e => snd0_ok (h.c2 e))
theorem ex1_ok {w : W} {a b : Bool} (h : w.ok a b) {v : Ev} : (w.ex1 a b v).ok a b := ex_ok h (fun e => snd1_ok (h.c1 e)) (fun e => snd1_ok (h.c2 e))
theorem ex2_ok {w : W} {a b : Bool} (h : w.ok a b) {v : Ev} : (w.ex2 a b v).ok a b := ex_ok h (fun e => snd2_ok (h.c1 e)) (fun e => snd2_ok (h.c2 e))
theorem ex3_ok {w : W} {a b : Bool} (h : w.ok a b) {v : Ev} : (w.ex3 a b v).ok a b := ex_ok h (fun e => snd3_ok (h.c1 e)) (fun e => snd3_ok (h.c2 e))
theorem whear_ok {w : W} {a b : Bool} (h : w.ok a b) : (w.hear a b).ok a b := ⟨h.init, h.p1, h.p2, fun e => by subst e; exact hear_ok (h.c1 rfl), fun e => by subst e; exact hear_ok (h.c2 rfl), h.f1, h.f2⟩
theorem stepA1_ok {w : W} {a b : Bool} (h : w.ok a b) {v : Ev} : (w.stepA1 a v).ok a b := by
  unfold W.stepA1
  refine cond_pT (P := fun z : W => z.ok a b) (fun e => ⟨h.init, ?_, h.p2, fun _ => step_ok (h.c1 e) h.f1, h.c2, h.f1, h.f2⟩) fun _ => h
  exact cond_p (P := fun z : Mc => 0 ≤ z.pad ∧ z.pad ≤ 10000) (by rw [stepA_pad]; exact h.p1) h.p1
theorem stepA2_ok {w : W} {a b : Bool} (h : w.ok a b) {v : Ev} : (w.stepA2 b v).ok a b := by
  unfold W.stepA2
  refine cond_pT (P := fun z : W => z.ok a b) (fun e => ⟨h.init, h.p1, ?_, h.c1, fun _ => step_ok (h.c2 e) h.f2, h.f1, h.f2⟩) fun _ => h
  exact cond_p (P := fun z : Mc => 0 ≤ z.pad ∧ z.pad ≤ 10000) (by rw [stepA_pad]; exact h.p2) h.p2
theorem wstep_ok {w : W} {a b : Bool} (h : w.ok a b) {v : Ev} : (w.step a b v).ok a b := stepA2_ok (stepA1_ok h)
theorem wjudge_ok {w : W} {a b : Bool} (h : w.ok a b) : (w.judge a b).ok a b := ⟨h.init, h.p1, h.p2, fun e => by subst e; exact judge_ok (h.c1 rfl), fun e => by subst e; exact judge_ok (h.c2 rfl), h.f1, h.f2⟩
theorem wtake_ok {w : W} {a b : Bool} (h : w.ok a b) : (w.take a b).ok a b := by
  refine ⟨h.init, ?_, ?_, fun e => by subst e; exact tookA_ok (h.c1 rfl), fun e => by subst e; exact tookA_ok (h.c2 rfl), h.f1, h.f2⟩
  · exact cond_p (P := fun z : Mc => 0 ≤ z.pad ∧ z.pad ≤ 10000) (by rw [tookA_pad]; exact h.p1) h.p1
  · exact cond_p (P := fun z : Mc => 0 ≤ z.pad ∧ z.pad ≤ 10000) (by rw [tookA_pad]; exact h.p2) h.p2
theorem wnode_ok {w : W} {a b : Bool} (h : w.ok a b) : (w.node a b).ok a b := ⟨h.init, h.p1, h.p2, h.c1, h.c2, h.f1, h.f2⟩
theorem fin_ok {w : W} {a b : Bool} (h : w.ok a b) : w.fin.ok a b := ⟨h.init, h.p1, h.p2, h.c1, h.c2, h.f1, h.f2⟩
theorem all_ok {w : W} {a b : Bool} (h : w.ok a b) {v : Ev} {one two : List UInt8} : (w.all a b v one two).ok a b := fin_ok (wnode_ok (wtake_ok (ex3_ok (wjudge_ok (ex2_ok (wstep_ok (ex1_ok (whear_ok (ex0_ok h)))))))))
theorem o84_eq {n : Nd} (h : n.ok) : o84 n.e = some n.e := by
  unfold o84
  exact (bdS (o33_eq (Nat.le_trans h.inp (by decide)))).trans ((bdS (o33_eq (Nat.le_trans h.hinp (by decide)))).trans (bdS (o33_eq (Nat.le_trans h.sin (by decide)))))
theorem o43_eq {c : Cp} (h : c.ok) (x : (Int × Int) × List (List UInt8) × List ST) : o43 c.h c.nd.e c.ps x = some c.nd.e := by
  unfold o43
  exact bdS (o84_eq h.nd)
end Go.Proofs.YtpleflcfaecojaaGreat
