/-
ResyncSmooth: no target in use changes by more than its rate. Conditions: each lemma's own.
-/
import Derived.Test.YtpleflcfaecojaaGreatD6
namespace Go.Proofs.YtpleflcfaecojaaGreat
set_option linter.unusedVariables false
set_option linter.unusedSimpArgs false
set_option maxRecDepth 100000
open Go.RowKit
def in64 (x : Int) : Prop := -9223372036854775808 ≤ x ∧ x ≤ 9223372036854775807
structure Tg.inR (t : Tg) : Prop where
  bank : in64 t.bank
  speed : in64 t.speed
  alt : in64 t.alt
  vs : in64 t.vs
theorem in64_0 : in64 0 := ⟨by decide, by decide⟩
theorem noTg_in : noTg.inR := ⟨in64_0, in64_0, in64_0, in64_0⟩
theorem within_eq (a b r : Int) : o17 a b r = some (decide (IntKind.u64.wrap (IntKind.u64.wrap (cond (decide (a < b)) b a) - IntKind.u64.wrap (cond (decide (a < b)) a b)) ≤ IntKind.u64.wrap r)) := by
  unfold o17
  cases decide (a < b) <;> rfl
theorem u64_sub {a b : Int} (ha : in64 a) (hb : in64 b) (h : b ≤ a) : IntKind.u64.wrap (IntKind.u64.wrap a - IntKind.u64.wrap b) = a - b := by
  obtain ⟨a1, a2⟩ := ha
  obtain ⟨b1, b2⟩ := hb
  rw [IntKind.wrap_u64, IntKind.wrap_u64, IntKind.wrap_u64]
  omega
theorem within_yes {a b r : Int} (ha : in64 a) (hb : in64 b) (h0 : 0 ≤ r) (h1 : r ≤ 9223372036854775807) (h : a - b ≤ r ∧ b - a ≤ r) : o17 a b r = some true := by
  rw [within_eq]
  have hr : IntKind.u64.wrap r = r := by rw [IntKind.wrap_u64]; omega
  rw [hr]
  by_cases hab : a < b
  · rw [dt hab, cond_true, cond_true, u64_sub hb ha (by omega), dt h.2]
  · rw [df hab, cond_false, cond_false, u64_sub ha hb (by omega), dt h.1]
theorem toward_in {last want r : Int} (h : in64 want) : in64 (toward last want r) := by
  have hw : ∀ x, in64 (IntKind.i64.wrap x) := fun x => by have := i64_in_ x; exact ⟨this.1, this.2⟩
  unfold toward
  exact cond_p (P := in64) (cond_p (P := in64) h (hw _)) (cond_p (P := in64) h (hw _))
theorem toward_near {last want r : Int} (hl : in64 last) (hw : in64 want) (h0 : 0 ≤ r) (h1 : r ≤ 9223372036854775807) : last - toward last want r ≤ r ∧ toward last want r - last ≤ r := by
  have hm : maxI r 0 = r := by unfold maxI; split <;> omega
  have hr : IntKind.u64.wrap r = r := by rw [IntKind.wrap_u64]; omega
  obtain ⟨l1, l2⟩ := hl
  obtain ⟨w1, w2⟩ := hw
  unfold toward
  rw [hm, hr]
  by_cases h : want ≥ last
  · rw [dt h, cond_true, u64_sub ⟨w1, w2⟩ ⟨l1, l2⟩ h]
    by_cases h2 : want - last ≤ r
    · rw [dt h2, cond_true]; omega
    · rw [df h2, cond_false, wr64 (by omega)]; omega
  · rw [df h, cond_false, u64_sub ⟨l1, l2⟩ ⟨w1, w2⟩ (by omega)]
    by_cases h2 : last - want ≤ r
    · rw [dt h2, cond_true]; omega
    · rw [df h2, cond_false, wr64 (by omega)]; omega
theorem limit_in {last want : Tg} {r1 r2 r3 r4 : Int} (h : want.inR) : (limit last want r1 r2 r3 r4).inR := ⟨toward_in h.bank, toward_in h.speed, toward_in h.alt, toward_in h.vs⟩
structure RateOk (p : Pr) : Prop where
  h1 : 0 ≤ p.r1 ∧ p.r1 ≤ 9223372036854775807
  h2 : 0 ≤ p.r2 ∧ p.r2 ≤ 9223372036854775807
  h3 : 0 ≤ p.r3 ∧ p.r3 ≤ 9223372036854775807
  h4 : 0 ≤ p.r4 ∧ p.r4 ≤ 9223372036854775807
theorem limit_ok {last want : Tg} {p : Pr} (hl : last.inR) (hw : want.inR) (h : RateOk p) : okS last (limit last want p.r1 p.r2 p.r3 p.r4) (rOf p) :=
  ⟨within_yes hl.bank (toward_in hw.bank) h.h1.1 h.h1.2 (toward_near hl.bank hw.bank h.h1.1 h.h1.2), within_yes hl.speed (toward_in hw.speed) h.h2.1 h.h2.2 (toward_near hl.speed hw.speed h.h2.1 h.h2.2),
    within_yes hl.alt (toward_in hw.alt) h.h3.1 h.h3.2 (toward_near hl.alt hw.alt h.h3.1 h.h3.2), within_yes hl.vs (toward_in hw.vs) h.h4.1 h.h4.2 (toward_near hl.vs hw.vs h.h4.1 h.h4.2)⟩
theorem same_ok {t : Tg} {p : Pr} (ht : t.inR) (h : RateOk p) : okS t t (rOf p) :=
  ⟨within_yes ht.bank ht.bank h.h1.1 h.h1.2 (by rw [Int.sub_self]; exact ⟨h.h1.1, h.h1.1⟩), within_yes ht.speed ht.speed h.h2.1 h.h2.2 (by rw [Int.sub_self]; exact ⟨h.h2.1, h.h2.1⟩), within_yes ht.alt ht.alt h.h3.1 h.h3.2 (by rw [Int.sub_self]; exact ⟨h.h3.1, h.h3.1⟩), within_yes ht.vs ht.vs h.h4.1 h.h4.2 (by rw [Int.sub_self]; exact ⟨h.h4.1, h.h4.1⟩)⟩
theorem wrong_in (m : Mc) (k : Int) : (m.tg.wrong k).inR := by
  have hw : ∀ x, in64 (IntKind.i64.wrap x) := fun x => by have := i64_in_ x; exact ⟨this.1, this.2⟩
  exact ⟨by show in64 (lxorK .i64 _ k); unfold lxorK; exact hw _, hw _, hw _, hw _⟩
theorem stepA1_t {u : W} (a : Bool) (v : Ev) (h1 : u.r.t1.inR) (h2 : u.r.t2.inR) : (u.stepA1 a v).r.t1.inR ∧ (u.stepA1 a v).r.t2.inR := by
  unfold W.stepA1
  refine cond_p (P := fun z : W => z.r.t1.inR ∧ z.r.t2.inR) ⟨?_, h2⟩ ⟨h1, h2⟩
  exact cond_p (P := Tg.inR) (wrong_in _ _) h1
theorem stepA2_t {u : W} (a : Bool) (v : Ev) (h1 : u.r.t1.inR) (h2 : u.r.t2.inR) : (u.stepA2 a v).r.t1.inR ∧ (u.stepA2 a v).r.t2.inR := by
  unfold W.stepA2
  refine cond_p (P := fun z : W => z.r.t1.inR ∧ z.r.t2.inR) ⟨h1, ?_⟩ ⟨h1, h2⟩
  exact cond_p (P := Tg.inR) (wrong_in _ _) h2
theorem used_of {u : W} {l : Tg} (hu : u.p.use = l) (hl : l.inR) (h1 : u.r.t1.inR) (h2 : u.r.t2.inR) (hr : RateOk u.p) : u.used.inR ∧ okS l u.used (rOf u.p) := by
  subst hu
  have ht : (cond (u.src == 1) u.r.t1 u.r.t2).inR := cond_p (P := Tg.inR) h1 h2
  unfold W.used
  exact cond_p (P := fun z : Tg => z.inR ∧ okS u.p.use z (rOf u.p)) ⟨limit_in ht, limit_ok hl ht hr⟩ ⟨hl, same_ok hl hr⟩
def W.late (u : W) (a b : Bool) (v : Ev) : W := ((((u.ex2 a b v).judge a b).ex3 a b v).take a b).node a b
theorem late_t1 (u : W) (a b : Bool) (v : Ev) : (u.late a b v).r.t1 = u.r.t1 := rfl
theorem late_t2 (u : W) (a b : Bool) (v : Ev) : (u.late a b v).r.t2 = u.r.t2 := rfl
theorem late_p (u : W) (a b : Bool) (v : Ev) : (u.late a b v).p = u.p := rfl
def W.early (u : W) (a b : Bool) (v : Ev) (one two : List UInt8) : W := ((u.ex0 a b v one two).hear a b).ex1 a b v
theorem early_r (u : W) (a b : Bool) (v : Ev) (one two : List UInt8) : (u.early a b v one two).r = u.r := rfl
theorem early_p (u : W) (a b : Bool) (v : Ev) (one two : List UInt8) : (u.early a b v one two).p = u.p := rfl
theorem all_late (u : W) (a b : Bool) (v : Ev) (one two : List UInt8) : u.all a b v one two = (((u.early a b v one two).step a b v).late a b v).fin := rfl
theorem fin_use (u : W) : u.fin.p.use = u.used := rfl
theorem all_smooth {w : W} {a b : Bool} {v : Ev} {one two : List UInt8} (hl : w.p.use.inR) (h1 : w.r.t1.inR) (h2 : w.r.t2.inR) (hr : RateOk w.p) :
    (w.all a b v one two).p.use.inR ∧ okS w.p.use (w.all a b v one two).p.use (rOf w.p) := by
  rw [all_late, fin_use]
  have er := early_r w a b v one two
  have ep := early_p w a b v one two
  generalize w.early a b v one two = u at er ep
  obtain ⟨g1, g2⟩ := stepA1_t (u := u) a v (by rw [er]; exact h1) (by rw [er]; exact h2)
  obtain ⟨k1, k2⟩ := stepA2_t (u := u.stepA1 a v) b v g1 g2
  have hp : (u.step a b v).p = w.p := (step_p _ _ _ _).trans ep
  have e1 := late_t1 (u.step a b v) a b v
  have e2 := late_t2 (u.step a b v) a b v
  have e3 := late_p (u.step a b v) a b v
  generalize (u.step a b v).late a b v = z at e1 e2 e3
  have := used_of (u := z) (l := w.p.use) (by rw [e3, hp]) hl (by rw [e1]; exact k1) (by rw [e2]; exact k2) (by rw [e3, hp]; exact hr)
  rw [show rOf z.p = rOf w.p by rw [e3, hp]] at this
  exact this
structure GoodS (R : (Int × Int) × Int × Int) (a b : Bool) (w : W) : Prop where
  ok : w.ok a b
  use : w.p.use.inR
  rate : RateOk w.p
  same : rOf w.p = R
theorem next_good {R : (Int × Int) × Int × Int} {a b : Bool} {w q : W} (h : GoodS R a b w) {v : Ev} {one two : List UInt8} (hq : cycW a b w.p w.m1 w.m2 w.c1 w.c2 v one two = q) : GoodS R (evA a v.s1 v.r1) (evA b v.s2 v.r2) q ∧ okS w.p.use q.p.use R := by
  subst hq
  have h1 := cycW_ok h.ok v one two
  have h2 := all_smooth (w := start w.p w.m1 w.m2 (evK a v.s1 v.k1 w.c1 1) (evK b v.s2 v.k2 w.c2 2)) (a := evA a v.s1 v.r1) (b := evA b v.s2 v.r2) (v := v) (one := one) (two := two) h.use noTg_in noTg_in ⟨h.rate.h1, h.rate.h2, h.rate.h3, h.rate.h4⟩
  have h3 := all_p (start w.p w.m1 w.m2 (evK a v.s1 v.k1 w.c1 1) (evK b v.s2 v.k2 w.c2 2)) (evA a v.s1 v.r1) (evA b v.s2 v.r2) v one two
  have hs := h.same
  refine ⟨⟨h1, h2.1, ?_, ?_⟩, ?_⟩
  · unfold cycW; rw [h3]; exact ⟨h.rate.h1, h.rate.h2, h.rate.h3, h.rate.h4⟩
  · unfold cycW; rw [h3]; exact hs
  · rw [← hs]; exact h2.2
theorem body_S {wo : WoT} {k : Nat} (hk : ((k : Nat) : Int) < ((wo.2.2.2.length : Nat) : Int)) (h20 : ((k : Nat) : Int) < 20) {R : (Int × Int) × Int × Int} {w : W} {a b : Bool} (h : GoodS R a b w) :
    ∃ a' b' q, o6_b0 (encS a b ((k : Nat) : Int) wo R w.p.use w) = some (Ctl.go (encS a' b' ((k + 1 : Nat) : Int) wo R q.p.use q)) ∧ GoodS R a' b' q := by
  obtain ⟨q, hq⟩ : ∃ q, cycW a b w.p w.m1 w.m2 w.c1 w.c2 (evOf (wo.2.2.2.getD k noCy)) ((wo.2.2.2.getD k noCy).1.take 20) ((wo.2.2.2.getD k noCy).2.1.take 20) = q := ⟨_, rfl⟩
  obtain ⟨g1, g2⟩ := next_good h hq
  refine ⟨_, _, q, ?_, g1⟩
  cases a <;> cases b
  · exact bS_00 hk h20 R w.p.use h.ok hq g2
  · exact bS_01 hk h20 R w.p.use h.ok hq g2
  · exact bS_10 hk h20 R w.p.use h.ok hq g2
  · exact bS_11 hk h20 R w.p.use h.ok hq g2
theorem end_S {wo : WoT} {k : Nat} (hk : ¬ (((k : Nat) : Int) < ((wo.2.2.2.length : Nat) : Int) ∧ ((k : Nat) : Int) < 20)) (R : (Int × Int) × Int × Int) (l : Tg) (w : W) (a b : Bool) : o6_b0 (encS a b ((k : Nat) : Int) wo R l w) = some (Ctl.done true) := by
  cases a <;> cases b
  · exact eS_00 hk R l
  · exact eS_01 hk R l
  · exact eS_10 hk R l
  · exact eS_11 hk R l
theorem smooth_plain {x : WoT} (h : 0 ≤ x.1.2.1 ∧ x.1.2.1 ≤ 65535) : o6 x = some true := by
  unfold o6
  refine (bdS awake_yes).trans ((cndF rfl).trans ?_)
  refine (bdS (t := Sum.inr ((((x, (wOf x).p.e), rOf (wOf x).p, (wOf x).m1.e), ((wOf x).m2.e, (wOf x).c1.h), (wOf x).c2.h, (wOf x).c1.nd.e), (((wOf x).c1.ps, (wOf x).c1.cz), (wOf x).c2.nd.e, (wOf x).c2.ps), ((wOf x).c2.cz, (wOf x).c1.co.ps), (wOf x).c1.co.ss, (wOf x).c2.co.ps, (wOf x).c2.co.ss)) ((bdS (o8_eq h)).trans rfl)).trans ?_
  have hloop : ∃ r, loopO fuelN o6_b0 (encS true true ((0 : Nat) : Int) x (rOf (wOf x).p) (wOf x).p.use (wOf x)) = some r ∧ r = true := by
    refine loop_inv (n := min x.2.2.2.length 20) (Q := fun r => r = true) (fun k s => ∃ a b w, s = encS a b ((k : Nat) : Int) x (rOf (wOf x).p) w.p.use w ∧ GoodS (rOf (wOf x).p) a b w) ?_ ?_ (by omega) ?_
    · rintro k s hk ⟨a, b, w, rfl, hw⟩
      obtain ⟨a', b', q, e, g⟩ := body_S (wo := x) (k := k) (by omega) (by omega) hw
      exact ⟨_, e, a', b', q, rfl, g⟩
    · rintro s ⟨a, b, w, rfl, hw⟩
      exact ⟨true, end_S (by omega) _ _ _ _ _, rfl⟩
    · refine ⟨true, true, wOf x, rfl, wOf_ok h _ _, noTg_in, ?_, rfl⟩
      have g : ∀ a c : Int, (0 ≤ c ∧ c ≤ 9223372036854775807) → 0 ≤ landK .i64 a c ∧ landK .i64 a c ≤ 9223372036854775807 := fun a c hc => ⟨(land64 a c hc).1, by have := (land64 a c hc).2; omega⟩
      exact ⟨g _ _ (by decide), g _ _ (by decide), g _ _ (by decide), g _ _ (by decide)⟩
  obtain ⟨r, hr, rfl⟩ := hloop
  exact hr
end Go.Proofs.YtpleflcfaecojaaGreat
