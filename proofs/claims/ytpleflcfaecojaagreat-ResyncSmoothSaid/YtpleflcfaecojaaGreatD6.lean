/-
The loop of ResyncSmooth. Conditions: each lemma's own.
-/
import Derived.Test.YtpleflcfaecojaaGreatD5
import Derived.Test.YtpleflcfaecojaaGreatS7
namespace Go.Proofs.YtpleflcfaecojaaGreat
set_option linter.unusedVariables false
set_option linter.unusedSimpArgs false
set_option maxRecDepth 100000
open Go.RowKit
def okS (l t : Tg) (R : (Int × Int) × Int × Int) : Prop := o17 l.bank t.bank R.1.1 = some true ∧ o17 l.speed t.speed R.1.2 = some true ∧ o17 l.alt t.alt R.2.1 = some true ∧ o17 l.vs t.vs R.2.2 = some true
def encS (a b : Bool) (i : Int) (wo : WoT) (R : (Int × Int) × Int × Int) (l : Tg) (w : W) : Tyc40a53 ⊕ Tyb5b18c ⊕ Tybe04db ⊕ Tybe04db :=
  cond a (cond b (Sum.inl ((((i, wo), w.p.e, R), (l.e, w.m1.e), w.m2.e, w.c1.h, w.c2.h), ((w.c1.nd.e, w.c1.ps), w.c1.cz, w.c2.nd.e, w.c2.ps), (w.c2.cz, w.c1.co.ps), w.c1.co.ss, w.c2.co.ps, w.c2.co.ss)) (Sum.inr (Sum.inr (Sum.inr (((i, wo, w.p.e), R, l.e, w.m1.e), (w.m2.e, w.c1.h, w.c1.nd.e), (w.c1.ps, w.c1.cz), w.c1.co.ps, w.c1.co.ss))))) (cond b (Sum.inr (Sum.inr (Sum.inl (((i, wo, w.p.e), R, l.e, w.m1.e), (w.m2.e, w.c2.h, w.c2.nd.e), (w.c2.ps, w.c2.cz), w.c2.co.ps, w.c2.co.ss)))) (Sum.inr (Sum.inl ((i, wo, w.p.e), (R, l.e), w.m1.e, w.m2.e))))
theorem tS_335143_11 {wo : WoT} {k : Nat} (h20 : ((k : Nat) : Int) < 20) (R : (Int × Int) × Int × Int) (l : Tg) {q : W} (hs : okS l q.p.use R) : Kf335143 (Sum.inr (Sum.inr (Sum.inr ((((((k : Nat) : Int), wo), q.p.e, R, l.e), (((q.p.use.lat, q.p.use.ver, q.p.use.ph), (q.p.use.bank, q.p.use.speed), q.p.use.alt, q.p.use.vs), q.m1.e), q.m2.e, q.c1.h, q.c2.h), ((q.c1.nd.e, q.c1.ps), q.c1.cz, q.c2.nd.e, q.c2.ps), (q.c2.cz, q.c1.co.ps), q.c1.co.ss, q.c2.co.ps, q.c2.co.ss)))) = some (Ctl.go (encS true true ((k + 1 : Nat) : Int) wo R q.p.use q)) := by
  unfold Kf335143
  refine (smR _ _ _).trans ((smR _ _ _).trans ((smR _ _ _).trans (?_)))
  refine (bdS (t := ((((((k : Nat) : Int), false), wo, q.p.e, R), (l.e, ((q.p.use.lat, q.p.use.ver, q.p.use.ph), (q.p.use.bank, q.p.use.speed), q.p.use.alt, q.p.use.vs)), q.m1.e, q.m2.e, q.c1.h), ((q.c2.h, q.c1.nd.e), q.c1.ps, q.c1.cz, q.c2.nd.e), (q.c2.ps, q.c2.cz, q.c1.co.ps), q.c1.co.ss, q.c2.co.ps, q.c2.co.ss)) ?_).trans ?_
  · exact (bdS hs.1).trans ((cndF rfl).trans ((bdS hs.2.1).trans ((cndF rfl).trans ((bdS hs.2.2.1).trans ((cndF rfl).trans ((bdS hs.2.2.2).trans rfl))))))
  · refine (cndF rfl).trans ?_
    exact go_i (z := IntKind.i64.wrap (((k : Nat) : Int) + 1)) (z' := ((k + 1 : Nat) : Int)) (by rw [wr64 (by omega)]; rfl) (fun i : Int => (Sum.inl ((((i, wo), q.p.e, R), (q.p.use.e, q.m1.e), q.m2.e, q.c1.h, q.c2.h), ((q.c1.nd.e, q.c1.ps), q.c1.cz, q.c2.nd.e, q.c2.ps), (q.c2.cz, q.c1.co.ps), q.c1.co.ss, q.c2.co.ps, q.c2.co.ss)))
theorem tS_335143_10 {wo : WoT} {k : Nat} (h20 : ((k : Nat) : Int) < 20) (R : (Int × Int) × Int × Int) (l : Tg) {q : W} (hs : okS l q.p.use R) : Kf335143 (Sum.inr (Sum.inr (Sum.inl (((((k : Nat) : Int), wo, q.p.e), (R, l.e), ((q.p.use.lat, q.p.use.ver, q.p.use.ph), (q.p.use.bank, q.p.use.speed), q.p.use.alt, q.p.use.vs), q.m1.e), (q.m2.e, q.c1.h, q.c1.nd.e), (q.c1.ps, q.c1.cz), q.c1.co.ps, q.c1.co.ss)))) = some (Ctl.go (encS true false ((k + 1 : Nat) : Int) wo R q.p.use q)) := by
  unfold Kf335143
  refine (smR _ _ _).trans ((smR _ _ _).trans ((smL _ _ _).trans (?_)))
  refine (bdS (t := (((((k : Nat) : Int), false, wo), (q.p.e, R), l.e, ((q.p.use.lat, q.p.use.ver, q.p.use.ph), (q.p.use.bank, q.p.use.speed), q.p.use.alt, q.p.use.vs)), ((q.m1.e, q.m2.e), q.c1.h, q.c1.nd.e), (q.c1.ps, q.c1.cz), q.c1.co.ps, q.c1.co.ss)) ?_).trans ?_
  · exact (bdS hs.1).trans ((cndF rfl).trans ((bdS hs.2.1).trans ((cndF rfl).trans ((bdS hs.2.2.1).trans ((cndF rfl).trans ((bdS hs.2.2.2).trans rfl))))))
  · refine (cndF rfl).trans ?_
    exact go_i (z := IntKind.i64.wrap (((k : Nat) : Int) + 1)) (z' := ((k + 1 : Nat) : Int)) (by rw [wr64 (by omega)]; rfl) (fun i : Int => (Sum.inr (Sum.inr (Sum.inr (((i, wo, q.p.e), R, q.p.use.e, q.m1.e), (q.m2.e, q.c1.h, q.c1.nd.e), (q.c1.ps, q.c1.cz), q.c1.co.ps, q.c1.co.ss)))))
theorem tS_335143_01 {wo : WoT} {k : Nat} (h20 : ((k : Nat) : Int) < 20) (R : (Int × Int) × Int × Int) (l : Tg) {q : W} (hs : okS l q.p.use R) : Kf335143 (Sum.inr (Sum.inl (((((k : Nat) : Int), wo, q.p.e), (R, l.e), ((q.p.use.lat, q.p.use.ver, q.p.use.ph), (q.p.use.bank, q.p.use.speed), q.p.use.alt, q.p.use.vs), q.m1.e), (q.m2.e, q.c2.h, q.c2.nd.e), (q.c2.ps, q.c2.cz), q.c2.co.ps, q.c2.co.ss))) = some (Ctl.go (encS false true ((k + 1 : Nat) : Int) wo R q.p.use q)) := by
  unfold Kf335143
  refine (smR _ _ _).trans ((smL _ _ _).trans (?_))
  refine (bdS (t := (((((k : Nat) : Int), false, wo), (q.p.e, R), l.e, ((q.p.use.lat, q.p.use.ver, q.p.use.ph), (q.p.use.bank, q.p.use.speed), q.p.use.alt, q.p.use.vs)), ((q.m1.e, q.m2.e), q.c2.h, q.c2.nd.e), (q.c2.ps, q.c2.cz), q.c2.co.ps, q.c2.co.ss)) ?_).trans ?_
  · exact (bdS hs.1).trans ((cndF rfl).trans ((bdS hs.2.1).trans ((cndF rfl).trans ((bdS hs.2.2.1).trans ((cndF rfl).trans ((bdS hs.2.2.2).trans rfl))))))
  · refine (cndF rfl).trans ?_
    exact go_i (z := IntKind.i64.wrap (((k : Nat) : Int) + 1)) (z' := ((k + 1 : Nat) : Int)) (by rw [wr64 (by omega)]; rfl) (fun i : Int => (Sum.inr (Sum.inr (Sum.inl (((i, wo, q.p.e), R, q.p.use.e, q.m1.e), (q.m2.e, q.c2.h, q.c2.nd.e), (q.c2.ps, q.c2.cz), q.c2.co.ps, q.c2.co.ss)))))
theorem tS_335143_00 {wo : WoT} {k : Nat} (h20 : ((k : Nat) : Int) < 20) (R : (Int × Int) × Int × Int) (l : Tg) {q : W} (hs : okS l q.p.use R) : Kf335143 (Sum.inl (((((k : Nat) : Int), wo), q.p.e, R), (l.e, ((q.p.use.lat, q.p.use.ver, q.p.use.ph), (q.p.use.bank, q.p.use.speed), q.p.use.alt, q.p.use.vs)), q.m1.e, q.m2.e)) = some (Ctl.go (encS false false ((k + 1 : Nat) : Int) wo R q.p.use q)) := by
  unfold Kf335143
  refine (smL _ _ _).trans (?_)
  refine (bdS (t := (((((k : Nat) : Int), false), wo, q.p.e), (R, l.e), ((q.p.use.lat, q.p.use.ver, q.p.use.ph), (q.p.use.bank, q.p.use.speed), q.p.use.alt, q.p.use.vs), q.m1.e, q.m2.e)) ?_).trans ?_
  · exact (bdS hs.1).trans ((cndF rfl).trans ((bdS hs.2.1).trans ((cndF rfl).trans ((bdS hs.2.2.1).trans ((cndF rfl).trans ((bdS hs.2.2.2).trans rfl))))))
  · refine (cndF rfl).trans ?_
    exact go_i (z := IntKind.i64.wrap (((k : Nat) : Int) + 1)) (z' := ((k + 1 : Nat) : Int)) (by rw [wr64 (by omega)]; rfl) (fun i : Int => (Sum.inr (Sum.inl ((i, wo, q.p.e), (R, q.p.use.e), q.m1.e, q.m2.e))))
theorem tS_2f944d_11 {wo : WoT} {k : Nat} (h20 : ((k : Nat) : Int) < 20) (R : (Int × Int) × Int × Int) (l : Tg) {q : W} (hs : okS l q.p.use R) : Kf2f944d (Sum.inr (Sum.inr (Sum.inr ((((((k : Nat) : Int), wo), q.p.e, R, l.e), (((q.p.use.lat, q.p.use.ver, q.p.use.ph), (q.p.use.bank, q.p.use.speed), q.p.use.alt, q.p.use.vs), q.m1.e), q.m2.e, q.c1.h, q.c2.h), ((q.c1.nd.e, q.c1.ps), q.c1.cz, q.c2.nd.e, q.c2.ps), (q.c2.cz, q.c1.co.ps), q.c1.co.ss, q.c2.co.ps, q.c2.co.ss)))) = some (Ctl.go (encS true true ((k + 1 : Nat) : Int) wo R q.p.use q)) := by
  unfold Kf2f944d
  refine (smR _ _ _).trans ((smR _ _ _).trans ((smR _ _ _).trans (?_)))
  refine (bdS (t := ((((((k : Nat) : Int), false), wo, q.p.e, R), (l.e, ((q.p.use.lat, q.p.use.ver, q.p.use.ph), (q.p.use.bank, q.p.use.speed), q.p.use.alt, q.p.use.vs)), q.m1.e, q.m2.e, q.c1.h), ((q.c2.h, q.c1.nd.e), q.c1.ps, q.c1.cz, q.c2.nd.e), (q.c2.ps, q.c2.cz, q.c1.co.ps), q.c1.co.ss, q.c2.co.ps, q.c2.co.ss)) ?_).trans ?_
  · exact (bdS hs.1).trans ((cndF rfl).trans ((bdS hs.2.1).trans ((cndF rfl).trans ((bdS hs.2.2.1).trans ((cndF rfl).trans ((bdS hs.2.2.2).trans rfl))))))
  · refine (cndF rfl).trans ?_
    exact go_i (z := IntKind.i64.wrap (((k : Nat) : Int) + 1)) (z' := ((k + 1 : Nat) : Int)) (by rw [wr64 (by omega)]; rfl) (fun i : Int => (Sum.inl ((((i, wo), q.p.e, R), (q.p.use.e, q.m1.e), q.m2.e, q.c1.h, q.c2.h), ((q.c1.nd.e, q.c1.ps), q.c1.cz, q.c2.nd.e, q.c2.ps), (q.c2.cz, q.c1.co.ps), q.c1.co.ss, q.c2.co.ps, q.c2.co.ss)))
theorem tS_2f944d_10 {wo : WoT} {k : Nat} (h20 : ((k : Nat) : Int) < 20) (R : (Int × Int) × Int × Int) (l : Tg) {q : W} (hs : okS l q.p.use R) : Kf2f944d (Sum.inr (Sum.inl (((((k : Nat) : Int), wo, q.p.e), (R, l.e), ((q.p.use.lat, q.p.use.ver, q.p.use.ph), (q.p.use.bank, q.p.use.speed), q.p.use.alt, q.p.use.vs), q.m1.e), (q.m2.e, q.c1.h, q.c1.nd.e), (q.c1.ps, q.c1.cz), q.c1.co.ps, q.c1.co.ss))) = some (Ctl.go (encS true false ((k + 1 : Nat) : Int) wo R q.p.use q)) := by
  unfold Kf2f944d
  refine (smR _ _ _).trans ((smL _ _ _).trans (?_))
  refine (bdS (t := (((((k : Nat) : Int), false, wo), (q.p.e, R), l.e, ((q.p.use.lat, q.p.use.ver, q.p.use.ph), (q.p.use.bank, q.p.use.speed), q.p.use.alt, q.p.use.vs)), ((q.m1.e, q.m2.e), q.c1.h, q.c1.nd.e), (q.c1.ps, q.c1.cz), q.c1.co.ps, q.c1.co.ss)) ?_).trans ?_
  · exact (bdS hs.1).trans ((cndF rfl).trans ((bdS hs.2.1).trans ((cndF rfl).trans ((bdS hs.2.2.1).trans ((cndF rfl).trans ((bdS hs.2.2.2).trans rfl))))))
  · refine (cndF rfl).trans ?_
    exact go_i (z := IntKind.i64.wrap (((k : Nat) : Int) + 1)) (z' := ((k + 1 : Nat) : Int)) (by rw [wr64 (by omega)]; rfl) (fun i : Int => (Sum.inr (Sum.inr (Sum.inr (((i, wo, q.p.e), R, q.p.use.e, q.m1.e), (q.m2.e, q.c1.h, q.c1.nd.e), (q.c1.ps, q.c1.cz), q.c1.co.ps, q.c1.co.ss)))))
theorem tS_2f944d_01 {wo : WoT} {k : Nat} (h20 : ((k : Nat) : Int) < 20) (R : (Int × Int) × Int × Int) (l : Tg) {q : W} (hs : okS l q.p.use R) : Kf2f944d (Sum.inr (Sum.inr (Sum.inl (((((k : Nat) : Int), wo, q.p.e), (R, l.e), ((q.p.use.lat, q.p.use.ver, q.p.use.ph), (q.p.use.bank, q.p.use.speed), q.p.use.alt, q.p.use.vs), q.m1.e), (q.m2.e, q.c2.h, q.c2.nd.e), (q.c2.ps, q.c2.cz), q.c2.co.ps, q.c2.co.ss)))) = some (Ctl.go (encS false true ((k + 1 : Nat) : Int) wo R q.p.use q)) := by
  unfold Kf2f944d
  refine (smR _ _ _).trans ((smR _ _ _).trans ((smL _ _ _).trans (?_)))
  refine (bdS (t := (((((k : Nat) : Int), false, wo), (q.p.e, R), l.e, ((q.p.use.lat, q.p.use.ver, q.p.use.ph), (q.p.use.bank, q.p.use.speed), q.p.use.alt, q.p.use.vs)), ((q.m1.e, q.m2.e), q.c2.h, q.c2.nd.e), (q.c2.ps, q.c2.cz), q.c2.co.ps, q.c2.co.ss)) ?_).trans ?_
  · exact (bdS hs.1).trans ((cndF rfl).trans ((bdS hs.2.1).trans ((cndF rfl).trans ((bdS hs.2.2.1).trans ((cndF rfl).trans ((bdS hs.2.2.2).trans rfl))))))
  · refine (cndF rfl).trans ?_
    exact go_i (z := IntKind.i64.wrap (((k : Nat) : Int) + 1)) (z' := ((k + 1 : Nat) : Int)) (by rw [wr64 (by omega)]; rfl) (fun i : Int => (Sum.inr (Sum.inr (Sum.inl (((i, wo, q.p.e), R, q.p.use.e, q.m1.e), (q.m2.e, q.c2.h, q.c2.nd.e), (q.c2.ps, q.c2.cz), q.c2.co.ps, q.c2.co.ss)))))
theorem tS_2f944d_00 {wo : WoT} {k : Nat} (h20 : ((k : Nat) : Int) < 20) (R : (Int × Int) × Int × Int) (l : Tg) {q : W} (hs : okS l q.p.use R) : Kf2f944d (Sum.inl (((((k : Nat) : Int), wo), q.p.e, R), (l.e, ((q.p.use.lat, q.p.use.ver, q.p.use.ph), (q.p.use.bank, q.p.use.speed), q.p.use.alt, q.p.use.vs)), q.m1.e, q.m2.e)) = some (Ctl.go (encS false false ((k + 1 : Nat) : Int) wo R q.p.use q)) := by
  unfold Kf2f944d
  refine (smL _ _ _).trans (?_)
  refine (bdS (t := (((((k : Nat) : Int), false), wo, q.p.e), (R, l.e), ((q.p.use.lat, q.p.use.ver, q.p.use.ph), (q.p.use.bank, q.p.use.speed), q.p.use.alt, q.p.use.vs), q.m1.e, q.m2.e)) ?_).trans ?_
  · exact (bdS hs.1).trans ((cndF rfl).trans ((bdS hs.2.1).trans ((cndF rfl).trans ((bdS hs.2.2.1).trans ((cndF rfl).trans ((bdS hs.2.2.2).trans rfl))))))
  · refine (cndF rfl).trans ?_
    exact go_i (z := IntKind.i64.wrap (((k : Nat) : Int) + 1)) (z' := ((k + 1 : Nat) : Int)) (by rw [wr64 (by omega)]; rfl) (fun i : Int => (Sum.inr (Sum.inl ((i, wo, q.p.e), (R, q.p.use.e), q.m1.e, q.m2.e))))
theorem bS_11 {wo : WoT} {k : Nat} (hk : ((k : Nat) : Int) < ((wo.2.2.2.length : Nat) : Int)) (h20 : ((k : Nat) : Int) < 20) (R : (Int × Int) × Int × Int) (l : Tg) {w q : W} (h : w.ok true true) (hq : cycW true true w.p w.m1 w.m2 w.c1 w.c2 (evOf (wo.2.2.2.getD k noCy)) ((wo.2.2.2.getD k noCy).1.take 20) ((wo.2.2.2.getD k noCy).2.1.take 20) = q) (hs : okS l q.p.use R) :
    o6_b0 (Sum.inl ((((((k : Nat) : Int), wo), w.p.e, R), (l.e, w.m1.e), w.m2.e, w.c1.h, w.c2.h), ((w.c1.nd.e, w.c1.ps), w.c1.cz, w.c2.nd.e, w.c2.ps), (w.c2.cz, w.c1.co.ps), w.c1.co.ss, w.c2.co.ps, w.c2.co.ss)) = some (Ctl.go (encS (evA true (evOf (wo.2.2.2.getD k noCy)).s1 (evOf (wo.2.2.2.getD k noCy)).r1) (evA true (evOf (wo.2.2.2.getD k noCy)).s2 (evOf (wo.2.2.2.getD k noCy)).r2) ((k + 1 : Nat) : Int) wo R q.p.use q)) := by
  unfold o6_b0
  refine (smL _ _ _).trans (?_)
  refine (bdS (t := ((((((k : Nat) : Int), decide (((k : Nat) : Int) < 20)), wo, w.p.e, R), (l.e, w.m1.e), w.m2.e, w.c1.h, w.c2.h), ((w.c1.nd.e, w.c1.ps), w.c1.cz, w.c2.nd.e, w.c2.ps), (w.c2.cz, w.c1.co.ps), w.c1.co.ss, w.c2.co.ps, w.c2.co.ss)) ?_).trans ?_
  · exact (cndT (dt hk)).trans rfl
  refine (cndT (dt h20)).trans ((gdT (dt ⟨Int.natCast_nonneg k, hk⟩)).trans ?_)
  refine (bdS (t := cond (evA true (evOf (wo.2.2.2.getD k noCy)).s1 (evOf (wo.2.2.2.getD k noCy)).r1) (cond (evA true (evOf (wo.2.2.2.getD k noCy)).s2 (evOf (wo.2.2.2.getD k noCy)).r2) (Sum.inr (Sum.inr (Sum.inr ((((((k : Nat) : Int), wo), q.p.e, R, l.e), (((q.p.use.lat, q.p.use.ver, q.p.use.ph), (q.p.use.bank, q.p.use.speed), q.p.use.alt, q.p.use.vs), q.m1.e), q.m2.e, q.c1.h, q.c2.h), ((q.c1.nd.e, q.c1.ps), q.c1.cz, q.c2.nd.e, q.c2.ps), (q.c2.cz, q.c1.co.ps), q.c1.co.ss, q.c2.co.ps, q.c2.co.ss)))) (Sum.inr (Sum.inr (Sum.inl (((((k : Nat) : Int), wo, q.p.e), (R, l.e), ((q.p.use.lat, q.p.use.ver, q.p.use.ph), (q.p.use.bank, q.p.use.speed), q.p.use.alt, q.p.use.vs), q.m1.e), (q.m2.e, q.c1.h, q.c1.nd.e), (q.c1.ps, q.c1.cz), q.c1.co.ps, q.c1.co.ss))))) (cond (evA true (evOf (wo.2.2.2.getD k noCy)).s2 (evOf (wo.2.2.2.getD k noCy)).r2) (Sum.inr (Sum.inl (((((k : Nat) : Int), wo, q.p.e), (R, l.e), ((q.p.use.lat, q.p.use.ver, q.p.use.ph), (q.p.use.bank, q.p.use.speed), q.p.use.alt, q.p.use.vs), q.m1.e), (q.m2.e, q.c2.h, q.c2.nd.e), (q.c2.ps, q.c2.cz), q.c2.co.ps, q.c2.co.ss))) (Sum.inl (((((k : Nat) : Int), wo), q.p.e, R), (l.e, ((q.p.use.lat, q.p.use.ver, q.p.use.ph), (q.p.use.bank, q.p.use.speed), q.p.use.alt, q.p.use.vs)), q.m1.e, q.m2.e)))) ?_).trans ?_
  · refine (bdS (o10_eq _ 20)).trans ((bdS (o10_eq _ 20)).trans ((bdS (o9_eq h.init h.p1 h.p2 (h.c1 rfl) (h.c2 rfl) (evOf (wo.2.2.2.getD k noCy)) ((wo.2.2.2.getD k noCy).1.take 20) ((wo.2.2.2.getD k noCy).2.1.take 20))).trans ?_))
    rw [hq]
    cases (evA true (evOf (wo.2.2.2.getD k noCy)).s1 (evOf (wo.2.2.2.getD k noCy)).r1) <;> cases (evA true (evOf (wo.2.2.2.getD k noCy)).s2 (evOf (wo.2.2.2.getD k noCy)).r2) <;> rfl
  cases (evA true (evOf (wo.2.2.2.getD k noCy)).s1 (evOf (wo.2.2.2.getD k noCy)).r1) with
  | true =>
    cases (evA true (evOf (wo.2.2.2.getD k noCy)).s2 (evOf (wo.2.2.2.getD k noCy)).r2) with
    | true => exact tS_335143_11 h20 R l hs
    | false => exact tS_335143_10 h20 R l hs
  | false =>
    cases (evA true (evOf (wo.2.2.2.getD k noCy)).s2 (evOf (wo.2.2.2.getD k noCy)).r2) with
    | true => exact tS_335143_01 h20 R l hs
    | false => exact tS_335143_00 h20 R l hs
theorem eS_11 {wo : WoT} {k : Nat} (hk : ¬ (((k : Nat) : Int) < ((wo.2.2.2.length : Nat) : Int) ∧ ((k : Nat) : Int) < 20)) (R : (Int × Int) × Int × Int) (l : Tg) {w : W} : o6_b0 (Sum.inl ((((((k : Nat) : Int), wo), w.p.e, R), (l.e, w.m1.e), w.m2.e, w.c1.h, w.c2.h), ((w.c1.nd.e, w.c1.ps), w.c1.cz, w.c2.nd.e, w.c2.ps), (w.c2.cz, w.c1.co.ps), w.c1.co.ss, w.c2.co.ps, w.c2.co.ss)) = some (Ctl.done true) := by
  unfold o6_b0
  refine (smL _ _ _).trans (?_)
  refine (bdS (t := ((((((k : Nat) : Int), false), wo, w.p.e, R), (l.e, w.m1.e), w.m2.e, w.c1.h, w.c2.h), ((w.c1.nd.e, w.c1.ps), w.c1.cz, w.c2.nd.e, w.c2.ps), (w.c2.cz, w.c1.co.ps), w.c1.co.ss, w.c2.co.ps, w.c2.co.ss)) ?_).trans ((cndF rfl).trans (dnS _))
  by_cases h1 : ((k : Nat) : Int) < ((wo.2.2.2.length : Nat) : Int)
  · refine (cndT (dt h1)).trans ?_
    exact congrArg (fun z : Bool => some ((((((k : Nat) : Int), z), wo, w.p.e, R), (l.e, w.m1.e), w.m2.e, w.c1.h, w.c2.h), ((w.c1.nd.e, w.c1.ps), w.c1.cz, w.c2.nd.e, w.c2.ps), (w.c2.cz, w.c1.co.ps), w.c1.co.ss, w.c2.co.ps, w.c2.co.ss)) (df (fun h2 => hk ⟨h1, h2⟩))
  · exact (cndF (df h1)).trans rfl
theorem bS_00 {wo : WoT} {k : Nat} (hk : ((k : Nat) : Int) < ((wo.2.2.2.length : Nat) : Int)) (h20 : ((k : Nat) : Int) < 20) (R : (Int × Int) × Int × Int) (l : Tg) {w q : W} (h : w.ok false false) (hq : cycW false false w.p w.m1 w.m2 w.c1 w.c2 (evOf (wo.2.2.2.getD k noCy)) ((wo.2.2.2.getD k noCy).1.take 20) ((wo.2.2.2.getD k noCy).2.1.take 20) = q) (hs : okS l q.p.use R) :
    o6_b0 (Sum.inr (Sum.inl ((((k : Nat) : Int), wo, w.p.e), (R, l.e), w.m1.e, w.m2.e))) = some (Ctl.go (encS (evA false (evOf (wo.2.2.2.getD k noCy)).s1 (evOf (wo.2.2.2.getD k noCy)).r1) (evA false (evOf (wo.2.2.2.getD k noCy)).s2 (evOf (wo.2.2.2.getD k noCy)).r2) ((k + 1 : Nat) : Int) wo R q.p.use q)) := by
  unfold o6_b0
  refine (smR _ _ _).trans ((smL _ _ _).trans (?_))
  refine (bdS (t := (((((k : Nat) : Int), decide (((k : Nat) : Int) < 20)), wo, w.p.e), (R, l.e), w.m1.e, w.m2.e)) ?_).trans ?_
  · exact (cndT (dt hk)).trans rfl
  refine (cndT (dt h20)).trans ((gdT (dt ⟨Int.natCast_nonneg k, hk⟩)).trans ?_)
  refine (bdS (t := cond (evA false (evOf (wo.2.2.2.getD k noCy)).s1 (evOf (wo.2.2.2.getD k noCy)).r1) (cond (evA false (evOf (wo.2.2.2.getD k noCy)).s2 (evOf (wo.2.2.2.getD k noCy)).r2) (Sum.inr (Sum.inr (Sum.inr ((((((k : Nat) : Int), wo), q.p.e, R, l.e), (((q.p.use.lat, q.p.use.ver, q.p.use.ph), (q.p.use.bank, q.p.use.speed), q.p.use.alt, q.p.use.vs), q.m1.e), q.m2.e, q.c1.h, q.c2.h), ((q.c1.nd.e, q.c1.ps), q.c1.cz, q.c2.nd.e, q.c2.ps), (q.c2.cz, q.c1.co.ps), q.c1.co.ss, q.c2.co.ps, q.c2.co.ss)))) (Sum.inr (Sum.inr (Sum.inl (((((k : Nat) : Int), wo, q.p.e), (R, l.e), ((q.p.use.lat, q.p.use.ver, q.p.use.ph), (q.p.use.bank, q.p.use.speed), q.p.use.alt, q.p.use.vs), q.m1.e), (q.m2.e, q.c1.h, q.c1.nd.e), (q.c1.ps, q.c1.cz), q.c1.co.ps, q.c1.co.ss))))) (cond (evA false (evOf (wo.2.2.2.getD k noCy)).s2 (evOf (wo.2.2.2.getD k noCy)).r2) (Sum.inr (Sum.inl (((((k : Nat) : Int), wo, q.p.e), (R, l.e), ((q.p.use.lat, q.p.use.ver, q.p.use.ph), (q.p.use.bank, q.p.use.speed), q.p.use.alt, q.p.use.vs), q.m1.e), (q.m2.e, q.c2.h, q.c2.nd.e), (q.c2.ps, q.c2.cz), q.c2.co.ps, q.c2.co.ss))) (Sum.inl (((((k : Nat) : Int), wo), q.p.e, R), (l.e, ((q.p.use.lat, q.p.use.ver, q.p.use.ph), (q.p.use.bank, q.p.use.speed), q.p.use.alt, q.p.use.vs)), q.m1.e, q.m2.e)))) ?_).trans ?_
  · refine (bdS (o10_eq _ 20)).trans ((bdS (o10_eq _ 20)).trans ((bdS (o9v1_eq (c1 := w.c1) (c2 := w.c2) h.init h.p1 h.p2 (evOf (wo.2.2.2.getD k noCy)) ((wo.2.2.2.getD k noCy).1.take 20) ((wo.2.2.2.getD k noCy).2.1.take 20))).trans ?_))
    rw [hq]
    cases (evA false (evOf (wo.2.2.2.getD k noCy)).s1 (evOf (wo.2.2.2.getD k noCy)).r1) <;> cases (evA false (evOf (wo.2.2.2.getD k noCy)).s2 (evOf (wo.2.2.2.getD k noCy)).r2) <;> rfl
  cases (evA false (evOf (wo.2.2.2.getD k noCy)).s1 (evOf (wo.2.2.2.getD k noCy)).r1) with
  | true =>
    cases (evA false (evOf (wo.2.2.2.getD k noCy)).s2 (evOf (wo.2.2.2.getD k noCy)).r2) with
    | true => exact tS_335143_11 h20 R l hs
    | false => exact tS_335143_10 h20 R l hs
  | false =>
    cases (evA false (evOf (wo.2.2.2.getD k noCy)).s2 (evOf (wo.2.2.2.getD k noCy)).r2) with
    | true => exact tS_335143_01 h20 R l hs
    | false => exact tS_335143_00 h20 R l hs
theorem eS_00 {wo : WoT} {k : Nat} (hk : ¬ (((k : Nat) : Int) < ((wo.2.2.2.length : Nat) : Int) ∧ ((k : Nat) : Int) < 20)) (R : (Int × Int) × Int × Int) (l : Tg) {w : W} : o6_b0 (Sum.inr (Sum.inl ((((k : Nat) : Int), wo, w.p.e), (R, l.e), w.m1.e, w.m2.e))) = some (Ctl.done true) := by
  unfold o6_b0
  refine (smR _ _ _).trans ((smL _ _ _).trans (?_))
  refine (bdS (t := (((((k : Nat) : Int), false), wo, w.p.e), (R, l.e), w.m1.e, w.m2.e)) ?_).trans ((cndF rfl).trans (dnS _))
  by_cases h1 : ((k : Nat) : Int) < ((wo.2.2.2.length : Nat) : Int)
  · refine (cndT (dt h1)).trans ?_
    exact congrArg (fun z : Bool => some (((((k : Nat) : Int), z), wo, w.p.e), (R, l.e), w.m1.e, w.m2.e)) (df (fun h2 => hk ⟨h1, h2⟩))
  · exact (cndF (df h1)).trans rfl
theorem bS_01 {wo : WoT} {k : Nat} (hk : ((k : Nat) : Int) < ((wo.2.2.2.length : Nat) : Int)) (h20 : ((k : Nat) : Int) < 20) (R : (Int × Int) × Int × Int) (l : Tg) {w q : W} (h : w.ok false true) (hq : cycW false true w.p w.m1 w.m2 w.c1 w.c2 (evOf (wo.2.2.2.getD k noCy)) ((wo.2.2.2.getD k noCy).1.take 20) ((wo.2.2.2.getD k noCy).2.1.take 20) = q) (hs : okS l q.p.use R) :
    o6_b0 (Sum.inr (Sum.inr (Sum.inl (((((k : Nat) : Int), wo, w.p.e), R, l.e, w.m1.e), (w.m2.e, w.c2.h, w.c2.nd.e), (w.c2.ps, w.c2.cz), w.c2.co.ps, w.c2.co.ss)))) = some (Ctl.go (encS (evA false (evOf (wo.2.2.2.getD k noCy)).s1 (evOf (wo.2.2.2.getD k noCy)).r1) (evA true (evOf (wo.2.2.2.getD k noCy)).s2 (evOf (wo.2.2.2.getD k noCy)).r2) ((k + 1 : Nat) : Int) wo R q.p.use q)) := by
  unfold o6_b0
  refine (smR _ _ _).trans ((smR _ _ _).trans ((smL _ _ _).trans (?_)))
  refine (bdS (t := (((((k : Nat) : Int), decide (((k : Nat) : Int) < 20), wo), (w.p.e, R), l.e, w.m1.e), (w.m2.e, w.c2.h, w.c2.nd.e), (w.c2.ps, w.c2.cz), w.c2.co.ps, w.c2.co.ss)) ?_).trans ?_
  · exact (cndT (dt hk)).trans rfl
  refine (cndT (dt h20)).trans ((gdT (dt ⟨Int.natCast_nonneg k, hk⟩)).trans ?_)
  refine (bdS (t := cond (evA false (evOf (wo.2.2.2.getD k noCy)).s1 (evOf (wo.2.2.2.getD k noCy)).r1) (cond (evA true (evOf (wo.2.2.2.getD k noCy)).s2 (evOf (wo.2.2.2.getD k noCy)).r2) (Sum.inr (Sum.inr (Sum.inr ((((((k : Nat) : Int), wo), q.p.e, R, l.e), (((q.p.use.lat, q.p.use.ver, q.p.use.ph), (q.p.use.bank, q.p.use.speed), q.p.use.alt, q.p.use.vs), q.m1.e), q.m2.e, q.c1.h, q.c2.h), ((q.c1.nd.e, q.c1.ps), q.c1.cz, q.c2.nd.e, q.c2.ps), (q.c2.cz, q.c1.co.ps), q.c1.co.ss, q.c2.co.ps, q.c2.co.ss)))) (Sum.inr (Sum.inl (((((k : Nat) : Int), wo, q.p.e), (R, l.e), ((q.p.use.lat, q.p.use.ver, q.p.use.ph), (q.p.use.bank, q.p.use.speed), q.p.use.alt, q.p.use.vs), q.m1.e), (q.m2.e, q.c1.h, q.c1.nd.e), (q.c1.ps, q.c1.cz), q.c1.co.ps, q.c1.co.ss)))) (cond (evA true (evOf (wo.2.2.2.getD k noCy)).s2 (evOf (wo.2.2.2.getD k noCy)).r2) (Sum.inr (Sum.inr (Sum.inl (((((k : Nat) : Int), wo, q.p.e), (R, l.e), ((q.p.use.lat, q.p.use.ver, q.p.use.ph), (q.p.use.bank, q.p.use.speed), q.p.use.alt, q.p.use.vs), q.m1.e), (q.m2.e, q.c2.h, q.c2.nd.e), (q.c2.ps, q.c2.cz), q.c2.co.ps, q.c2.co.ss)))) (Sum.inl (((((k : Nat) : Int), wo), q.p.e, R), (l.e, ((q.p.use.lat, q.p.use.ver, q.p.use.ph), (q.p.use.bank, q.p.use.speed), q.p.use.alt, q.p.use.vs)), q.m1.e, q.m2.e)))) ?_).trans ?_
  · refine (bdS (o10_eq _ 20)).trans ((bdS (o10_eq _ 20)).trans ((bdS (o9v2_eq (c1 := w.c1) h.init h.p1 h.p2 (h.c2 rfl) (evOf (wo.2.2.2.getD k noCy)) ((wo.2.2.2.getD k noCy).1.take 20) ((wo.2.2.2.getD k noCy).2.1.take 20))).trans ?_))
    rw [hq]
    cases (evA false (evOf (wo.2.2.2.getD k noCy)).s1 (evOf (wo.2.2.2.getD k noCy)).r1) <;> cases (evA true (evOf (wo.2.2.2.getD k noCy)).s2 (evOf (wo.2.2.2.getD k noCy)).r2) <;> rfl
  cases (evA false (evOf (wo.2.2.2.getD k noCy)).s1 (evOf (wo.2.2.2.getD k noCy)).r1) with
  | true =>
    cases (evA true (evOf (wo.2.2.2.getD k noCy)).s2 (evOf (wo.2.2.2.getD k noCy)).r2) with
    | true => exact tS_2f944d_11 h20 R l hs
    | false => exact tS_2f944d_10 h20 R l hs
  | false =>
    cases (evA true (evOf (wo.2.2.2.getD k noCy)).s2 (evOf (wo.2.2.2.getD k noCy)).r2) with
    | true => exact tS_2f944d_01 h20 R l hs
    | false => exact tS_2f944d_00 h20 R l hs
theorem eS_01 {wo : WoT} {k : Nat} (hk : ¬ (((k : Nat) : Int) < ((wo.2.2.2.length : Nat) : Int) ∧ ((k : Nat) : Int) < 20)) (R : (Int × Int) × Int × Int) (l : Tg) {w : W} : o6_b0 (Sum.inr (Sum.inr (Sum.inl (((((k : Nat) : Int), wo, w.p.e), R, l.e, w.m1.e), (w.m2.e, w.c2.h, w.c2.nd.e), (w.c2.ps, w.c2.cz), w.c2.co.ps, w.c2.co.ss)))) = some (Ctl.done true) := by
  unfold o6_b0
  refine (smR _ _ _).trans ((smR _ _ _).trans ((smL _ _ _).trans (?_)))
  refine (bdS (t := (((((k : Nat) : Int), false, wo), (w.p.e, R), l.e, w.m1.e), (w.m2.e, w.c2.h, w.c2.nd.e), (w.c2.ps, w.c2.cz), w.c2.co.ps, w.c2.co.ss)) ?_).trans ((cndF rfl).trans (dnS _))
  by_cases h1 : ((k : Nat) : Int) < ((wo.2.2.2.length : Nat) : Int)
  · refine (cndT (dt h1)).trans ?_
    exact congrArg (fun z : Bool => some (((((k : Nat) : Int), z, wo), (w.p.e, R), l.e, w.m1.e), (w.m2.e, w.c2.h, w.c2.nd.e), (w.c2.ps, w.c2.cz), w.c2.co.ps, w.c2.co.ss)) (df (fun h2 => hk ⟨h1, h2⟩))
  · exact (cndF (df h1)).trans rfl
theorem bS_10 {wo : WoT} {k : Nat} (hk : ((k : Nat) : Int) < ((wo.2.2.2.length : Nat) : Int)) (h20 : ((k : Nat) : Int) < 20) (R : (Int × Int) × Int × Int) (l : Tg) {w q : W} (h : w.ok true false) (hq : cycW true false w.p w.m1 w.m2 w.c1 w.c2 (evOf (wo.2.2.2.getD k noCy)) ((wo.2.2.2.getD k noCy).1.take 20) ((wo.2.2.2.getD k noCy).2.1.take 20) = q) (hs : okS l q.p.use R) :
    o6_b0 (Sum.inr (Sum.inr (Sum.inr (((((k : Nat) : Int), wo, w.p.e), R, l.e, w.m1.e), (w.m2.e, w.c1.h, w.c1.nd.e), (w.c1.ps, w.c1.cz), w.c1.co.ps, w.c1.co.ss)))) = some (Ctl.go (encS (evA true (evOf (wo.2.2.2.getD k noCy)).s1 (evOf (wo.2.2.2.getD k noCy)).r1) (evA false (evOf (wo.2.2.2.getD k noCy)).s2 (evOf (wo.2.2.2.getD k noCy)).r2) ((k + 1 : Nat) : Int) wo R q.p.use q)) := by
  unfold o6_b0
  refine (smR _ _ _).trans ((smR _ _ _).trans ((smR _ _ _).trans (?_)))
  refine (bdS (t := (((((k : Nat) : Int), decide (((k : Nat) : Int) < 20), wo), (w.p.e, R), l.e, w.m1.e), (w.m2.e, w.c1.h, w.c1.nd.e), (w.c1.ps, w.c1.cz), w.c1.co.ps, w.c1.co.ss)) ?_).trans ?_
  · exact (cndT (dt hk)).trans rfl
  refine (cndT (dt h20)).trans ((gdT (dt ⟨Int.natCast_nonneg k, hk⟩)).trans ?_)
  refine (bdS (t := cond (evA true (evOf (wo.2.2.2.getD k noCy)).s1 (evOf (wo.2.2.2.getD k noCy)).r1) (cond (evA false (evOf (wo.2.2.2.getD k noCy)).s2 (evOf (wo.2.2.2.getD k noCy)).r2) (Sum.inr (Sum.inr (Sum.inr ((((((k : Nat) : Int), wo), q.p.e, R, l.e), (((q.p.use.lat, q.p.use.ver, q.p.use.ph), (q.p.use.bank, q.p.use.speed), q.p.use.alt, q.p.use.vs), q.m1.e), q.m2.e, q.c1.h, q.c2.h), ((q.c1.nd.e, q.c1.ps), q.c1.cz, q.c2.nd.e, q.c2.ps), (q.c2.cz, q.c1.co.ps), q.c1.co.ss, q.c2.co.ps, q.c2.co.ss)))) (Sum.inr (Sum.inl (((((k : Nat) : Int), wo, q.p.e), (R, l.e), ((q.p.use.lat, q.p.use.ver, q.p.use.ph), (q.p.use.bank, q.p.use.speed), q.p.use.alt, q.p.use.vs), q.m1.e), (q.m2.e, q.c1.h, q.c1.nd.e), (q.c1.ps, q.c1.cz), q.c1.co.ps, q.c1.co.ss)))) (cond (evA false (evOf (wo.2.2.2.getD k noCy)).s2 (evOf (wo.2.2.2.getD k noCy)).r2) (Sum.inr (Sum.inr (Sum.inl (((((k : Nat) : Int), wo, q.p.e), (R, l.e), ((q.p.use.lat, q.p.use.ver, q.p.use.ph), (q.p.use.bank, q.p.use.speed), q.p.use.alt, q.p.use.vs), q.m1.e), (q.m2.e, q.c2.h, q.c2.nd.e), (q.c2.ps, q.c2.cz), q.c2.co.ps, q.c2.co.ss)))) (Sum.inl (((((k : Nat) : Int), wo), q.p.e, R), (l.e, ((q.p.use.lat, q.p.use.ver, q.p.use.ph), (q.p.use.bank, q.p.use.speed), q.p.use.alt, q.p.use.vs)), q.m1.e, q.m2.e)))) ?_).trans ?_
  · refine (bdS (o10_eq _ 20)).trans ((bdS (o10_eq _ 20)).trans ((bdS (o9v3_eq (c2 := w.c2) h.init h.p1 h.p2 (h.c1 rfl) (evOf (wo.2.2.2.getD k noCy)) ((wo.2.2.2.getD k noCy).1.take 20) ((wo.2.2.2.getD k noCy).2.1.take 20))).trans ?_))
    rw [hq]
    cases (evA true (evOf (wo.2.2.2.getD k noCy)).s1 (evOf (wo.2.2.2.getD k noCy)).r1) <;> cases (evA false (evOf (wo.2.2.2.getD k noCy)).s2 (evOf (wo.2.2.2.getD k noCy)).r2) <;> rfl
  cases (evA true (evOf (wo.2.2.2.getD k noCy)).s1 (evOf (wo.2.2.2.getD k noCy)).r1) with
  | true =>
    cases (evA false (evOf (wo.2.2.2.getD k noCy)).s2 (evOf (wo.2.2.2.getD k noCy)).r2) with
    | true => exact tS_2f944d_11 h20 R l hs
    | false => exact tS_2f944d_10 h20 R l hs
  | false =>
    cases (evA false (evOf (wo.2.2.2.getD k noCy)).s2 (evOf (wo.2.2.2.getD k noCy)).r2) with
    | true => exact tS_2f944d_01 h20 R l hs
    | false => exact tS_2f944d_00 h20 R l hs
theorem eS_10 {wo : WoT} {k : Nat} (hk : ¬ (((k : Nat) : Int) < ((wo.2.2.2.length : Nat) : Int) ∧ ((k : Nat) : Int) < 20)) (R : (Int × Int) × Int × Int) (l : Tg) {w : W} : o6_b0 (Sum.inr (Sum.inr (Sum.inr (((((k : Nat) : Int), wo, w.p.e), R, l.e, w.m1.e), (w.m2.e, w.c1.h, w.c1.nd.e), (w.c1.ps, w.c1.cz), w.c1.co.ps, w.c1.co.ss)))) = some (Ctl.done true) := by
  unfold o6_b0
  refine (smR _ _ _).trans ((smR _ _ _).trans ((smR _ _ _).trans (?_)))
  refine (bdS (t := (((((k : Nat) : Int), false, wo), (w.p.e, R), l.e, w.m1.e), (w.m2.e, w.c1.h, w.c1.nd.e), (w.c1.ps, w.c1.cz), w.c1.co.ps, w.c1.co.ss)) ?_).trans ((cndF rfl).trans (dnS _))
  by_cases h1 : ((k : Nat) : Int) < ((wo.2.2.2.length : Nat) : Int)
  · refine (cndT (dt h1)).trans ?_
    exact congrArg (fun z : Bool => some (((((k : Nat) : Int), z, wo), (w.p.e, R), l.e, w.m1.e), (w.m2.e, w.c1.h, w.c1.nd.e), (w.c1.ps, w.c1.cz), w.c1.co.ps, w.c1.co.ss)) (df (fun h2 => hk ⟨h1, h2⟩))
  · exact (cndF (df h1)).trans rfl
end Go.Proofs.YtpleflcfaecojaaGreat
