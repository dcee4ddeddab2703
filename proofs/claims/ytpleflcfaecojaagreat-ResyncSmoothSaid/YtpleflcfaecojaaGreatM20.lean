/-
A cycle of a pair. Conditions: each lemma's own.
-/
import Derived.Test.YtpleflcfaecojaaGreatM19
namespace Go.Proofs.YtpleflcfaecojaaGreat
set_option linter.unusedVariables false
set_option linter.unusedSimpArgs false
set_option maxRecDepth 100000
open Go.RowKit
theorem select_012 (a b : Int) : select a b = 0 ∨ select a b = 1 ∨ select a b = 2 := by
  unfold select
  exact cond_p (P := fun z : Int => z = 0 ∨ z = 1 ∨ z = 2) (.inr (.inl rfl)) (cond_p (P := fun z : Int => z = 0 ∨ z = 1 ∨ z = 2) (.inr (.inr rfl)) (.inl rfl))
theorem fin_eq {α : Type} (s : Int) (hs : s = 0 ∨ s = 1 ∨ s = 2) (u t1 t2 : Tg) (r1 r2 r3 r4 : Int) (G : (Int × Int × Int) × (Int × Int) × Int × Int → α) :
    cnd (s != 0) (bd (sm (isZ (IntKind.i64.wrap (s - 1)) 0) (fun _ => bd (o19 u.e t1.e ((r1, r2), r3, r4)) (fun z => some (G z))) (fun _ => sm (isZ (IntKind.i64.wrap (s - 1)) 1) (fun _ => bd (o19 u.e t2.e ((r1, r2), r3, r4)) (fun z => some (G z))) (fun _ => none))) (fun v => some v)) (some (G u.e)) = some (G (cond (s != 0) (limit u (cond (s == 1) t1 t2) r1 r2 r3 r4) u).e) := by
  rcases hs with rfl | rfl | rfl
  · rfl
  · refine (cndT rfl).trans ((bdS (t := G (limit u t1 r1 r2 r3 r4).e) ?_).trans rfl)
    exact bdS (o19_eq u t1 r1 r2 r3 r4)
  · refine (cndT rfl).trans ((bdS (t := G (limit u t2 r1 r2 r3 r4).e) ?_).trans rfl)
    exact bdS (o19_eq u t2 r1 r2 r3 r4)
def wN (w : W) (v : Ev) (one two : List UInt8) : W := ((((((((w.ex0 false false v one two).hear false false).ex1 false false v).step false false v).ex2 false false v).judge false false).ex3 false false v).take false false).node false false
def evA (a s r : Bool) : Bool := (a && !s) || r
def evK (a s k : Bool) (c : Cp) (n : Int) : Cp := cond k (cond (a && !s) c (newCp n)).drop (cond (a && !s) c (newCp n))
theorem evK_ok {a s k : Bool} {c : Cp} {n : Int} (hn : n = 1 ∨ n = 2) (h : a = true → c.ok) : (evK a s k c n).ok := by
  have h1 : (cond (a && !s) c (newCp n)).ok := cond_pT (P := Cp.ok) (fun e => h (by simp at e; exact e.1)) fun _ => newCp_ok hn
  unfold evK
  exact cond_p (P := Cp.ok) (drop_ok h1) h1
def start (p : Pr) (m1 m2 : Mc) (c1 c2 : Cp) : W := ⟨{ p with cycle := IntKind.i64.wrap (p.cycle + 1) }, m1, m2, c1, c2, ⟨IntKind.i64.wrap (p.cycle + 1), 0, 0, 1, 1, 0, 0, noTg, noTg, 0, noTg⟩, noFrm, noFrm, false, false, false, false⟩
theorem start_ok {p : Pr} {m1 m2 : Mc} {c1 c2 : Cp} (hi : p.init.length ≤ 1000000) (p1 : 0 ≤ m1.pad ∧ m1.pad ≤ 10000) (p2 : 0 ≤ m2.pad ∧ m2.pad ≤ 10000) (h1 : c1.ok) (h2 : c2.ok) (a b : Bool) : (start p m1 m2 c1 c2).ok a b :=
  ⟨hi, p1, p2, fun _ => h1, fun _ => h2, Nat.zero_le _, Nat.zero_le _⟩
def cycW (a b : Bool) (p : Pr) (m1 m2 : Mc) (c1 c2 : Cp) (v : Ev) (one two : List UInt8) : W := (start p m1 m2 (evK a v.s1 v.k1 c1 1) (evK b v.s2 v.k2 c2 2)).all (evA a v.s1 v.r1) (evA b v.s2 v.r2) v one two
def resB (w : W) := ((((((((w.r.cycle, w.r.role1, w.r.role2), (w.r.st1, w.r.st2), w.r.steps1, w.r.steps2), (w.r.t1.lat, w.r.t1.ver, w.r.t1.ph), (w.r.t1.bank, w.r.t1.speed), w.r.t1.alt, w.r.t1.vs), ((w.r.t2.lat, w.r.t2.ver, w.r.t2.ph), (w.r.t2.bank, w.r.t2.speed), w.r.t2.alt, w.r.t2.vs), ((w.r.src, w.p.use.lat), (w.p.use.ver, w.p.use.ph)), ((w.p.use.bank, w.p.use.speed), w.p.use.alt, w.p.use.vs)), w.p.e), w.m1.e, w.m2.e), (w.c1.h, w.c2.h), w.c1.nd.e, w.c1.ps), ((w.c1.cz, w.c2.nd.e), w.c2.ps, w.c2.cz), (w.c1.co.ps, w.c1.co.ss), w.c2.co.ps, w.c2.co.ss)
theorem both_eq {w : W} (h0 : w.ok true true) (v : Ev) (one two : List UInt8) : Kf2df04a ((((one, two), w.p.e, w.m1.e, w.m2.e), (v.e, (zTg, ((0 : Int), (0 : Int), (0 : Int)), ((0 : Int), (0 : Int)), (0 : Int), (0 : Int)), zTg, (((0 : Int), (0 : Int)), (0 : Int), (0 : Int)), ((0 : Int), (0 : Int)), (0 : Int), (0 : Int)), w.r.e, w.c1.h, w.c2.h), ((w.c1.nd.e, w.c1.ps), w.c1.cz, w.c2.nd.e, w.c2.ps), (w.c2.cz, w.c1.co.ps), w.c1.co.ss, w.c2.co.ps, w.c2.co.ss) = some (Sum.inr (Sum.inr (Sum.inr (resB (w.all true true v one two))))) := by
  unfold Kf2df04a
  have h1 := ex0_ok h0 (v := v) (one := one) (two := two)
  refine (bdS (o23v4_eq h0 v one two)).trans ?_
  have h2 := whear_ok h1
  refine (bdS (o26v5_eq h1)).trans ?_
  have h3 := ex1_ok h2 (v := v)
  refine (bdS (o23v5_eq h2 v)).trans ?_
  have h4 := wstep_ok h3 (v := v)
  refine (bdS (o26v6_eq h3 v)).trans ?_
  have h5 := ex2_ok h4 (v := v)
  refine (bdS (o23v6_eq h4 v)).trans ?_
  have h6 := wjudge_ok h5
  refine (bdS (o26v7_eq h5)).trans ?_
  have h7 := ex3_ok h6 (v := v)
  refine (bdS (o23v7_eq h6 v)).trans ?_
  have h8 := wtake_ok h7
  refine (bdS (o26v8_eq h7)).trans ?_
  have h9 := wnode_ok h8
  refine (bdS (o26v9_eq h8)).trans ?_
  generalize hq : (((((((((w.ex0 true true v one two).hear true true).ex1 true true v).step true true v).ex2 true true v).judge true true).ex3 true true v).take true true).node true true) = q
  have hall : w.all true true v one two = q.fin := by rw [← hq]; rfl
  rw [hall]
  refine (bdS (o20_eq q.r.st1 q.r.st2)).trans ?_
  exact (bdS (fin_eq (select q.r.st1 q.r.st2) (select_012 _ _) q.p.use q.r.t1 q.r.t2 q.p.r1 q.p.r2 q.p.r3 q.p.r4 (fun z : (Int × Int × Int) × (Int × Int) × Int × Int => (((((((q.p.init, q.p.r1, q.p.r2), q.p.r3, q.p.r4, q.p.cycle), z), q.m1.e), q.m2.e, (zTg, ((0 : Int), (0 : Int), (0 : Int)), ((0 : Int), (0 : Int)), (0 : Int), (0 : Int)), zTg, (((0 : Int), (0 : Int)), (0 : Int), (0 : Int)), ((0 : Int), (0 : Int)), (0 : Int), (0 : Int)), (((((q.r.cycle, q.r.role1, q.r.role2), (q.r.st1, q.r.st2), q.r.steps1, q.r.steps2), (q.r.t1.lat, q.r.t1.ver, q.r.t1.ph), (q.r.t1.bank, q.r.t1.speed), q.r.t1.alt, q.r.t1.vs), ((q.r.t2.lat, q.r.t2.ver, q.r.t2.ph), (q.r.t2.bank, q.r.t2.speed), q.r.t2.alt, q.r.t2.vs), ((select q.r.st1 q.r.st2, q.r.use.lat), (q.r.use.ver, q.r.use.ph)), ((q.r.use.bank, q.r.use.speed), q.r.use.alt, q.r.use.vs)), q.c1.h), q.c2.h, q.c1.nd.e), ((q.c1.ps, q.c1.cz), q.c2.nd.e, q.c2.ps), (q.c2.cz, q.c1.co.ps), q.c1.co.ss, q.c2.co.ps, q.c2.co.ss)))).trans rfl
def resO (w : W) := (((((((w.r.cycle, w.r.role1, w.r.role2), (w.r.st1, w.r.st2), w.r.steps1, w.r.steps2), (w.r.t1.lat, w.r.t1.ver, w.r.t1.ph), (w.r.t1.bank, w.r.t1.speed), w.r.t1.alt, w.r.t1.vs), ((w.r.t2.lat, w.r.t2.ver, w.r.t2.ph), (w.r.t2.bank, w.r.t2.speed), w.r.t2.alt, w.r.t2.vs), ((w.r.src, w.p.use.lat), (w.p.use.ver, w.p.use.ph)), ((w.p.use.bank, w.p.use.speed), w.p.use.alt, w.p.use.vs)), w.p.e), w.m1.e, w.m2.e, w.c1.h), (w.c1.nd.e, w.c1.ps), w.c1.cz, w.c1.co.ps, w.c1.co.ss)
theorem one_eq {w : W} (h0 : w.ok true false) (v : Ev) (one two : List UInt8) : Kfbc15fe (((one, two, w.p.e), (w.m1.e, w.m2.e), v.e, (zTg, ((0 : Int), (0 : Int), (0 : Int)), ((0 : Int), (0 : Int)), (0 : Int), (0 : Int)), zTg, (((0 : Int), (0 : Int)), (0 : Int), (0 : Int)), ((0 : Int), (0 : Int)), (0 : Int), (0 : Int)), (w.r.e, w.c1.h, w.c1.nd.e), (w.c1.ps, w.c1.cz), w.c1.co.ps, w.c1.co.ss) = some (Sum.inr (Sum.inr (Sum.inl (resO (w.all true false v one two))))) := by
  unfold Kfbc15fe
  have h1 := ex0_ok h0 (v := v) (one := one) (two := two)
  refine (bdS (o23_eq h0 v one two)).trans ?_
  have h2 := whear_ok h1
  refine (bdS (o26_eq h1)).trans ?_
  have h3 := ex1_ok h2 (v := v)
  refine (bdS (o23v1_eq h2 v)).trans ?_
  have h4 := wstep_ok h3 (v := v)
  refine (bdS (o26v1_eq h3 v)).trans ?_
  have h5 := ex2_ok h4 (v := v)
  refine (bdS (o23v2_eq h4 v)).trans ?_
  have h6 := wjudge_ok h5
  refine (bdS (o26v2_eq h5)).trans ?_
  have h7 := ex3_ok h6 (v := v)
  refine (bdS (o23v3_eq h6 v)).trans ?_
  have h8 := wtake_ok h7
  refine (bdS (o26v3_eq h7)).trans ?_
  have h9 := wnode_ok h8
  refine (bdS (o26v4_eq h8)).trans ?_
  generalize hq : (((((((((w.ex0 true false v one two).hear true false).ex1 true false v).step true false v).ex2 true false v).judge true false).ex3 true false v).take true false).node true false) = q
  have hall : w.all true false v one two = q.fin := by rw [← hq]; rfl
  rw [hall]
  refine (bdS (o20_eq q.r.st1 q.r.st2)).trans ?_
  exact (bdS (fin_eq (select q.r.st1 q.r.st2) (select_012 _ _) q.p.use q.r.t1 q.r.t2 q.p.r1 q.p.r2 q.p.r3 q.p.r4 (fun z : (Int × Int × Int) × (Int × Int) × Int × Int => ((((((q.p.init, q.p.r1, q.p.r2), q.p.r3, q.p.r4, q.p.cycle), z), q.m1.e), q.m2.e, ((zTg, ((0 : Int), (0 : Int), (0 : Int)), ((0 : Int), (0 : Int)), (0 : Int), (0 : Int)), zTg, (((0 : Int), (0 : Int)), (0 : Int), (0 : Int)), ((0 : Int), (0 : Int)), (0 : Int), (0 : Int)), (((q.r.cycle, q.r.role1, q.r.role2), (q.r.st1, q.r.st2), q.r.steps1, q.r.steps2), (q.r.t1.lat, q.r.t1.ver, q.r.t1.ph), (q.r.t1.bank, q.r.t1.speed), q.r.t1.alt, q.r.t1.vs), ((q.r.t2.lat, q.r.t2.ver, q.r.t2.ph), (q.r.t2.bank, q.r.t2.speed), q.r.t2.alt, q.r.t2.vs), ((select q.r.st1 q.r.st2, q.r.use.lat), (q.r.use.ver, q.r.use.ph)), ((q.r.use.bank, q.r.use.speed), q.r.use.alt, q.r.use.vs)), (q.c1.h, q.c1.nd.e, q.c1.ps), q.c1.cz, q.c1.co.ps, q.c1.co.ss)))).trans rfl
def resT (w : W) := (((((((w.r.cycle, w.r.role1, w.r.role2), (w.r.st1, w.r.st2), w.r.steps1, w.r.steps2), (w.r.t1.lat, w.r.t1.ver, w.r.t1.ph), (w.r.t1.bank, w.r.t1.speed), w.r.t1.alt, w.r.t1.vs), ((w.r.t2.lat, w.r.t2.ver, w.r.t2.ph), (w.r.t2.bank, w.r.t2.speed), w.r.t2.alt, w.r.t2.vs), ((w.r.src, w.p.use.lat), (w.p.use.ver, w.p.use.ph)), ((w.p.use.bank, w.p.use.speed), w.p.use.alt, w.p.use.vs)), w.p.e), w.m1.e, w.m2.e, w.c2.h), (w.c2.nd.e, w.c2.ps), w.c2.cz, w.c2.co.ps, w.c2.co.ss)
theorem two_eq {w : W} (h0 : w.ok false true) (v : Ev) (one two : List UInt8) : Kf6424da (Sum.inr (((one, two, w.p.e), (w.m1.e, w.m2.e), v.e, (zTg, ((0 : Int), (0 : Int), (0 : Int)), ((0 : Int), (0 : Int)), (0 : Int), (0 : Int)), zTg, (((0 : Int), (0 : Int)), (0 : Int), (0 : Int)), ((0 : Int), (0 : Int)), (0 : Int), (0 : Int)), (w.r.e, w.c2.h, w.c2.nd.e), (w.c2.ps, w.c2.cz), w.c2.co.ps, w.c2.co.ss)) = some (Sum.inr (Sum.inl (resT (w.all false true v one two)))) := by
  unfold Kf6424da
  have h1 := ex0_ok h0 (v := v) (one := one) (two := two)
  refine (bdS (o23v12_eq h0 v one two)).trans ?_
  have h2 := whear_ok h1
  refine (bdS (o26v15_eq h1)).trans ?_
  have h3 := ex1_ok h2 (v := v)
  refine (bdS (o23v13_eq h2 v)).trans ?_
  have h4 := wstep_ok h3 (v := v)
  refine (bdS (o26v16_eq h3 v)).trans ?_
  have h5 := ex2_ok h4 (v := v)
  refine (bdS (o23v14_eq h4 v)).trans ?_
  have h6 := wjudge_ok h5
  refine (bdS (o26v17_eq h5)).trans ?_
  have h7 := ex3_ok h6 (v := v)
  refine (bdS (o23v15_eq h6 v)).trans ?_
  have h8 := wtake_ok h7
  refine (bdS (o26v18_eq h7)).trans ?_
  have h9 := wnode_ok h8
  refine (bdS (o26v19_eq h8)).trans ?_
  generalize hq : (((((((((w.ex0 false true v one two).hear false true).ex1 false true v).step false true v).ex2 false true v).judge false true).ex3 false true v).take false true).node false true) = q
  have hall : w.all false true v one two = q.fin := by rw [← hq]; rfl
  rw [hall]
  refine (bdS (o20_eq q.r.st1 q.r.st2)).trans ?_
  exact (bdS (fin_eq (select q.r.st1 q.r.st2) (select_012 _ _) q.p.use q.r.t1 q.r.t2 q.p.r1 q.p.r2 q.p.r3 q.p.r4 (fun z : (Int × Int × Int) × (Int × Int) × Int × Int => ((((((q.p.init, q.p.r1, q.p.r2), q.p.r3, q.p.r4, q.p.cycle), z), q.m1.e), q.m2.e, ((zTg, ((0 : Int), (0 : Int), (0 : Int)), ((0 : Int), (0 : Int)), (0 : Int), (0 : Int)), zTg, (((0 : Int), (0 : Int)), (0 : Int), (0 : Int)), ((0 : Int), (0 : Int)), (0 : Int), (0 : Int)), (((q.r.cycle, q.r.role1, q.r.role2), (q.r.st1, q.r.st2), q.r.steps1, q.r.steps2), (q.r.t1.lat, q.r.t1.ver, q.r.t1.ph), (q.r.t1.bank, q.r.t1.speed), q.r.t1.alt, q.r.t1.vs), ((q.r.t2.lat, q.r.t2.ver, q.r.t2.ph), (q.r.t2.bank, q.r.t2.speed), q.r.t2.alt, q.r.t2.vs), ((select q.r.st1 q.r.st2, q.r.use.lat), (q.r.use.ver, q.r.use.ph)), ((q.r.use.bank, q.r.use.speed), q.r.use.alt, q.r.use.vs)), (q.c2.h, q.c2.nd.e, q.c2.ps), q.c2.cz, q.c2.co.ps, q.c2.co.ss)))).trans rfl
def resN (w : W) := ((((((w.r.cycle, w.r.role1, w.r.role2), (w.r.st1, w.r.st2), w.r.steps1, w.r.steps2), (w.r.t1.lat, w.r.t1.ver, w.r.t1.ph), (w.r.t1.bank, w.r.t1.speed), w.r.t1.alt, w.r.t1.vs), ((w.r.t2.lat, w.r.t2.ver, w.r.t2.ph), (w.r.t2.bank, w.r.t2.speed), w.r.t2.alt, w.r.t2.vs), ((w.r.src, w.p.use.lat), (w.p.use.ver, w.p.use.ph)), ((w.p.use.bank, w.p.use.speed), w.p.use.alt, w.p.use.vs)), w.p.e), w.m1.e, w.m2.e)
theorem none_eq {w : W} (h0 : w.ok false false) (v : Ev) (one two : List UInt8) : Kf6424da (Sum.inl (((one, two), w.p.e, w.m1.e), (w.m2.e, v.e), ((zTg, ((0 : Int), (0 : Int), (0 : Int)), ((0 : Int), (0 : Int)), (0 : Int), (0 : Int)), zTg, (((0 : Int), (0 : Int)), (0 : Int), (0 : Int)), ((0 : Int), (0 : Int)), (0 : Int), (0 : Int)), w.r.e)) = some (Sum.inl (resN (w.all false false v one two))) := by
  unfold Kf6424da
  refine (bdS rfl).trans ?_
  refine (bdS rfl).trans ?_
  refine (bdS rfl).trans ?_
  refine (bdS rfl).trans ?_
  refine (bdS rfl).trans ?_
  refine (bdS rfl).trans ?_
  refine (bdS rfl).trans ?_
  refine (bdS rfl).trans ?_
  refine (bdS rfl).trans ?_
  refine (bdS (o20_eq (wN w v one two).r.st1 (wN w v one two).r.st2)).trans ?_
  exact (bdS (fin_eq (select (wN w v one two).r.st1 (wN w v one two).r.st2) (select_012 _ _) (wN w v one two).p.use (wN w v one two).r.t1 (wN w v one two).r.t2 (wN w v one two).p.r1 (wN w v one two).p.r2 (wN w v one two).p.r3 (wN w v one two).p.r4 (fun z : (Int × Int × Int) × (Int × Int) × Int × Int => ((((((wN w v one two).p.init, (wN w v one two).p.r1, (wN w v one two).p.r2), (wN w v one two).p.r3, (wN w v one two).p.r4, (wN w v one two).p.cycle), z), (wN w v one two).m1.e), (wN w v one two).m2.e, ((zTg, ((0 : Int), (0 : Int), (0 : Int)), ((0 : Int), (0 : Int)), (0 : Int), (0 : Int)), zTg, (((0 : Int), (0 : Int)), (0 : Int), (0 : Int)), ((0 : Int), (0 : Int)), (0 : Int), (0 : Int)), ((((wN w v one two).r.cycle, (wN w v one two).r.role1, (wN w v one two).r.role2), ((wN w v one two).r.st1, (wN w v one two).r.st2), (wN w v one two).r.steps1, (wN w v one two).r.steps2), ((wN w v one two).r.t1.lat, (wN w v one two).r.t1.ver, (wN w v one two).r.t1.ph), ((wN w v one two).r.t1.bank, (wN w v one two).r.t1.speed), (wN w v one two).r.t1.alt, (wN w v one two).r.t1.vs), (((wN w v one two).r.t2.lat, (wN w v one two).r.t2.ver, (wN w v one two).r.t2.ph), ((wN w v one two).r.t2.bank, (wN w v one two).r.t2.speed), (wN w v one two).r.t2.alt, (wN w v one two).r.t2.vs), ((select (wN w v one two).r.st1 (wN w v one two).r.st2, (wN w v one two).r.use.lat), ((wN w v one two).r.use.ver, (wN w v one two).r.use.ph)), (((wN w v one two).r.use.bank, (wN w v one two).r.use.speed), (wN w v one two).r.use.alt, (wN w v one two).r.use.vs))))).trans rfl
theorem both'_eq {w : W} (h0 : w.ok true true) (v : Ev) (one two : List UInt8) : Kf01cad3 (Sum.inr ((((one, two), w.p.e, w.m1.e, w.m2.e), (v.e, (zTg, ((0 : Int), (0 : Int), (0 : Int)), ((0 : Int), (0 : Int)), (0 : Int), (0 : Int)), zTg, (((0 : Int), (0 : Int)), (0 : Int), (0 : Int)), ((0 : Int), (0 : Int)), (0 : Int), (0 : Int)), w.r.e, w.c1.h, w.c2.h), ((w.c1.nd.e, w.c1.ps), w.c1.cz, w.c2.nd.e, w.c2.ps), (w.c2.cz, w.c1.co.ps), w.c1.co.ss, w.c2.co.ps, w.c2.co.ss)) = some (Sum.inr (Sum.inr (Sum.inr (resB (w.all true true v one two))))) := by
  unfold Kf01cad3
  have h1 := ex0_ok h0 (v := v) (one := one) (two := two)
  refine (bdS (o23v4_eq h0 v one two)).trans ?_
  have h2 := whear_ok h1
  refine (bdS (o26v5_eq h1)).trans ?_
  have h3 := ex1_ok h2 (v := v)
  refine (bdS (o23v5_eq h2 v)).trans ?_
  have h4 := wstep_ok h3 (v := v)
  refine (bdS (o26v6_eq h3 v)).trans ?_
  have h5 := ex2_ok h4 (v := v)
  refine (bdS (o23v6_eq h4 v)).trans ?_
  have h6 := wjudge_ok h5
  refine (bdS (o26v7_eq h5)).trans ?_
  have h7 := ex3_ok h6 (v := v)
  refine (bdS (o23v7_eq h6 v)).trans ?_
  have h8 := wtake_ok h7
  refine (bdS (o26v8_eq h7)).trans ?_
  have h9 := wnode_ok h8
  refine (bdS (o26v9_eq h8)).trans ?_
  generalize hq : (((((((((w.ex0 true true v one two).hear true true).ex1 true true v).step true true v).ex2 true true v).judge true true).ex3 true true v).take true true).node true true) = q
  have hall : w.all true true v one two = q.fin := by rw [← hq]; rfl
  rw [hall]
  refine (bdS (o20_eq q.r.st1 q.r.st2)).trans ?_
  exact (bdS (fin_eq (select q.r.st1 q.r.st2) (select_012 _ _) q.p.use q.r.t1 q.r.t2 q.p.r1 q.p.r2 q.p.r3 q.p.r4 (fun z : (Int × Int × Int) × (Int × Int) × Int × Int => (((((((q.p.init, q.p.r1, q.p.r2), q.p.r3, q.p.r4, q.p.cycle), z), q.m1.e), q.m2.e, (zTg, ((0 : Int), (0 : Int), (0 : Int)), ((0 : Int), (0 : Int)), (0 : Int), (0 : Int)), zTg, (((0 : Int), (0 : Int)), (0 : Int), (0 : Int)), ((0 : Int), (0 : Int)), (0 : Int), (0 : Int)), (((((q.r.cycle, q.r.role1, q.r.role2), (q.r.st1, q.r.st2), q.r.steps1, q.r.steps2), (q.r.t1.lat, q.r.t1.ver, q.r.t1.ph), (q.r.t1.bank, q.r.t1.speed), q.r.t1.alt, q.r.t1.vs), ((q.r.t2.lat, q.r.t2.ver, q.r.t2.ph), (q.r.t2.bank, q.r.t2.speed), q.r.t2.alt, q.r.t2.vs), ((select q.r.st1 q.r.st2, q.r.use.lat), (q.r.use.ver, q.r.use.ph)), ((q.r.use.bank, q.r.use.speed), q.r.use.alt, q.r.use.vs)), q.c1.h), q.c2.h, q.c1.nd.e), ((q.c1.ps, q.c1.cz), q.c2.nd.e, q.c2.ps), (q.c2.cz, q.c1.co.ps), q.c1.co.ss, q.c2.co.ps, q.c2.co.ss)))).trans rfl
theorem one'_eq {w : W} (h0 : w.ok true false) (v : Ev) (one two : List UInt8) : Kf01cad3 (Sum.inl (((one, two, w.p.e), (w.m1.e, w.m2.e), v.e, (zTg, ((0 : Int), (0 : Int), (0 : Int)), ((0 : Int), (0 : Int)), (0 : Int), (0 : Int)), zTg, (((0 : Int), (0 : Int)), (0 : Int), (0 : Int)), ((0 : Int), (0 : Int)), (0 : Int), (0 : Int)), (w.r.e, w.c1.h, w.c1.nd.e), (w.c1.ps, w.c1.cz), w.c1.co.ps, w.c1.co.ss)) = some (Sum.inr (Sum.inl (resO (w.all true false v one two)))) := by
  unfold Kf01cad3
  have h1 := ex0_ok h0 (v := v) (one := one) (two := two)
  refine (bdS (o23_eq h0 v one two)).trans ?_
  have h2 := whear_ok h1
  refine (bdS (o26_eq h1)).trans ?_
  have h3 := ex1_ok h2 (v := v)
  refine (bdS (o23v1_eq h2 v)).trans ?_
  have h4 := wstep_ok h3 (v := v)
  refine (bdS (o26v1_eq h3 v)).trans ?_
  have h5 := ex2_ok h4 (v := v)
  refine (bdS (o23v2_eq h4 v)).trans ?_
  have h6 := wjudge_ok h5
  refine (bdS (o26v2_eq h5)).trans ?_
  have h7 := ex3_ok h6 (v := v)
  refine (bdS (o23v3_eq h6 v)).trans ?_
  have h8 := wtake_ok h7
  refine (bdS (o26v3_eq h7)).trans ?_
  have h9 := wnode_ok h8
  refine (bdS (o26v4_eq h8)).trans ?_
  generalize hq : (((((((((w.ex0 true false v one two).hear true false).ex1 true false v).step true false v).ex2 true false v).judge true false).ex3 true false v).take true false).node true false) = q
  have hall : w.all true false v one two = q.fin := by rw [← hq]; rfl
  rw [hall]
  refine (bdS (o20_eq q.r.st1 q.r.st2)).trans ?_
  exact (bdS (fin_eq (select q.r.st1 q.r.st2) (select_012 _ _) q.p.use q.r.t1 q.r.t2 q.p.r1 q.p.r2 q.p.r3 q.p.r4 (fun z : (Int × Int × Int) × (Int × Int) × Int × Int => ((((((q.p.init, q.p.r1, q.p.r2), q.p.r3, q.p.r4, q.p.cycle), z), q.m1.e), q.m2.e, ((zTg, ((0 : Int), (0 : Int), (0 : Int)), ((0 : Int), (0 : Int)), (0 : Int), (0 : Int)), zTg, (((0 : Int), (0 : Int)), (0 : Int), (0 : Int)), ((0 : Int), (0 : Int)), (0 : Int), (0 : Int)), (((q.r.cycle, q.r.role1, q.r.role2), (q.r.st1, q.r.st2), q.r.steps1, q.r.steps2), (q.r.t1.lat, q.r.t1.ver, q.r.t1.ph), (q.r.t1.bank, q.r.t1.speed), q.r.t1.alt, q.r.t1.vs), ((q.r.t2.lat, q.r.t2.ver, q.r.t2.ph), (q.r.t2.bank, q.r.t2.speed), q.r.t2.alt, q.r.t2.vs), ((select q.r.st1 q.r.st2, q.r.use.lat), (q.r.use.ver, q.r.use.ph)), ((q.r.use.bank, q.r.use.speed), q.r.use.alt, q.r.use.vs)), (q.c1.h, q.c1.nd.e, q.c1.ps), q.c1.cz, q.c1.co.ps, q.c1.co.ss)))).trans rfl
theorem two'_eq {w : W} (h0 : w.ok false true) (v : Ev) (one two : List UInt8) : Kf52c69d (Sum.inr (((one, two, w.p.e), (w.m1.e, w.m2.e), v.e, (zTg, ((0 : Int), (0 : Int), (0 : Int)), ((0 : Int), (0 : Int)), (0 : Int), (0 : Int)), zTg, (((0 : Int), (0 : Int)), (0 : Int), (0 : Int)), ((0 : Int), (0 : Int)), (0 : Int), (0 : Int)), (w.r.e, w.c2.h, w.c2.nd.e), (w.c2.ps, w.c2.cz), w.c2.co.ps, w.c2.co.ss)) = some (Sum.inr (Sum.inr (Sum.inl (resT (w.all false true v one two))))) := by
  unfold Kf52c69d
  have h1 := ex0_ok h0 (v := v) (one := one) (two := two)
  refine (bdS (o23v12_eq h0 v one two)).trans ?_
  have h2 := whear_ok h1
  refine (bdS (o26v15_eq h1)).trans ?_
  have h3 := ex1_ok h2 (v := v)
  refine (bdS (o23v13_eq h2 v)).trans ?_
  have h4 := wstep_ok h3 (v := v)
  refine (bdS (o26v16_eq h3 v)).trans ?_
  have h5 := ex2_ok h4 (v := v)
  refine (bdS (o23v14_eq h4 v)).trans ?_
  have h6 := wjudge_ok h5
  refine (bdS (o26v17_eq h5)).trans ?_
  have h7 := ex3_ok h6 (v := v)
  refine (bdS (o23v15_eq h6 v)).trans ?_
  have h8 := wtake_ok h7
  refine (bdS (o26v18_eq h7)).trans ?_
  have h9 := wnode_ok h8
  refine (bdS (o26v19_eq h8)).trans ?_
  generalize hq : (((((((((w.ex0 false true v one two).hear false true).ex1 false true v).step false true v).ex2 false true v).judge false true).ex3 false true v).take false true).node false true) = q
  have hall : w.all false true v one two = q.fin := by rw [← hq]; rfl
  rw [hall]
  refine (bdS (o20_eq q.r.st1 q.r.st2)).trans ?_
  exact (bdS (fin_eq (select q.r.st1 q.r.st2) (select_012 _ _) q.p.use q.r.t1 q.r.t2 q.p.r1 q.p.r2 q.p.r3 q.p.r4 (fun z : (Int × Int × Int) × (Int × Int) × Int × Int => ((((((q.p.init, q.p.r1, q.p.r2), q.p.r3, q.p.r4, q.p.cycle), z), q.m1.e), q.m2.e, ((zTg, ((0 : Int), (0 : Int), (0 : Int)), ((0 : Int), (0 : Int)), (0 : Int), (0 : Int)), zTg, (((0 : Int), (0 : Int)), (0 : Int), (0 : Int)), ((0 : Int), (0 : Int)), (0 : Int), (0 : Int)), (((q.r.cycle, q.r.role1, q.r.role2), (q.r.st1, q.r.st2), q.r.steps1, q.r.steps2), (q.r.t1.lat, q.r.t1.ver, q.r.t1.ph), (q.r.t1.bank, q.r.t1.speed), q.r.t1.alt, q.r.t1.vs), ((q.r.t2.lat, q.r.t2.ver, q.r.t2.ph), (q.r.t2.bank, q.r.t2.speed), q.r.t2.alt, q.r.t2.vs), ((select q.r.st1 q.r.st2, q.r.use.lat), (q.r.use.ver, q.r.use.ph)), ((q.r.use.bank, q.r.use.speed), q.r.use.alt, q.r.use.vs)), (q.c2.h, q.c2.nd.e, q.c2.ps), q.c2.cz, q.c2.co.ps, q.c2.co.ss)))).trans rfl
theorem none'_eq {w : W} (h0 : w.ok false false) (v : Ev) (one two : List UInt8) : Kf52c69d (Sum.inl (((one, two), w.p.e, w.m1.e), (w.m2.e, v.e), ((zTg, ((0 : Int), (0 : Int), (0 : Int)), ((0 : Int), (0 : Int)), (0 : Int), (0 : Int)), zTg, (((0 : Int), (0 : Int)), (0 : Int), (0 : Int)), ((0 : Int), (0 : Int)), (0 : Int), (0 : Int)), w.r.e)) = some (Sum.inl (resN (w.all false false v one two))) := by
  unfold Kf52c69d
  refine (bdS rfl).trans ?_
  refine (bdS rfl).trans ?_
  refine (bdS rfl).trans ?_
  refine (bdS rfl).trans ?_
  refine (bdS rfl).trans ?_
  refine (bdS rfl).trans ?_
  refine (bdS rfl).trans ?_
  refine (bdS rfl).trans ?_
  refine (bdS rfl).trans ?_
  refine (bdS (o20_eq (wN w v one two).r.st1 (wN w v one two).r.st2)).trans ?_
  exact (bdS (fin_eq (select (wN w v one two).r.st1 (wN w v one two).r.st2) (select_012 _ _) (wN w v one two).p.use (wN w v one two).r.t1 (wN w v one two).r.t2 (wN w v one two).p.r1 (wN w v one two).p.r2 (wN w v one two).p.r3 (wN w v one two).p.r4 (fun z : (Int × Int × Int) × (Int × Int) × Int × Int => ((((((wN w v one two).p.init, (wN w v one two).p.r1, (wN w v one two).p.r2), (wN w v one two).p.r3, (wN w v one two).p.r4, (wN w v one two).p.cycle), z), (wN w v one two).m1.e), (wN w v one two).m2.e, ((zTg, ((0 : Int), (0 : Int), (0 : Int)), ((0 : Int), (0 : Int)), (0 : Int), (0 : Int)), zTg, (((0 : Int), (0 : Int)), (0 : Int), (0 : Int)), ((0 : Int), (0 : Int)), (0 : Int), (0 : Int)), ((((wN w v one two).r.cycle, (wN w v one two).r.role1, (wN w v one two).r.role2), ((wN w v one two).r.st1, (wN w v one two).r.st2), (wN w v one two).r.steps1, (wN w v one two).r.steps2), ((wN w v one two).r.t1.lat, (wN w v one two).r.t1.ver, (wN w v one two).r.t1.ph), ((wN w v one two).r.t1.bank, (wN w v one two).r.t1.speed), (wN w v one two).r.t1.alt, (wN w v one two).r.t1.vs), (((wN w v one two).r.t2.lat, (wN w v one two).r.t2.ver, (wN w v one two).r.t2.ph), ((wN w v one two).r.t2.bank, (wN w v one two).r.t2.speed), (wN w v one two).r.t2.alt, (wN w v one two).r.t2.vs), ((select (wN w v one two).r.st1 (wN w v one two).r.st2, (wN w v one two).r.use.lat), ((wN w v one two).r.use.ver, (wN w v one two).r.use.ph)), (((wN w v one two).r.use.bank, (wN w v one two).r.use.speed), (wN w v one two).r.use.alt, (wN w v one two).r.use.vs))))).trans rfl
def ro9 (a b : Bool) (w : W) : (((Ty87c277 × Tyf90a5e) × (Int × Int × Int) × Int × Int × Int) ⊕ Tye6a7c0 ⊕ Tye6a7c0 ⊕ Ty5f320a) := cond a (cond b (Sum.inr (Sum.inr (Sum.inr (resB w)))) (Sum.inr (Sum.inr (Sum.inl (resO w))))) (cond b (Sum.inr (Sum.inl (resT w))) (Sum.inl (resN w)))
def ro9v1 (a b : Bool) (w : W) : (((Ty87c277 × Tyf90a5e) × (Int × Int × Int) × Int × Int × Int) ⊕ Tye6a7c0 ⊕ Tye6a7c0 ⊕ Ty5f320a) := cond a (cond b (Sum.inr (Sum.inr (Sum.inr (resB w)))) (Sum.inr (Sum.inr (Sum.inl (resO w))))) (cond b (Sum.inr (Sum.inl (resT w))) (Sum.inl (resN w)))
def ro9v2 (a b : Bool) (w : W) : (((Ty87c277 × Tyf90a5e) × (Int × Int × Int) × Int × Int × Int) ⊕ Tye6a7c0 ⊕ Tye6a7c0 ⊕ Ty5f320a) := cond a (cond b (Sum.inr (Sum.inr (Sum.inr (resB w)))) (Sum.inr (Sum.inl (resO w)))) (cond b (Sum.inr (Sum.inr (Sum.inl (resT w)))) (Sum.inl (resN w)))
def ro9v3 (a b : Bool) (w : W) : (((Ty87c277 × Tyf90a5e) × (Int × Int × Int) × Int × Int × Int) ⊕ Tye6a7c0 ⊕ Tye6a7c0 ⊕ Ty5f320a) := cond a (cond b (Sum.inr (Sum.inr (Sum.inr (resB w)))) (Sum.inr (Sum.inl (resO w)))) (cond b (Sum.inr (Sum.inr (Sum.inl (resT w)))) (Sum.inl (resN w)))
theorem o9_eq {p : Pr} {m1 m2 : Mc} {c1 c2 : Cp} (hi : p.init.length ≤ 1000000) (p1 : 0 ≤ m1.pad ∧ m1.pad ≤ 10000) (p2 : 0 ≤ m2.pad ∧ m2.pad ≤ 10000) (h1 : c1.ok) (h2 : c2.ok) (v : Ev) (one two : List UInt8) :
    o9 one two v.e p.e m1.e m2.e c1.h c1.nd.e c1.ps c1.cz c1.co.ps c1.co.ss c2.h c2.nd.e c2.ps c2.cz c2.co.ps c2.co.ss = some (ro9 (evA true v.s1 v.r1) (evA true v.s2 v.r2) (cycW true true p m1 m2 c1 c2 v one two)) := by
  unfold o9 cycW
  have hst := start_ok hi p1 p2 (evK_ok (a := true) (s := v.s1) (k := v.k1) (c := c1) (n := 1) (.inl rfl) (fun _ => h1)) (evK_ok (a := true) (s := v.s2) (k := v.k2) (c := c2) (n := 2) (.inr rfl) (fun _ => h2))
  refine (bdS (t := cond (evA true v.s1 v.r1) (Sum.inl ((((one, two), (start p m1 m2 (evK true v.s1 v.k1 c1 1) c2).p.e, (start p m1 m2 (evK true v.s1 v.k1 c1 1) c2).m1.e, (start p m1 m2 (evK true v.s1 v.k1 c1 1) c2).m2.e), ((start p m1 m2 (evK true v.s1 v.k1 c1 1) c2).c2.h, (start p m1 m2 (evK true v.s1 v.k1 c1 1) c2).c2.nd.e), (start p m1 m2 (evK true v.s1 v.k1 c1 1) c2).c2.ps, (start p m1 m2 (evK true v.s1 v.k1 c1 1) c2).c2.cz, (start p m1 m2 (evK true v.s1 v.k1 c1 1) c2).c2.co.ps), (((start p m1 m2 (evK true v.s1 v.k1 c1 1) c2).c2.co.ss, v.e), ((zTg, ((0 : Int), (0 : Int), (0 : Int)), ((0 : Int), (0 : Int)), (0 : Int), (0 : Int)), zTg, (((0 : Int), (0 : Int)), (0 : Int), (0 : Int)), ((0 : Int), (0 : Int)), (0 : Int), (0 : Int)), (start p m1 m2 (evK true v.s1 v.k1 c1 1) c2).r.e, (start p m1 m2 (evK true v.s1 v.k1 c1 1) c2).c1.h), ((start p m1 m2 (evK true v.s1 v.k1 c1 1) c2).c1.nd.e, (start p m1 m2 (evK true v.s1 v.k1 c1 1) c2).c1.ps), (start p m1 m2 (evK true v.s1 v.k1 c1 1) c2).c1.cz, (start p m1 m2 (evK true v.s1 v.k1 c1 1) c2).c1.co.ps, (start p m1 m2 (evK true v.s1 v.k1 c1 1) c2).c1.co.ss)) (Sum.inr (((one, two, (start p m1 m2 (evK true v.s1 v.k1 c1 1) c2).p.e), ((start p m1 m2 (evK true v.s1 v.k1 c1 1) c2).m1.e, (start p m1 m2 (evK true v.s1 v.k1 c1 1) c2).m2.e), (start p m1 m2 (evK true v.s1 v.k1 c1 1) c2).c2.h, (start p m1 m2 (evK true v.s1 v.k1 c1 1) c2).c2.nd.e), ((start p m1 m2 (evK true v.s1 v.k1 c1 1) c2).c2.ps, (start p m1 m2 (evK true v.s1 v.k1 c1 1) c2).c2.cz, (start p m1 m2 (evK true v.s1 v.k1 c1 1) c2).c2.co.ps), ((start p m1 m2 (evK true v.s1 v.k1 c1 1) c2).c2.co.ss, v.e), ((zTg, ((0 : Int), (0 : Int), (0 : Int)), ((0 : Int), (0 : Int)), (0 : Int), (0 : Int)), zTg, (((0 : Int), (0 : Int)), (0 : Int), (0 : Int)), ((0 : Int), (0 : Int)), (0 : Int), (0 : Int)), (start p m1 m2 (evK true v.s1 v.k1 c1 1) c2).r.e))) ?_).trans ?_
  · obtain ⟨s1, s2, r1, r2, k1, k2, w1, w2, f10, f11, f12, f13, f20, f21, f22, f23⟩ := v; cases s1 <;> cases r1 <;> cases k1 <;> rfl
  cases evA true v.s1 v.r1 with
  | true =>
    refine (bdS (t := cond (evA true v.s2 v.r2) (Sum.inr ((((one, two), (start p m1 m2 (evK true v.s1 v.k1 c1 1) (evK true v.s2 v.k2 c2 2)).p.e, (start p m1 m2 (evK true v.s1 v.k1 c1 1) (evK true v.s2 v.k2 c2 2)).m1.e, (start p m1 m2 (evK true v.s1 v.k1 c1 1) (evK true v.s2 v.k2 c2 2)).m2.e), (v.e, (zTg, ((0 : Int), (0 : Int), (0 : Int)), ((0 : Int), (0 : Int)), (0 : Int), (0 : Int)), zTg, (((0 : Int), (0 : Int)), (0 : Int), (0 : Int)), ((0 : Int), (0 : Int)), (0 : Int), (0 : Int)), (start p m1 m2 (evK true v.s1 v.k1 c1 1) (evK true v.s2 v.k2 c2 2)).r.e, (start p m1 m2 (evK true v.s1 v.k1 c1 1) (evK true v.s2 v.k2 c2 2)).c1.h, (start p m1 m2 (evK true v.s1 v.k1 c1 1) (evK true v.s2 v.k2 c2 2)).c2.h), (((start p m1 m2 (evK true v.s1 v.k1 c1 1) (evK true v.s2 v.k2 c2 2)).c1.nd.e, (start p m1 m2 (evK true v.s1 v.k1 c1 1) (evK true v.s2 v.k2 c2 2)).c1.ps), (start p m1 m2 (evK true v.s1 v.k1 c1 1) (evK true v.s2 v.k2 c2 2)).c1.cz, (start p m1 m2 (evK true v.s1 v.k1 c1 1) (evK true v.s2 v.k2 c2 2)).c2.nd.e, (start p m1 m2 (evK true v.s1 v.k1 c1 1) (evK true v.s2 v.k2 c2 2)).c2.ps), ((start p m1 m2 (evK true v.s1 v.k1 c1 1) (evK true v.s2 v.k2 c2 2)).c2.cz, (start p m1 m2 (evK true v.s1 v.k1 c1 1) (evK true v.s2 v.k2 c2 2)).c1.co.ps), (start p m1 m2 (evK true v.s1 v.k1 c1 1) (evK true v.s2 v.k2 c2 2)).c1.co.ss, (start p m1 m2 (evK true v.s1 v.k1 c1 1) (evK true v.s2 v.k2 c2 2)).c2.co.ps, (start p m1 m2 (evK true v.s1 v.k1 c1 1) (evK true v.s2 v.k2 c2 2)).c2.co.ss)) (Sum.inl (((one, two, (start p m1 m2 (evK true v.s1 v.k1 c1 1) (evK true v.s2 v.k2 c2 2)).p.e), ((start p m1 m2 (evK true v.s1 v.k1 c1 1) (evK true v.s2 v.k2 c2 2)).m1.e, (start p m1 m2 (evK true v.s1 v.k1 c1 1) (evK true v.s2 v.k2 c2 2)).m2.e), v.e, (zTg, ((0 : Int), (0 : Int), (0 : Int)), ((0 : Int), (0 : Int)), (0 : Int), (0 : Int)), zTg, (((0 : Int), (0 : Int)), (0 : Int), (0 : Int)), ((0 : Int), (0 : Int)), (0 : Int), (0 : Int)), ((start p m1 m2 (evK true v.s1 v.k1 c1 1) (evK true v.s2 v.k2 c2 2)).r.e, (start p m1 m2 (evK true v.s1 v.k1 c1 1) (evK true v.s2 v.k2 c2 2)).c1.h, (start p m1 m2 (evK true v.s1 v.k1 c1 1) (evK true v.s2 v.k2 c2 2)).c1.nd.e), ((start p m1 m2 (evK true v.s1 v.k1 c1 1) (evK true v.s2 v.k2 c2 2)).c1.ps, (start p m1 m2 (evK true v.s1 v.k1 c1 1) (evK true v.s2 v.k2 c2 2)).c1.cz), (start p m1 m2 (evK true v.s1 v.k1 c1 1) (evK true v.s2 v.k2 c2 2)).c1.co.ps, (start p m1 m2 (evK true v.s1 v.k1 c1 1) (evK true v.s2 v.k2 c2 2)).c1.co.ss))) ?_).trans ?_
    · obtain ⟨s1, s2, r1, r2, k1, k2, w1, w2, f10, f11, f12, f13, f20, f21, f22, f23⟩ := v; cases s2 <;> cases r2 <;> cases k2 <;> rfl
    cases evA true v.s2 v.r2 with
    | true => exact both_eq (w := (start p m1 m2 (evK true v.s1 v.k1 c1 1) (evK true v.s2 v.k2 c2 2))) (hst true true) v one two
    | false => exact one_eq (w := (start p m1 m2 (evK true v.s1 v.k1 c1 1) (evK true v.s2 v.k2 c2 2))) (hst true false) v one two
  | false =>
    refine (bdS (t := cond (evA true v.s2 v.r2) (Sum.inr (((one, two, (start p m1 m2 (evK true v.s1 v.k1 c1 1) (evK true v.s2 v.k2 c2 2)).p.e), ((start p m1 m2 (evK true v.s1 v.k1 c1 1) (evK true v.s2 v.k2 c2 2)).m1.e, (start p m1 m2 (evK true v.s1 v.k1 c1 1) (evK true v.s2 v.k2 c2 2)).m2.e), v.e, (zTg, ((0 : Int), (0 : Int), (0 : Int)), ((0 : Int), (0 : Int)), (0 : Int), (0 : Int)), zTg, (((0 : Int), (0 : Int)), (0 : Int), (0 : Int)), ((0 : Int), (0 : Int)), (0 : Int), (0 : Int)), ((start p m1 m2 (evK true v.s1 v.k1 c1 1) (evK true v.s2 v.k2 c2 2)).r.e, (start p m1 m2 (evK true v.s1 v.k1 c1 1) (evK true v.s2 v.k2 c2 2)).c2.h, (start p m1 m2 (evK true v.s1 v.k1 c1 1) (evK true v.s2 v.k2 c2 2)).c2.nd.e), ((start p m1 m2 (evK true v.s1 v.k1 c1 1) (evK true v.s2 v.k2 c2 2)).c2.ps, (start p m1 m2 (evK true v.s1 v.k1 c1 1) (evK true v.s2 v.k2 c2 2)).c2.cz), (start p m1 m2 (evK true v.s1 v.k1 c1 1) (evK true v.s2 v.k2 c2 2)).c2.co.ps, (start p m1 m2 (evK true v.s1 v.k1 c1 1) (evK true v.s2 v.k2 c2 2)).c2.co.ss)) (Sum.inl (((one, two), (start p m1 m2 (evK true v.s1 v.k1 c1 1) (evK true v.s2 v.k2 c2 2)).p.e, (start p m1 m2 (evK true v.s1 v.k1 c1 1) (evK true v.s2 v.k2 c2 2)).m1.e), ((start p m1 m2 (evK true v.s1 v.k1 c1 1) (evK true v.s2 v.k2 c2 2)).m2.e, v.e), ((zTg, ((0 : Int), (0 : Int), (0 : Int)), ((0 : Int), (0 : Int)), (0 : Int), (0 : Int)), zTg, (((0 : Int), (0 : Int)), (0 : Int), (0 : Int)), ((0 : Int), (0 : Int)), (0 : Int), (0 : Int)), (start p m1 m2 (evK true v.s1 v.k1 c1 1) (evK true v.s2 v.k2 c2 2)).r.e))) ?_).trans ?_
    · obtain ⟨s1, s2, r1, r2, k1, k2, w1, w2, f10, f11, f12, f13, f20, f21, f22, f23⟩ := v; cases s2 <;> cases r2 <;> cases k2 <;> rfl
    cases evA true v.s2 v.r2 with
    | true => exact two_eq (w := (start p m1 m2 (evK true v.s1 v.k1 c1 1) (evK true v.s2 v.k2 c2 2))) (hst false true) v one two
    | false => exact none_eq (w := (start p m1 m2 (evK true v.s1 v.k1 c1 1) (evK true v.s2 v.k2 c2 2))) (hst false false) v one two
theorem o9v1_eq {p : Pr} {m1 m2 : Mc} {c1 c2 : Cp} (hi : p.init.length ≤ 1000000) (p1 : 0 ≤ m1.pad ∧ m1.pad ≤ 10000) (p2 : 0 ≤ m2.pad ∧ m2.pad ≤ 10000) (v : Ev) (one two : List UInt8) :
    o9v1 one two v.e p.e m1.e m2.e = some (ro9v1 (evA false v.s1 v.r1) (evA false v.s2 v.r2) (cycW false false p m1 m2 c1 c2 v one two)) := by
  unfold o9v1 cycW
  have hst := start_ok hi p1 p2 (evK_ok (a := false) (s := v.s1) (k := v.k1) (c := c1) (n := 1) (.inl rfl) (fun e => by cases e)) (evK_ok (a := false) (s := v.s2) (k := v.k2) (c := c2) (n := 2) (.inr rfl) (fun e => by cases e))
  refine (bdS (t := cond (evA false v.s1 v.r1) (Sum.inr (((one, two, (start p m1 m2 (evK false v.s1 v.k1 c1 1) c2).p.e), ((start p m1 m2 (evK false v.s1 v.k1 c1 1) c2).m1.e, (start p m1 m2 (evK false v.s1 v.k1 c1 1) c2).m2.e), v.e, (zTg, ((0 : Int), (0 : Int), (0 : Int)), ((0 : Int), (0 : Int)), (0 : Int), (0 : Int)), zTg, (((0 : Int), (0 : Int)), (0 : Int), (0 : Int)), ((0 : Int), (0 : Int)), (0 : Int), (0 : Int)), ((start p m1 m2 (evK false v.s1 v.k1 c1 1) c2).r.e, (start p m1 m2 (evK false v.s1 v.k1 c1 1) c2).c1.h, (start p m1 m2 (evK false v.s1 v.k1 c1 1) c2).c1.nd.e), ((start p m1 m2 (evK false v.s1 v.k1 c1 1) c2).c1.ps, (start p m1 m2 (evK false v.s1 v.k1 c1 1) c2).c1.cz), (start p m1 m2 (evK false v.s1 v.k1 c1 1) c2).c1.co.ps, (start p m1 m2 (evK false v.s1 v.k1 c1 1) c2).c1.co.ss)) (Sum.inl (((one, two), (start p m1 m2 (evK false v.s1 v.k1 c1 1) c2).p.e, (start p m1 m2 (evK false v.s1 v.k1 c1 1) c2).m1.e), ((start p m1 m2 (evK false v.s1 v.k1 c1 1) c2).m2.e, v.e), ((zTg, ((0 : Int), (0 : Int), (0 : Int)), ((0 : Int), (0 : Int)), (0 : Int), (0 : Int)), zTg, (((0 : Int), (0 : Int)), (0 : Int), (0 : Int)), ((0 : Int), (0 : Int)), (0 : Int), (0 : Int)), (start p m1 m2 (evK false v.s1 v.k1 c1 1) c2).r.e))) ?_).trans ?_
  · obtain ⟨s1, s2, r1, r2, k1, k2, w1, w2, f10, f11, f12, f13, f20, f21, f22, f23⟩ := v; cases s1 <;> cases r1 <;> cases k1 <;> rfl
  cases evA false v.s1 v.r1 with
  | true =>
    refine (bdS (t := cond (evA false v.s2 v.r2) (Sum.inl ((((one, two), (start p m1 m2 (evK false v.s1 v.k1 c1 1) (evK false v.s2 v.k2 c2 2)).p.e, (start p m1 m2 (evK false v.s1 v.k1 c1 1) (evK false v.s2 v.k2 c2 2)).m1.e, (start p m1 m2 (evK false v.s1 v.k1 c1 1) (evK false v.s2 v.k2 c2 2)).m2.e), (v.e, (zTg, ((0 : Int), (0 : Int), (0 : Int)), ((0 : Int), (0 : Int)), (0 : Int), (0 : Int)), zTg, (((0 : Int), (0 : Int)), (0 : Int), (0 : Int)), ((0 : Int), (0 : Int)), (0 : Int), (0 : Int)), (start p m1 m2 (evK false v.s1 v.k1 c1 1) (evK false v.s2 v.k2 c2 2)).r.e, (start p m1 m2 (evK false v.s1 v.k1 c1 1) (evK false v.s2 v.k2 c2 2)).c1.h, (start p m1 m2 (evK false v.s1 v.k1 c1 1) (evK false v.s2 v.k2 c2 2)).c2.h), (((start p m1 m2 (evK false v.s1 v.k1 c1 1) (evK false v.s2 v.k2 c2 2)).c1.nd.e, (start p m1 m2 (evK false v.s1 v.k1 c1 1) (evK false v.s2 v.k2 c2 2)).c1.ps), (start p m1 m2 (evK false v.s1 v.k1 c1 1) (evK false v.s2 v.k2 c2 2)).c1.cz, (start p m1 m2 (evK false v.s1 v.k1 c1 1) (evK false v.s2 v.k2 c2 2)).c2.nd.e, (start p m1 m2 (evK false v.s1 v.k1 c1 1) (evK false v.s2 v.k2 c2 2)).c2.ps), ((start p m1 m2 (evK false v.s1 v.k1 c1 1) (evK false v.s2 v.k2 c2 2)).c2.cz, (start p m1 m2 (evK false v.s1 v.k1 c1 1) (evK false v.s2 v.k2 c2 2)).c1.co.ps), (start p m1 m2 (evK false v.s1 v.k1 c1 1) (evK false v.s2 v.k2 c2 2)).c1.co.ss, (start p m1 m2 (evK false v.s1 v.k1 c1 1) (evK false v.s2 v.k2 c2 2)).c2.co.ps, (start p m1 m2 (evK false v.s1 v.k1 c1 1) (evK false v.s2 v.k2 c2 2)).c2.co.ss)) (Sum.inr (((one, two, (start p m1 m2 (evK false v.s1 v.k1 c1 1) (evK false v.s2 v.k2 c2 2)).p.e), ((start p m1 m2 (evK false v.s1 v.k1 c1 1) (evK false v.s2 v.k2 c2 2)).m1.e, (start p m1 m2 (evK false v.s1 v.k1 c1 1) (evK false v.s2 v.k2 c2 2)).m2.e), v.e, (zTg, ((0 : Int), (0 : Int), (0 : Int)), ((0 : Int), (0 : Int)), (0 : Int), (0 : Int)), zTg, (((0 : Int), (0 : Int)), (0 : Int), (0 : Int)), ((0 : Int), (0 : Int)), (0 : Int), (0 : Int)), ((start p m1 m2 (evK false v.s1 v.k1 c1 1) (evK false v.s2 v.k2 c2 2)).r.e, (start p m1 m2 (evK false v.s1 v.k1 c1 1) (evK false v.s2 v.k2 c2 2)).c1.h, (start p m1 m2 (evK false v.s1 v.k1 c1 1) (evK false v.s2 v.k2 c2 2)).c1.nd.e), ((start p m1 m2 (evK false v.s1 v.k1 c1 1) (evK false v.s2 v.k2 c2 2)).c1.ps, (start p m1 m2 (evK false v.s1 v.k1 c1 1) (evK false v.s2 v.k2 c2 2)).c1.cz), (start p m1 m2 (evK false v.s1 v.k1 c1 1) (evK false v.s2 v.k2 c2 2)).c1.co.ps, (start p m1 m2 (evK false v.s1 v.k1 c1 1) (evK false v.s2 v.k2 c2 2)).c1.co.ss))) ?_).trans ?_
    · obtain ⟨s1, s2, r1, r2, k1, k2, w1, w2, f10, f11, f12, f13, f20, f21, f22, f23⟩ := v; cases s2 <;> cases r2 <;> cases k2 <;> rfl
    cases evA false v.s2 v.r2 with
    | true => exact both_eq (w := (start p m1 m2 (evK false v.s1 v.k1 c1 1) (evK false v.s2 v.k2 c2 2))) (hst true true) v one two
    | false => exact one_eq (w := (start p m1 m2 (evK false v.s1 v.k1 c1 1) (evK false v.s2 v.k2 c2 2))) (hst true false) v one two
  | false =>
    refine (bdS (t := cond (evA false v.s2 v.r2) (Sum.inr (((one, two, (start p m1 m2 (evK false v.s1 v.k1 c1 1) (evK false v.s2 v.k2 c2 2)).p.e), ((start p m1 m2 (evK false v.s1 v.k1 c1 1) (evK false v.s2 v.k2 c2 2)).m1.e, (start p m1 m2 (evK false v.s1 v.k1 c1 1) (evK false v.s2 v.k2 c2 2)).m2.e), v.e, (zTg, ((0 : Int), (0 : Int), (0 : Int)), ((0 : Int), (0 : Int)), (0 : Int), (0 : Int)), zTg, (((0 : Int), (0 : Int)), (0 : Int), (0 : Int)), ((0 : Int), (0 : Int)), (0 : Int), (0 : Int)), ((start p m1 m2 (evK false v.s1 v.k1 c1 1) (evK false v.s2 v.k2 c2 2)).r.e, (start p m1 m2 (evK false v.s1 v.k1 c1 1) (evK false v.s2 v.k2 c2 2)).c2.h, (start p m1 m2 (evK false v.s1 v.k1 c1 1) (evK false v.s2 v.k2 c2 2)).c2.nd.e), ((start p m1 m2 (evK false v.s1 v.k1 c1 1) (evK false v.s2 v.k2 c2 2)).c2.ps, (start p m1 m2 (evK false v.s1 v.k1 c1 1) (evK false v.s2 v.k2 c2 2)).c2.cz), (start p m1 m2 (evK false v.s1 v.k1 c1 1) (evK false v.s2 v.k2 c2 2)).c2.co.ps, (start p m1 m2 (evK false v.s1 v.k1 c1 1) (evK false v.s2 v.k2 c2 2)).c2.co.ss)) (Sum.inl (((one, two), (start p m1 m2 (evK false v.s1 v.k1 c1 1) (evK false v.s2 v.k2 c2 2)).p.e, (start p m1 m2 (evK false v.s1 v.k1 c1 1) (evK false v.s2 v.k2 c2 2)).m1.e), ((start p m1 m2 (evK false v.s1 v.k1 c1 1) (evK false v.s2 v.k2 c2 2)).m2.e, v.e), ((zTg, ((0 : Int), (0 : Int), (0 : Int)), ((0 : Int), (0 : Int)), (0 : Int), (0 : Int)), zTg, (((0 : Int), (0 : Int)), (0 : Int), (0 : Int)), ((0 : Int), (0 : Int)), (0 : Int), (0 : Int)), (start p m1 m2 (evK false v.s1 v.k1 c1 1) (evK false v.s2 v.k2 c2 2)).r.e))) ?_).trans ?_
    · obtain ⟨s1, s2, r1, r2, k1, k2, w1, w2, f10, f11, f12, f13, f20, f21, f22, f23⟩ := v; cases s2 <;> cases r2 <;> cases k2 <;> rfl
    cases evA false v.s2 v.r2 with
    | true => exact two_eq (w := (start p m1 m2 (evK false v.s1 v.k1 c1 1) (evK false v.s2 v.k2 c2 2))) (hst false true) v one two
    | false => exact none_eq (w := (start p m1 m2 (evK false v.s1 v.k1 c1 1) (evK false v.s2 v.k2 c2 2))) (hst false false) v one two
theorem o9v2_eq {p : Pr} {m1 m2 : Mc} {c1 c2 : Cp} (hi : p.init.length ≤ 1000000) (p1 : 0 ≤ m1.pad ∧ m1.pad ≤ 10000) (p2 : 0 ≤ m2.pad ∧ m2.pad ≤ 10000) (h2 : c2.ok) (v : Ev) (one two : List UInt8) :
    o9v2 one two v.e p.e m1.e m2.e c2.h c2.nd.e c2.ps c2.cz c2.co.ps c2.co.ss = some (ro9v2 (evA false v.s1 v.r1) (evA true v.s2 v.r2) (cycW false true p m1 m2 c1 c2 v one two)) := by
  unfold o9v2 cycW
  have hst := start_ok hi p1 p2 (evK_ok (a := false) (s := v.s1) (k := v.k1) (c := c1) (n := 1) (.inl rfl) (fun e => by cases e)) (evK_ok (a := true) (s := v.s2) (k := v.k2) (c := c2) (n := 2) (.inr rfl) (fun _ => h2))
  refine (bdS (t := cond (evA false v.s1 v.r1) (Sum.inl ((((one, two), (start p m1 m2 (evK false v.s1 v.k1 c1 1) c2).p.e, (start p m1 m2 (evK false v.s1 v.k1 c1 1) c2).m1.e, (start p m1 m2 (evK false v.s1 v.k1 c1 1) c2).m2.e), ((start p m1 m2 (evK false v.s1 v.k1 c1 1) c2).c2.h, (start p m1 m2 (evK false v.s1 v.k1 c1 1) c2).c2.nd.e), (start p m1 m2 (evK false v.s1 v.k1 c1 1) c2).c2.ps, (start p m1 m2 (evK false v.s1 v.k1 c1 1) c2).c2.cz, (start p m1 m2 (evK false v.s1 v.k1 c1 1) c2).c2.co.ps), (((start p m1 m2 (evK false v.s1 v.k1 c1 1) c2).c2.co.ss, v.e), ((zTg, ((0 : Int), (0 : Int), (0 : Int)), ((0 : Int), (0 : Int)), (0 : Int), (0 : Int)), zTg, (((0 : Int), (0 : Int)), (0 : Int), (0 : Int)), ((0 : Int), (0 : Int)), (0 : Int), (0 : Int)), (start p m1 m2 (evK false v.s1 v.k1 c1 1) c2).r.e, (start p m1 m2 (evK false v.s1 v.k1 c1 1) c2).c1.h), ((start p m1 m2 (evK false v.s1 v.k1 c1 1) c2).c1.nd.e, (start p m1 m2 (evK false v.s1 v.k1 c1 1) c2).c1.ps), (start p m1 m2 (evK false v.s1 v.k1 c1 1) c2).c1.cz, (start p m1 m2 (evK false v.s1 v.k1 c1 1) c2).c1.co.ps, (start p m1 m2 (evK false v.s1 v.k1 c1 1) c2).c1.co.ss)) (Sum.inr (((one, two, (start p m1 m2 (evK false v.s1 v.k1 c1 1) c2).p.e), ((start p m1 m2 (evK false v.s1 v.k1 c1 1) c2).m1.e, (start p m1 m2 (evK false v.s1 v.k1 c1 1) c2).m2.e), (start p m1 m2 (evK false v.s1 v.k1 c1 1) c2).c2.h, (start p m1 m2 (evK false v.s1 v.k1 c1 1) c2).c2.nd.e), ((start p m1 m2 (evK false v.s1 v.k1 c1 1) c2).c2.ps, (start p m1 m2 (evK false v.s1 v.k1 c1 1) c2).c2.cz, (start p m1 m2 (evK false v.s1 v.k1 c1 1) c2).c2.co.ps), ((start p m1 m2 (evK false v.s1 v.k1 c1 1) c2).c2.co.ss, v.e), ((zTg, ((0 : Int), (0 : Int), (0 : Int)), ((0 : Int), (0 : Int)), (0 : Int), (0 : Int)), zTg, (((0 : Int), (0 : Int)), (0 : Int), (0 : Int)), ((0 : Int), (0 : Int)), (0 : Int), (0 : Int)), (start p m1 m2 (evK false v.s1 v.k1 c1 1) c2).r.e))) ?_).trans ?_
  · obtain ⟨s1, s2, r1, r2, k1, k2, w1, w2, f10, f11, f12, f13, f20, f21, f22, f23⟩ := v; cases s1 <;> cases r1 <;> cases k1 <;> rfl
  cases evA false v.s1 v.r1 with
  | true =>
    refine (bdS (t := cond (evA true v.s2 v.r2) (Sum.inr ((((one, two), (start p m1 m2 (evK false v.s1 v.k1 c1 1) (evK true v.s2 v.k2 c2 2)).p.e, (start p m1 m2 (evK false v.s1 v.k1 c1 1) (evK true v.s2 v.k2 c2 2)).m1.e, (start p m1 m2 (evK false v.s1 v.k1 c1 1) (evK true v.s2 v.k2 c2 2)).m2.e), (v.e, (zTg, ((0 : Int), (0 : Int), (0 : Int)), ((0 : Int), (0 : Int)), (0 : Int), (0 : Int)), zTg, (((0 : Int), (0 : Int)), (0 : Int), (0 : Int)), ((0 : Int), (0 : Int)), (0 : Int), (0 : Int)), (start p m1 m2 (evK false v.s1 v.k1 c1 1) (evK true v.s2 v.k2 c2 2)).r.e, (start p m1 m2 (evK false v.s1 v.k1 c1 1) (evK true v.s2 v.k2 c2 2)).c1.h, (start p m1 m2 (evK false v.s1 v.k1 c1 1) (evK true v.s2 v.k2 c2 2)).c2.h), (((start p m1 m2 (evK false v.s1 v.k1 c1 1) (evK true v.s2 v.k2 c2 2)).c1.nd.e, (start p m1 m2 (evK false v.s1 v.k1 c1 1) (evK true v.s2 v.k2 c2 2)).c1.ps), (start p m1 m2 (evK false v.s1 v.k1 c1 1) (evK true v.s2 v.k2 c2 2)).c1.cz, (start p m1 m2 (evK false v.s1 v.k1 c1 1) (evK true v.s2 v.k2 c2 2)).c2.nd.e, (start p m1 m2 (evK false v.s1 v.k1 c1 1) (evK true v.s2 v.k2 c2 2)).c2.ps), ((start p m1 m2 (evK false v.s1 v.k1 c1 1) (evK true v.s2 v.k2 c2 2)).c2.cz, (start p m1 m2 (evK false v.s1 v.k1 c1 1) (evK true v.s2 v.k2 c2 2)).c1.co.ps), (start p m1 m2 (evK false v.s1 v.k1 c1 1) (evK true v.s2 v.k2 c2 2)).c1.co.ss, (start p m1 m2 (evK false v.s1 v.k1 c1 1) (evK true v.s2 v.k2 c2 2)).c2.co.ps, (start p m1 m2 (evK false v.s1 v.k1 c1 1) (evK true v.s2 v.k2 c2 2)).c2.co.ss)) (Sum.inl (((one, two, (start p m1 m2 (evK false v.s1 v.k1 c1 1) (evK true v.s2 v.k2 c2 2)).p.e), ((start p m1 m2 (evK false v.s1 v.k1 c1 1) (evK true v.s2 v.k2 c2 2)).m1.e, (start p m1 m2 (evK false v.s1 v.k1 c1 1) (evK true v.s2 v.k2 c2 2)).m2.e), v.e, (zTg, ((0 : Int), (0 : Int), (0 : Int)), ((0 : Int), (0 : Int)), (0 : Int), (0 : Int)), zTg, (((0 : Int), (0 : Int)), (0 : Int), (0 : Int)), ((0 : Int), (0 : Int)), (0 : Int), (0 : Int)), ((start p m1 m2 (evK false v.s1 v.k1 c1 1) (evK true v.s2 v.k2 c2 2)).r.e, (start p m1 m2 (evK false v.s1 v.k1 c1 1) (evK true v.s2 v.k2 c2 2)).c1.h, (start p m1 m2 (evK false v.s1 v.k1 c1 1) (evK true v.s2 v.k2 c2 2)).c1.nd.e), ((start p m1 m2 (evK false v.s1 v.k1 c1 1) (evK true v.s2 v.k2 c2 2)).c1.ps, (start p m1 m2 (evK false v.s1 v.k1 c1 1) (evK true v.s2 v.k2 c2 2)).c1.cz), (start p m1 m2 (evK false v.s1 v.k1 c1 1) (evK true v.s2 v.k2 c2 2)).c1.co.ps, (start p m1 m2 (evK false v.s1 v.k1 c1 1) (evK true v.s2 v.k2 c2 2)).c1.co.ss))) ?_).trans ?_
    · obtain ⟨s1, s2, r1, r2, k1, k2, w1, w2, f10, f11, f12, f13, f20, f21, f22, f23⟩ := v; cases s2 <;> cases r2 <;> cases k2 <;> rfl
    cases evA true v.s2 v.r2 with
    | true => exact both'_eq (w := (start p m1 m2 (evK false v.s1 v.k1 c1 1) (evK true v.s2 v.k2 c2 2))) (hst true true) v one two
    | false => exact one'_eq (w := (start p m1 m2 (evK false v.s1 v.k1 c1 1) (evK true v.s2 v.k2 c2 2))) (hst true false) v one two
  | false =>
    refine (bdS (t := cond (evA true v.s2 v.r2) (Sum.inr (((one, two, (start p m1 m2 (evK false v.s1 v.k1 c1 1) (evK true v.s2 v.k2 c2 2)).p.e), ((start p m1 m2 (evK false v.s1 v.k1 c1 1) (evK true v.s2 v.k2 c2 2)).m1.e, (start p m1 m2 (evK false v.s1 v.k1 c1 1) (evK true v.s2 v.k2 c2 2)).m2.e), v.e, (zTg, ((0 : Int), (0 : Int), (0 : Int)), ((0 : Int), (0 : Int)), (0 : Int), (0 : Int)), zTg, (((0 : Int), (0 : Int)), (0 : Int), (0 : Int)), ((0 : Int), (0 : Int)), (0 : Int), (0 : Int)), ((start p m1 m2 (evK false v.s1 v.k1 c1 1) (evK true v.s2 v.k2 c2 2)).r.e, (start p m1 m2 (evK false v.s1 v.k1 c1 1) (evK true v.s2 v.k2 c2 2)).c2.h, (start p m1 m2 (evK false v.s1 v.k1 c1 1) (evK true v.s2 v.k2 c2 2)).c2.nd.e), ((start p m1 m2 (evK false v.s1 v.k1 c1 1) (evK true v.s2 v.k2 c2 2)).c2.ps, (start p m1 m2 (evK false v.s1 v.k1 c1 1) (evK true v.s2 v.k2 c2 2)).c2.cz), (start p m1 m2 (evK false v.s1 v.k1 c1 1) (evK true v.s2 v.k2 c2 2)).c2.co.ps, (start p m1 m2 (evK false v.s1 v.k1 c1 1) (evK true v.s2 v.k2 c2 2)).c2.co.ss)) (Sum.inl (((one, two), (start p m1 m2 (evK false v.s1 v.k1 c1 1) (evK true v.s2 v.k2 c2 2)).p.e, (start p m1 m2 (evK false v.s1 v.k1 c1 1) (evK true v.s2 v.k2 c2 2)).m1.e), ((start p m1 m2 (evK false v.s1 v.k1 c1 1) (evK true v.s2 v.k2 c2 2)).m2.e, v.e), ((zTg, ((0 : Int), (0 : Int), (0 : Int)), ((0 : Int), (0 : Int)), (0 : Int), (0 : Int)), zTg, (((0 : Int), (0 : Int)), (0 : Int), (0 : Int)), ((0 : Int), (0 : Int)), (0 : Int), (0 : Int)), (start p m1 m2 (evK false v.s1 v.k1 c1 1) (evK true v.s2 v.k2 c2 2)).r.e))) ?_).trans ?_
    · obtain ⟨s1, s2, r1, r2, k1, k2, w1, w2, f10, f11, f12, f13, f20, f21, f22, f23⟩ := v; cases s2 <;> cases r2 <;> cases k2 <;> rfl
    cases evA true v.s2 v.r2 with
    | true => exact two'_eq (w := (start p m1 m2 (evK false v.s1 v.k1 c1 1) (evK true v.s2 v.k2 c2 2))) (hst false true) v one two
    | false => exact none'_eq (w := (start p m1 m2 (evK false v.s1 v.k1 c1 1) (evK true v.s2 v.k2 c2 2))) (hst false false) v one two
theorem o9v3_eq {p : Pr} {m1 m2 : Mc} {c1 c2 : Cp} (hi : p.init.length ≤ 1000000) (p1 : 0 ≤ m1.pad ∧ m1.pad ≤ 10000) (p2 : 0 ≤ m2.pad ∧ m2.pad ≤ 10000) (h1 : c1.ok) (v : Ev) (one two : List UInt8) :
    o9v3 one two v.e p.e m1.e m2.e c1.h c1.nd.e c1.ps c1.cz c1.co.ps c1.co.ss = some (ro9v3 (evA true v.s1 v.r1) (evA false v.s2 v.r2) (cycW true false p m1 m2 c1 c2 v one two)) := by
  unfold o9v3 cycW
  have hst := start_ok hi p1 p2 (evK_ok (a := true) (s := v.s1) (k := v.k1) (c := c1) (n := 1) (.inl rfl) (fun _ => h1)) (evK_ok (a := false) (s := v.s2) (k := v.k2) (c := c2) (n := 2) (.inr rfl) (fun e => by cases e))
  refine (bdS (t := cond (evA true v.s1 v.r1) (Sum.inr (((one, two, (start p m1 m2 (evK true v.s1 v.k1 c1 1) c2).p.e), ((start p m1 m2 (evK true v.s1 v.k1 c1 1) c2).m1.e, (start p m1 m2 (evK true v.s1 v.k1 c1 1) c2).m2.e), v.e, (zTg, ((0 : Int), (0 : Int), (0 : Int)), ((0 : Int), (0 : Int)), (0 : Int), (0 : Int)), zTg, (((0 : Int), (0 : Int)), (0 : Int), (0 : Int)), ((0 : Int), (0 : Int)), (0 : Int), (0 : Int)), ((start p m1 m2 (evK true v.s1 v.k1 c1 1) c2).r.e, (start p m1 m2 (evK true v.s1 v.k1 c1 1) c2).c1.h, (start p m1 m2 (evK true v.s1 v.k1 c1 1) c2).c1.nd.e), ((start p m1 m2 (evK true v.s1 v.k1 c1 1) c2).c1.ps, (start p m1 m2 (evK true v.s1 v.k1 c1 1) c2).c1.cz), (start p m1 m2 (evK true v.s1 v.k1 c1 1) c2).c1.co.ps, (start p m1 m2 (evK true v.s1 v.k1 c1 1) c2).c1.co.ss)) (Sum.inl (((one, two), (start p m1 m2 (evK true v.s1 v.k1 c1 1) c2).p.e, (start p m1 m2 (evK true v.s1 v.k1 c1 1) c2).m1.e), ((start p m1 m2 (evK true v.s1 v.k1 c1 1) c2).m2.e, v.e), ((zTg, ((0 : Int), (0 : Int), (0 : Int)), ((0 : Int), (0 : Int)), (0 : Int), (0 : Int)), zTg, (((0 : Int), (0 : Int)), (0 : Int), (0 : Int)), ((0 : Int), (0 : Int)), (0 : Int), (0 : Int)), (start p m1 m2 (evK true v.s1 v.k1 c1 1) c2).r.e))) ?_).trans ?_
  · obtain ⟨s1, s2, r1, r2, k1, k2, w1, w2, f10, f11, f12, f13, f20, f21, f22, f23⟩ := v; cases s1 <;> cases r1 <;> cases k1 <;> rfl
  cases evA true v.s1 v.r1 with
  | true =>
    refine (bdS (t := cond (evA false v.s2 v.r2) (Sum.inr ((((one, two), (start p m1 m2 (evK true v.s1 v.k1 c1 1) (evK false v.s2 v.k2 c2 2)).p.e, (start p m1 m2 (evK true v.s1 v.k1 c1 1) (evK false v.s2 v.k2 c2 2)).m1.e, (start p m1 m2 (evK true v.s1 v.k1 c1 1) (evK false v.s2 v.k2 c2 2)).m2.e), (v.e, (zTg, ((0 : Int), (0 : Int), (0 : Int)), ((0 : Int), (0 : Int)), (0 : Int), (0 : Int)), zTg, (((0 : Int), (0 : Int)), (0 : Int), (0 : Int)), ((0 : Int), (0 : Int)), (0 : Int), (0 : Int)), (start p m1 m2 (evK true v.s1 v.k1 c1 1) (evK false v.s2 v.k2 c2 2)).r.e, (start p m1 m2 (evK true v.s1 v.k1 c1 1) (evK false v.s2 v.k2 c2 2)).c1.h, (start p m1 m2 (evK true v.s1 v.k1 c1 1) (evK false v.s2 v.k2 c2 2)).c2.h), (((start p m1 m2 (evK true v.s1 v.k1 c1 1) (evK false v.s2 v.k2 c2 2)).c1.nd.e, (start p m1 m2 (evK true v.s1 v.k1 c1 1) (evK false v.s2 v.k2 c2 2)).c1.ps), (start p m1 m2 (evK true v.s1 v.k1 c1 1) (evK false v.s2 v.k2 c2 2)).c1.cz, (start p m1 m2 (evK true v.s1 v.k1 c1 1) (evK false v.s2 v.k2 c2 2)).c2.nd.e, (start p m1 m2 (evK true v.s1 v.k1 c1 1) (evK false v.s2 v.k2 c2 2)).c2.ps), ((start p m1 m2 (evK true v.s1 v.k1 c1 1) (evK false v.s2 v.k2 c2 2)).c2.cz, (start p m1 m2 (evK true v.s1 v.k1 c1 1) (evK false v.s2 v.k2 c2 2)).c1.co.ps), (start p m1 m2 (evK true v.s1 v.k1 c1 1) (evK false v.s2 v.k2 c2 2)).c1.co.ss, (start p m1 m2 (evK true v.s1 v.k1 c1 1) (evK false v.s2 v.k2 c2 2)).c2.co.ps, (start p m1 m2 (evK true v.s1 v.k1 c1 1) (evK false v.s2 v.k2 c2 2)).c2.co.ss)) (Sum.inl (((one, two, (start p m1 m2 (evK true v.s1 v.k1 c1 1) (evK false v.s2 v.k2 c2 2)).p.e), ((start p m1 m2 (evK true v.s1 v.k1 c1 1) (evK false v.s2 v.k2 c2 2)).m1.e, (start p m1 m2 (evK true v.s1 v.k1 c1 1) (evK false v.s2 v.k2 c2 2)).m2.e), v.e, (zTg, ((0 : Int), (0 : Int), (0 : Int)), ((0 : Int), (0 : Int)), (0 : Int), (0 : Int)), zTg, (((0 : Int), (0 : Int)), (0 : Int), (0 : Int)), ((0 : Int), (0 : Int)), (0 : Int), (0 : Int)), ((start p m1 m2 (evK true v.s1 v.k1 c1 1) (evK false v.s2 v.k2 c2 2)).r.e, (start p m1 m2 (evK true v.s1 v.k1 c1 1) (evK false v.s2 v.k2 c2 2)).c1.h, (start p m1 m2 (evK true v.s1 v.k1 c1 1) (evK false v.s2 v.k2 c2 2)).c1.nd.e), ((start p m1 m2 (evK true v.s1 v.k1 c1 1) (evK false v.s2 v.k2 c2 2)).c1.ps, (start p m1 m2 (evK true v.s1 v.k1 c1 1) (evK false v.s2 v.k2 c2 2)).c1.cz), (start p m1 m2 (evK true v.s1 v.k1 c1 1) (evK false v.s2 v.k2 c2 2)).c1.co.ps, (start p m1 m2 (evK true v.s1 v.k1 c1 1) (evK false v.s2 v.k2 c2 2)).c1.co.ss))) ?_).trans ?_
    · obtain ⟨s1, s2, r1, r2, k1, k2, w1, w2, f10, f11, f12, f13, f20, f21, f22, f23⟩ := v; cases s2 <;> cases r2 <;> cases k2 <;> rfl
    cases evA false v.s2 v.r2 with
    | true => exact both'_eq (w := (start p m1 m2 (evK true v.s1 v.k1 c1 1) (evK false v.s2 v.k2 c2 2))) (hst true true) v one two
    | false => exact one'_eq (w := (start p m1 m2 (evK true v.s1 v.k1 c1 1) (evK false v.s2 v.k2 c2 2))) (hst true false) v one two
  | false =>
    refine (bdS (t := cond (evA false v.s2 v.r2) (Sum.inr (((one, two, (start p m1 m2 (evK true v.s1 v.k1 c1 1) (evK false v.s2 v.k2 c2 2)).p.e), ((start p m1 m2 (evK true v.s1 v.k1 c1 1) (evK false v.s2 v.k2 c2 2)).m1.e, (start p m1 m2 (evK true v.s1 v.k1 c1 1) (evK false v.s2 v.k2 c2 2)).m2.e), v.e, (zTg, ((0 : Int), (0 : Int), (0 : Int)), ((0 : Int), (0 : Int)), (0 : Int), (0 : Int)), zTg, (((0 : Int), (0 : Int)), (0 : Int), (0 : Int)), ((0 : Int), (0 : Int)), (0 : Int), (0 : Int)), ((start p m1 m2 (evK true v.s1 v.k1 c1 1) (evK false v.s2 v.k2 c2 2)).r.e, (start p m1 m2 (evK true v.s1 v.k1 c1 1) (evK false v.s2 v.k2 c2 2)).c2.h, (start p m1 m2 (evK true v.s1 v.k1 c1 1) (evK false v.s2 v.k2 c2 2)).c2.nd.e), ((start p m1 m2 (evK true v.s1 v.k1 c1 1) (evK false v.s2 v.k2 c2 2)).c2.ps, (start p m1 m2 (evK true v.s1 v.k1 c1 1) (evK false v.s2 v.k2 c2 2)).c2.cz), (start p m1 m2 (evK true v.s1 v.k1 c1 1) (evK false v.s2 v.k2 c2 2)).c2.co.ps, (start p m1 m2 (evK true v.s1 v.k1 c1 1) (evK false v.s2 v.k2 c2 2)).c2.co.ss)) (Sum.inl (((one, two), (start p m1 m2 (evK true v.s1 v.k1 c1 1) (evK false v.s2 v.k2 c2 2)).p.e, (start p m1 m2 (evK true v.s1 v.k1 c1 1) (evK false v.s2 v.k2 c2 2)).m1.e), ((start p m1 m2 (evK true v.s1 v.k1 c1 1) (evK false v.s2 v.k2 c2 2)).m2.e, v.e), ((zTg, ((0 : Int), (0 : Int), (0 : Int)), ((0 : Int), (0 : Int)), (0 : Int), (0 : Int)), zTg, (((0 : Int), (0 : Int)), (0 : Int), (0 : Int)), ((0 : Int), (0 : Int)), (0 : Int), (0 : Int)), (start p m1 m2 (evK true v.s1 v.k1 c1 1) (evK false v.s2 v.k2 c2 2)).r.e))) ?_).trans ?_
    · obtain ⟨s1, s2, r1, r2, k1, k2, w1, w2, f10, f11, f12, f13, f20, f21, f22, f23⟩ := v; cases s2 <;> cases r2 <;> cases k2 <;> rfl
    cases evA false v.s2 v.r2 with
    | true => exact two'_eq (w := (start p m1 m2 (evK true v.s1 v.k1 c1 1) (evK false v.s2 v.k2 c2 2))) (hst false true) v one two
    | false => exact none'_eq (w := (start p m1 m2 (evK true v.s1 v.k1 c1 1) (evK false v.s2 v.k2 c2 2))) (hst false false) v one two
end Go.Proofs.YtpleflcfaecojaaGreat
namespace Go.Proofs.YtpleflcfaecojaaGreat
set_option linter.unusedVariables false
set_option linter.unusedSimpArgs false
set_option maxRecDepth 100000
open Go.RowKit
abbrev FtT : Type := Bool × Int × Int
abbrev CyT : Type := List UInt8 × List UInt8 × (Bool × Bool) × (Bool × Bool) × (Bool × Bool) × (Int × Int) × (FtT × FtT × FtT × FtT) × FtT × FtT × FtT × FtT
abbrev WoT : Type := (Int × Int × Int) × (Int × Int) × Int × List CyT
def noCy : CyT := ([], [], (false, false), (false, false), (false, false), (0, 0), ((false, 0, 0), (false, 0, 0), (false, 0, 0), (false, 0, 0)), (false, 0, 0), (false, 0, 0), (false, 0, 0), (false, 0, 0))
def ftOf (x : FtT) : Ft := ⟨x.1, x.2.1, x.2.2⟩
def evOf (x : CyT) : Ev := ⟨x.2.2.1.1, x.2.2.1.2, x.2.2.2.1.1, x.2.2.2.1.2, x.2.2.2.2.1.1, x.2.2.2.2.1.2, x.2.2.2.2.2.1.1, x.2.2.2.2.2.1.2, ftOf x.2.2.2.2.2.2.1.1, ftOf x.2.2.2.2.2.2.1.2.1, ftOf x.2.2.2.2.2.2.1.2.2.1, ftOf x.2.2.2.2.2.2.1.2.2.2, ftOf x.2.2.2.2.2.2.2.1, ftOf x.2.2.2.2.2.2.2.2.1, ftOf x.2.2.2.2.2.2.2.2.2.1, ftOf x.2.2.2.2.2.2.2.2.2.2⟩
theorem o10_eq (l : List UInt8) (n : Nat) : o10 l (n : Int) = some (l.take n) := by
  unfold o10
  have h : minI (l.length : Int) (n : Int) = ((min l.length n : Nat) : Int) := by unfold minI; split <;> omega
  rw [h, gdT (dt (by omega)), Int.toNat_natCast]
  have : min l.length n = l.length ∨ min l.length n = n := by omega
  rcases this with e | e
  · rw [e, List.take_length, List.take_of_length_le (by omega)]
  · rw [e]
theorem o47_self {l : List UInt8} (h : l.length ≤ 1000000) : o47 l l = some true := by
  unfold o47
  refine (cndF (neq_f rfl)).trans ?_
  refine loop_from (fun i => ((l, l), (l.length : Int), ((i : Nat) : Int))) l.length rfl (fun i hi => ?_) ?_ (by omega)
  · unfold o47_b0
    refine (cndT (dt (by show (i : Int) < (l.length : Int); omega))).trans ((gdT (dt (by show (0 : Int) ≤ i ∧ (i : Int) < (l.length : Int); omega))).trans ((gdT (dt (by show (0 : Int) ≤ i ∧ (i : Int) < (l.length : Int); omega))).trans ((cndF (neq_f rfl)).trans ?_)))
    dsimp only
    rw [show IntKind.i64.wrap ((i : Int) + 1) = ((i + 1 : Nat) : Int) by rw [wr64 (by omega)]; omega]
  · unfold o47_b0
    refine (cndF (df (by show ¬ (l.length : Int) < (l.length : Int); omega))).trans ?_
    exact dnS _
def newW (m : Mc) (r1 r2 r3 r4 : Int) : W := ⟨⟨saveB m, r1, r2, r3, r4, 0, noTg⟩, m, m, newCp 1, newCp 2, ⟨0, 0, 0, 0, 0, 0, 0, noTg, noTg, 0, noTg⟩, noFrm, noFrm, false, false, false, false⟩
theorem o12_eq {m : Mc} {r1 r2 r3 r4 : Int} (h1 : 0 ≤ r1) (h2 : 0 ≤ r2) (h3 : 0 ≤ r3) (h4 : 0 ≤ r4) (p0 : 0 ≤ m.pad) (p1 : m.pad ≤ 10000) :
    o12 ((r1, r2), r3, r4) m.e m.e = some (Sum.inr (Sum.inr (((m.e, m.e, (newW m r1 r2 r3 r4).p.e), ((newCp 1).h, (newCp 2).h), (newCp 1).nd.e, (newCp 1).ps), (((newCp 1).cz, (newCp 2).nd.e), (newCp 2).ps, (newCp 2).cz), ((newCp 1).co.ps, (newCp 1).co.ss), (newCp 2).co.ps, (newCp 2).co.ss))) := by
  unfold o12
  have hl := saveB_len m
  refine (bdS (t := ((false, m.e), m.e, ((r1, r2), r3, r4))) ?_).trans ?_
  · refine (cndF (df (by show ¬ r1 < 0; omega))).trans ((cndF (df (by show ¬ r2 < 0; omega))).trans ((cndF (df (by show ¬ r3 < 0; omega))).trans ?_))
    show some ((decide (r4 < 0), m.e), m.e, ((r1, r2), r3, r4)) = _
    rw [df (by omega : ¬ r4 < 0)]
  refine (cndF rfl).trans ((bdS (o180_eq p0 (by omega))).trans ((bdS (o180_eq p0 (by omega))).trans ((bdS (o47_self (by omega))).trans ((cndF rfl).trans ((cndF (df ?_)).trans ((bdS (o33_eq (by omega))).trans ((bdS o21_eq).trans ((bdS o21v1_eq).trans rfl))))))))
  show ¬ ((saveB m).length : Int) > 524288
  omega
def mcOf (x : WoT) : Mc := ⟨x.1.1, 0, Int.tmod (IntKind.i64.wrap x.1.2.1) 1900⟩
def wOf (x : WoT) : W := newW (mcOf x) (landK .i64 x.1.2.2 65535) (landK .i64 x.2.1.1 65535) (landK .i64 x.2.1.2 16777215) (landK .i64 x.2.2.1 65535)
def rOf (p : Pr) : (Int × Int) × Int × Int := ((p.r1, p.r2), p.r3, p.r4)
def lay8 (R : (Int × Int) × Int × Int) (w : W) := ((((R, w.p.e), w.m1.e, w.m2.e), (w.c1.h, w.c2.h), w.c1.nd.e, w.c1.ps), ((w.c1.cz, w.c2.nd.e), w.c2.ps, w.c2.cz), (w.c1.co.ps, w.c1.co.ss), w.c2.co.ps, w.c2.co.ss)
theorem mcOf_pad {x : WoT} (h : 0 ≤ x.1.2.1 ∧ x.1.2.1 ≤ 65535) : 0 ≤ (mcOf x).pad ∧ (mcOf x).pad ≤ 1899 := by
  show 0 ≤ Int.tmod (IntKind.i64.wrap x.1.2.1) 1900 ∧ Int.tmod (IntKind.i64.wrap x.1.2.1) 1900 ≤ 1899
  rw [wr64 (by omega), Int.tmod_eq_emod_of_nonneg h.1]
  omega
theorem o8_eq {x : WoT} (h : 0 ≤ x.1.2.1 ∧ x.1.2.1 ≤ 65535) : o8 x = some (Sum.inr (lay8 (rOf (wOf x).p) (wOf x))) := by
  have hp := mcOf_pad h
  unfold o8
  refine (bdS (t := Sum.inr (lay8 (rOf (wOf x).p) (wOf x))) ?_).trans rfl
  refine (bdS (o12_eq (m := mcOf x) (land64 _ _ (by decide)).1 (land64 _ _ (by decide)).1 (land64 _ _ (by decide)).1 (land64 _ _ (by decide)).1 hp.1 (by omega))).trans ?_
  rfl
theorem wOf_ok {x : WoT} (h : 0 ≤ x.1.2.1 ∧ x.1.2.1 ≤ 65535) (a b : Bool) : (wOf x).ok a b := by
  have hp := mcOf_pad h
  have hl := saveB_len (mcOf x)
  refine ⟨?_, ⟨hp.1, ?_⟩, ⟨hp.1, ?_⟩, fun _ => newCp_ok (.inl rfl), fun _ => newCp_ok (.inr rfl), Nat.zero_le _, Nat.zero_le _⟩
  · show (saveB (mcOf x)).length ≤ 1000000
    omega
  · show (mcOf x).pad ≤ 10000
    omega
  · show (mcOf x).pad ≤ 10000
    omega
theorem awake_yes : o7 = some true := by kernel_rfl
theorem go_i {α ρ : Type} {z z' : Int} (h : z = z') (F : Int → α) : some (Ctl.go (ρ := ρ) (F z)) = some (Ctl.go (F z')) := by subst h; rfl
theorem cycW_ok {w : W} {a b : Bool} (h : w.ok a b) (v : Ev) (one two : List UInt8) : (cycW a b w.p w.m1 w.m2 w.c1 w.c2 v one two).ok (evA a v.s1 v.r1) (evA b v.s2 v.r2) :=
  all_ok (start_ok h.init h.p1 h.p2 (evK_ok (.inl rfl) h.c1) (evK_ok (.inr rfl) h.c2) _ _)
theorem step_p (w : W) (a b : Bool) (v : Ev) : (w.step a b v).p = w.p := by cases a <;> cases b <;> rfl
theorem all_p (w : W) (a b : Bool) (v : Ev) (one two : List UInt8) : (w.all a b v one two).p = { w.p with use := (w.all a b v one two).p.use } := by
  have h : ((((w.ex0 a b v one two).hear a b).ex1 a b v).step a b v).p = w.p := step_p _ _ _ _
  show { ((((w.ex0 a b v one two).hear a b).ex1 a b v).step a b v).p with use := (w.all a b v one two).p.use } = _
  rw [h]
end Go.Proofs.YtpleflcfaecojaaGreat
