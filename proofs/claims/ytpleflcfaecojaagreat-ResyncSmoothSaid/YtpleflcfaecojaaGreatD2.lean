/-
The stages of a cycle, false true. Conditions: each lemma's own.
-/
import Derived.Test.YtpleflcfaecojaaGreatD1
namespace Go.Proofs.YtpleflcfaecojaaGreat
set_option linter.unusedVariables false
set_option linter.unusedSimpArgs false
set_option maxRecDepth 100000
open Go.RowKit
theorem o24v3_eq {w : W} (h : w.ok false true) (one two : List UInt8) : o24v3 (one, two) w.p.e w.m1.e w.m2.e w.c2.h w.c2.nd.e w.c2.ps w.c2.cz w.c2.co.ps w.c2.co.ss = some ((((((snd0 w.c2 w.p.cycle two).2.1.label, (snd0 w.c2 w.p.cycle two).2.1.from_), (snd0 w.c2 w.p.cycle two).2.1.cycle, (snd0 w.c2 w.p.cycle two).2.1.payload, (snd0 w.c2 w.p.cycle two).2.2), w.p.e), w.m1.e, w.m2.e, (snd0 w.c2 w.p.cycle two).1.h), ((snd0 w.c2 w.p.cycle two).1.nd.e, (snd0 w.c2 w.p.cycle two).1.ps), (snd0 w.c2 w.p.cycle two).1.cz, (snd0 w.c2 w.p.cycle two).1.co.ps, (snd0 w.c2 w.p.cycle two).1.co.ss) := by
  unfold o24v3
  refine (bdS (t := (((inpC two, (one, two), w.p.e), w.m1.e, w.m2.e, w.c2.h), (w.c2.nd.e, w.c2.ps, w.c2.cz), w.c2.co.ps, w.c2.co.ss, ((0 : Int), (0 : Int)), (0 : Int), ([] : List UInt8))) ?_).trans ?_
  · unfold inpC; exact cnd_ext (c := decide (((two.length : Nat) : Int) > 400)) (F := fun z : List UInt8 => (((z, (one, two), w.p.e), w.m1.e, w.m2.e, w.c2.h), (w.c2.nd.e, w.c2.ps, w.c2.cz), w.c2.co.ps, w.c2.co.ss, ((0 : Int), (0 : Int)), (0 : Int), ([] : List UInt8))) (X := []) (Y := two) rfl rfl
  · exact (bdS (o25_eq (c := w.c2) (cy := w.p.cycle) (inp := inpC two) (Nat.le_trans (inpC_len two) (by decide)))).trans rfl
theorem o23v12_eq {w : W} (h : w.ok false true) (v : Ev) (one two : List UInt8) : o23v12 v.e w.p.e w.m1.e w.m2.e w.c2.h w.c2.nd.e w.c2.ps w.c2.cz w.c2.co.ps w.c2.co.ss (one, two) = some (((((((w.ex0 false true v one two).f1.label, (w.ex0 false true v one two).f1.from_), (w.ex0 false true v one two).f1.cycle, (w.ex0 false true v one two).f1.payload, (0 : Int)), ((0 : Int), (0 : Int)), ([] : List UInt8), (w.ex0 false true v one two).b1, false), (w.ex0 false true v one two).p.e), (w.ex0 false true v one two).m1.e, (w.ex0 false true v one two).m2.e, (w.ex0 false true v one two).c2.h), ((w.ex0 false true v one two).c2.nd.e, (w.ex0 false true v one two).c2.ps, (w.ex0 false true v one two).c2.cz), (w.ex0 false true v one two).c2.co.ps, (w.ex0 false true v one two).c2.co.ss, one, two) := by
  unfold o23v12
  refine (bdS (t := ((((w.clr.put2 true (snd0 w.c2 w.p.cycle two) v.f20 1).p.e, (w.clr.put2 true (snd0 w.c2 w.p.cycle two) v.f20 1).m1.e, (w.clr.put2 true (snd0 w.c2 w.p.cycle two) v.f20 1).m2.e), (w.clr.put2 true (snd0 w.c2 w.p.cycle two) v.f20 1).c2.h, (w.clr.put2 true (snd0 w.c2 w.p.cycle two) v.f20 1).c2.nd.e, (w.clr.put2 true (snd0 w.c2 w.p.cycle two) v.f20 1).c2.ps), ((w.clr.put2 true (snd0 w.c2 w.p.cycle two) v.f20 1).c2.cz, (w.clr.put2 true (snd0 w.c2 w.p.cycle two) v.f20 1).c2.co.ps, (w.clr.put2 true (snd0 w.c2 w.p.cycle two) v.f20 1).c2.co.ss), ((one, two), v.e), ((w.clr.put2 true (snd0 w.c2 w.p.cycle two) v.f20 1).f1.e, ((0 : Int), (0 : Int)), (0 : Int), ([] : List UInt8)), (w.clr.put2 true (snd0 w.c2 w.p.cycle two) v.f20 1).b1, false)) ?_).trans rfl
  · refine (bdS (o24v3_eq h one two)).trans ?_
    exact wire_eq (snd0 w.c2 w.p.cycle two).2.1 (snd0 w.c2 w.p.cycle two).2.2 v.f20 1 2 w.p.cycle (fun z : Frm × Bool => (((w.p.e, w.m1.e, w.m2.e), (snd0 w.c2 w.p.cycle two).1.h, (snd0 w.c2 w.p.cycle two).1.nd.e, (snd0 w.c2 w.p.cycle two).1.ps), ((snd0 w.c2 w.p.cycle two).1.cz, (snd0 w.c2 w.p.cycle two).1.co.ps, (snd0 w.c2 w.p.cycle two).1.co.ss), ((one, two), v.e), (z.1.e, ((0 : Int), (0 : Int)), (0 : Int), ([] : List UInt8)), z.2, false))
theorem o29v3_eq {w : W} (h : w.ok false true) : o29v3 w.p.e w.m1.e w.m2.e w.c2.h w.c2.nd.e w.c2.ps w.c2.cz w.c2.co.ps w.c2.co.ss = some ((((((snd1 w.c2).2.1.label, (snd1 w.c2).2.1.from_), (snd1 w.c2).2.1.cycle, (snd1 w.c2).2.2), w.p.e), w.m1.e, w.m2.e, (snd1 w.c2).1.h), ((snd1 w.c2).1.nd.e, (snd1 w.c2).1.ps, (snd1 w.c2).1.cz), (snd1 w.c2).1.co.ps, (snd1 w.c2).1.co.ss, (snd1 w.c2).2.1.payload) := by
  unfold o29v3
  exact (bdS (o30_eq (h.c2 rfl))).trans rfl
theorem o23v13_eq {w : W} (h : w.ok false true) (v : Ev) : o23v13 v.e w.p.e w.m1.e w.m2.e w.c2.h w.c2.nd.e w.c2.ps w.c2.cz w.c2.co.ps w.c2.co.ss = some (((((((w.ex1 false true v).f1.label, (w.ex1 false true v).f1.from_), (w.ex1 false true v).f1.cycle, (w.ex1 false true v).f1.payload, (0 : Int)), ((0 : Int), (0 : Int)), ([] : List UInt8), (w.ex1 false true v).b1, false), (w.ex1 false true v).p.e), (w.ex1 false true v).m1.e, (w.ex1 false true v).m2.e, (w.ex1 false true v).c2.h), ((w.ex1 false true v).c2.nd.e, (w.ex1 false true v).c2.ps), (w.ex1 false true v).c2.cz, (w.ex1 false true v).c2.co.ps, (w.ex1 false true v).c2.co.ss) := by
  unfold o23v13
  refine (bdS (t := ((((w.clr.put2 true (snd1 w.c2) v.f21 2).p.e, (w.clr.put2 true (snd1 w.c2) v.f21 2).m1.e, (w.clr.put2 true (snd1 w.c2) v.f21 2).m2.e), (w.clr.put2 true (snd1 w.c2) v.f21 2).c2.h, (w.clr.put2 true (snd1 w.c2) v.f21 2).c2.nd.e, (w.clr.put2 true (snd1 w.c2) v.f21 2).c2.ps), ((w.clr.put2 true (snd1 w.c2) v.f21 2).c2.cz, (w.clr.put2 true (snd1 w.c2) v.f21 2).c2.co.ps, (w.clr.put2 true (snd1 w.c2) v.f21 2).c2.co.ss), v.e, ((w.clr.put2 true (snd1 w.c2) v.f21 2).f1.e, ((0 : Int), (0 : Int)), (0 : Int), ([] : List UInt8)), (w.clr.put2 true (snd1 w.c2) v.f21 2).b1, false)) ?_).trans rfl
  · refine (bdS (o29v3_eq h)).trans ?_
    exact wire_eq (snd1 w.c2).2.1 (snd1 w.c2).2.2 v.f21 2 2 w.p.cycle (fun z : Frm × Bool => (((w.p.e, w.m1.e, w.m2.e), (snd1 w.c2).1.h, (snd1 w.c2).1.nd.e, (snd1 w.c2).1.ps), ((snd1 w.c2).1.cz, (snd1 w.c2).1.co.ps, (snd1 w.c2).1.co.ss), v.e, (z.1.e, ((0 : Int), (0 : Int)), (0 : Int), ([] : List UInt8)), z.2, false))
theorem o34v3_eq {w : W} (h : w.ok false true) : o34v3 w.p.e w.m1.e w.m2.e w.c2.h w.c2.nd.e w.c2.ps w.c2.cz w.c2.co.ps w.c2.co.ss w.r.e = some ((((((snd2 w.c2 w.r.t2).2.1.label, (snd2 w.c2 w.r.t2).2.1.from_), (snd2 w.c2 w.r.t2).2.1.cycle, (snd2 w.c2 w.r.t2).2.2), w.p.e), w.m1.e, w.m2.e, (snd2 w.c2 w.r.t2).1.h), ((snd2 w.c2 w.r.t2).1.nd.e, (snd2 w.c2 w.r.t2).1.ps, (snd2 w.c2 w.r.t2).1.cz), (snd2 w.c2 w.r.t2).1.co.ps, (snd2 w.c2 w.r.t2).1.co.ss, (snd2 w.c2 w.r.t2).2.1.payload) := by
  unfold o34v3
  exact (bdS (o35_eq (c := w.c2) (t := w.r.t2))).trans rfl
theorem o23v14_eq {w : W} (h : w.ok false true) (v : Ev) : o23v14 v.e w.p.e w.m1.e w.m2.e w.c2.h w.c2.nd.e w.c2.ps w.c2.cz w.c2.co.ps w.c2.co.ss w.r.e = some (((((((w.ex2 false true v).f1.label, (w.ex2 false true v).f1.from_), (w.ex2 false true v).f1.cycle, (w.ex2 false true v).f1.payload, (0 : Int)), ((0 : Int), (0 : Int)), ([] : List UInt8), (w.ex2 false true v).b1, false), (w.ex2 false true v).p.e), (w.ex2 false true v).m1.e, (w.ex2 false true v).m2.e, (w.ex2 false true v).c2.h), ((w.ex2 false true v).c2.nd.e, (w.ex2 false true v).c2.ps, (w.ex2 false true v).c2.cz), (w.ex2 false true v).c2.co.ps, (w.ex2 false true v).c2.co.ss, (w.ex2 false true v).r.e) := by
  unfold o23v14
  refine (bdS (t := ((((w.clr.put2 true (snd2 w.c2 w.r.t2) v.f22 3).p.e, (w.clr.put2 true (snd2 w.c2 w.r.t2) v.f22 3).m1.e, (w.clr.put2 true (snd2 w.c2 w.r.t2) v.f22 3).m2.e), (w.clr.put2 true (snd2 w.c2 w.r.t2) v.f22 3).c2.h, (w.clr.put2 true (snd2 w.c2 w.r.t2) v.f22 3).c2.nd.e, (w.clr.put2 true (snd2 w.c2 w.r.t2) v.f22 3).c2.ps), ((w.clr.put2 true (snd2 w.c2 w.r.t2) v.f22 3).c2.cz, (w.clr.put2 true (snd2 w.c2 w.r.t2) v.f22 3).c2.co.ps, (w.clr.put2 true (snd2 w.c2 w.r.t2) v.f22 3).c2.co.ss), ((w.clr.put2 true (snd2 w.c2 w.r.t2) v.f22 3).r.e, v.e), ((w.clr.put2 true (snd2 w.c2 w.r.t2) v.f22 3).f1.e, ((0 : Int), (0 : Int)), (0 : Int), ([] : List UInt8)), (w.clr.put2 true (snd2 w.c2 w.r.t2) v.f22 3).b1, false)) ?_).trans rfl
  · refine (bdS (o34v3_eq h)).trans ?_
    exact wire_eq (snd2 w.c2 w.r.t2).2.1 (snd2 w.c2 w.r.t2).2.2 v.f22 3 2 w.p.cycle (fun z : Frm × Bool => (((w.p.e, w.m1.e, w.m2.e), (snd2 w.c2 w.r.t2).1.h, (snd2 w.c2 w.r.t2).1.nd.e, (snd2 w.c2 w.r.t2).1.ps), ((snd2 w.c2 w.r.t2).1.cz, (snd2 w.c2 w.r.t2).1.co.ps, (snd2 w.c2 w.r.t2).1.co.ss), (w.r.e, v.e), (z.1.e, ((0 : Int), (0 : Int)), (0 : Int), ([] : List UInt8)), z.2, false))
theorem o38v3_eq {w : W} (h : w.ok false true) : o38v3 w.p.e w.m1.e w.m2.e w.c2.h w.c2.nd.e w.c2.ps w.c2.cz w.c2.co.ps w.c2.co.ss = some ((((((snd3 w.c2 w.m2).2.1.label, (snd3 w.c2 w.m2).2.1.from_), (snd3 w.c2 w.m2).2.1.cycle, (snd3 w.c2 w.m2).2.2), w.p.e), w.m1.e, w.m2.e, (snd3 w.c2 w.m2).1.h), ((snd3 w.c2 w.m2).1.nd.e, (snd3 w.c2 w.m2).1.ps, (snd3 w.c2 w.m2).1.cz), (snd3 w.c2 w.m2).1.co.ps, (snd3 w.c2 w.m2).1.co.ss, (snd3 w.c2 w.m2).2.1.payload) := by
  unfold o38v3
  refine (bdS (t := (((w.p.e, w.m1.e), w.m2.e, w.c2.h, w.c2.nd.e), (w.c2.ps, w.c2.cz, w.c2.co.ps), w.c2.co.ss, (((0 : Int), (0 : Int)), (0 : Int), ([] : List UInt8)), cond w.c2.asked (saveB w.m2) [])) ?_).trans ?_
  · exact cnd_ext (c := w.c2.asked) (F := fun z : List UInt8 => (((w.p.e, w.m1.e), w.m2.e, w.c2.h, w.c2.nd.e), (w.c2.ps, w.c2.cz, w.c2.co.ps), w.c2.co.ss, (((0 : Int), (0 : Int)), (0 : Int), ([] : List UInt8)), z)) (X := saveB w.m2) (Y := []) ((bdS (o180_eq h.p2.1 (le_mil h.p2.2))).trans rfl) rfl
  · exact (bdS (o39_eq (c := w.c2) (save := cond w.c2.asked (saveB w.m2) []) (h.c2 rfl))).trans rfl
theorem o23v15_eq {w : W} (h : w.ok false true) (v : Ev) : o23v15 v.e w.p.e w.m1.e w.m2.e w.c2.h w.c2.nd.e w.c2.ps w.c2.cz w.c2.co.ps w.c2.co.ss = some (((((((w.ex3 false true v).f1.label, (w.ex3 false true v).f1.from_), (w.ex3 false true v).f1.cycle, (w.ex3 false true v).f1.payload, (0 : Int)), ((0 : Int), (0 : Int)), ([] : List UInt8), (w.ex3 false true v).b1, false), (w.ex3 false true v).p.e), (w.ex3 false true v).m1.e, (w.ex3 false true v).m2.e, (w.ex3 false true v).c2.h), ((w.ex3 false true v).c2.nd.e, (w.ex3 false true v).c2.ps), (w.ex3 false true v).c2.cz, (w.ex3 false true v).c2.co.ps, (w.ex3 false true v).c2.co.ss) := by
  unfold o23v15
  refine (bdS (t := ((((w.clr.put2 true (snd3 w.c2 w.m2) v.f23 4).p.e, (w.clr.put2 true (snd3 w.c2 w.m2) v.f23 4).m1.e, (w.clr.put2 true (snd3 w.c2 w.m2) v.f23 4).m2.e), (w.clr.put2 true (snd3 w.c2 w.m2) v.f23 4).c2.h, (w.clr.put2 true (snd3 w.c2 w.m2) v.f23 4).c2.nd.e, (w.clr.put2 true (snd3 w.c2 w.m2) v.f23 4).c2.ps), ((w.clr.put2 true (snd3 w.c2 w.m2) v.f23 4).c2.cz, (w.clr.put2 true (snd3 w.c2 w.m2) v.f23 4).c2.co.ps, (w.clr.put2 true (snd3 w.c2 w.m2) v.f23 4).c2.co.ss), v.e, ((w.clr.put2 true (snd3 w.c2 w.m2) v.f23 4).f1.e, ((0 : Int), (0 : Int)), (0 : Int), ([] : List UInt8)), (w.clr.put2 true (snd3 w.c2 w.m2) v.f23 4).b1, false)) ?_).trans rfl
  · refine (bdS (o38v3_eq h)).trans ?_
    exact wire_eq (snd3 w.c2 w.m2).2.1 (snd3 w.c2 w.m2).2.2 v.f23 4 2 w.p.cycle (fun z : Frm × Bool => (((w.p.e, w.m1.e, w.m2.e), (snd3 w.c2 w.m2).1.h, (snd3 w.c2 w.m2).1.nd.e, (snd3 w.c2 w.m2).1.ps), ((snd3 w.c2 w.m2).1.cz, (snd3 w.c2 w.m2).1.co.ps, (snd3 w.c2 w.m2).1.co.ss), v.e, (z.1.e, ((0 : Int), (0 : Int)), (0 : Int), ([] : List UInt8)), z.2, false))
theorem o27v3_eq {w : W} (h : w.ok false true) : o27v3 w.p.e w.m1.e w.m2.e w.c2.h w.c2.nd.e w.c2.ps w.c2.cz w.c2.co.ps w.c2.co.ss (w.f1.e, w.f2.e) (w.b1, w.b2) = some ((((w.hear false true).p.e, (w.hear false true).m1.e), (w.hear false true).m2.e, (w.hear false true).c2.h, (w.hear false true).c2.nd.e), ((w.hear false true).c2.ps, (w.hear false true).c2.cz, (w.hear false true).f1.e, (w.hear false true).f2.e), ((w.hear false true).b1, (w.hear false true).b2), (w.hear false true).c2.co.ps, (w.hear false true).c2.co.ss) := by
  unfold o27v3
  exact (bdS (o28_eq (c := w.c2) (f := w.f2) (came := w.b2) (h.c2 rfl))).trans rfl
theorem o26v15_eq {w : W} (h : w.ok false true) : o26v15 w.p.e w.m1.e w.m2.e w.c2.h w.c2.nd.e w.c2.ps w.c2.cz w.c2.co.ps w.c2.co.ss (w.f1.e, w.f2.e) (w.b1, w.b2) = some ((((w.hear false true).p.e, (w.hear false true).m1.e), (w.hear false true).m2.e, (w.hear false true).c2.h, (w.hear false true).c2.nd.e), ((w.hear false true).c2.ps, (w.hear false true).c2.cz, (w.hear false true).f1.e, (w.hear false true).f2.e), ((w.hear false true).b1, (w.hear false true).b2), (w.hear false true).c2.co.ps, (w.hear false true).c2.co.ss) := by
  unfold o26v15
  exact (bdS (o27v3_eq h)).trans rfl
theorem o31v3_eq {w : W} (h : w.ok false true) (v : Ev) : o31v3 w.p.e w.m1.e w.m2.e w.c2.h w.c2.nd.e w.c2.ps w.c2.cz w.c2.co.ps w.c2.co.ss (w.f1.e, w.f2.e) (w.b1, w.b2) (w.s1, w.s2) w.r.e v.e = some ((((w.step2 v (w.c2.step w.f2 w.b2)).p.e, (w.step2 v (w.c2.step w.f2 w.b2)).m1.e, (w.step2 v (w.c2.step w.f2 w.b2)).m2.e), ((w.step2 v (w.c2.step w.f2 w.b2)).c2.h, (w.step2 v (w.c2.step w.f2 w.b2)).c2.nd.e), (w.step2 v (w.c2.step w.f2 w.b2)).c2.ps, (w.step2 v (w.c2.step w.f2 w.b2)).c2.cz), (((w.step2 v (w.c2.step w.f2 w.b2)).f1.e, (w.step2 v (w.c2.step w.f2 w.b2)).f2.e), ((w.step2 v (w.c2.step w.f2 w.b2)).b1, (w.step2 v (w.c2.step w.f2 w.b2)).b2), (w.step2 v (w.c2.step w.f2 w.b2)).s1, (w.step2 v (w.c2.step w.f2 w.b2)).s2), ((w.step2 v (w.c2.step w.f2 w.b2)).r.e, v.e), (w.step2 v (w.c2.step w.f2 w.b2)).c2.co.ps, (w.step2 v (w.c2.step w.f2 w.b2)).c2.co.ss) := by
  unfold o31v3
  have hin : (w.c2.step w.f2 w.b2).2.1.in_.length ≤ 2000 := step_in (h.c2 rfl) h.f2
  refine (bdS (o32_eq (c := w.c2) (f := w.f2) (came := w.b2) (h.c2 rfl) h.f2)).trans ?_
  generalize (w.c2.step w.f2 w.b2) = x at hin ⊢
  obtain ⟨c, se, has, er⟩ := x
  cases has with
  | false => rfl
  | true =>
    refine (cndF rfl).trans ?_
    refine (bdS (t := ((((w.p.e, w.m1.e), (cond se.fresh (w.m2.load w.p.init).1 w.m2).e, c.h), (c.nd.e, c.ps), c.cz, w.f1.e, w.f2.e), (((w.b1, w.b2), w.s1, w.s2), w.r.e, v.e), ((se.steps, se.cycle, se.fresh), c.co.ps), c.co.ss, se.in_)) ?_).trans ?_
    · exact cnd_ext (c := se.fresh) (F := fun z : Mc => ((((w.p.e, w.m1.e), z.e, c.h), (c.nd.e, c.ps), c.cz, w.f1.e, w.f2.e), (((w.b1, w.b2), w.s1, w.s2), w.r.e, v.e), ((se.steps, se.cycle, se.fresh), c.co.ps), c.co.ss, se.in_)) (X := (w.m2.load w.p.init).1) (Y := w.m2) ((bdS (o33_eq (Nat.le_trans h.init (by decide)))).trans ((bdS (o179_eq (m := w.m2) (p := w.p.init) h.p2.1 (le_mil h.p2.2))).trans rfl)) rfl
    · exact (bdS (o181_eq (cond se.fresh (w.m2.load w.p.init).1 w.m2) se.cycle (l := se.in_) (Nat.le_trans hin (by decide)))).trans rfl
theorem o26v16_eq {w : W} (h : w.ok false true) (v : Ev) : o26v16 w.p.e w.m1.e w.m2.e w.c2.h w.c2.nd.e w.c2.ps w.c2.cz w.c2.co.ps w.c2.co.ss (w.f1.e, w.f2.e) (w.b1, w.b2) (w.s1, w.s2) w.r.e v.e = some ((((w.step false true v).p.e, (w.step false true v).m1.e, (w.step false true v).m2.e), ((w.step false true v).c2.h, (w.step false true v).c2.nd.e), (w.step false true v).c2.ps, (w.step false true v).c2.cz), (((w.step false true v).f1.e, (w.step false true v).f2.e), ((w.step false true v).b1, (w.step false true v).b2), (w.step false true v).s1, (w.step false true v).s2), ((w.step false true v).r.e, v.e), (w.step false true v).c2.co.ps, (w.step false true v).c2.co.ss) := by
  unfold o26v16
  exact (bdS (o31v3_eq h v)).trans rfl
theorem o36v3_eq {w : W} (h : w.ok false true) : o36v3 w.p.e w.m1.e w.m2.e w.c2.h w.c2.nd.e w.c2.ps w.c2.cz w.c2.co.ps w.c2.co.ss (w.f1.e, w.f2.e) (w.b1, w.b2) w.r.e = some ((((w.judge false true).p.e, (w.judge false true).m1.e, (w.judge false true).m2.e), (w.judge false true).c2.h, (w.judge false true).c2.nd.e, (w.judge false true).c2.ps), ((w.judge false true).c2.cz, (w.judge false true).c2.co.ps, (w.judge false true).c2.co.ss), ((w.judge false true).f1.e, (w.judge false true).f2.e), ((w.judge false true).b1, (w.judge false true).b2), (w.judge false true).r.e) := by
  unfold o36v3
  exact (bdS (o37_eq (c := w.c2) (f := w.f2) (came := w.b2))).trans rfl
theorem o26v17_eq {w : W} (h : w.ok false true) : o26v17 w.p.e w.m1.e w.m2.e w.c2.h w.c2.nd.e w.c2.ps w.c2.cz w.c2.co.ps w.c2.co.ss (w.f1.e, w.f2.e) (w.b1, w.b2) w.r.e = some ((((w.judge false true).p.e, (w.judge false true).m1.e, (w.judge false true).m2.e), (w.judge false true).c2.h, (w.judge false true).c2.nd.e, (w.judge false true).c2.ps), ((w.judge false true).c2.cz, (w.judge false true).c2.co.ps, (w.judge false true).c2.co.ss), ((w.judge false true).f1.e, (w.judge false true).f2.e), ((w.judge false true).b1, (w.judge false true).b2), (w.judge false true).r.e) := by
  unfold o26v17
  exact (bdS (o36v3_eq h)).trans rfl
theorem o41v3_eq {w : W} (h : w.ok false true) : o41v3 w.f2.e w.b2 w.p.e w.m1.e w.m2.e w.c2.h w.c2.nd.e w.c2.ps w.c2.cz w.c2.co.ps w.c2.co.ss = some (((w.p.e, w.m1.e), (tookA w.m2 (w.c2.take w.f2 w.b2)).2.e, (tookA w.m2 (w.c2.take w.f2 w.b2)).1.h), ((tookA w.m2 (w.c2.take w.f2 w.b2)).1.nd.e, (tookA w.m2 (w.c2.take w.f2 w.b2)).1.ps), (tookA w.m2 (w.c2.take w.f2 w.b2)).1.cz, (tookA w.m2 (w.c2.take w.f2 w.b2)).1.co.ps, (tookA w.m2 (w.c2.take w.f2 w.b2)).1.co.ss) := by
  unfold o41v3
  have hj := take_job (h.c2 rfl) (f := w.f2) (came := w.b2)
  refine (bdS (o83_eq (c := w.c2) (f := w.f2) (came := w.b2) (h.c2 rfl) h.f2)).trans ?_
  generalize (w.c2.take w.f2 w.b2) = x at hj ⊢
  obtain ⟨c, ⟨jb, sn, l⟩, has, er⟩ := x
  cases has with
  | false => rfl
  | true =>
    have hs : l.length ≤ 874 := hj.sets
    have hi : ∀ x ∈ l, x.2.2.2.length ≤ 2000 := hj.ins
    refine (cndF rfl).trans ?_
    refine (bdS (o179_eq (m := w.m2) (p := sn) h.p2.1 (le_mil h.p2.2))).trans ?_
    refine cnd_ext (c := (w.m2.load sn).2 != 0) (F := fun z : Cp × Mc => (((w.p.e, w.m1.e), z.2.e, z.1.h), (z.1.nd.e, z.1.ps), z.1.cz, z.1.co.ps, z.1.co.ss)) (X := (c.drop, (w.m2.load sn).1)) (Y := (c, runL (w.m2.load sn).1 l)) ((bdS (o22_eq c)).trans rfl) ?_
    refine loop_from (fun i => (((((l.length : Nat) : Int), ((i : Nat) : Int), w.p.e), w.m1.e, (runL (w.m2.load sn).1 (l.take i)).e, c.h), (c.nd.e, c.ps, c.cz), l, c.co.ps, c.co.ss)) l.length rfl (fun i hi' => ?_) ?_ (by omega)
    · have hd : (l.getD i (0, 0, false, [])).2.2.2.length ≤ 100000000 := by rw [getD_of hi']; exact Nat.le_trans (hi _ (List.getElem_mem hi')) (by decide)
      unfold o41v3_b0
      refine (cndT (dt (by show (i : Int) < (l.length : Int); omega))).trans ((gdT (dt (by show (0 : Int) ≤ i ∧ (i : Int) < (l.length : Int); omega))).trans ((bdS (o181_eq (runL (w.m2.load sn).1 (l.take i)) (l.getD i (0, 0, false, [])).2.1 (l := (l.getD i (0, 0, false, [])).2.2.2) hd)).trans ?_))
      exact go_next (runL_succ _ hi') (wr64 (by omega)) (fun (m : Mc) (k : Int) => (((((l.length : Nat) : Int), k, w.p.e), w.m1.e, m.e, c.h), (c.nd.e, c.ps, c.cz), l, c.co.ps, c.co.ss))
    · unfold o41v3_b0
      refine (cndF (df (by show ¬ (l.length : Int) < (l.length : Int); omega))).trans ?_
      rw [List.take_length]
      exact dnS _
theorem o40v3_eq {w : W} (h : w.ok false true) : o40v3 w.p.e w.m1.e w.m2.e w.c2.h w.c2.nd.e w.c2.ps w.c2.cz w.c2.co.ps w.c2.co.ss (w.f1.e, w.f2.e) (w.b1, w.b2) = some ((((w.take false true).p.e, (w.take false true).m1.e), (w.take false true).m2.e, (w.take false true).c2.h, (w.take false true).c2.nd.e), ((w.take false true).c2.ps, (w.take false true).c2.cz, (w.take false true).f1.e, (w.take false true).f2.e), ((w.take false true).b1, (w.take false true).b2), (w.take false true).c2.co.ps, (w.take false true).c2.co.ss) := by
  unfold o40v3
  exact (bdS (o41v3_eq h)).trans rfl
theorem o26v18_eq {w : W} (h : w.ok false true) : o26v18 w.p.e w.m1.e w.m2.e w.c2.h w.c2.nd.e w.c2.ps w.c2.cz w.c2.co.ps w.c2.co.ss (w.f1.e, w.f2.e) (w.b1, w.b2) = some ((((w.take false true).p.e, (w.take false true).m1.e), (w.take false true).m2.e, (w.take false true).c2.h, (w.take false true).c2.nd.e), ((w.take false true).c2.ps, (w.take false true).c2.cz, (w.take false true).f1.e, (w.take false true).f2.e), ((w.take false true).b1, (w.take false true).b2), (w.take false true).c2.co.ps, (w.take false true).c2.co.ss) := by
  unfold o26v18
  exact (bdS (o40v3_eq h)).trans rfl
theorem o42v3_eq {w : W} (h : w.ok false true) : o42v3 w.p.e w.m1.e w.m2.e w.c2.h w.c2.nd.e w.c2.ps (w.c2.cz, w.c2.co.ps, w.c2.co.ss) w.r.e = some (w.node false true).r.e := by
  unfold o42v3
  exact (bdS (o43_eq (c := w.c2) (h.c2 rfl) _)).trans rfl
theorem o26v19_eq {w : W} (h : w.ok false true) : o26v19 w.p.e w.m1.e w.m2.e w.c2.h w.c2.nd.e w.c2.ps w.c2.cz w.c2.co.ps w.c2.co.ss w.r.e = some ((((w.node false true).p.e, (w.node false true).m1.e), (w.node false true).m2.e, (w.node false true).c2.h, (w.node false true).c2.nd.e), ((w.node false true).c2.ps, (w.node false true).c2.cz), (w.node false true).c2.co.ps, (w.node false true).c2.co.ss, (w.node false true).r.e) := by
  unfold o26v19
  exact (bdS (o42v3_eq h)).trans rfl
end Go.Proofs.YtpleflcfaecojaaGreat
