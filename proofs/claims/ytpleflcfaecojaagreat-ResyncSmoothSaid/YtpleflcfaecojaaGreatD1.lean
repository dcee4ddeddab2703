/-
The stages of a cycle, true false. Conditions: each lemma's own.
-/
import Derived.Test.YtpleflcfaecojaaGreatC13
namespace Go.Proofs.YtpleflcfaecojaaGreat
set_option linter.unusedVariables false
set_option linter.unusedSimpArgs false
set_option maxRecDepth 100000
open Go.RowKit
theorem le_mil {x : Int} (h : x ≤ 10000) : x ≤ 1000000 := by omega
theorem put1_ok {w : W} {a b : Bool} (h : w.ok a b) {x : Cp × Frm × Bool} {ft : Ft} {lab : Int} (hx : x.1.ok) : (w.clr.put1 true x ft lab).ok a b :=
  ⟨h.init, h.p1, h.p2, fun _ => hx, h.c2, Nat.zero_le _, wire_len _ _ _ _ _ _⟩
theorem whear_okG {w : W} {a b x y : Bool} (h : w.ok a b) : (w.hear x y).ok a b := ⟨h.init, h.p1, h.p2, fun e => cond_p (P := Cp.ok) (hear_ok (h.c1 e)) (h.c1 e), fun e => cond_p (P := Cp.ok) (hear_ok (h.c2 e)) (h.c2 e), h.f1, h.f2⟩
theorem wjudge_okG {w : W} {a b x y : Bool} (h : w.ok a b) : (w.judge x y).ok a b := ⟨h.init, h.p1, h.p2, fun e => cond_p (P := Cp.ok) (judge_ok (h.c1 e)) (h.c1 e), fun e => cond_p (P := Cp.ok) (judge_ok (h.c2 e)) (h.c2 e), h.f1, h.f2⟩
theorem wnode_okG {w : W} {a b x y : Bool} (h : w.ok a b) : (w.node x y).ok a b := ⟨h.init, h.p1, h.p2, h.c1, h.c2, h.f1, h.f2⟩
theorem wtake_okG {w : W} {a b x y : Bool} (h : w.ok a b) : (w.take x y).ok a b := by
  refine ⟨h.init, ?_, ?_, fun e => cond_p (P := Cp.ok) (tookA_ok (h.c1 e)) (h.c1 e), fun e => cond_p (P := Cp.ok) (tookA_ok (h.c2 e)) (h.c2 e), h.f1, h.f2⟩
  · exact cond_p (P := fun z : Mc => 0 ≤ z.pad ∧ z.pad ≤ 10000) (by rw [tookA_pad]; exact h.p1) h.p1
  · exact cond_p (P := fun z : Mc => 0 ≤ z.pad ∧ z.pad ≤ 10000) (by rw [tookA_pad]; exact h.p2) h.p2
theorem runL_succ (m : Mc) {l : List ST} {i : Nat} (h : i < l.length) : (runL m (l.take i)).stepM (l.getD i (0, 0, false, [])).2.1 (l.getD i (0, 0, false, [])).2.2.2 = runL m (l.take (i + 1)) := by
  unfold runL
  rw [List.take_succ_eq_append_getElem h, List.foldl_append, getD_of h]
  rfl
theorem go_next {α β : Type} {a a' : Mc} {k : Int} {k' : Nat} (h : a = a') (h2 : k = (k' : Int) + 1) (F : Mc → Int → α) : some (Ctl.go (ρ := β) (F a k)) = some (Ctl.go (F a' ((k' + 1 : Nat) : Int))) := by
  subst h; subst h2; rfl
theorem o24_eq {w : W} (h : w.ok true false) (one two : List UInt8) : o24 (one, two) w.p.e w.m1.e w.m2.e w.c1.h w.c1.nd.e w.c1.ps w.c1.cz w.c1.co.ps w.c1.co.ss = some ((((((snd0 w.c1 w.p.cycle one).2.1.label, (snd0 w.c1 w.p.cycle one).2.1.from_), (snd0 w.c1 w.p.cycle one).2.1.cycle, (snd0 w.c1 w.p.cycle one).2.1.payload, (snd0 w.c1 w.p.cycle one).2.2), w.p.e), w.m1.e, w.m2.e, (snd0 w.c1 w.p.cycle one).1.h), ((snd0 w.c1 w.p.cycle one).1.nd.e, (snd0 w.c1 w.p.cycle one).1.ps), (snd0 w.c1 w.p.cycle one).1.cz, (snd0 w.c1 w.p.cycle one).1.co.ps, (snd0 w.c1 w.p.cycle one).1.co.ss) := by
  unfold o24
  refine (bdS (t := (((inpC one, (one, two), w.p.e), w.m1.e, w.m2.e, w.c1.h), (w.c1.nd.e, w.c1.ps, w.c1.cz), w.c1.co.ps, w.c1.co.ss, ((0 : Int), (0 : Int)), (0 : Int), ([] : List UInt8))) ?_).trans ?_
  · unfold inpC; exact cnd_ext (c := decide (((one.length : Nat) : Int) > 400)) (F := fun z : List UInt8 => (((z, (one, two), w.p.e), w.m1.e, w.m2.e, w.c1.h), (w.c1.nd.e, w.c1.ps, w.c1.cz), w.c1.co.ps, w.c1.co.ss, ((0 : Int), (0 : Int)), (0 : Int), ([] : List UInt8))) (X := []) (Y := one) rfl rfl
  · exact (bdS (o25_eq (c := w.c1) (cy := w.p.cycle) (inp := inpC one) (Nat.le_trans (inpC_len one) (by decide)))).trans rfl
theorem o23_eq {w : W} (h : w.ok true false) (v : Ev) (one two : List UInt8) : o23 v.e w.p.e w.m1.e w.m2.e w.c1.h w.c1.nd.e w.c1.ps w.c1.cz w.c1.co.ps w.c1.co.ss (one, two) = some (((((((0 : Int), (0 : Int)), (0 : Int), ([] : List UInt8), (w.ex0 true false v one two).f2.label), ((w.ex0 true false v one two).f2.from_, (w.ex0 true false v one two).f2.cycle), (w.ex0 true false v one two).f2.payload, false, (w.ex0 true false v one two).b2), (w.ex0 true false v one two).p.e), (w.ex0 true false v one two).m1.e, (w.ex0 true false v one two).m2.e, (w.ex0 true false v one two).c1.h), ((w.ex0 true false v one two).c1.nd.e, (w.ex0 true false v one two).c1.ps, (w.ex0 true false v one two).c1.cz), (w.ex0 true false v one two).c1.co.ps, (w.ex0 true false v one two).c1.co.ss, one, two) := by
  unfold o23
  refine (bdS (t := ((((w.clr.put1 true (snd0 w.c1 w.p.cycle one) v.f10 1).p.e, (w.clr.put1 true (snd0 w.c1 w.p.cycle one) v.f10 1).m1.e, (w.clr.put1 true (snd0 w.c1 w.p.cycle one) v.f10 1).m2.e), (w.clr.put1 true (snd0 w.c1 w.p.cycle one) v.f10 1).c1.h, (w.clr.put1 true (snd0 w.c1 w.p.cycle one) v.f10 1).c1.nd.e, (w.clr.put1 true (snd0 w.c1 w.p.cycle one) v.f10 1).c1.ps), ((w.clr.put1 true (snd0 w.c1 w.p.cycle one) v.f10 1).c1.cz, (w.clr.put1 true (snd0 w.c1 w.p.cycle one) v.f10 1).c1.co.ps, (w.clr.put1 true (snd0 w.c1 w.p.cycle one) v.f10 1).c1.co.ss), ((one, two), v.e), ((((0 : Int), (0 : Int)), (0 : Int), ([] : List UInt8)), (w.clr.put1 true (snd0 w.c1 w.p.cycle one) v.f10 1).f2.e), false, (w.clr.put1 true (snd0 w.c1 w.p.cycle one) v.f10 1).b2)) ?_).trans rfl
  · refine (bdS (o24_eq (w := w) h one two)).trans ?_
    exact wire_eq (snd0 w.c1 w.p.cycle one).2.1 (snd0 w.c1 w.p.cycle one).2.2 v.f10 1 1 w.p.cycle (fun z : Frm × Bool => (((w.clr.p.e, w.clr.m1.e, w.clr.m2.e), (snd0 w.c1 w.p.cycle one).1.h, (snd0 w.c1 w.p.cycle one).1.nd.e, (snd0 w.c1 w.p.cycle one).1.ps), ((snd0 w.c1 w.p.cycle one).1.cz, (snd0 w.c1 w.p.cycle one).1.co.ps, (snd0 w.c1 w.p.cycle one).1.co.ss), ((one, two), v.e), ((((0 : Int), (0 : Int)), (0 : Int), ([] : List UInt8)), z.1.e), false, z.2))
theorem o29_eq {w : W} (h : w.ok true false) : o29 w.p.e w.m1.e w.m2.e w.c1.h w.c1.nd.e w.c1.ps w.c1.cz w.c1.co.ps w.c1.co.ss = some ((((((snd1 w.c1).2.1.label, (snd1 w.c1).2.1.from_), (snd1 w.c1).2.1.cycle, (snd1 w.c1).2.2), w.p.e), w.m1.e, w.m2.e, (snd1 w.c1).1.h), ((snd1 w.c1).1.nd.e, (snd1 w.c1).1.ps, (snd1 w.c1).1.cz), (snd1 w.c1).1.co.ps, (snd1 w.c1).1.co.ss, (snd1 w.c1).2.1.payload) := by
  unfold o29
  exact (bdS (o30_eq (h.c1 rfl))).trans rfl
theorem o23v1_eq {w : W} (h : w.ok true false) (v : Ev) : o23v1 v.e w.p.e w.m1.e w.m2.e w.c1.h w.c1.nd.e w.c1.ps w.c1.cz w.c1.co.ps w.c1.co.ss = some (((((((0 : Int), (0 : Int)), (0 : Int), ([] : List UInt8), (w.ex1 true false v).f2.label), ((w.ex1 true false v).f2.from_, (w.ex1 true false v).f2.cycle), (w.ex1 true false v).f2.payload, false, (w.ex1 true false v).b2), (w.ex1 true false v).p.e), (w.ex1 true false v).m1.e, (w.ex1 true false v).m2.e, (w.ex1 true false v).c1.h), ((w.ex1 true false v).c1.nd.e, (w.ex1 true false v).c1.ps), (w.ex1 true false v).c1.cz, (w.ex1 true false v).c1.co.ps, (w.ex1 true false v).c1.co.ss) := by
  unfold o23v1
  refine (bdS (t := ((((w.clr.put1 true (snd1 w.c1) v.f11 2).p.e, (w.clr.put1 true (snd1 w.c1) v.f11 2).m1.e, (w.clr.put1 true (snd1 w.c1) v.f11 2).m2.e), (w.clr.put1 true (snd1 w.c1) v.f11 2).c1.h, (w.clr.put1 true (snd1 w.c1) v.f11 2).c1.nd.e, (w.clr.put1 true (snd1 w.c1) v.f11 2).c1.ps), ((w.clr.put1 true (snd1 w.c1) v.f11 2).c1.cz, (w.clr.put1 true (snd1 w.c1) v.f11 2).c1.co.ps, (w.clr.put1 true (snd1 w.c1) v.f11 2).c1.co.ss), v.e, ((((0 : Int), (0 : Int)), (0 : Int), ([] : List UInt8)), (w.clr.put1 true (snd1 w.c1) v.f11 2).f2.e), false, (w.clr.put1 true (snd1 w.c1) v.f11 2).b2)) ?_).trans rfl
  · refine (bdS (o29_eq (w := w) h)).trans ?_
    exact wire_eq (snd1 w.c1).2.1 (snd1 w.c1).2.2 v.f11 2 1 w.p.cycle (fun z : Frm × Bool => (((w.clr.p.e, w.clr.m1.e, w.clr.m2.e), (snd1 w.c1).1.h, (snd1 w.c1).1.nd.e, (snd1 w.c1).1.ps), ((snd1 w.c1).1.cz, (snd1 w.c1).1.co.ps, (snd1 w.c1).1.co.ss), v.e, ((((0 : Int), (0 : Int)), (0 : Int), ([] : List UInt8)), z.1.e), false, z.2))
theorem o34_eq {w : W} (h : w.ok true false) : o34 w.p.e w.m1.e w.m2.e w.c1.h w.c1.nd.e w.c1.ps w.c1.cz w.c1.co.ps w.c1.co.ss w.r.e = some ((((((snd2 w.c1 w.r.t1).2.1.label, (snd2 w.c1 w.r.t1).2.1.from_), (snd2 w.c1 w.r.t1).2.1.cycle, (snd2 w.c1 w.r.t1).2.2), w.p.e), w.m1.e, w.m2.e, (snd2 w.c1 w.r.t1).1.h), ((snd2 w.c1 w.r.t1).1.nd.e, (snd2 w.c1 w.r.t1).1.ps, (snd2 w.c1 w.r.t1).1.cz), (snd2 w.c1 w.r.t1).1.co.ps, (snd2 w.c1 w.r.t1).1.co.ss, (snd2 w.c1 w.r.t1).2.1.payload) := by
  unfold o34
  exact (bdS (o35_eq (c := w.c1) (t := w.r.t1))).trans rfl
theorem o23v2_eq {w : W} (h : w.ok true false) (v : Ev) : o23v2 v.e w.p.e w.m1.e w.m2.e w.c1.h w.c1.nd.e w.c1.ps w.c1.cz w.c1.co.ps w.c1.co.ss w.r.e = some (((((((0 : Int), (0 : Int)), (0 : Int), ([] : List UInt8), (w.ex2 true false v).f2.label), ((w.ex2 true false v).f2.from_, (w.ex2 true false v).f2.cycle), (w.ex2 true false v).f2.payload, false, (w.ex2 true false v).b2), (w.ex2 true false v).p.e), (w.ex2 true false v).m1.e, (w.ex2 true false v).m2.e, (w.ex2 true false v).c1.h), ((w.ex2 true false v).c1.nd.e, (w.ex2 true false v).c1.ps, (w.ex2 true false v).c1.cz), (w.ex2 true false v).c1.co.ps, (w.ex2 true false v).c1.co.ss, (w.ex2 true false v).r.e) := by
  unfold o23v2
  refine (bdS (t := ((((w.clr.put1 true (snd2 w.c1 w.r.t1) v.f12 3).p.e, (w.clr.put1 true (snd2 w.c1 w.r.t1) v.f12 3).m1.e, (w.clr.put1 true (snd2 w.c1 w.r.t1) v.f12 3).m2.e), (w.clr.put1 true (snd2 w.c1 w.r.t1) v.f12 3).c1.h, (w.clr.put1 true (snd2 w.c1 w.r.t1) v.f12 3).c1.nd.e, (w.clr.put1 true (snd2 w.c1 w.r.t1) v.f12 3).c1.ps), ((w.clr.put1 true (snd2 w.c1 w.r.t1) v.f12 3).c1.cz, (w.clr.put1 true (snd2 w.c1 w.r.t1) v.f12 3).c1.co.ps, (w.clr.put1 true (snd2 w.c1 w.r.t1) v.f12 3).c1.co.ss), ((w.clr.put1 true (snd2 w.c1 w.r.t1) v.f12 3).r.e, v.e), ((((0 : Int), (0 : Int)), (0 : Int), ([] : List UInt8)), (w.clr.put1 true (snd2 w.c1 w.r.t1) v.f12 3).f2.e), false, (w.clr.put1 true (snd2 w.c1 w.r.t1) v.f12 3).b2)) ?_).trans rfl
  · refine (bdS (o34_eq (w := w) h)).trans ?_
    exact wire_eq (snd2 w.c1 w.r.t1).2.1 (snd2 w.c1 w.r.t1).2.2 v.f12 3 1 w.p.cycle (fun z : Frm × Bool => (((w.clr.p.e, w.clr.m1.e, w.clr.m2.e), (snd2 w.c1 w.r.t1).1.h, (snd2 w.c1 w.r.t1).1.nd.e, (snd2 w.c1 w.r.t1).1.ps), ((snd2 w.c1 w.r.t1).1.cz, (snd2 w.c1 w.r.t1).1.co.ps, (snd2 w.c1 w.r.t1).1.co.ss), (w.clr.r.e, v.e), ((((0 : Int), (0 : Int)), (0 : Int), ([] : List UInt8)), z.1.e), false, z.2))
theorem o38_eq {w : W} (h : w.ok true false) : o38 w.p.e w.m1.e w.m2.e w.c1.h w.c1.nd.e w.c1.ps w.c1.cz w.c1.co.ps w.c1.co.ss = some ((((((snd3 w.c1 w.m1).2.1.label, (snd3 w.c1 w.m1).2.1.from_), (snd3 w.c1 w.m1).2.1.cycle, (snd3 w.c1 w.m1).2.2), w.p.e), w.m1.e, w.m2.e, (snd3 w.c1 w.m1).1.h), ((snd3 w.c1 w.m1).1.nd.e, (snd3 w.c1 w.m1).1.ps, (snd3 w.c1 w.m1).1.cz), (snd3 w.c1 w.m1).1.co.ps, (snd3 w.c1 w.m1).1.co.ss, (snd3 w.c1 w.m1).2.1.payload) := by
  unfold o38
  refine (bdS (t := (((w.p.e, w.m1.e), w.m2.e, w.c1.h, w.c1.nd.e), (w.c1.ps, w.c1.cz, w.c1.co.ps), w.c1.co.ss, (((0 : Int), (0 : Int)), (0 : Int), ([] : List UInt8)), cond w.c1.asked (saveB w.m1) [])) ?_).trans ?_
  · exact cnd_ext (c := w.c1.asked) (F := fun z : List UInt8 => (((w.p.e, w.m1.e), w.m2.e, w.c1.h, w.c1.nd.e), (w.c1.ps, w.c1.cz, w.c1.co.ps), w.c1.co.ss, (((0 : Int), (0 : Int)), (0 : Int), ([] : List UInt8)), z)) (X := saveB w.m1) (Y := []) ((bdS (o180_eq h.p1.1 (le_mil h.p1.2))).trans rfl) rfl
  · exact (bdS (o39_eq (c := w.c1) (save := cond w.c1.asked (saveB w.m1) []) (h.c1 rfl))).trans rfl
theorem o23v3_eq {w : W} (h : w.ok true false) (v : Ev) : o23v3 v.e w.p.e w.m1.e w.m2.e w.c1.h w.c1.nd.e w.c1.ps w.c1.cz w.c1.co.ps w.c1.co.ss = some (((((((0 : Int), (0 : Int)), (0 : Int), ([] : List UInt8), (w.ex3 true false v).f2.label), ((w.ex3 true false v).f2.from_, (w.ex3 true false v).f2.cycle), (w.ex3 true false v).f2.payload, false, (w.ex3 true false v).b2), (w.ex3 true false v).p.e), (w.ex3 true false v).m1.e, (w.ex3 true false v).m2.e, (w.ex3 true false v).c1.h), ((w.ex3 true false v).c1.nd.e, (w.ex3 true false v).c1.ps), (w.ex3 true false v).c1.cz, (w.ex3 true false v).c1.co.ps, (w.ex3 true false v).c1.co.ss) := by
  unfold o23v3
  refine (bdS (t := ((((w.clr.put1 true (snd3 w.c1 w.m1) v.f13 4).p.e, (w.clr.put1 true (snd3 w.c1 w.m1) v.f13 4).m1.e, (w.clr.put1 true (snd3 w.c1 w.m1) v.f13 4).m2.e), (w.clr.put1 true (snd3 w.c1 w.m1) v.f13 4).c1.h, (w.clr.put1 true (snd3 w.c1 w.m1) v.f13 4).c1.nd.e, (w.clr.put1 true (snd3 w.c1 w.m1) v.f13 4).c1.ps), ((w.clr.put1 true (snd3 w.c1 w.m1) v.f13 4).c1.cz, (w.clr.put1 true (snd3 w.c1 w.m1) v.f13 4).c1.co.ps, (w.clr.put1 true (snd3 w.c1 w.m1) v.f13 4).c1.co.ss), v.e, ((((0 : Int), (0 : Int)), (0 : Int), ([] : List UInt8)), (w.clr.put1 true (snd3 w.c1 w.m1) v.f13 4).f2.e), false, (w.clr.put1 true (snd3 w.c1 w.m1) v.f13 4).b2)) ?_).trans rfl
  · refine (bdS (o38_eq (w := w) h)).trans ?_
    exact wire_eq (snd3 w.c1 w.m1).2.1 (snd3 w.c1 w.m1).2.2 v.f13 4 1 w.p.cycle (fun z : Frm × Bool => (((w.clr.p.e, w.clr.m1.e, w.clr.m2.e), (snd3 w.c1 w.m1).1.h, (snd3 w.c1 w.m1).1.nd.e, (snd3 w.c1 w.m1).1.ps), ((snd3 w.c1 w.m1).1.cz, (snd3 w.c1 w.m1).1.co.ps, (snd3 w.c1 w.m1).1.co.ss), v.e, ((((0 : Int), (0 : Int)), (0 : Int), ([] : List UInt8)), z.1.e), false, z.2))
theorem o27_eq {w : W} (h : w.ok true false) : o27 w.p.e w.m1.e w.m2.e w.c1.h w.c1.nd.e w.c1.ps w.c1.cz w.c1.co.ps w.c1.co.ss (w.f1.e, w.f2.e) (w.b1, w.b2) = some ((((w.hear true false).p.e, (w.hear true false).m1.e), (w.hear true false).m2.e, (w.hear true false).c1.h, (w.hear true false).c1.nd.e), ((w.hear true false).c1.ps, (w.hear true false).c1.cz, (w.hear true false).f1.e, (w.hear true false).f2.e), ((w.hear true false).b1, (w.hear true false).b2), (w.hear true false).c1.co.ps, (w.hear true false).c1.co.ss) := by
  unfold o27
  exact (bdS (o28_eq (c := w.c1) (f := w.f1) (came := w.b1) (h.c1 rfl))).trans rfl
theorem o26_eq {w : W} (h : w.ok true false) : o26 w.p.e w.m1.e w.m2.e w.c1.h w.c1.nd.e w.c1.ps w.c1.cz w.c1.co.ps w.c1.co.ss (w.f1.e, w.f2.e) (w.b1, w.b2) = some ((((w.hear true false).p.e, (w.hear true false).m1.e), (w.hear true false).m2.e, (w.hear true false).c1.h, (w.hear true false).c1.nd.e), ((w.hear true false).c1.ps, (w.hear true false).c1.cz, (w.hear true false).f1.e, (w.hear true false).f2.e), ((w.hear true false).b1, (w.hear true false).b2), (w.hear true false).c1.co.ps, (w.hear true false).c1.co.ss) := by
  unfold o26
  exact (bdS (o27_eq h)).trans rfl
theorem o31_eq {w : W} (h : w.ok true false) (v : Ev) : o31 w.p.e w.m1.e w.m2.e w.c1.h w.c1.nd.e w.c1.ps w.c1.cz w.c1.co.ps w.c1.co.ss (w.f1.e, w.f2.e) (w.b1, w.b2) (w.s1, w.s2) w.r.e v.e = some ((((w.step1 v (w.c1.step w.f1 w.b1)).p.e, (w.step1 v (w.c1.step w.f1 w.b1)).m1.e, (w.step1 v (w.c1.step w.f1 w.b1)).m2.e), ((w.step1 v (w.c1.step w.f1 w.b1)).c1.h, (w.step1 v (w.c1.step w.f1 w.b1)).c1.nd.e), (w.step1 v (w.c1.step w.f1 w.b1)).c1.ps, (w.step1 v (w.c1.step w.f1 w.b1)).c1.cz), (((w.step1 v (w.c1.step w.f1 w.b1)).f1.e, (w.step1 v (w.c1.step w.f1 w.b1)).f2.e), ((w.step1 v (w.c1.step w.f1 w.b1)).b1, (w.step1 v (w.c1.step w.f1 w.b1)).b2), (w.step1 v (w.c1.step w.f1 w.b1)).s1, (w.step1 v (w.c1.step w.f1 w.b1)).s2), ((w.step1 v (w.c1.step w.f1 w.b1)).r.e, v.e), (w.step1 v (w.c1.step w.f1 w.b1)).c1.co.ps, (w.step1 v (w.c1.step w.f1 w.b1)).c1.co.ss) := by
  unfold o31
  have hin : (w.c1.step w.f1 w.b1).2.1.in_.length ≤ 2000 := step_in (h.c1 rfl) h.f1
  refine (bdS (o32_eq (c := w.c1) (f := w.f1) (came := w.b1) (h.c1 rfl) h.f1)).trans ?_
  generalize (w.c1.step w.f1 w.b1) = x at hin ⊢
  obtain ⟨c, se, has, er⟩ := x
  cases has with
  | false => rfl
  | true =>
    refine (cndF rfl).trans ?_
    refine (bdS (t := ((((w.p.e, (cond se.fresh (w.m1.load w.p.init).1 w.m1).e), w.m2.e, c.h), (c.nd.e, c.ps), c.cz, w.f1.e, w.f2.e), (((w.b1, w.b2), w.s1, w.s2), w.r.e, v.e), ((se.steps, se.cycle, se.fresh), c.co.ps), c.co.ss, se.in_)) ?_).trans ?_
    · exact cnd_ext (c := se.fresh) (F := fun z : Mc => ((((w.p.e, z.e), w.m2.e, c.h), (c.nd.e, c.ps), c.cz, w.f1.e, w.f2.e), (((w.b1, w.b2), w.s1, w.s2), w.r.e, v.e), ((se.steps, se.cycle, se.fresh), c.co.ps), c.co.ss, se.in_)) (X := (w.m1.load w.p.init).1) (Y := w.m1) ((bdS (o33_eq (Nat.le_trans h.init (by decide)))).trans ((bdS (o179_eq (m := w.m1) (p := w.p.init) h.p1.1 (le_mil h.p1.2))).trans rfl)) rfl
    · exact (bdS (o181_eq (cond se.fresh (w.m1.load w.p.init).1 w.m1) se.cycle (l := se.in_) (Nat.le_trans hin (by decide)))).trans rfl
theorem o26v1_eq {w : W} (h : w.ok true false) (v : Ev) : o26v1 w.p.e w.m1.e w.m2.e w.c1.h w.c1.nd.e w.c1.ps w.c1.cz w.c1.co.ps w.c1.co.ss (w.f1.e, w.f2.e) (w.b1, w.b2) (w.s1, w.s2) w.r.e v.e = some ((((w.step true false v).p.e, (w.step true false v).m1.e, (w.step true false v).m2.e), ((w.step true false v).c1.h, (w.step true false v).c1.nd.e), (w.step true false v).c1.ps, (w.step true false v).c1.cz), (((w.step true false v).f1.e, (w.step true false v).f2.e), ((w.step true false v).b1, (w.step true false v).b2), (w.step true false v).s1, (w.step true false v).s2), ((w.step true false v).r.e, v.e), (w.step true false v).c1.co.ps, (w.step true false v).c1.co.ss) := by
  unfold o26v1
  exact (bdS (o31_eq h v)).trans rfl
theorem o36_eq {w : W} (h : w.ok true false) : o36 w.p.e w.m1.e w.m2.e w.c1.h w.c1.nd.e w.c1.ps w.c1.cz w.c1.co.ps w.c1.co.ss (w.f1.e, w.f2.e) (w.b1, w.b2) w.r.e = some ((((w.judge true false).p.e, (w.judge true false).m1.e, (w.judge true false).m2.e), (w.judge true false).c1.h, (w.judge true false).c1.nd.e, (w.judge true false).c1.ps), ((w.judge true false).c1.cz, (w.judge true false).c1.co.ps, (w.judge true false).c1.co.ss), ((w.judge true false).f1.e, (w.judge true false).f2.e), ((w.judge true false).b1, (w.judge true false).b2), (w.judge true false).r.e) := by
  unfold o36
  exact (bdS (o37_eq (c := w.c1) (f := w.f1) (came := w.b1))).trans rfl
theorem o26v2_eq {w : W} (h : w.ok true false) : o26v2 w.p.e w.m1.e w.m2.e w.c1.h w.c1.nd.e w.c1.ps w.c1.cz w.c1.co.ps w.c1.co.ss (w.f1.e, w.f2.e) (w.b1, w.b2) w.r.e = some ((((w.judge true false).p.e, (w.judge true false).m1.e, (w.judge true false).m2.e), (w.judge true false).c1.h, (w.judge true false).c1.nd.e, (w.judge true false).c1.ps), ((w.judge true false).c1.cz, (w.judge true false).c1.co.ps, (w.judge true false).c1.co.ss), ((w.judge true false).f1.e, (w.judge true false).f2.e), ((w.judge true false).b1, (w.judge true false).b2), (w.judge true false).r.e) := by
  unfold o26v2
  exact (bdS (o36_eq h)).trans rfl
theorem o41_eq {w : W} (h : w.ok true false) : o41 w.f1.e w.b1 w.p.e w.m1.e w.m2.e w.c1.h w.c1.nd.e w.c1.ps w.c1.cz w.c1.co.ps w.c1.co.ss = some (((w.p.e, (tookA w.m1 (w.c1.take w.f1 w.b1)).2.e), w.m2.e, (tookA w.m1 (w.c1.take w.f1 w.b1)).1.h), ((tookA w.m1 (w.c1.take w.f1 w.b1)).1.nd.e, (tookA w.m1 (w.c1.take w.f1 w.b1)).1.ps), (tookA w.m1 (w.c1.take w.f1 w.b1)).1.cz, (tookA w.m1 (w.c1.take w.f1 w.b1)).1.co.ps, (tookA w.m1 (w.c1.take w.f1 w.b1)).1.co.ss) := by
  unfold o41
  have hj := take_job (h.c1 rfl) (f := w.f1) (came := w.b1)
  refine (bdS (o83_eq (c := w.c1) (f := w.f1) (came := w.b1) (h.c1 rfl) h.f1)).trans ?_
  generalize (w.c1.take w.f1 w.b1) = x at hj ⊢
  obtain ⟨c, ⟨jb, sn, l⟩, has, er⟩ := x
  cases has with
  | false => rfl
  | true =>
    have hs : l.length ≤ 874 := hj.sets
    have hi : ∀ x ∈ l, x.2.2.2.length ≤ 2000 := hj.ins
    refine (cndF rfl).trans ?_
    refine (bdS (o179_eq (m := w.m1) (p := sn) h.p1.1 (le_mil h.p1.2))).trans ?_
    refine cnd_ext (c := (w.m1.load sn).2 != 0) (F := fun z : Cp × Mc => (((w.p.e, z.2.e), w.m2.e, z.1.h), (z.1.nd.e, z.1.ps), z.1.cz, z.1.co.ps, z.1.co.ss)) (X := (c.drop, (w.m1.load sn).1)) (Y := (c, runL (w.m1.load sn).1 l)) ((bdS (o22_eq c)).trans rfl) ?_
    refine loop_from (fun i => (((((l.length : Nat) : Int), ((i : Nat) : Int), w.p.e), (runL (w.m1.load sn).1 (l.take i)).e, w.m2.e, c.h), (c.nd.e, c.ps, c.cz), l, c.co.ps, c.co.ss)) l.length rfl (fun i hi' => ?_) ?_ (by omega)
    · have hd : (l.getD i (0, 0, false, [])).2.2.2.length ≤ 100000000 := by rw [getD_of hi']; exact Nat.le_trans (hi _ (List.getElem_mem hi')) (by decide)
      unfold o41_b0
      refine (cndT (dt (by show (i : Int) < (l.length : Int); omega))).trans ((gdT (dt (by show (0 : Int) ≤ i ∧ (i : Int) < (l.length : Int); omega))).trans ((bdS (o181_eq (runL (w.m1.load sn).1 (l.take i)) (l.getD i (0, 0, false, [])).2.1 (l := (l.getD i (0, 0, false, [])).2.2.2) hd)).trans ?_))
      exact go_next (runL_succ _ hi') (wr64 (by omega)) (fun (m : Mc) (k : Int) => (((((l.length : Nat) : Int), k, w.p.e), m.e, w.m2.e, c.h), (c.nd.e, c.ps, c.cz), l, c.co.ps, c.co.ss))
    · unfold o41_b0
      refine (cndF (df (by show ¬ (l.length : Int) < (l.length : Int); omega))).trans ?_
      rw [List.take_length]
      exact dnS _
theorem o40_eq {w : W} (h : w.ok true false) : o40 w.p.e w.m1.e w.m2.e w.c1.h w.c1.nd.e w.c1.ps w.c1.cz w.c1.co.ps w.c1.co.ss (w.f1.e, w.f2.e) (w.b1, w.b2) = some ((((w.take true false).p.e, (w.take true false).m1.e), (w.take true false).m2.e, (w.take true false).c1.h, (w.take true false).c1.nd.e), ((w.take true false).c1.ps, (w.take true false).c1.cz, (w.take true false).f1.e, (w.take true false).f2.e), ((w.take true false).b1, (w.take true false).b2), (w.take true false).c1.co.ps, (w.take true false).c1.co.ss) := by
  unfold o40
  exact (bdS (o41_eq h)).trans rfl
theorem o26v3_eq {w : W} (h : w.ok true false) : o26v3 w.p.e w.m1.e w.m2.e w.c1.h w.c1.nd.e w.c1.ps w.c1.cz w.c1.co.ps w.c1.co.ss (w.f1.e, w.f2.e) (w.b1, w.b2) = some ((((w.take true false).p.e, (w.take true false).m1.e), (w.take true false).m2.e, (w.take true false).c1.h, (w.take true false).c1.nd.e), ((w.take true false).c1.ps, (w.take true false).c1.cz, (w.take true false).f1.e, (w.take true false).f2.e), ((w.take true false).b1, (w.take true false).b2), (w.take true false).c1.co.ps, (w.take true false).c1.co.ss) := by
  unfold o26v3
  exact (bdS (o40_eq h)).trans rfl
theorem o42_eq {w : W} (h : w.ok true false) : o42 w.p.e w.m1.e w.m2.e w.c1.h w.c1.nd.e w.c1.ps (w.c1.cz, w.c1.co.ps, w.c1.co.ss) w.r.e = some (w.node true false).r.e := by
  unfold o42
  exact (bdS (o43_eq (c := w.c1) (h.c1 rfl) _)).trans rfl
theorem o26v4_eq {w : W} (h : w.ok true false) : o26v4 w.p.e w.m1.e w.m2.e w.c1.h w.c1.nd.e w.c1.ps w.c1.cz w.c1.co.ps w.c1.co.ss w.r.e = some ((((w.node true false).p.e, (w.node true false).m1.e), (w.node true false).m2.e, (w.node true false).c1.h, (w.node true false).c1.nd.e), ((w.node true false).c1.ps, (w.node true false).c1.cz), (w.node true false).c1.co.ps, (w.node true false).c1.co.ss, (w.node true false).r.e) := by
  unfold o26v4
  exact (bdS (o42_eq h)).trans rfl
end Go.Proofs.YtpleflcfaecojaaGreat
