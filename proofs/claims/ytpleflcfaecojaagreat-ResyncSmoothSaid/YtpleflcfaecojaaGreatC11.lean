/-
One computer, the rest of its methods. Conditions: each lemma's own.
-/
import Derived.Test.YtpleflcfaecojaaGreatC10
namespace Go.Proofs.YtpleflcfaecojaaGreat
set_option linter.unusedVariables false
set_option linter.unusedSimpArgs false
set_option maxRecDepth 100000
open Go.RowKit
theorem cnd_and4 {α : Type} (a b c d e : Bool) (F : Bool → α) : cnd a (cnd b (cnd c (cnd d (some (F e)) (some (F false))) (some (F false))) (some (F false))) (some (F false)) = some (F (a && (b && (c && (d && e))))) := by cases a <;> cases b <;> cases c <;> cases d <;> rfl
theorem cnd_and3 {α : Type} (a b c d : Bool) (F : Bool → α) : cnd a (cnd b (cnd c (some (F d)) (some (F false))) (some (F false))) (some (F false)) = some (F (a && (b && (c && d)))) := by cases a <;> cases b <;> cases c <;> rfl
def Cp.setFits (c : Cp) (f : Frm) (came : Bool) : Bool := came && (f.label == 2 && (f.from_ == IntKind.u8.wrap (IntKind.i64.wrap (3 - c.number)) && (f.cycle == c.cycle && (getSet c.cycle f.payload).2 == 0)))
def Cp.noted (c : Cp) (f : Frm) (came : Bool) : Cp := { c with co := c.co.note (getSet c.cycle f.payload).1 (c.setFits f came) }
def Cp.stepped (c : Cp) (x : Nd × Se × Bool × Int) (f : Frm) (came : Bool) : Cp := cond (x.1.role == 1) ((cond (c.nd.role == 1) { c with next := 4, nd := x.1 } ({ c with next := 4, nd := x.1 } : Cp).reset).noted f came) { c with next := 4, nd := x.1 }
def Cp.step (c : Cp) (f : Frm) (came : Bool) : Cp × Se × Bool × Int := cond (c.next != 3) (c, noSe, false, 8) (c.stepped (c.nd.step f came) f came, (c.nd.step f came).2)
def sE (x : Cp × Se × Bool × Int) := (((((x.2.1.steps, x.2.1.cycle), x.2.1.fresh, x.2.2.1, x.2.2.2), x.1.h), x.1.nd.e, x.1.ps), (x.1.cz, x.2.1.in_), x.1.co.ps, x.1.co.ss)
theorem o32_eq {c : Cp} {f : Frm} {came : Bool} (h : c.ok) (hf : f.payload.length ≤ 1100) : o32 f.e came c.h c.nd.e c.ps c.cz c.co.ps c.co.ss = some (sE (c.step f came)) := by
  unfold o32 Cp.step
  refine (bdS (o71_eq 3 c _)).trans ?_
  cases h0 : (c.next != 3) with
  | true => rfl
  | false =>
    rw [cond_false, cond_false]
    refine (cndF (by decide)).trans ?_
    refine (bdS (o46_eq { c with next := 4 } _)).trans ?_
    refine (bdS (o76_eq (n := c.nd) (f := f) (came := came) (Nat.le_trans hf (by decide)) (Nat.le_trans h.sin (by decide)))).trans ?_
    generalize c.nd.step f came = x
    refine (bdS (t := ((fun z : Cp => (((x.2.2.1, x.2.2.2), z.h, z.nd.e, z.ps), (z.cz, false, x.2.1.steps, x.2.1.cycle, x.2.1.fresh), x.2.1.in_, z.co.ps, z.co.ss)) (c.stepped x f came))) ?_).trans rfl
    refine (bdS (o46_eq { c with next := 4, nd := x.1 } _)).trans ?_
    unfold Cp.stepped
    refine cnd_ext (c := x.1.role == 1) (F := fun z : Cp => (((x.2.2.1, x.2.2.2), z.h, z.nd.e, z.ps), (z.cz, false, x.2.1.steps, x.2.1.cycle, x.2.1.fresh), x.2.1.in_, z.co.ps, z.co.ss)) ?_ rfl
    refine (bdS (t := ((fun z : Cp => (((came, x.2.2.1, x.2.2.2), z.h, z.nd.e, z.ps), (z.cz, ((f.label, f.from_), f.cycle, f.payload), false), ((x.2.1.steps, x.2.1.cycle, x.2.1.fresh), z.co.ps), z.co.ss, x.2.1.in_)) (cond (c.nd.role == 1) { c with next := 4, nd := x.1 } ({ c with next := 4, nd := x.1 } : Cp).reset))) ?_).trans ?_
    · exact cndN_ext (c := c.nd.role == 1) (F := fun z : Cp => (((came, x.2.2.1, x.2.2.2), z.h, z.nd.e, z.ps), (z.cz, ((f.label, f.from_), f.cycle, f.payload), false), ((x.2.1.steps, x.2.1.cycle, x.2.1.fresh), z.co.ps), z.co.ss, x.2.1.in_)) rfl (bdS (o68_eq { c with next := 4, nd := x.1 }))
    have hs : (cond (c.nd.role == 1) { c with next := 4, nd := x.1 } ({ c with next := 4, nd := x.1 } : Cp).reset).co.ss.length ≤ 1000000 := by
      cases (c.nd.role == 1) with
      | true => exact Nat.le_trans h.css (by decide)
      | false => exact Nat.zero_le _
    generalize (cond (c.nd.role == 1) { c with next := 4, nd := x.1 } ({ c with next := 4, nd := x.1 } : Cp).reset) = d at hs
    refine (bdS (o77_eq (cycle := d.cycle) (p := f.payload) (Nat.le_trans hf (by decide)))).trans ?_
    refine (bdS (cnd_and4 came (f.label == 2) (f.from_ == IntKind.u8.wrap (IntKind.i64.wrap (3 - d.number))) (f.cycle == d.cycle) ((getSet d.cycle f.payload).2 == 0) (fun b : Bool => (((x.2.2.1, x.2.2.2, b), (d.h, d.nd.e), d.ps, d.cz), (false, (x.2.1.steps, x.2.1.cycle, x.2.1.fresh), (getSet d.cycle f.payload).1.steps, (getSet d.cycle f.payload).1.cycle, (getSet d.cycle f.payload).1.fresh), (d.co.ps, d.co.ss), x.2.1.in_, (getSet d.cycle f.payload).1.in_)))).trans ?_
    refine (bdS (o78_eq (c := d.co) (x := (getSet d.cycle f.payload).1) (came := d.setFits f came) (Nat.le_trans (getSet_len _ _) (Nat.le_trans hf (by decide))) hs)).trans ?_
    rfl
def Cp.served (c : Cp) (x : List PT × PT × Int) : Cp × Frm × Bool × Int := cond (x.2.2 != 0) ({ c with next := 7, ps := x.1 }, noFrm, false, x.2.2) ({ c with next := 7, ps := x.1 }, ⟨4, IntKind.u8.wrap c.number, c.cycle, (encP x.2.1).2⟩, true, 0)
def Cp.serve (c : Cp) (save : List UInt8) : Cp × Frm × Bool × Int := cond (c.next != 6) (c, noFrm, false, 8) (cond c.asked (c.served (Go.Proofs.YtpleflcfaecojaaGreat.serve c.ps c.wb c.wh c.nd.steps save)) ({ c with next := 7 }, noFrm, false, 0))
theorem o39_eq {c : Cp} {save : List UInt8} (h : c.ok) : o39 save c.h c.nd.e c.ps c.cz c.co.ps c.co.ss = some (fE (c.serve save)) := by
  unfold o39 Cp.serve
  refine (bdS (o71_eq 6 c _)).trans ?_
  cases h0 : (c.next != 6) with
  | true => rfl
  | false =>
    rw [cond_false, cond_false]
    refine (cndF (by decide)).trans ?_
    refine cndN_ext (c := c.asked) (F := fE) ?_ rfl
    refine (bdS (o45_eq c.nd)).trans ?_
    refine (bdS (o81_eq (base := c.wb) (have_ := c.wh) h.data)).trans ?_
    generalize Go.Proofs.YtpleflcfaecojaaGreat.serve c.ps c.wb c.wh c.nd.steps save = x
    unfold Cp.served
    refine cnd_ext (c := x.2.2 != 0) (F := fE) rfl ?_
    exact bdS (o82_eq x.2.1.1 x.2.1.2.1 x.2.1.2.2.1 x.2.1.2.2.2)
abbrev JobT : Type := Int × List UInt8 × List ST
def noJob : JobT := (0, [], [])
def Cp.pieceFits (c : Cp) (f : Frm) (came : Bool) : Bool := came && (f.label == 4 && (f.from_ == IntKind.u8.wrap (IntKind.i64.wrap (3 - c.number)) && f.cycle == c.cycle))
def Cp.got (c : Cp) (f : Frm) (came : Bool) : Cp := cond (c.pieceFits f came) (cond ((decP f.payload).2 == 0) { c with next := 0, co := c.co.take (decP f.payload).1 } { c with next := 0 }) { c with next := 0 }
def Cp.jobDone (c : Cp) : Cp × JobT × Bool × Int :=
  cond ((c.nd.adopt (IntKind.i64.wrap (c.co.base + (c.co.ss.length : Int)))).2 != 0) ({ c with nd := (c.nd.adopt (IntKind.i64.wrap (c.co.base + (c.co.ss.length : Int)))).1 }, noJob, false, 0)
    (({ c with nd := (c.nd.adopt (IntKind.i64.wrap (c.co.base + (c.co.ss.length : Int)))).1 } : Cp).reset, (c.co.base, c.co.ps.flatten, c.co.ss), true, 0)
def Cp.take (c : Cp) (f : Frm) (came : Bool) : Cp × JobT × Bool × Int :=
  cond (c.next != 7) (c, noJob, false, 8) (cond (c.nd.role == 1) (cond (c.got f came).co.ready (c.got f came).jobDone (c.got f came, noJob, false, 0)) ({ c with next := 0 }, noJob, false, 0))
def jE (x : Cp × JobT × Bool × Int) := ((((x.2.1.1, x.2.2.1, x.2.2.2), x.1.h), x.1.nd.e, x.1.ps), (x.1.cz, x.2.1.2.1), x.2.1.2.2, x.1.co.ps, x.1.co.ss)
theorem take_bound {c : Co} (h : c.ps.length ≤ 874) (p : PT) : (c.take p).ps.length ≤ 874 := by
  unfold Co.take
  cases hv : validP p with
  | false => exact h
  | true =>
    obtain ⟨v1, v2, v3, v4⟩ := validP_ok hv
    rw [cond_true]
    cases hf : c.fitsP p with
    | true =>
      unfold Co.fitsP at hf
      simp only [Bool.and_eq_true, decide_eq_true_eq, beq_iff_eq] at hf
      show (c.ps ++ [p.2.2.2]).length ≤ 874
      rw [List.length_append, List.length_singleton]
      omega
    | false =>
      rw [cond_false]
      cases (p.2.1 == 0) with
      | true => exact (by decide : 1 ≤ 874)
      | false => exact h
theorem take_data {c : Co} (h : ∀ x ∈ c.ps, x.length ≤ 600) (p : PT) : ∀ x ∈ (c.take p).ps, x.length ≤ 600 := by
  unfold Co.take
  cases hv : validP p with
  | false => exact h
  | true =>
    obtain ⟨v1, v2, v3, v4⟩ := validP_ok hv
    rw [cond_true]
    cases hf : c.fitsP p with
    | true =>
      intro x hx
      rcases List.mem_append.1 hx with hx | hx
      · exact h x hx
      · rw [List.mem_singleton] at hx; subst hx; exact v4
    | false =>
      rw [cond_false]
      cases (p.2.1 == 0) with
      | true => intro x hx; rw [show x = p.2.2.2 from List.mem_singleton.1 hx]; exact v4
      | false => exact h
theorem take_ss {c : Co} (p : PT) : (c.take p).ss = c.ss ∨ (c.take p).ss = [] := by
  unfold Co.take
  cases validP p <;> cases c.fitsP p <;> cases (p.2.1 == 0) <;> first | exact .inl rfl | exact .inr rfl
theorem got_ok {c : Cp} {f : Frm} {came : Bool} (h : c.ok) : (c.got f came).ok := by
  unfold Cp.got
  cases c.pieceFits f came with
  | false => exact ⟨h.num, h.nnum, h.inp, h.hinp, h.sin, h.data, h.cps, h.cpd, h.css, h.csd⟩
  | true =>
    rw [cond_true]
    cases ((decP f.payload).2 == 0) with
    | false => exact ⟨h.num, h.nnum, h.inp, h.hinp, h.sin, h.data, h.cps, h.cpd, h.css, h.csd⟩
    | true =>
      refine ⟨h.num, h.nnum, h.inp, h.hinp, h.sin, h.data, take_bound h.cps _, take_data h.cpd _, ?_, ?_⟩
      · show (c.co.take (decP f.payload).1).ss.length ≤ 874
        rcases take_ss (c := c.co) (decP f.payload).1 with e | e
        · rw [e]; exact h.css
        · rw [e]; exact Nat.zero_le _
      · show ∀ x ∈ (c.co.take (decP f.payload).1).ss, x.2.2.2.length ≤ 2000
        rcases take_ss (c := c.co) (decP f.payload).1 with e | e
        · rw [e]; exact h.csd
        · rw [e]; intro x hx; cases hx
theorem decP_len (p : List UInt8) : (decP p).1.2.2.2.length ≤ p.length := by
  unfold decP
  cases (decide ((p.length : Int) < 12)) with
  | true => exact Nat.zero_le _
  | false =>
    rw [cond_false]
    cases validP (rawP p) with
    | true => show (p.drop 12).length ≤ p.length; rw [List.length_drop]; omega
    | false => exact Nat.zero_le _
theorem o83_eq {c : Cp} {f : Frm} {came : Bool} (h : c.ok) (hf : f.payload.length ≤ 1100) : o83 f.e came c.h c.nd.e c.ps c.cz c.co.ps c.co.ss = some (jE (c.take f came)) := by
  unfold o83 Cp.take
  refine (bdS (o71_eq 7 c _)).trans ?_
  cases h0 : (c.next != 7) with
  | true => rfl
  | false =>
    rw [cond_false, cond_false]
    refine (cndF (by decide)).trans ?_
    refine (bdS (o46_eq { c with next := 0 } _)).trans ?_
    refine cndN_ext (c := c.nd.role == 1) (F := jE) ?_ rfl
    refine (bdS (t := ((fun z : Cp => ((z.h, z.nd.e, z.ps), z.cz, z.co.ps, z.co.ss)) (c.got f came))) ?_).trans ?_
    · refine (bdS (cnd_and3 came (f.label == 4) (f.from_ == IntKind.u8.wrap (IntKind.i64.wrap (3 - c.number))) (f.cycle == c.cycle) (fun b : Bool => (((b, (c.number, 0, c.cycle), c.asked, c.wb, c.wh), c.nd.e, c.ps), (c.cz, c.co.ps), c.co.ss, f.e)))).trans ?_
      unfold Cp.got Cp.pieceFits
      refine cnd_ext (c := came && (f.label == 4 && (f.from_ == IntKind.u8.wrap (IntKind.i64.wrap (3 - c.number)) && f.cycle == c.cycle))) (F := fun z : Cp => ((z.h, z.nd.e, z.ps), z.cz, z.co.ps, z.co.ss)) ?_ rfl
      refine (bdS (o125_eq (p := f.payload) (Nat.le_trans hf (by decide)))).trans ?_
      refine cnd_ext (c := (decP f.payload).2 == 0) (F := fun z : Cp => ((z.h, z.nd.e, z.ps), z.cz, z.co.ps, z.co.ss)) ?_ rfl
      exact bdS (o126_eq (c := c.co) (decP f.payload).1.1 (decP f.payload).1.2.1 (decP f.payload).1.2.2.1 (decP f.payload).1.2.2.2 (Nat.le_trans (decP_len _) (Nat.le_trans hf (by decide))) (Nat.le_trans h.cps (by decide)))
    have hg : (c.got f came).ok := got_ok h
    generalize c.got f came = d at hg
    refine (bdS (o127_eq (c := d.co) (Nat.le_trans hg.css (by decide)) (fun x hx => Nat.le_trans (hg.csd x hx) (by decide)) (Nat.le_trans hg.cps (by decide)) (fun x hx => Nat.le_trans (hg.cpd x hx) (by decide)))).trans ?_
    cases hr : d.co.ready with
    | false => rfl
    | true =>
      rw [cond_true, cond_true]
      unfold Cp.jobDone
      refine (bdS (t := (((((d.nd.adopt (IntKind.i64.wrap (d.co.base + (d.co.ss.length : Int)))).2 != 0), d.h), (d.nd.adopt (IntKind.i64.wrap (d.co.base + (d.co.ss.length : Int)))).1.e, d.ps, d.cz), (d.co.base, d.co.ps), d.co.ss, d.co.ps.flatten, d.co.ss)) ((bdS (o128_eq d.nd (IntKind.i64.wrap (d.co.base + (d.co.ss.length : Int))))).trans rfl)).trans ?_
      generalize d.nd.adopt (IntKind.i64.wrap (d.co.base + (d.co.ss.length : Int))) = y
      refine cnd_ext (c := y.2 != 0) (F := jE) rfl ?_
      exact bdS (o68_eq { d with nd := y.1 })
end Go.Proofs.YtpleflcfaecojaaGreat
