/-
One computer: what its methods compute. Conditions: each lemma's own.
-/
import Derived.Test.YtpleflcfaecojaaGreatC9
import Derived.Test.YtpleflcfaecojaaGreatS5
namespace Go.Proofs.YtpleflcfaecojaaGreat
set_option linter.unusedVariables false
set_option linter.unusedSimpArgs false
set_option maxRecDepth 100000
open Go.RowKit
structure Cp where
  number : Int
  next : Int
  cycle : Int
  asked : Bool
  wb : Int
  wh : Int
  nd : Nd
  ps : List PT
  co : Co
def Cp.h (c : Cp) : (Int × Int × Int) × Bool × Int × Int := ((c.number, c.next, c.cycle), c.asked, c.wb, c.wh)
def Cp.cz (c : Cp) : Int × Int := (c.co.base, c.co.count)
structure Cp.ok (c : Cp) : Prop where
  num : c.number = 1 ∨ c.number = 2
  nnum : c.nd.number = c.number
  inp : c.nd.input.length ≤ 1000
  hinp : c.nd.hd.input.length ≤ 400
  sin : c.nd.se.in_.length ≤ 2000
  data : ∀ p ∈ c.ps, p.2.2.2.length ≤ 600
  cps : c.co.ps.length ≤ 874
  cpd : ∀ x ∈ c.co.ps, x.length ≤ 600
  css : c.co.ss.length ≤ 874
  csd : ∀ x ∈ c.co.ss, x.2.2.2.length ≤ 2000
def newCp (k : Int) : Cp := ⟨k, 0, 0, false, 0, 0, newNd k, [], noCo⟩
theorem o21_eq : o21 = some (((newCp 1).h, (newCp 1).nd.e, (newCp 1).ps), (newCp 1).cz, (newCp 1).co.ps, (newCp 1).co.ss) := rfl
theorem o21v1_eq : o21v1 = some (((newCp 2).h, (newCp 2).nd.e, (newCp 2).ps), (newCp 2).cz, (newCp 2).co.ps, (newCp 2).co.ss) := rfl
theorem newCp_ok {k : Int} (h : k = 1 ∨ k = 2) : (newCp k).ok := ⟨h, rfl, by simp [newCp, newNd], by simp [newCp, newNd, noHd], by simp [newCp, newNd, noSe], by simp [newCp], by simp [newCp, noCo], by simp [newCp, noCo], by simp [newCp, noCo], by simp [newCp, noCo]⟩
def Cp.reset (c : Cp) : Cp := { c with ps := [], co := noCo }
theorem reset_ok {c : Cp} (h : c.ok) : c.reset.ok := ⟨h.num, h.nnum, h.inp, h.hinp, h.sin, by simp [Cp.reset], by simp [Cp.reset, noCo], by simp [Cp.reset, noCo], by simp [Cp.reset, noCo], by simp [Cp.reset, noCo]⟩
theorem o68_eq (c : Cp) : o68 c.h c.nd.e c.ps c.cz c.co.ps c.co.ss = some (((c.reset.h, c.reset.nd.e), c.reset.ps, c.reset.cz), (c.co.ps, c.co.ss), c.reset.co.ps, c.reset.co.ss) := rfl
def Cp.drop (c : Cp) : Cp := ({ c with next := 0, nd := c.nd.drop } : Cp).reset
theorem o22_eq (c : Cp) : o22 c.h c.nd.e c.ps c.cz c.co.ps c.co.ss = some (((c.drop.h, c.drop.nd.e), c.drop.ps, c.drop.cz), (c.co.ps, c.co.ss), c.drop.co.ps, c.drop.co.ss) := rfl
theorem drop_ok {c : Cp} (h : c.ok) : c.drop.ok := reset_ok (c := { c with next := 0, nd := c.nd.drop }) ⟨h.num, h.nnum, h.inp, h.hinp, h.sin, h.data, h.cps, h.cpd, h.css, h.csd⟩
theorem o71_eq (k : Int) (c : Cp) (x : (Int × Int) × List (List UInt8) × List ST) : o71 k c.h c.nd.e c.ps x = some (cond (c.next != k) 8 0) := cnd_some _ _ _
theorem o46_eq (c : Cp) (x : (Int × Int) × List (List UInt8) × List ST) : o46 c.h c.nd.e c.ps x = some (c.nd.role == 1) := rfl
def Cp.w (c : Cp) : Int × Int := cond (c.nd.role == 1) c.co.want (0, 0)
def Cp.began (c : Cp) (cy : Int) (x : Nd × Frm × Int) : Cp × Frm × Int := cond (x.2.2 == 0) ({ c with next := 1, cycle := cy, asked := false, nd := x.1 }, x.2) ({ c with nd := x.1 }, x.2)
def Cp.hello (c : Cp) (cy : Int) (inp : List UInt8) : Cp × Frm × Int := cond (c.next != 0) (c, noFrm, 8) (c.began cy (c.nd.hello cy inp c.w.1 c.w.2))
def cE {α : Type} (r : α) (c : Cp) := ((r, c.h, c.nd.e), (c.ps, c.cz), c.co.ps, c.co.ss)
theorem o25_eq {c : Cp} {cy : Int} {inp : List UInt8} (hi : inp.length ≤ 100000000) : o25 cy inp c.h c.nd.e c.ps c.cz c.co.ps c.co.ss = some (cE ((((c.hello cy inp).2.1.label, (c.hello cy inp).2.1.from_), (c.hello cy inp).2.1.cycle, (c.hello cy inp).2.1.payload, (c.hello cy inp).2.2)) (c.hello cy inp).1) := by
  unfold o25 Cp.hello
  refine (bdS (o71_eq 0 c _)).trans ?_
  cases h0 : (c.next != 0) with
  | true => rfl
  | false =>
    rw [cond_false, cond_false]
    refine (cndF (by decide)).trans ?_
    refine (bdS (t := (((cy, inp), c.h, c.nd.e, c.ps), (c.cz, c.co.ps), c.co.ss, ((0, 0), 0, []), c.w)) ?_).trans ?_
    · refine (bdS (o46_eq c _)).trans ?_
      unfold Cp.w
      cases (c.nd.role == 1) <;> rfl
    refine (bdS (o73_eq (n := c.nd) (base := c.w.1) (have_ := c.w.2) hi)).trans ?_
    generalize c.nd.hello cy inp c.w.1 c.w.2 = x
    unfold Cp.began
    show bd (cnd (x.2.2 == 0) _ _) _ = _
    cases (x.2.2 == 0) <;> rfl
def Cp.heard1 (c : Cp) (x : Nd × Hd × Bool × Int) : Cp := cond (x.1.role != c.nd.role) ({ c with next := 2, nd := x.1 } : Cp).reset { c with next := 2, nd := x.1 }
def Cp.heard2 (c : Cp) (x : Nd × Hd × Bool × Int) : Cp := { c with asked := x.1.role == 2 && (x.2.2.1 && x.2.1.role == 1), wb := x.2.1.base, wh := x.2.1.have_ }
def Cp.heard (c : Cp) (x : Nd × Hd × Bool × Int) : Cp × Int := cond (x.2.2.2 != 0) ({ c with nd := x.1 }, x.2.2.2) ((c.heard1 x).heard2 x, 0)
def Cp.hear (c : Cp) (f : Frm) (came : Bool) : Cp × Int := cond (c.next != 1) (c, 8) (c.heard (c.nd.hear f came))
theorem cnd_and {α : Type} (a b c : Bool) (F : Bool → α) : cnd a (cnd b (some (F c)) (some (F false))) (some (F false)) = some (F (a && (b && c))) := by cases a <;> cases b <;> rfl
theorem o28_eq {c : Cp} {f : Frm} {came : Bool} (h : c.ok) : o28 f.e came c.h c.nd.e c.ps c.cz c.co.ps c.co.ss = some (cE (c.hear f came).2 (c.hear f came).1) := by
  unfold o28 Cp.hear
  refine (bdS (o71_eq 1 c _)).trans ?_
  cases h0 : (c.next != 1) with
  | true => rfl
  | false =>
    rw [cond_false, cond_false]
    refine (cndF (by decide)).trans ?_
    refine (bdS (o44_eq c.nd)).trans ?_
    refine (bdS (o74_eq (n := c.nd) (Nat.le_trans h.hinp (by decide)))).trans ?_
    generalize c.nd.hear f came = x
    unfold Cp.heard
    refine (cnd_ext (c := x.2.2.2 != 0) (F := fun z : Cp × Int => cE z.2 z.1) (X := ({ c with nd := x.1 }, x.2.2.2)) (Y := ((c.heard1 x).heard2 x, 0)) rfl ?_)
    refine (bdS (o44_eq x.1)).trans ?_
    refine (bdS (t := (((x.2.2.1, x.1.role), (c.heard1 x).h, (c.heard1 x).nd.e, (c.heard1 x).ps), ((c.heard1 x).cz, (x.2.1.role, x.2.1.steps), x.2.1.base, x.2.1.have_), (c.heard1 x).co.ps, (c.heard1 x).co.ss, x.2.1.input)) ?_).trans ?_
    · refine cnd_ext (c := x.1.role != c.nd.role) (F := fun z : Cp => (((x.2.2.1, x.1.role), z.h, z.nd.e, z.ps), (z.cz, (x.2.1.role, x.2.1.steps), x.2.1.base, x.2.1.have_), z.co.ps, z.co.ss, x.2.1.input)) ?_ rfl
      exact bdS (o68_eq { c with next := 2, nd := x.1 })
    · generalize c.heard1 x = d
      refine (bdS (cnd_and (x.1.role == 2) x.2.2.1 (x.2.1.role == 1) (fun b : Bool => (((d.h.1, b, x.2.1.base, x.2.1.have_), d.nd.e, d.ps), d.cz, d.co.ps, d.co.ss)))).trans ?_
      rfl
def Cp.share (c : Cp) : Cp × Frm × Bool × Int := cond (c.next != 2) (c, noFrm, false, 8) ({ c with next := 3, nd := c.nd.share.1 }, c.nd.share.2)
def fE (x : Cp × Frm × Bool × Int) := (((((x.2.1.label, x.2.1.from_), x.2.1.cycle, x.2.2.1, x.2.2.2), x.1.h), x.1.nd.e, x.1.ps), (x.1.cz, x.1.co.ps), x.1.co.ss, x.2.1.payload)
theorem o30_eq {c : Cp} (h : c.ok) : o30 c.h c.nd.e c.ps c.cz c.co.ps c.co.ss = some (fE c.share) := by
  unfold o30 Cp.share
  refine (bdS (o71_eq 2 c _)).trans ?_
  cases h0 : (c.next != 2) with
  | true => rfl
  | false =>
    rw [cond_false, cond_false]
    refine (cndF (by decide)).trans ?_
    exact bdS (o75_eq (by rw [h.nnum]; exact h.num))
def Cp.tell (c : Cp) (t : Tg) : Cp × Frm × Bool × Int := cond (c.next != 4) (c, noFrm, false, 8) ({ c with next := 5, nd := (c.nd.tell t).1 }, (c.nd.tell t).2)
theorem o35_eq {c : Cp} {t : Tg} : o35 t.e c.h c.nd.e c.ps c.cz c.co.ps c.co.ss = some (fE (c.tell t)) := by
  unfold o35 Cp.tell
  refine (bdS (o71_eq 4 c _)).trans ?_
  cases h0 : (c.next != 4) with
  | true => rfl
  | false =>
    rw [cond_false, cond_false]
    refine (cndF (by decide)).trans ?_
    exact bdS (o79_eq c.nd t)
def Cp.judge (c : Cp) (f : Frm) (came : Bool) : Cp × Int × Int := cond (c.next != 5) (c, 0, 8) ({ c with next := 6, nd := (c.nd.judge f came).1 }, (c.nd.judge f came).2)
theorem o37_eq {c : Cp} {f : Frm} {came : Bool} : o37 f.e came c.h c.nd.e c.ps c.cz c.co.ps c.co.ss = some (cE (c.judge f came).2 (c.judge f came).1) := by
  unfold o37 Cp.judge
  refine (bdS (o71_eq 5 c _)).trans ?_
  cases h0 : (c.next != 5) with
  | true => rfl
  | false =>
    rw [cond_false, cond_false]
    refine (cndF (by decide)).trans ?_
    exact bdS (o80_eq c.nd f came)
end Go.Proofs.YtpleflcfaecojaaGreat
