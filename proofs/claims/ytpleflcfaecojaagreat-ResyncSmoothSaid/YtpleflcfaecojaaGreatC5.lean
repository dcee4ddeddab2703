/-
The exchange of one computer, the rest of its methods. Conditions: each lemma's own.
-/
import Derived.Test.YtpleflcfaecojaaGreatC4
namespace Go.Proofs.YtpleflcfaecojaaGreat
set_option linter.unusedVariables false
set_option linter.unusedSimpArgs false
set_option maxRecDepth 100000
open Go.RowKit
def Nd.foll (n : Nd) : Bool := n.is && n.hd.role == 3
theorem o117_eq (n : Nd) : o117 n.e = some n.foll := by
  unfold o117 Nd.foll
  show bd (cnd n.is (some (n.hd.role == 3, n.e)) (some (false, n.e))) _ = _
  cases n.is <;> rfl
theorem packC_len (one two : List UInt8) (a b : Bool) : (packC one a two b).2.length ≤ 1000 := by
  unfold packC
  cases hb : long one a two b with
  | true => simp
  | false =>
    rw [cond_false]
    unfold long at hb
    simp only [Bool.or_eq_false_iff, Bool.and_eq_false_iff, decide_eq_false_iff_not] at hb
    have h1 : (part1 one a).length ≤ 402 := by
      cases a with
      | false => simp [part1]
      | true => simp [part1, putB_len] at hb ⊢; omega
    have h2 : (part1 two b).length ≤ 402 := by
      cases b with
      | false => simp [part1]
      | true => simp [part1, putB_len] at hb ⊢; omega
    simp only [List.length_append, List.length_cons, List.length_nil]
    omega
def Nd.other (n : Nd) : List UInt8 := cond n.foll n.hd.input []
def Nd.packed (n : Nd) : List UInt8 := (cond (n.number == 1) (packC n.input true n.other n.foll) (packC n.other n.foll n.input true)).2
def Nd.shared (n : Nd) : Nd := { n with next := 3, se := ⟨n.steps, n.cycle, n.fresh, n.packed⟩ }
def Nd.share (n : Nd) : Nd × Frm × Bool × Int :=
  cond (n.next != 2) (n, noFrm, false, 8) (cond (n.role != 2) ({ n with next := 3 }, noFrm, false, 0) (n.shared, ⟨2, IntKind.u8.wrap n.number, n.cycle, (putSet n.shared.se).2⟩, true, 0))
def shareE (x : Nd × Frm × Bool × Int) := (((x.2.1.label, x.2.1.from_), x.2.1.cycle, x.2.2.1, x.2.2.2), x.1.e, x.2.1.payload)
theorem Nd.packed_len (n : Nd) : n.packed.length ≤ 1000 := by
  unfold Nd.packed
  cases (n.number == 1) <;> exact packC_len _ _ _ _
theorem o75_eq {n : Nd} (hn : n.number = 1 ∨ n.number = 2) : o75 n.e = some (shareE n.share) := by
  unfold o75 Nd.share
  refine (bdS (o111_eq 2 n)).trans ?_
  cases h0 : (n.next != 2) with
  | true => rfl
  | false =>
    rw [cond_false, cond_false]
    refine (cndF (by decide)).trans ?_
    show cnd (n.role != 2) _ _ = _
    cases (n.role != 2) with
    | true => rfl
    | false =>
      rw [cond_false]
      refine (cndF rfl).trans ?_
      refine (bdS (t := (({ n with next := 3 }.e, ((0 : Int), (0 : Int)), (0 : Int), ([] : List UInt8)), (cond (n.number == 1) n.input [], cond (n.number == 1) [] n.input), (n.number == 1), !(n.number == 1))) ?_).trans ?_
      · obtain ⟨number, role, steps, alone, next, cycle, input, hd, is, fresh, se, has, ts, tt⟩ := n
        rcases hn with h | h <;> (dsimp only at h; subst h; rfl)
      refine (bdS (t := (({ n with next := 3 }.e, ((0 : Int), (0 : Int)), (0 : Int), ([] : List UInt8)), (cond (n.number == 1) n.input n.other, cond (n.number == 1) n.other n.input), (n.number == 1) || n.foll, !(n.number == 1) || n.foll)) ?_).trans ?_
      · refine (bdS (o117_eq { n with next := 3 })).trans ?_
        have hf : Nd.foll { n with next := 3 } = n.foll := rfl
        rw [hf]
        unfold Nd.other
        cases n.foll with
        | false =>
          refine (cndF rfl).trans ?_
          rw [Bool.or_false, Bool.or_false]
          rfl
        | true =>
          obtain ⟨number, role, steps, alone, next, cycle, input, hd, is, fresh, se, has, ts, tt⟩ := n
          rcases hn with h | h <;> (dsimp only at h; subst h; rfl)
      have hp : (cond (n.number == 1) n.input n.other, (n.number == 1) || n.foll, cond (n.number == 1) n.other n.input, !(n.number == 1) || n.foll) = (cond (n.number == 1) n.input n.other, cond (n.number == 1) true n.foll, cond (n.number == 1) n.other n.input, cond (n.number == 1) n.foll true) := by
        cases (n.number == 1) <;> simp
      refine (bdS (o118_eq _ _ _ _)).trans ?_
      have hpk : (packC (cond (n.number == 1) n.input n.other) ((n.number == 1) || n.foll) (cond (n.number == 1) n.other n.input) (!(n.number == 1) || n.foll)).2 = n.packed := by
        unfold Nd.packed
        cases (n.number == 1) <;> simp
      refine (bdS ((congrArg o119 ?_).trans (o119_eq (x := ⟨n.steps, n.cycle, n.fresh, n.packed⟩) (Nat.le_trans n.packed_len (by decide))))).trans ?_
      · show ((n.steps, n.cycle), n.fresh, _) = ((n.steps, n.cycle), n.fresh, n.packed)
        rw [← hpk]
      · show some _ = some _
        unfold shareE Nd.shared
        simp only [Nd.e, ← hpk]
theorem cnd_three {α β : Type} (a b c : Bool) (x : α) (y : β) : cnd a (cnd (!b) (some ((c, x), y)) (some ((false, x), y))) (some ((false, x), y)) = some ((a && (!b && c), x), y) := by cases a <;> cases b <;> rfl
def Nd.okSet (n : Nd) (f : Frm) : Bool := (getSet n.cycle f.payload).2 == 0 && (!(getSet n.cycle f.payload).1.fresh && (getSet n.cycle f.payload).1.steps == n.steps)
def Nd.took (n : Nd) (f : Frm) (came : Bool) : Nd := cond (n.fits f came 2) (cond (n.okSet f) { n with next := 4, se := (getSet n.cycle f.payload).1, has := true } { n with next := 4 }) { n with next := 4 }
def Nd.stepped (n : Nd) (f : Frm) (came : Bool) : Nd := cond (n.role == 2) { n with next := 4, has := true } (cond (n.role == 3) (cond (n.took f came).has (n.took f came) (n.took f came).out) { n with next := 4 })
def Nd.step (n : Nd) (f : Frm) (came : Bool) : Nd × Se × Bool × Int :=
  cond (n.next != 3) (n, noSe, false, 8) (cond (n.stepped f came).has ({ n.stepped f came with steps := IntKind.i64.wrap ((n.stepped f came).steps + 1) }, (n.stepped f came).se, true, 0) (n.stepped f came, noSe, false, 0))
def stepE (x : Nd × Se × Bool × Int) := (((x.2.1.steps, x.2.1.cycle), x.2.1.fresh, x.2.2.1, x.2.2.2), x.1.e, x.2.1.in_)
theorem getSet_len (cy : Int) (p : List UInt8) : (getSet cy p).1.in_.length ≤ p.length := by
  unfold getSet
  cases (decide ((p.length : Int) < 9)) <;> cases (decide (((p.getD 8 0).toNat : Int) > 1)) <;> cases ((putSet ⟨getI p 8, cy, ((p.getD 8 0).toNat : Int) == 1, p.drop 9⟩).1 != 0) <;> simp [noSe]
theorem o76_eq {n : Nd} {f : Frm} {came : Bool} (hf : f.payload.length ≤ 1000000) (hi : n.se.in_.length ≤ 1000000) : o76 f.e came n.e = some (stepE (n.step f came)) := by
  unfold o76 Nd.step
  refine (bdS (o111_eq 3 n)).trans ?_
  cases h0 : (n.next != 3) with
  | true => rfl
  | false =>
    rw [cond_false, cond_false]
    refine (cndF (by decide)).trans ?_
    have hl : (n.stepped f came).se.in_.length ≤ 1000000 := by
      unfold Nd.stepped
      cases (n.role == 2) with
      | true => exact hi
      | false =>
        cases (n.role == 3) with
        | false => exact hi
        | true =>
          have ht : (n.took f came).se.in_.length ≤ 1000000 := by
            unfold Nd.took
            cases n.fits f came 2 <;> cases n.okSet f <;> first | exact hi | exact Nat.le_trans (getSet_len _ _) hf
          rw [cond_false, cond_true]
          cases (n.took f came).has <;> exact ht
    refine (bdS (t := ((n.stepped f came).e, false)) ?_).trans ?_
    · unfold Nd.stepped
      show cnd (n.role == 2) _ (cnd (n.role == 3) _ _) = _
      cases (n.role == 2) with
      | true => rfl
      | false =>
        rw [cond_false]
        refine (cndF rfl).trans ?_
        cases (n.role == 3) with
        | false => rfl
        | true =>
          refine (cndT rfl).trans ?_
          refine (bdS (t := ((n.took f came).e, false)) ?_).trans ?_
          · refine (bdS (o114_eq { n with next := 4 } f came 2)).trans ?_
            have hfit : Nd.fits { n with next := 4 } f came 2 = n.fits f came 2 := rfl
            rw [hfit]
            unfold Nd.took
            cases n.fits f came 2 with
            | false => rfl
            | true =>
              refine (cndT rfl).trans ((bdS (o77_eq hf)).trans ?_)
              unfold Nd.okSet
              refine (bdS (t := (((n.okSet f), { n with next := 4 }.e), false, (((getSet n.cycle f.payload).1.steps, (getSet n.cycle f.payload).1.cycle, (getSet n.cycle f.payload).1.fresh)), (getSet n.cycle f.payload).1.in_)) ?_).trans ?_
              · exact cnd_three _ _ _ (({ n with next := 4 } : Nd).e) (false, (((getSet n.cycle f.payload).1.steps, (getSet n.cycle f.payload).1.cycle, (getSet n.cycle f.payload).1.fresh)), (getSet n.cycle f.payload).1.in_)
              · rw [cond_true]
                exact cnd_ext (c := n.okSet f) (F := fun m : Nd => (m.e, false)) rfl rfl
          · rw [cond_true]
            exact cndN_ext (c := (n.took f came).has) (F := fun m : Nd => (m.e, false)) rfl rfl
    exact cndN_ext (c := (n.stepped f came).has) (F := stepE) (bdS (o33_eq (by show (n.stepped f came).se.in_.length ≤ 100000000; omega))) rfl
def Nd.tell (n : Nd) (t : Tg) : Nd × Frm × Bool × Int :=
  cond (n.next != 4) (n, noFrm, false, 8) (cond n.has ({ n with next := 5, ts := n.steps, tt := t }, ⟨3, IntKind.u8.wrap n.number, n.cycle, putRes n.steps t⟩, true, 0) ({ n with next := 5 }, noFrm, false, 0))
theorem o79_eq (n : Nd) (t : Tg) : o79 t.e n.e = some (shareE (n.tell t)) := by
  unfold o79 Nd.tell
  refine (bdS (o111_eq 4 n)).trans ?_
  cases h0 : (n.next != 4) with
  | true => rfl
  | false =>
    rw [cond_false, cond_false]
    refine (cndF (by decide)).trans ?_
    exact cndN_ext (c := n.has) (F := shareE) (bdS (o121_eq n.steps t)) rfl
def sameRes (s : Int) (t : Tg) (s2 : Int) (u : Tg) : Bool := (s == s2) && ((t.lat == u.lat) && ((t.ver == u.ver) && ((t.ph == u.ph) && ((t.bank == u.bank) && ((t.speed == u.speed) && ((t.alt == u.alt) && (t.vs == u.vs)))))))
def Nd.verdict (n : Nd) (f : Frm) : Int := cond (cond (n.role == 3) (sameRes (getRes f.payload).1 (getRes f.payload).2.1 n.ts n.tt) (n.foll && sameRes (getRes f.payload).1 (getRes f.payload).2.1 n.ts n.tt)) 4 2
def Nd.judge (n : Nd) (f : Frm) (came : Bool) : Nd × Int × Int :=
  cond (n.next != 5) (n, 0, 8) ({ n with next := 0 }, cond n.has (cond (n.fits f came 3 && (getRes f.payload).2.2 == 0) (n.verdict f) 3) 2, 0)
theorem o80_eq (n : Nd) (f : Frm) (came : Bool) : o80 f.e came n.e = some (((n.judge f came).2.1, (n.judge f came).2.2), (n.judge f came).1.e) := by
  unfold o80 Nd.judge
  refine (bdS (o111_eq 5 n)).trans ?_
  cases h0 : (n.next != 5) with
  | true => rfl
  | false =>
    rw [cond_false, cond_false]
    refine (cndF (by decide)).trans ?_
    refine cndN_ext (c := n.has) (F := fun v : Int => ((v, (0 : Int)), ({ n with next := 0 } : Nd).e)) ?_ rfl
    refine (bdS (o122_eq f.payload)).trans ?_
    refine (bdS (t := (n.fits f came 3 && (getRes f.payload).2.2 == 0, { n with next := 0 }.e, ((((getRes f.payload).1, (getRes f.payload).2.1.lat), (getRes f.payload).2.1.ver, (getRes f.payload).2.1.ph), ((getRes f.payload).2.1.bank, (getRes f.payload).2.1.speed), (getRes f.payload).2.1.alt, (getRes f.payload).2.1.vs))) ?_).trans ?_
    · refine (bdS (o114_eq { n with next := 0 } f came 3)).trans ?_
      have hfit : Nd.fits { n with next := 0 } f came 3 = n.fits f came 3 := rfl
      rw [hfit]
      cases n.fits f came 3 <;> rfl
    refine cndN_ext (c := n.fits f came 3 && (getRes f.payload).2.2 == 0) (F := fun v : Int => ((v, (0 : Int)), ({ n with next := 0 } : Nd).e)) ?_ rfl
    unfold Nd.verdict
    refine (bdS (t := (cond (n.role == 3) (sameRes (getRes f.payload).1 (getRes f.payload).2.1 n.ts n.tt) (n.foll && sameRes (getRes f.payload).1 (getRes f.payload).2.1 n.ts n.tt), { n with next := 0 }.e)) ?_).trans ?_
    · refine cnd_ext (c := n.role == 3) (F := fun b : Bool => (b, ({ n with next := 0 } : Nd).e)) rfl ?_
      refine (bdS (o117_eq { n with next := 0 })).trans ?_
      have hf : Nd.foll { n with next := 0 } = n.foll := rfl
      rw [hf]
      cases n.foll <;> rfl
    · exact cnd_ext (F := fun v : Int => ((v, (0 : Int)), ({ n with next := 0 } : Nd).e)) rfl rfl
end Go.Proofs.YtpleflcfaecojaaGreat
