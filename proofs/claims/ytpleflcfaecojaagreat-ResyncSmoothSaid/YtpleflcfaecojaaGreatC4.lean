/-
The exchange of one computer: what its methods compute. Conditions: each lemma's own.
-/
import Derived.Test.YtpleflcfaecojaaGreatC3
namespace Go.Proofs.YtpleflcfaecojaaGreat
set_option linter.unusedVariables false
set_option linter.unusedSimpArgs false
set_option maxRecDepth 100000
open Go.RowKit
structure Nd where
  number : Int
  role : Int
  steps : Int
  alone : Int
  next : Int
  cycle : Int
  input : List UInt8
  hd : Hd
  is : Bool
  fresh : Bool
  se : Se
  has : Bool
  ts : Int
  tt : Tg
def Nd.e (n : Nd) : (((Int × Int × Int) × Int × Int × Int) × (List UInt8 × Int × Int) × (Int × Int) × List UInt8 × Bool) × ((Bool × Int × Int) × (Bool × List UInt8) × Bool × Int) × (Int × Int × Int) × (Int × Int) × Int × Int :=
  ((((n.number, n.role, n.steps), n.alone, n.next, n.cycle), (n.input, n.hd.role, n.hd.steps), (n.hd.base, n.hd.have_), n.hd.input, n.is), ((n.fresh, n.se.steps, n.se.cycle), (n.se.fresh, n.se.in_), n.has, n.ts), (n.tt.lat, n.tt.ver, n.tt.ph), (n.tt.bank, n.tt.speed), n.tt.alt, n.tt.vs)
structure Frm where
  label : Int
  from_ : Int
  cycle : Int
  payload : List UInt8
def Frm.e (f : Frm) : (Int × Int) × Int × List UInt8 := ((f.label, f.from_), f.cycle, f.payload)
def noFrm : Frm := ⟨0, 0, 0, []⟩
def newNd (k : Int) : Nd := ⟨k, 1, 0, 0, 0, 0, [], noHd, false, false, noSe, false, 0, noTg⟩
theorem o44_eq (n : Nd) : o44 n.e = some n.role := rfl
theorem o45_eq (n : Nd) : o45 n.e = some n.steps := rfl
def Nd.out (n : Nd) : Nd := { n with role := 1, steps := 0 }
def Nd.drop (n : Nd) : Nd := { n.out with next := 0 }
theorem o111_eq (c : Int) (n : Nd) : o111 c n.e = some (cond (n.next != c) 8 0) := cnd_some _ _ _
def Nd.fits (n : Nd) (f : Frm) (came : Bool) (l : Int) : Bool := came && (f.label == l && (f.from_ == IntKind.u8.wrap (IntKind.i64.wrap (3 - n.number)) && f.cycle == n.cycle))
theorem o114_eq (n : Nd) (f : Frm) (came : Bool) (l : Int) : o114 f.e came l n.e = some (n.fits f came l) := by
  unfold o114 Nd.fits
  show bd (cnd came (cnd (f.label == l) (cnd (f.from_ == IntKind.u8.wrap (IntKind.i64.wrap (3 - n.number))) (some (f.cycle == n.cycle, n.e)) (some (false, n.e))) (some (false, n.e))) (some (false, n.e))) _ = _
  cases came <;> cases (f.label == l) <;> cases (f.from_ == IntKind.u8.wrap (IntKind.i64.wrap (3 - n.number))) <;> rfl
def Nd.begun (n : Nd) (cy : Int) (inp : List UInt8) : Nd := { n with next := 1, cycle := cy, input := inp, hd := noHd, is := false, se := noSe, has := false, ts := 0, tt := noTg }
def Nd.hello (n : Nd) (cy : Int) (inp : List UInt8) (base have_ : Int) : Nd × Frm × Int :=
  cond (n.next != 0) (n, noFrm, 8) (cond (decide (cy < 0)) (n, noFrm, 1)
    (cond ((putHello ⟨n.role, n.steps, base, have_, inp⟩).1 != 0) (n, noFrm, (putHello ⟨n.role, n.steps, base, have_, inp⟩).1)
      (n.begun cy inp, ⟨1, IntKind.u8.wrap n.number, cy, (putHello ⟨n.role, n.steps, base, have_, inp⟩).2⟩, 0)))
def helloE (x : Nd × Frm × Int) := (((x.2.1.label, x.2.1.from_), x.2.1.cycle, x.2.2), x.1.e, x.2.1.payload)
theorem o73_eq {n : Nd} {cy : Int} {inp : List UInt8} {base have_ : Int} (hi : inp.length ≤ 100000000) : o73 cy inp (base, have_) n.e = some (helloE (n.hello cy inp base have_)) := by
  unfold o73 Nd.hello
  refine (bdS (o111_eq 0 n)).trans ?_
  cases h0 : (n.next != 0) with
  | true => rfl
  | false =>
    rw [cond_false, cond_false]
    refine (cndF (by decide)).trans ?_
    by_cases hc : cy < 0
    · rw [cndT (dt hc), dt hc]; rfl
    rw [cndF (df hc), df hc, cond_false]
    refine (bdS (o112_eq ⟨n.role, n.steps, base, have_, inp⟩)).trans ?_
    cases ((putHello ⟨n.role, n.steps, base, have_, inp⟩).1 != 0) with
    | true => rfl
    | false => exact (cndF rfl).trans (bdS (o33_eq hi))
def decR (number role steps alone : Int) (heard : Bool) (other theirs : Int) : Int :=
  cond (role == 2) (cond (heard && (other == 2 && (decide (theirs > steps) || (theirs == steps && number == 2)))) 1 2)
    (cond (role == 3) (cond (!heard || (other != 2 && other != 3)) 2 (cond (other == 2) (cond (theirs == steps) 3 1) (cond (decide (theirs > steps)) 1 (cond (decide (theirs < steps) || number == 1) 2 3))))
      (cond ((!heard && decide (alone ≥ 3)) || (heard && (other != 2 && (other != 3 && number == 1)))) 2 1))
theorem o116_eq (number role steps alone : Int) (heard : Bool) (other theirs : Int) : o116 number role steps alone heard other theirs = some (decR number role steps alone heard other theirs) := by
  unfold o116 decR
  cases (role == 2) with
  | true =>
    cases heard <;> cases (other == 2) <;> cases decide (theirs > steps) <;> cases (theirs == steps) <;> cases (number == 2) <;> rfl
  | false =>
    rw [cndF rfl, cond_false]
    cases (role == 3) with
    | true =>
      rw [cond_true]
      refine (cndT rfl).trans ((bdS (t := ((number, steps), other, theirs, !heard || (other != 2 && other != 3))) ?_).trans ?_)
      · cases heard <;> cases (other != 2) <;> rfl
      show cnd (!heard || (other != 2 && other != 3)) (some 2) (cnd (other == 2) (cnd (theirs == steps) (some 3) (some 1)) (cnd (decide (theirs > steps)) (some 1) (bd (cnd (decide (theirs < steps)) (some true) (some (number == 1))) fun v3 => cnd v3 (some 2) (some 3)))) = _
      cases (!heard || (other != 2 && other != 3)) <;> cases (other == 2) <;> cases decide (theirs > steps) <;> cases (theirs == steps) <;> cases decide (theirs < steps) <;> cases (number == 1) <;> rfl
    | false =>
      cases heard <;> cases decide (alone ≥ 3) <;> cases (other != 2) <;> cases (other != 3) <;> cases (number == 1) <;> rfl
def Nd.heard1 (n : Nd) (f : Frm) (came : Bool) : Nd := cond (n.fits f came 1) { n with hd := (getHello f.payload).1, is := (getHello f.payload).2 == 0 } n
def Nd.heard2 (n : Nd) : Nd := cond n.is { n with next := 2, alone := 0 } { n with next := 2, alone := IntKind.i64.wrap (n.alone + 1), hd := noHd }
def Nd.heard3 (n : Nd) (r : Int) : Nd := cond (r == 1) { n with role := r }.out { n with role := r }
def Nd.heard4 (n : Nd) (was : Int) : Nd := { n with fresh := was == 1 && n.role == 2, steps := cond (was == 1 && n.role == 2) 0 n.steps }
def Nd.newRole (n : Nd) : Int := decR n.number n.role n.steps n.alone n.is n.hd.role n.hd.steps
def Nd.hear (n : Nd) (f : Frm) (came : Bool) : Nd × Hd × Bool × Int :=
  cond (n.next != 1) (n, noHd, false, 8) (((((n.heard1 f came).heard2).heard3 ((n.heard1 f came).heard2).newRole).heard4 n.role), ((((n.heard1 f came).heard2).heard3 ((n.heard1 f came).heard2).newRole).heard4 n.role).hd, ((((n.heard1 f came).heard2).heard3 ((n.heard1 f came).heard2).newRole).heard4 n.role).is, 0)
def hearE (x : Nd × Hd × Bool × Int) := (((x.2.1.role, x.2.1.steps, x.2.1.base), x.2.1.have_, x.2.2.1, x.2.2.2), x.1.e, x.2.1.input)
theorem getHello_len (p : List UInt8) : (getHello p).1.input.length ≤ 400 := by
  unfold getHello
  by_cases h : ((p.length : Nat) : Int) > 419
  · rw [dt h, Bool.or_true]; simp [noHd]
  · cases (decide ((p.length : Int) < 19) || decide ((p.length : Int) > 419)) <;> cases badHello ⟨((p.getD 0 0).toNat : Int), getI (p.drop 1) 8, getI (p.drop 9) 8, getI (p.drop 17) 2, p.drop 19⟩ <;> simp [noHd] <;> omega
theorem o74_eq {n : Nd} {f : Frm} {came : Bool} (hi : n.hd.input.length ≤ 1000000) : o74 f.e came n.e = some (hearE (n.hear f came)) := by
  unfold o74 Nd.hear
  refine (bdS (o111_eq 1 n)).trans ?_
  cases h0 : (n.next != 1) with
  | true => rfl
  | false =>
    rw [cond_false, cond_false]
    refine (cndF (by decide)).trans ?_
    refine (bdS (t := (n.heard1 f came).e) ?_).trans ?_
    · refine (bdS (o114_eq n f came 1)).trans ?_
      unfold Nd.heard1
      cases n.fits f came 1 with
      | false => rfl
      | true => exact (cndT rfl).trans (bdS (o115_eq f.payload))
    have hl : (n.heard1 f came).hd.input.length ≤ 1000000 := by
      unfold Nd.heard1
      cases n.fits f came 1 with
      | false => exact hi
      | true => exact Nat.le_trans (getHello_len _) (by decide)
    have hr : (n.heard1 f came).role = n.role := by unfold Nd.heard1; cases n.fits f came 1 <;> rfl
    generalize n.heard1 f came = m at hl hr
    rw [← hr]
    refine (bdS (t := m.heard2.e) ?_).trans ?_
    · unfold Nd.heard2
      show cnd m.is _ _ = _
      cases hm : m.is with
      | false => show some _ = some _; simp only [cond_false, Nd.e, hm, noHd]
      | true => show some _ = some _; simp only [cond_true, Nd.e, hm]
    have hl2 : m.heard2.hd.input.length ≤ 1000000 := by
      unfold Nd.heard2
      cases m.is with
      | false => simp [noHd]
      | true => exact hl
    have hr2 : m.heard2.role = m.role := by unfold Nd.heard2; cases m.is <;> rfl
    rw [← hr2]
    generalize m.heard2 = k at hl2
    refine (bdS (o116_eq k.number k.role k.steps k.alone k.is k.hd.role k.hd.steps)).trans ?_
    refine (bdS (t := (k.role, (k.heard3 k.newRole).e)) ?_).trans ?_
    · unfold Nd.heard3
      show cnd (k.newRole == 1) _ _ = _
      cases (k.newRole == 1) <;> rfl
    have hl3 : (k.heard3 k.newRole).hd.input.length ≤ 1000000 := by
      unfold Nd.heard3
      cases (k.newRole == 1) <;> exact hl2
    generalize k.heard3 k.newRole = q at hl3
    refine (bdS (t := { q with fresh := k.role == 1 && q.role == 2 }.e) ?_).trans ?_
    · show cnd (k.role == 1) _ _ = _
      cases (k.role == 1) <;> rfl
    refine (bdS (t := (q.heard4 k.role).e) ?_).trans ?_
    · unfold Nd.heard4
      show cnd (k.role == 1 && q.role == 2) _ _ = _
      cases (k.role == 1 && q.role == 2) <;> rfl
    exact bdS (o33_eq (by show q.hd.input.length ≤ 100000000; omega))
end Go.Proofs.YtpleflcfaecojaaGreat
