/-
A new pair, what is read of the world, limits. Conditions: each lemma's own.
-/
import Derived.Test.YtpleflcfaecojaaGreatD4
namespace Go.Proofs.YtpleflcfaecojaaGreat
set_option linter.unusedVariables false
set_option linter.unusedSimpArgs false
set_option maxRecDepth 100000
open Go.RowKit
abbrev FtT : Type := Bool × Int × Int
abbrev CyT : Type := List UInt8 × List UInt8 × (Bool × Bool) × (Bool × Bool) × (Bool × Bool) × (Int × Int) × (FtT × FtT × FtT × FtT) × FtT × FtT × FtT × FtT
abbrev WoT : Type := (Int × Int × Int) × (Int × Int) × Int × List CyT
def noCy : CyT := ([], [], (false, false), (false, false), (false, false), (0, 0), ((false, 0, 0), (false, 0, 0), (false, 0, 0), (false, 0, 0)), (false, 0, 0), (false, 0, 0), (false, 0, 0), (false, 0, 0))
def ftOf (x : FtT) : Ft := ⟨x.1, x.2.1, x.2.2⟩
def evOf (x : CyT) : Ev := ⟨x.2.2.1.1, x.2.2.1.2, x.2.2.2.1.1, x.2.2.2.1.2, x.2.2.2.2.1.1, x.2.2.2.2.1.2, x.2.2.2.2.2.1.1, x.2.2.2.2.2.1.2, ftOf x.2.2.2.2.2.2.1.1, ftOf x.2.2.2.2.2.2.1.2.1, ftOf x.2.2.2.2.2.2.1.2.2.1, ftOf x.2.2.2.2.2.2.1.2.2.2, ftOf x.2.2.2.2.2.2.2.1, ftOf x.2.2.2.2.2.2.2.2.1, ftOf x.2.2.2.2.2.2.2.2.2.1, ftOf x.2.2.2.2.2.2.2.2.2.2⟩
theorem o10_eq (l : List UInt8) (n : Nat) : o10 l (n : Int) = some (l.take n) := by
  unfold o10
  have h : minI (l.length : Int) (n : Int) = ((min l.length n : Nat) : Int) := by unfold minI; split <;> omega
  rw [h, gdT (dt (by omega)), Int.toNat_natCast]
  have : min l.length n = l.length ∨ min l.length n = n := by omega
  rcases this with e | e
  · rw [e, List.take_length, List.take_of_length_le (by omega)]
  · rw [e]
theorem o47_self {l : List UInt8} (h : l.length ≤ 1000000) : o47 l l = some true := by
  unfold o47
  refine (cndF (neq_f rfl)).trans ?_
  refine loop_from (fun i => ((l, l), (l.length : Int), ((i : Nat) : Int))) l.length rfl (fun i hi => ?_) ?_ (by omega)
  · unfold o47_b0
    refine (cndT (dt (by show (i : Int) < (l.length : Int); omega))).trans ((gdT (dt (by show (0 : Int) ≤ i ∧ (i : Int) < (l.length : Int); omega))).trans ((gdT (dt (by show (0 : Int) ≤ i ∧ (i : Int) < (l.length : Int); omega))).trans ((cndF (neq_f rfl)).trans ?_)))
    dsimp only
    rw [show IntKind.i64.wrap ((i : Int) + 1) = ((i + 1 : Nat) : Int) by rw [wr64 (by omega)]; omega]
  · unfold o47_b0
    refine (cndF (df (by show ¬ (l.length : Int) < (l.length : Int); omega))).trans ?_
    exact dnS _
def newW (m : Mc) (r1 r2 r3 r4 : Int) : W := ⟨⟨saveB m, r1, r2, r3, r4, 0, noTg⟩, m, m, newCp 1, newCp 2, ⟨0, 0, 0, 0, 0, 0, 0, noTg, noTg, 0, noTg⟩, noFrm, noFrm, false, false, false, false⟩
theorem o12_eq {m : Mc} {r1 r2 r3 r4 : Int} (h1 : 0 ≤ r1) (h2 : 0 ≤ r2) (h3 : 0 ≤ r3) (h4 : 0 ≤ r4) (p0 : 0 ≤ m.pad) (p1 : m.pad ≤ 10000) :
    o12 ((r1, r2), r3, r4) m.e m.e = some (Sum.inr (Sum.inr (((m.e, m.e, (newW m r1 r2 r3 r4).p.e), ((newCp 1).h, (newCp 2).h), (newCp 1).nd.e, (newCp 1).ps), (((newCp 1).cz, (newCp 2).nd.e), (newCp 2).ps, (newCp 2).cz), ((newCp 1).co.ps, (newCp 1).co.ss), (newCp 2).co.ps, (newCp 2).co.ss))) := by
  unfold o12
  have hl := saveB_len m
  refine (bdS (t := ((false, m.e), m.e, ((r1, r2), r3, r4))) ?_).trans ?_
  · refine (cndF (df (by show ¬ r1 < 0; omega))).trans ((cndF (df (by show ¬ r2 < 0; omega))).trans ((cndF (df (by show ¬ r3 < 0; omega))).trans ?_))
    show some ((decide (r4 < 0), m.e), m.e, ((r1, r2), r3, r4)) = _
    rw [df (by omega : ¬ r4 < 0)]
  refine (cndF rfl).trans ((bdS (o180_eq p0 (by omega))).trans ((bdS (o180_eq p0 (by omega))).trans ((bdS (o47_self (by omega))).trans ((cndF rfl).trans ((cndF (df ?_)).trans ((bdS (o33_eq (by omega))).trans ((bdS o21_eq).trans ((bdS o21v1_eq).trans rfl))))))))
  show ¬ ((saveB m).length : Int) > 524288
  omega
def mcOf (x : WoT) : Mc := ⟨x.1.1, 0, Int.tmod (IntKind.i64.wrap x.1.2.1) 1900⟩
def wOf (x : WoT) : W := newW (mcOf x) (landK .i64 x.1.2.2 65535) (landK .i64 x.2.1.1 65535) (landK .i64 x.2.1.2 16777215) (landK .i64 x.2.2.1 65535)
def rOf (p : Pr) : (Int × Int) × Int × Int := ((p.r1, p.r2), p.r3, p.r4)
def lay8 (R : (Int × Int) × Int × Int) (w : W) := ((((R, w.p.e), w.m1.e, w.m2.e), (w.c1.h, w.c2.h), w.c1.nd.e, w.c1.ps), ((w.c1.cz, w.c2.nd.e), w.c2.ps, w.c2.cz), (w.c1.co.ps, w.c1.co.ss), w.c2.co.ps, w.c2.co.ss)
theorem mcOf_pad {x : WoT} (h : 0 ≤ x.1.2.1 ∧ x.1.2.1 ≤ 65535) : 0 ≤ (mcOf x).pad ∧ (mcOf x).pad ≤ 1899 := by
  show 0 ≤ Int.tmod (IntKind.i64.wrap x.1.2.1) 1900 ∧ Int.tmod (IntKind.i64.wrap x.1.2.1) 1900 ≤ 1899
  rw [wr64 (by omega), Int.tmod_eq_emod_of_nonneg h.1]
  omega
theorem o8_eq {x : WoT} (h : 0 ≤ x.1.2.1 ∧ x.1.2.1 ≤ 65535) : o8 x = some (Sum.inr (lay8 (rOf (wOf x).p) (wOf x))) := by
  have hp := mcOf_pad h
  unfold o8
  refine (bdS (t := Sum.inr (lay8 (rOf (wOf x).p) (wOf x))) ?_).trans rfl
  refine (bdS (o12_eq (m := mcOf x) (land64 _ _ (by decide)).1 (land64 _ _ (by decide)).1 (land64 _ _ (by decide)).1 (land64 _ _ (by decide)).1 hp.1 (by omega))).trans ?_
  rfl
theorem wOf_ok {x : WoT} (h : 0 ≤ x.1.2.1 ∧ x.1.2.1 ≤ 65535) (a b : Bool) : (wOf x).ok a b := by
  have hp := mcOf_pad h
  have hl := saveB_len (mcOf x)
  refine ⟨?_, ⟨hp.1, ?_⟩, ⟨hp.1, ?_⟩, fun _ => newCp_ok (.inl rfl), fun _ => newCp_ok (.inr rfl), Nat.zero_le _, Nat.zero_le _⟩
  · show (saveB (mcOf x)).length ≤ 1000000
    omega
  · show (mcOf x).pad ≤ 10000
    omega
  · show (mcOf x).pad ≤ 10000
    omega
theorem awake_yes : o7 = some true := by kernel_rfl
theorem go_i {α ρ : Type} {z z' : Int} (h : z = z') (F : Int → α) : some (Ctl.go (ρ := ρ) (F z)) = some (Ctl.go (F z')) := by subst h; rfl
theorem cycW_ok {w : W} {a b : Bool} (h : w.ok a b) (v : Ev) (one two : List UInt8) : (cycW a b w.p w.m1 w.m2 w.c1 w.c2 v one two).ok (evA a v.s1 v.r1) (evA b v.s2 v.r2) :=
  all_ok (start_ok h.init h.p1 h.p2 (evK_ok (.inl rfl) h.c1) (evK_ok (.inr rfl) h.c2) _ _)
theorem step_p (w : W) (a b : Bool) (v : Ev) : (w.step a b v).p = w.p := by cases a <;> cases b <;> rfl
theorem all_p (w : W) (a b : Bool) (v : Ev) (one two : List UInt8) : (w.all a b v one two).p = { w.p with use := (w.all a b v one two).p.use } := by
  have h : ((((w.ex0 a b v one two).hear a b).ex1 a b v).step a b v).p = w.p := step_p _ _ _ _
  show { ((((w.ex0 a b v one two).hear a b).ex1 a b v).step a b v).p with use := (w.all a b v one two).p.use } = _
  rw [h]
end Go.Proofs.YtpleflcfaecojaaGreat
