/-
The third engine, part 3: operations that only compute. Conditions: each lemma's own.
-/
import Derived.Test.YtpleflcfaecojaaGreatH2
namespace Go.Proofs.YtpleflcfaecojaaGreat
set_option linter.unusedVariables false
set_option linter.unusedSimpArgs false
open Go.RowKit
abbrev vC (c : CV) : SV := .v (.c c)
def retT (v : SV) : Tr := .done ⟨v, [], []⟩
def tMove (sl : List (Nat × SV)) (x : Operand) : Tr := match evH sl x with | some v => retT v | none => .no
def asI (sl : List (Nat × SV)) (x : Operand) (k : IntKind → Int → Tr) : Tr := match evH sl x with | some (.v (.c (.int j z))) => k j z | _ => .no
def asB (sl : List (Nat × SV)) (x : Operand) (k : Bool → Tr) : Tr := match evH sl x with | some (.v (.c (.bool b))) => k b | _ => .no
def pickS (c : Bool) : SV → SV → SV
  | .v (.c (.int k x)), .v (.c (.int j y)) => match sameK k j with | some _ => vC (.int k (cond c x y)) | none => cond c (vC (.int k x)) (vC (.int j y))
  | .v (.c (.bool x)), .v (.c (.bool y)) => vC (.bool (cond c x y))
  | u, v => cond c u v
def tPick (sl : List (Nat × SV)) (c x y : Operand) : Tr := asB sl c fun b => match evH sl x, evH sl y with | some u, some v => retT (pickS b u v) | _, _ => .no
section
variable {P : Program} {n : Nat} {ty : TypeId} {sl : List (Nat × SV)} {bl bl' : List BV} {v : SV} {f : Nat} {g : Gh} {ρ : Env}
theorem told_ret {u : SV} (h : Told f (retT u) bl bl' v) : bl' = bl ∧ v = u := h
theorem asI_told {x : Operand} {k : IntKind → Int → Tr} (h : Told f (asI sl x k) bl bl' v) : ∃ j z, evH sl x = some (vC (.int j z)) ∧ Told f (k j z) bl bl' v := by
  unfold asI at h
  split at h
  · rename_i j z e; exact ⟨j, z, e, h⟩
  · exact h.elim
theorem asB_told {x : Operand} {k : Bool → Tr} (h : Told f (asB sl x k) bl bl' v) : ∃ b, evH sl x = some (vC (.bool b)) ∧ Told f (k b) bl bl' v := by
  unfold asB at h
  split at h
  · rename_i b e; exact ⟨b, e, h⟩
  · exact h.elim
theorem tMove_ok {x : Operand} (h : Told f (tMove sl x) bl bl' v) : EffH P n (.move x) ty sl bl bl' v ∧ EffH P n (.assign x) ty sl bl bl' v := by
  unfold tMove at h
  split at h
  · rename_i u e
    obtain ⟨rfl, rfl⟩ := told_ret h
    exact ⟨.of_yld fun g ρ own fr hr => by obtain ⟨w, h1, h2⟩ := evH_real hr e; exact ⟨w, h2, y_move h1⟩, .of_yld fun g ρ own fr hr => by obtain ⟨w, h1, h2⟩ := evH_real hr e; exact ⟨w, h2, y_assign h1⟩⟩
  · exact h.elim
theorem pickS_real {c : Bool} {x y : SV} {vx vy : Value} (hx : RealS g ρ bl x vx) (hy : RealS g ρ bl y vy) : RealS g ρ bl (pickS c x y) (cond c vx vy) := by
  unfold pickS
  split
  · rename_i k x j y
    split
    · rename_i h _
      obtain ⟨h⟩ := h
      subst h
      obtain ⟨rfl, h1⟩ := hx
      obtain ⟨rfl, h2⟩ := hy
      cases c
      · exact ⟨rfl, h2⟩
      · exact ⟨rfl, h1⟩
    · cases c
      · exact hy
      · exact hx
  · have hx : vx = _ := hx
    have hy : vy = _ := hy
    subst hx; subst hy
    cases c <;> rfl
  · cases c
    · exact hy
    · exact hx
theorem tPick_ok {c x y : Operand} (h : Told f (tPick sl c x y) bl bl' v) : EffH P n (.pick c x y) ty sl bl bl' v := by
  obtain ⟨b, eb, h⟩ := asB_told h
  split at h
  · rename_i u w e1 e2
    obtain ⟨rfl, rfl⟩ := told_ret h
    refine .of_yld fun g ρ own fr hr => ?_
    obtain ⟨vb, hb1, hb2⟩ := evH_real hr eb
    obtain ⟨vu, hu1, hu2⟩ := evH_real hr e1
    obtain ⟨vw, hw1, hw2⟩ := evH_real hr e2
    have hb2 : vb = .bool b := hb2
    subst hb2
    refine ⟨_, pickS_real hu2 hw2, ?_⟩
    cases b
    · exact y_pickF hb1 hw1
    · exact y_pickT hb1 hu1
  · exact h.elim
def intOp (op : BinOp) (k : IntKind) (a b : Int) : Option CV := match op with
  | .add => some (.int k (k.wrap (a + b)))
  | .sub => some (.int k (k.wrap (a - b)))
  | .mul => some (.int k (k.wrap (a * b)))
  | .and => some (.int k (landK k a b))
  | .or => some (.int k (lorK k a b))
  | .xor => some (.int k (lxorK k a b))
  | .andNot => some (.int k (landnK k a b))
  | .eql => some (.bool (a == b))
  | .neq => some (.bool (a != b))
  | .lss => some (.bool (decide (a < b)))
  | .leq => some (.bool (decide (a ≤ b)))
  | .gtr => some (.bool (decide (a > b)))
  | .geq => some (.bool (decide (a ≥ b)))
  | _ => none
theorem intOp_ok {op : BinOp} {k : IntKind} {a b : Int} {c : CV} (h : intOp op k a b = some c) : ∃ v, RealC g ρ bl c v ∧ ∀ (t : TypeId) w, (binOp op t (.int k a) (.int k b)).run P w = .ok v w := by
  unfold intOp at h
  cases op <;> simp only [Option.some.injEq, reduceCtorEq] at h <;> subst h <;>
    first
      | (refine ⟨_, ⟨rfl, inK_wrap _ _⟩, fun t w => ?_⟩; simp [binOp, Op.intArith, Op.intBits, landK, lorK, lxorK, landnK]; done)
      | (refine ⟨_, rfl, fun t w => ?_⟩; simp [binOp, Op.intCmp]; done)
theorem emod_le_ {a b : Int} (h : 0 ≤ a) (hb : 0 < b) : a % b ≤ a := by
  have h1 := Int.emod_add_mul_ediv a b
  have h2 := Int.mul_nonneg (Int.le_of_lt hb) (Int.ediv_nonneg h (Int.le_of_lt hb))
  omega
theorem inK_tmod {k : IntKind} {a b : Int} (h : inK k a) : inK k (a.tmod b) := by
  obtain ⟨h1, h2⟩ := h
  have e0 : k.min ≤ 0 := (inK_zero k).1
  have e1 : 0 ≤ k.max := (inK_zero k).2
  rcases Int.le_total 0 a with h0 | h0
  · have := Int.tmod_nonneg b h0
    have h3 : a.tmod b ≤ a := by
      rw [Int.tmod_eq_emod_of_nonneg h0]
      rcases Int.lt_trichotomy b 0 with hb | hb | hb
      · have := Int.emod_lt_of_neg a hb
        have h4 : a % b = a % (-b) := (Int.emod_neg a b).symm
        rw [h4]
        exact emod_le_ h0 (by omega)
      · subst hb; simp
      · exact emod_le_ h0 hb
    exact ⟨by omega, by omega⟩
  · have e : a.tmod b = - ((-a).tmod b) := by rw [Int.neg_tmod]; omega
    have h0' : 0 ≤ -a := by omega
    have h4 := Int.tmod_nonneg b h0'
    have h3 : (-a).tmod b ≤ -a := by
      rw [Int.tmod_eq_emod_of_nonneg h0']
      rcases Int.lt_trichotomy b 0 with hb | hb | hb
      · have h4 : (-a) % b = (-a) % (-b) := (Int.emod_neg (-a) b).symm
        rw [h4]
        exact emod_le_ h0' (by omega)
      · subst hb; simp
      · exact emod_le_ h0' hb
    exact ⟨by omega, by omega⟩
theorem inK_shr {k : IntKind} {a : Int} (m : Nat) (h : inK k a) : inK k (a.fdiv (2 ^ m)) := by
  obtain ⟨h1, h2⟩ := h
  have e0 : k.min ≤ 0 := (inK_zero k).1
  have e1 : 0 ≤ k.max := (inK_zero k).2
  have hp : (0 : Int) < 2 ^ m := Int.pow_pos (by decide)
  rw [Int.fdiv_eq_ediv_of_nonneg _ (by omega)]
  have hp1 : (1 : Int) ≤ 2 ^ m := hp
  rcases Int.le_total 0 a with h0 | h0
  · have h3 := Int.ediv_nonneg h0 (by omega : (0 : Int) ≤ 2 ^ m)
    have h4 : a / 2 ^ m ≤ a := Int.ediv_le_self _ h0
    exact ⟨by omega, by omega⟩
  · have h3 : a / 2 ^ m ≤ 0 := by
      have := Int.ediv_le_ediv hp h0
      simpa using this
    have h4 : a ≤ a / 2 ^ m := by
      rw [Int.le_ediv_iff_mul_le hp]
      have : a * 2 ^ m ≤ a * 1 := Int.mul_le_mul_of_nonpos_left h0 hp1
      omega
    exact ⟨by omega, by omega⟩
end
end Go.Proofs.YtpleflcfaecojaaGreat
