/-
The third engine, part 9: what a state looks like (shapes), a state read as data and made out of data. Conditions: each lemma's own.
-/
import Derived.Test.YtpleflcfaecojaaGreatH8
namespace Go.Proofs.YtpleflcfaecojaaGreat
set_option linter.unusedVariables false
set_option linter.unusedSimpArgs false
open Go.RowKit
inductive Sh where
  | i (k : IntKind)
  | b
  | s
  | cst (v : Value)
  | ic (k : IntKind) (z : Int)
  | ptr (j off : Nat)
  | own (j : Nat)
  | ro (c : Cd) (m : Bool)
  | el (c : Cd) (off : Nat)
  | fn (f : FuncId)
  | cap (f c : Sh)
  | ifc (t : TypeId) (c : Sh)
inductive Sh1 where
  | c (x : Sh)
  | agg (l : List Sh)
inductive SSh where
  | v (x : Sh1)
  | tup (l : List Sh1)
inductive BSh where
  | no
  | cells (t : TypeId) (l : List Sh)
  | row (c : Cd) (et : TypeId)
  | lent (l : List Sh)
structure Sch where
  sl : List (Nat × SSh)
  bl : List BSh
structure DV where
  c : Cd
  x : c.den
inductive LT where
  | o
  | l (c : Cd)
  | p (a b : LT)
def HT : LT → Type
  | .o => Unit
  | .l c => c.den
  | .p a b => HT a × HT b
def unT : (t : LT) → HT t → List DV → List DV
  | .o, _, r => r
  | .l c, x, r => ⟨c, x⟩ :: r
  | .p a b, x, r => unT a x.1 (unT b x.2 r)
def pkT : (t : LT) → List DV → Option (HT t × List DV)
  | .o, r => some ((), r)
  | .l c, v :: r => match v.c.same c with | some h => some ((h.down ▸ v.x : c.den), r) | none => none
  | .l _, [] => none
  | .p a b, r => match pkT a r with | some (x, r1) => (match pkT b r1 with | some (y, r2) => some ((x, y), r2) | none => none) | none => none
theorem pkT_un : ∀ (t : LT) {vs r : List DV} {x : HT t}, pkT t vs = some (x, r) → unT t x r = vs
  | .o, vs, r, x, h => (congrArg Prod.snd (Option.some.inj h)).symm
  | .l c, ⟨e, y⟩ :: vs, r, x, h => by
    unfold pkT at h
    split at h
    · rename_i hk _; obtain ⟨hk⟩ := hk
      have hk : e = c := hk
      subst hk
      have h1 : y = x := congrArg Prod.fst (Option.some.inj h)
      have h2 : vs = r := congrArg Prod.snd (Option.some.inj h)
      subst h1; subst h2; rfl
    · cases h
  | .l c, [], r, x, h => by cases h
  | .p a b, vs, r, x, h => by
    unfold pkT at h
    split at h
    · rename_i x1 r1 h1
      split at h
      · rename_i y r2 h2
        have h3 : (x1, y) = x := congrArg Prod.fst (Option.some.inj h)
        have h4 : r2 = r := congrArg Prod.snd (Option.some.inj h)
        subst h3; subst h4
        show unT a x1 (unT b y _) = _
        rw [pkT_un b h2, pkT_un a h1]
      · cases h
    · cases h
def unpack (t : LT) (x : HT t) : List DV := unT t x []
def pack (t : LT) (ds : List DV) : Option (HT t) := match pkT t ds with | some (x, []) => some x | _ => none
theorem pack_un (t : LT) {vs : List DV} {x : HT t} (h : pack t vs = some x) : unpack t x = vs := by
  unfold pack at h
  split at h
  · rename_i y e
    injection h with h; subst h
    exact pkT_un t e
  · cases h
def rgt : List LT → LT
  | [] => .o
  | [t] => t
  | t :: u :: l => .p t (rgt (u :: l))
def bal : Nat → List LT → LT
  | 0, l => rgt l
  | n + 1, l => match l with
    | [] => .o
    | [t] => t
    | t :: u :: r => .p (bal n ((t :: u :: r).take ((t :: u :: r).length / 2))) (bal n ((t :: u :: r).drop ((t :: u :: r).length / 2)))
def Sh.lv : Sh → List Cd
  | .i k => [.i k]
  | .b => [.b]
  | .s => [.s]
  | .ro c _ => [.a c]
  | .el c _ => [c]
  | .cap f c => f.lv ++ c.lv
  | .ifc _ c => c.lv
  | _ => []
def shL : List Sh → List Cd
  | [] => []
  | x :: l => x.lv ++ shL l
def Sh1.lv : Sh1 → List Cd
  | .c x => x.lv
  | .agg l => shL l
def sh1L : List Sh1 → List Cd
  | [] => []
  | x :: l => x.lv ++ sh1L l
def SSh.lv : SSh → List Cd
  | .v x => x.lv
  | .tup l => sh1L l
def BSh.lv : BSh → List Cd
  | .no => []
  | .cells _ l => shL l
  | .row c _ => [.a c]
  | .lent l => shL l
def grp (l : List Cd) : LT := bal 8 (l.map .l)
def putG : LT → List LT → List LT
  | .o, l => l
  | t, l => t :: l
def slG : List (Nat × SSh) → List LT → List LT
  | [], r => r
  | (_, x) :: l, r => putG (grp x.lv) (slG l r)
def blG : List BSh → List LT
  | [] => []
  | x :: l => putG (grp x.lv) (blG l)
def Sch.tr (s : Sch) : LT := bal 8 (slG s.sl (blG s.bl))
abbrev Con (α : Type) := List DV → Option (α × List DV)
def conC (rn : Nat → Nat) : Sh → Con CV
  | .i k, ⟨c, x⟩ :: r => match c.same (.i k) with | some h => some (.int k (h.down ▸ x : Cd.den (.i k)), r) | none => none
  | .b, ⟨c, x⟩ :: r => match c.same .b with | some h => some (.bool (h.down ▸ x : Cd.den .b), r) | none => none
  | .s, ⟨c, x⟩ :: r => match c.same .s with | some h => some (.str (h.down ▸ x : Cd.den .s), r) | none => none
  | .cst v, r => some (.k v, r)
  | .ic k z, r => some (.int k z, r)
  | .ptr j off, r => some (.ptr (rn j) off, r)
  | .own j, r => some (.own (rn j), r)
  | .ro d m, ⟨c, x⟩ :: r => match c.same (.a d) with | some h => some (.ro d (h.down ▸ x : Cd.den (.a d)) m, r) | none => none
  | .el d off, ⟨c, x⟩ :: r => match c.same d with | some h => some (.el d (h.down ▸ x : Cd.den d) off, r) | none => none
  | .fn f, r => some (.fn f, r)
  | .cap f c, r => match conC rn f r with | some (a, r1) => (match conC rn c r1 with | some (b, r2) => some (.cap a b, r2) | none => none) | none => none
  | .ifc t c, r => match conC rn c r with | some (a, r1) => some (.ifc t a, r1) | none => none
  | .i _, [] => none
  | .b, [] => none
  | .s, [] => none
  | .ro _ _, [] => none
  | .el _ _, [] => none
def conL {α β : Type} (one : α → Con β) : List α → Con (List β)
  | [], r => some ([], r)
  | x :: l, r => match one x r with | some (a, r1) => (match conL one l r1 with | some (m, r2) => some (a :: m, r2) | none => none) | none => none
def con1 (rn : Nat → Nat) : Sh1 → Con V1
  | .c x, r => match conC rn x r with | some (a, r1) => some (.c a, r1) | none => none
  | .agg l, r => match conL (conC rn) l r with | some (a, r1) => some (.agg a, r1) | none => none
def conS (rn : Nat → Nat) : SSh → Con SV
  | .v x, r => match con1 rn x r with | some (a, r1) => some (.v a, r1) | none => none
  | .tup l, r => match conL (con1 rn) l r with | some (a, r1) => some (.tup a, r1) | none => none
def conB (rn : Nat → Nat) : BSh → Con BV
  | .no, r => some (.no, r)
  | .cells t l, r => match conL (conC rn) l r with | some (a, r1) => some (.cells t a, r1) | none => none
  | .row d et, ⟨c, x⟩ :: r => match c.same (.a d) with | some h => some (.row d et (h.down ▸ x : Cd.den (.a d)), r) | none => none
  | .row _ _, [] => none
  | .lent l, r => match conL (conC rn) l r with | some (a, r1) => some (.lent a, r1) | none => none
def conSl (rn : Nat → Nat) (p : Nat × SSh) : Con (Nat × SV) := fun r => match conS rn p.2 r with | some (a, r1) => some ((p.1, a), r1) | none => none
def conSt (rn : Nat → Nat) (s : Sch) (ds : List DV) : Option HSt := match conL (conSl rn) s.sl ds with
  | some (a, r) => (match conL (conB rn) s.bl r with
    | some (b, []) => some ⟨a, b⟩
    | _ => none)
  | none => none
structure AS where
  σ : List (Option Nat)
  bl : List BV
  ds : List DV
  lt : List Nat
  fl : List Nat
def sameCv : Value → Value → Bool
  | .pointer none, .pointer none => true
  | .slice none 0 0, .slice none 0 0 => true
  | .nilFunc, .nilFunc => true
  | .map none, .map none => true
  | .nilIface, .nilIface => true
  | _, _ => false
theorem sameCv_eq {u v : Value} (h : sameCv u v = true) : u = v := by
  unfold sameCv at h
  split at h <;> first | rfl | cases h
def eqZ : Int → Int → Bool
  | .ofNat a, .ofNat b => Nat.beq a b
  | .negSucc a, .negSucc b => Nat.beq a b
  | _, _ => false
theorem eqZ_eq {x z : Int} (h : eqZ x z = true) : x = z := by
  unfold eqZ at h
  split at h
  · rw [Nat.eq_of_beq_eq_true h]
  · rw [Nat.eq_of_beq_eq_true h]
  · cases h
def AS.put (s : AS) (d : DV) : AS := ⟨s.σ, s.bl, s.ds ++ [d], s.lt, s.fl⟩
def AS.asg (s : AS) (j b : Nat) : Option AS := match s.σ[j]? with
  | some none => some ⟨s.σ.set j (some b), s.bl, s.ds, s.lt, s.fl⟩
  | some (some b') => cond (Nat.beq b b') (some s) none
  | none => none
def AS.rowAt (s : AS) (ln m : Bool) (c : Cd) (b : Nat) : Option AS := match s.bl[b]? with
  | some (.row d _ xs) => (match d.same c with
    | some h => (match m, ln with
      | true, _ => some ⟨s.σ, s.bl.set b (.fz d xs), s.ds ++ [⟨.a c, (h.down ▸ xs : List c.den)⟩], s.lt, b :: s.fl⟩
      | false, true => some ⟨s.σ, s.bl, s.ds ++ [⟨.a c, (h.down ▸ xs : List c.den)⟩], b :: s.lt, s.fl⟩
      | false, false => none)
    | none => none)
  | some (.fz d xs) => (match d.same c with | some h => some (s.put ⟨.a c, (h.down ▸ xs : List c.den)⟩) | none => none)
  | _ => none
def AS.rowV (s : AS) (ln m : Bool) (c : Cd) (b l h : Nat) : Option AS := match s.bl[b]? with
  | some (.row d _ xs) => (match d.same c with
    | some e => (match m, ln with
      | true, _ => some ⟨s.σ, s.bl.set b (.fz d xs), s.ds ++ [⟨.a c, ((e.down ▸ xs : List c.den).drop l).take (h - l)⟩], s.lt, b :: s.fl⟩
      | false, true => some ⟨s.σ, s.bl, s.ds ++ [⟨.a c, ((e.down ▸ xs : List c.den).drop l).take (h - l)⟩], b :: s.lt, s.fl⟩
      | false, false => none)
    | none => none)
  | some (.fz d xs) => (match d.same c with | some e => some (s.put ⟨.a c, ((e.down ▸ xs : List c.den).drop l).take (h - l)⟩) | none => none)
  | _ => none
def absC (ln : Bool) (bs : List BSh) : Sh → CV → AS → Option AS
  | .i k, .int j x, s => match sameK j k with | some _ => some (s.put ⟨.i k, x⟩) | none => none
  | .b, .bool x, s => some (s.put ⟨.b, x⟩)
  | .s, .str x, s => some (s.put ⟨.s, x⟩)
  | .cst v, .k u, s => cond (sameCv v u) (some s) none
  | .ic k z, .int j x, s => match sameK j k with | some _ => cond (eqZ x z) (some s) none | none => none
  | .ptr j off, .ptr b o, s => cond (Nat.beq off o) (s.asg j b) none
  | .own j, .own b, s => s.asg j b
  | .own j, .k u, s => match sameCv u (.slice none 0 0), ln, bs[j]?, s.σ[j]? with
    | true, false, some (.row c et), some none => some ⟨s.σ.set j (some s.bl.length), s.bl ++ [.row c et []], s.ds, s.lt, s.bl.length :: s.fl⟩
    | _, _, _, _ => none
  | .ro c m, .ro d xs m', s => match d.same c, (m && !m') with | some h, false => some (s.put ⟨.a c, (h.down ▸ xs : List c.den)⟩) | _, _ => none
  | .ro c m, .own b, s => s.rowAt ln m c b
  | .ro c m, .vw b d l h, s => match d.same c with | some _ => s.rowV ln m c b l h | none => none
  | .ro c m, .k u, s => cond (sameCv u (.slice none 0 0)) (some (s.put ⟨.a c, ([] : List c.den)⟩)) none
  | .el c off, .el d x o, s => match d.same c, Nat.beq off o with | some h, true => some (s.put ⟨c, (h.down ▸ x : c.den)⟩) | _, _ => none
  | .fn f, .fn g, s => cond (Nat.beq f g) (some s) none
  | .cap f c, .cap g d, s => match absC ln bs f g s with | some s1 => absC ln bs c d s1 | none => none
  | .ifc t c, .ifc u d, s => cond (Nat.beq t u) (absC ln bs c d s) none
  | _, _, _ => none
def absL {α β : Type} (one : α → β → AS → Option AS) : List α → List β → AS → Option AS
  | [], [], s => some s
  | x :: l, y :: m, s => match one x y s with | some s1 => absL one l m s1 | none => none
  | _, _, _ => none
def abs1 (ln : Bool) (bs : List BSh) : Sh1 → V1 → AS → Option AS
  | .c x, .c y, s => absC ln bs x y s
  | .agg l, .agg m, s => absL (absC ln bs) l m s
  | _, _, _ => none
def absS (ln : Bool) (bs : List BSh) : SSh → SV → AS → Option AS
  | .v x, .v y, s => abs1 ln bs x y s
  | .tup l, .tup m, s => absL (abs1 ln bs) l m s
  | _, _, _ => none
def absB (ln : Bool) (bs : List BSh) (b : BSh) (id : Option Nat) (s : AS) : Option AS := match b, id with
  | .no, _ => some s
  | .cells t l, some i => (match s.bl[i]? with
    | some (.cells t' m) => cond (Nat.beq t t') (absL (absC ln bs) l m s) none
    | _ => none)
  | .row c et, some i => (match s.bl[i]? with
    | some (.row d et' xs) => (match d.same c, Nat.beq et et' with | some h, true => some (s.put ⟨.a c, (h.down ▸ xs : List c.den)⟩) | _, _ => none)
    | _ => none)
  | .lent l, some i => (match s.bl[i]? with
    | some (.lent m) => absL (absC ln bs) l m s
    | some (.cells _ m) => cond ln (absL (absC ln bs) l m ⟨s.σ, s.bl, s.ds, i :: s.lt, s.fl⟩) none
    | _ => none)
  | _, none => none
def absBs (ln : Bool) (bs : List BSh) : Nat → List BSh → AS → Option AS
  | _, [], s => some s
  | j, b :: l, s => match absB ln bs b (match s.σ[j]? with | some x => x | none => none) s with | some s1 => absBs ln bs (j + 1) l s1 | none => none
def absSl (ln : Bool) (bs : List BSh) (sl : List (Nat × SV)) : List (Nat × SSh) → AS → Option AS
  | [], s => some s
  | (t, x) :: l, s => match getH sl t with
    | some y => (match absS ln bs x y s with | some s1 => absSl ln bs sl l s1 | none => none)
    | none => none
def nones : Nat → List (Option Nat)
  | 0 => []
  | m + 1 => none :: nones m
def absSt (ln : Bool) (sc : Sch) (σ0 : List (Option Nat)) (st : HSt) : Option AS := match absSl ln sc.bl st.sl sc.sl ⟨σ0, st.bl, [], [], []⟩ with
  | some s => absBs ln sc.bl 0 sc.bl s
  | none => none
end Go.Proofs.YtpleflcfaecojaaGreat
