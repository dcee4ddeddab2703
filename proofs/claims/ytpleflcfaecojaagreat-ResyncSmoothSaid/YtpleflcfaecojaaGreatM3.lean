/-
The third engine, part 1: kinds of data, symbolic values and blocks, what they stand for. Conditions: each lemma's own.
-/
import Derived.Test.YtpleflcfaecojaaGreatM2
namespace Go.Proofs.YtpleflcfaecojaaGreat
set_option linter.unusedVariables false
set_option linter.unusedSimpArgs false
open Go.RowKit
inductive Cd where
  | i (k : IntKind)
  | y
  | b
  | s
  | a (c : Cd)
  | p (c d : Cd)
def Cd.den : Cd → Type
  | .i _ => Int
  | .y => UInt8
  | .b => Bool
  | .s => List UInt8
  | .a c => List c.den
  | .p c d => c.den × d.den
def Cd.n : Cd → Nat
  | .p c d => c.n + d.n
  | _ => 1
def Cd.dflt : (c : Cd) → c.den
  | .i _ => (0 : Int)
  | .y => (0 : UInt8)
  | .b => false
  | .s => ([] : List UInt8)
  | .a c => ([] : List c.den)
  | .p c d => (c.dflt, d.dflt)
def sameK : (j k : IntKind) → Option (PLift (j = k))
  | .i8, .i8 => some ⟨rfl⟩ | .i16, .i16 => some ⟨rfl⟩ | .i32, .i32 => some ⟨rfl⟩ | .i64, .i64 => some ⟨rfl⟩
  | .u8, .u8 => some ⟨rfl⟩ | .u16, .u16 => some ⟨rfl⟩ | .u32, .u32 => some ⟨rfl⟩ | .u64, .u64 => some ⟨rfl⟩
  | _, _ => none
def Cd.same : (c d : Cd) → Option (PLift (c = d))
  | .i j, .i k => match sameK j k with | some ⟨h⟩ => some ⟨by rw [h]⟩ | none => none
  | .y, .y => some ⟨rfl⟩
  | .b, .b => some ⟨rfl⟩
  | .s, .s => some ⟨rfl⟩
  | .a c, .a d => match c.same d with | some ⟨h⟩ => some ⟨by rw [h]⟩ | none => none
  | .p c d, .p e f => match c.same e, d.same f with | some ⟨h⟩, some ⟨k⟩ => some ⟨by rw [h, k]⟩ | _, _ => none
  | _, _ => none
theorem inK_zero (k : IntKind) : inK k 0 := by cases k <;> simp [inK, IntKind.min, IntKind.max, IntKind.signed, IntKind.bits]
theorem inK_wrap (k : IntKind) (x : Int) : inK k (k.wrap x) := by
  have h : k.wrap x = k.wrap x := rfl
  cases k <;> simp [inK, IntKind.min, IntKind.max, IntKind.signed, IntKind.bits, IntKind.wrap] <;> omega
def tyIR (k : IntKind) : Ty Int := ⟨1, by decide, fun _ cs x => cs = [.int k x] ∧ inK k x, fun h => by rw [h.1]; rfl, fun h => by rw [h.1]; rfl, fun _ h => h⟩
def tySR : Ty (List UInt8) := ⟨1, by decide, fun _ cs x => cs = [.string (mkS x)] ∧ x.length ≤ 140737488355328, fun h => by rw [h.1]; rfl, fun h => by rw [h.1]; rfl, fun _ h => h⟩
def tyPr {α β : Type} (T : Ty α) (U : Ty β) : Ty (α × β) := ⟨T.n + U.n, Nat.add_pos_left T.pos _, fun p cs x => ∃ c1 c2, cs = c1 ++ c2 ∧ T.rep p c1 x.1 ∧ U.rep p c2 x.2,
  fun ⟨c1, c2, e, h1, h2⟩ => by rw [e, List.length_append, T.len h1, U.len h2], fun ⟨c1, c2, e, h1, h2⟩ => by rw [e, List.all_append, T.one h1, U.one h2]; rfl, fun k ⟨c1, c2, e, h1, h2⟩ => ⟨c1, c2, e, T.mono k h1, U.mono k h2⟩⟩
def Cd.ty : (c : Cd) → Ty c.den
  | .i k => tyIR k
  | .y => tyU8
  | .b => tyB
  | .s => tySR
  | .a c => tyArr c.ty
  | .p c d => tyPr c.ty d.ty
theorem Cd.ty_n : ∀ (c : Cd), c.ty.n = c.n
  | .i _ => rfl
  | .y => rfl
  | .b => rfl
  | .s => rfl
  | .a _ => rfl
  | .p c d => by show c.ty.n + d.ty.n = c.n + d.n; rw [Cd.ty_n c, Cd.ty_n d]
inductive CV where
  | int (k : IntKind) (x : Int)
  | bool (b : Bool)
  | str (l : List UInt8)
  | k (v : Value)
  | ptr (b off : Nat)
  | own (b : Nat)
  | ro (c : Cd) (xs : List c.den) (m : Bool)
  | el (c : Cd) (x : c.den) (off : Nat)
  | eo (b : Nat) (c : Cd) (i off : Nat)
  | vw (b : Nat) (c : Cd) (l h : Nat)
  | fn (f : FuncId)
  | cap (f c : CV)
  | ifc (t : TypeId) (c : CV)
  | nb (e neg : Bool)
inductive V1 where
  | c (x : CV)
  | agg (l : List CV)
inductive SV where
  | v (x : V1)
  | tup (l : List V1)
  | und
  | any
inductive BV where
  | hole
  | no
  | cells (t : TypeId) (l : List CV)
  | row (c : Cd) (et : TypeId) (xs : List c.den)
  | fz (c : Cd) (xs : List c.den)
  | lent (l : List CV)
structure HSt where
  sl : List (Nat × SV)
  bl : List BV
abbrev Env := Nat → Option Addr × Nat
def BV.len : BV → Option Nat
  | .row _ _ xs => some xs.length
  | .fz _ xs => some xs.length
  | _ => none
def BV.isHole : BV → Bool
  | .hole => true
  | _ => false
def Known (bl : List BV) (b : Nat) : Prop := ∃ bv, bl[b]? = some bv ∧ bv.isHole = false
def constant : Value → Bool
  | .pointer none => true
  | .slice none 0 0 => true
  | .nilFunc => true
  | .map none => true
  | .nilIface => true
  | _ => false
def RealC (g : Gh) (ρ : Env) (bl : List BV) : CV → Value → Prop
  | .int k x, v => v = .int k x ∧ inK k x
  | .bool b, v => v = .bool b
  | .str l, v => v = .string (mkS l) ∧ l.length ≤ 140737488355328
  | .k c, v => v = c ∧ constant c = true
  | .ptr b off, v => Known bl b ∧ ∃ a, (ρ b).1 = some a ∧ v = .pointer (some (a.add off))
  | .own b, v => Known bl b ∧ ∃ n, v = .slice (ρ b).1 n (ρ b).2 ∧ ∀ bv m, bl[b]? = some bv → bv.len = some m → n = m
  | .ro c xs m, v => ∃ A cap, v = .slice A xs.length cap ∧ (match m with | true => Arr g.b c.ty A cap xs | false => ArrM g.r g.b c.ty A cap xs)
  | .el c x off, v => ∃ a cs, v = .pointer (some (a.add off)) ∧ Cells g.r a cs ∧ c.ty.rep g.b cs x
  | .eo b c i off, v => Known bl b ∧ ∃ a, (ρ b).1 = some a ∧ v = .pointer (some (a.add (i * c.n + off))) ∧ ∀ bv m, bl[b]? = some bv → bv.len = some m → i < m
  | .vw b c l h, v => Known bl b ∧ v = .slice (offA (ρ b).1 (ρ b).2 l c.n) (h - l) ((ρ b).2 - l) ∧ ∀ bv m, bl[b]? = some bv → bv.len = some m → l ≤ h ∧ h ≤ m
  | .fn f, v => v = .func (.func f) #[] #[]
  | .cap f c, v => ∃ fn caps vc, RealC g ρ bl f (.func fn #[] caps) ∧ RealC g ρ bl c vc ∧ v = .func fn #[] (caps.push vc)
  | .ifc t c, v => ∃ u, RealC g ρ bl c u ∧ v = .iface t u
  | .nb e neg, v => ∃ b : Bool, v = .bool (cond neg (!b) b) ∧ (b = true → e = true)
def All2 {α β : Type} (R : α → β → Prop) : List α → List β → Prop
  | [], [] => True
  | x :: l, y :: m => R x y ∧ All2 R l m
  | _, _ => False
theorem All2.len {α β : Type} {R : α → β → Prop} : ∀ {l : List α} {m : List β}, All2 R l m → l.length = m.length
  | [], [], _ => rfl
  | _ :: l, _ :: m, h => by rw [List.length_cons, List.length_cons, h.2.len]
  | [], _ :: _, h => h.elim
  | _ :: _, [], h => h.elim
theorem All2.get {α β : Type} {R : α → β → Prop} : ∀ {l : List α} {m : List β} {i : Nat} {x : α}, All2 R l m → l[i]? = some x → ∃ y, m[i]? = some y ∧ R x y
  | x :: l, y :: m, 0, z, h, e => by simp at e; subst e; exact ⟨y, rfl, h.1⟩
  | x :: l, y :: m, i + 1, z, h, e => by simpa using All2.get (i := i) h.2 (by simpa using e)
  | [], [], _, _, _, e => by simp at e
  | [], _ :: _, _, _, h, _ => h.elim
  | _ :: _, [], _, _, h, _ => h.elim
theorem All2.mono {α β : Type} {R S : α → β → Prop} (hi : ∀ x y, R x y → S x y) : ∀ {l : List α} {m : List β}, All2 R l m → All2 S l m
  | [], [], _ => trivial
  | _ :: _, _ :: _, h => ⟨hi _ _ h.1, h.2.mono hi⟩
  | [], _ :: _, h => h.elim
  | _ :: _, [], h => h.elim
theorem All2.app {α β : Type} {R : α → β → Prop} {l2 : List α} {m2 : List β} (h2 : All2 R l2 m2) : ∀ {l : List α} {m : List β}, All2 R l m → All2 R (l ++ l2) (m ++ m2)
  | [], [], _ => h2
  | _ :: _, _ :: _, h => ⟨h.1, h2.app h.2⟩
  | [], _ :: _, h => h.elim
  | _ :: _, [], h => h.elim
theorem All2.take {α β : Type} {R : α → β → Prop} : ∀ (n : Nat) {l : List α} {m : List β}, All2 R l m → All2 R (l.take n) (m.take n)
  | 0, _, _, _ => trivial
  | _ + 1, [], [], _ => trivial
  | n + 1, _ :: _, _ :: _, h => ⟨h.1, h.2.take n⟩
  | _ + 1, [], _ :: _, h => h.elim
  | _ + 1, _ :: _, [], h => h.elim
theorem All2.drop {α β : Type} {R : α → β → Prop} : ∀ (n : Nat) {l : List α} {m : List β}, All2 R l m → All2 R (l.drop n) (m.drop n)
  | 0, _, _, h => h
  | _ + 1, [], [], _ => trivial
  | n + 1, _ :: _, _ :: _, h => h.2.drop n
  | _ + 1, [], _ :: _, h => h.elim
  | _ + 1, _ :: _, [], h => h.elim
theorem All2.set {α β : Type} {R : α → β → Prop} {x : α} {y : β} (h1 : R x y) : ∀ (n : Nat) {l : List α} {m : List β}, All2 R l m → All2 R (l.set n x) (m.set n y)
  | _, [], [], _ => trivial
  | 0, _ :: _, _ :: _, h => ⟨h1, h.2⟩
  | n + 1, _ :: _, _ :: _, h => ⟨h.1, h.2.set h1 n⟩
  | _, [], _ :: _, h => h.elim
  | _, _ :: _, [], h => h.elim
def Real1 (g : Gh) (ρ : Env) (bl : List BV) : V1 → Value → Prop
  | .c x, v => RealC g ρ bl x v
  | .agg l, v => ∃ cs, v = .agg cs.toArray ∧ All2 (RealC g ρ bl) l cs
def RealS (g : Gh) (ρ : Env) (bl : List BV) : SV → Value → Prop
  | .v x, v => Real1 g ρ bl x v
  | .tup l, v => ∃ vs, v = .tuple vs.toArray ∧ All2 (Real1 g ρ bl) l vs
  | .und, v => v = undef
  | .any, _ => True
def BlkR (g : Gh) (ρ : Env) (bl : List BV) (k : Option Bk) (e : Option Addr × Nat) : BV → Prop
  | .hole => k = none
  | .no => k = none
  | .cells t l => ∃ b cs, k = some ⟨b, t, cs⟩ ∧ e.1 = some ⟨b, 0, none⟩ ∧ All2 (RealC g ρ bl) l cs
  | .row c et xs => Buf g.b c.ty et (.slice e.1 xs.length e.2) k xs
  | .fz c xs => k = none ∧ Arr g.b c.ty e.1 e.2 xs
  | .lent l => k = none ∧ ∃ a cs, e.1 = some a ∧ Cells g.r a cs ∧ All2 (RealC g ρ bl) l cs
def getH : List (Nat × SV) → Nat → Option SV
  | [], _ => none
  | (k, v) :: l, t => cond (Nat.beq k t) (some v) (getH l t)
def GI (p : Psi) : Prop := ∀ w, p.In w → GW w
theorem Psi.In.of_le {p q : Psi} (h : p.le q) {w : World} (k : q.In w) : p.In w := ⟨k.os.trans h.os, k.tape.trans h.tape, k.out.trans h.out, fun b o e => k.m b o (h.m b o e)⟩
theorem GI.mono {p q : Psi} (h : p.le q) (k : GI p) : GI q := fun w hw => k w (hw.of_le h)
structure Rl (g : Gh) (ρ : Env) (st : HSt) (own : Own) (sl : Sl) : Prop where
  len : own.length = st.bl.length
  blk : ∀ i bv k, st.bl[i]? = some bv → own[i]? = some k → BlkR g ρ st.bl k (ρ i) bv
  slot : ∀ t sv, getH st.sl t = some sv → ∃ v, getS sl t = some v ∧ RealS g ρ st.bl sv v
  gi : GI g.b
def Ext (ρ : Env) (bl : List BV) (ρ' : Env) (bl' : List BV) : Prop :=
  ∀ (b : Nat) (bv : BV), bl[b]? = some bv → bv.isHole = false → ρ' b = ρ b ∧ ∃ bv' : BV, bl'[b]? = some bv' ∧ bv'.isHole = false ∧ ∀ m, bv'.len = some m → bv.len = some m
theorem Ext.refl {ρ : Env} {bl : List BV} : Ext ρ bl ρ bl := fun b bv h1 h2 => ⟨rfl, bv, h1, h2, fun m h => h⟩
theorem Ext.trans {ρ ρ1 ρ2 : Env} {bl bl1 bl2 : List BV} (h : Ext ρ bl ρ1 bl1) (k : Ext ρ1 bl1 ρ2 bl2) : Ext ρ bl ρ2 bl2 := fun b bv h1 h2 => by
  obtain ⟨e, bv1, h3, h4, h5⟩ := h b bv h1 h2
  obtain ⟨e2, bv2, h6, h7, h8⟩ := k b bv1 h3 h4
  exact ⟨e2.trans e, bv2, h6, h7, fun m hm => h5 m (h8 m hm)⟩
theorem Ext.known {ρ ρ1 : Env} {bl bl1 : List BV} (h : Ext ρ bl ρ1 bl1) {b : Nat} (k : Known bl b) : Known bl1 b ∧ ρ1 b = ρ b := by
  obtain ⟨bv, h1, h2⟩ := k
  obtain ⟨e, bv', h3, h4, _⟩ := h b bv h1 h2
  exact ⟨⟨bv', h3, h4⟩, e⟩
theorem RealC.ext {g g' : Gh} {ρ ρ' : Env} {bl bl' : List BV} (hg : g.le g') (h : Ext ρ bl ρ' bl') : ∀ {x : CV} {v : Value}, RealC g ρ bl x v → RealC g' ρ' bl' x v
  | .int _ _, _, hr => hr
  | .bool _, _, hr => hr
  | .str _, _, hr => hr
  | .k _, _, hr => hr
  | .ptr b off, v, ⟨hk, a, e, hv⟩ => by
    obtain ⟨h1, h2⟩ := h.known hk
    exact ⟨h1, a, by rw [h2]; exact e, hv⟩
  | .own b, v, ⟨hk, n, hv, hl⟩ => by
    obtain ⟨h1, h2⟩ := h.known hk
    refine ⟨h1, n, by rw [h2]; exact hv, fun bv m e1 e2 => ?_⟩
    obtain ⟨bv0, h3, h4⟩ := hk
    obtain ⟨_, bv', h5, _, h6⟩ := h b bv0 h3 h4
    rw [h5] at e1
    injection e1 with e1; subst e1
    exact hl bv0 m h3 (h6 m e2)
  | .ro c xs true, v, ⟨A, cap, hv, ha⟩ => ⟨A, cap, hv, Arr.mono ha hg.b⟩
  | .ro c xs false, v, ⟨A, cap, hv, ha⟩ => ⟨A, cap, hv, ArrM.mono ha hg.r hg.b⟩
  | .el c x off, v, ⟨a, cs, hv, hc, hr⟩ => ⟨a, cs, hv, hc.mono hg.r, c.ty.mono hg.b hr⟩
  | .eo b c i off, v, ⟨hk, a, e, hv, hl⟩ => by
    obtain ⟨h1, h2⟩ := h.known hk
    refine ⟨h1, a, by rw [h2]; exact e, hv, fun bv m e1 e2 => ?_⟩
    obtain ⟨bv0, h3, h4⟩ := hk
    obtain ⟨_, bv', h5, _, h6⟩ := h b bv0 h3 h4
    rw [h5] at e1
    injection e1 with e1; subst e1
    exact hl bv0 m h3 (h6 m e2)
  | .vw b c l r, v, ⟨hk, hv, hl⟩ => by
    obtain ⟨h1, h2⟩ := h.known hk
    refine ⟨h1, by rw [h2]; exact hv, fun bv m e1 e2 => ?_⟩
    obtain ⟨bv0, h3, h4⟩ := hk
    obtain ⟨_, bv', h5, _, h6⟩ := h b bv0 h3 h4
    rw [h5] at e1
    injection e1 with e1; subst e1
    exact hl bv0 m h3 (h6 m e2)
  | .fn f, _, hr => hr
  | .nb _ _, _, hr => hr
  | .cap f c, v, ⟨fn, caps, vc, h1, h2, h3⟩ => ⟨fn, caps, vc, RealC.ext hg h h1, RealC.ext hg h h2, h3⟩
  | .ifc t c, v, ⟨u, h1, h2⟩ => ⟨u, RealC.ext hg h h1, h2⟩
section
variable {g g' : Gh} {ρ ρ' : Env} {bl bl' : List BV}
theorem Real1.ext (hg : g.le g') (h : Ext ρ bl ρ' bl') : ∀ {x : V1} {v : Value}, Real1 g ρ bl x v → Real1 g' ρ' bl' x v
  | .c _, _, hr => RealC.ext hg h hr
  | .agg _, _, ⟨cs, e, hr⟩ => ⟨cs, e, hr.mono fun _ _ => RealC.ext hg h⟩
theorem RealS.ext (hg : g.le g') (h : Ext ρ bl ρ' bl') : ∀ {x : SV} {v : Value}, RealS g ρ bl x v → RealS g' ρ' bl' x v
  | .v _, _, hr => Real1.ext hg h hr
  | .tup _, _, ⟨vs, e, hr⟩ => ⟨vs, e, hr.mono fun _ _ => Real1.ext hg h⟩
  | .und, _, hr => hr
  | .any, _, hr => hr
theorem BlkR.ext (hg : g.le g') (h : Ext ρ bl ρ' bl') {k : Option Bk} {e : Option Addr × Nat} : ∀ {bv : BV}, BlkR g ρ bl k e bv → BlkR g' ρ' bl' k e bv
  | .hole, hr => hr
  | .no, hr => hr
  | .cells t l, ⟨b, cs, h1, h2, h3⟩ => ⟨b, cs, h1, h2, h3.mono fun _ _ => RealC.ext hg h⟩
  | .row c et xs, hr => Buf.mono hr hg.b
  | .fz c xs, ⟨h1, h2⟩ => ⟨h1, h2.mono hg.b⟩
  | .lent l, ⟨h1, a, cs, h2, h3, h4⟩ => ⟨h1, a, cs, h2, h3.mono hg.r, h4.mono fun _ _ => RealC.ext hg h⟩
end
theorem ArrM.cut {α : Type} {T : Ty α} {r b : Psi} {A : Option Addr} {c : Nat} {xs : List α} (h : ArrM r b T A c xs) (l m : Nat) (h1 : l ≤ m) (h2 : m ≤ xs.length) : ArrM r b T (offA A c l T.n) (c - l) ((xs.drop l).take (m - l)) := by
  obtain ⟨hc, hl0, cs, hr, hrow⟩ := h
  refine ⟨by rw [List.length_take, List.length_drop]; omega, by rw [List.length_take, List.length_drop]; omega, (cs.drop (l * T.n)).take ((m - l) * T.n), (hr.drop l).take _, fun hn => ?_⟩
  rw [List.length_take, List.length_drop] at hn
  obtain ⟨ad, e, hcells⟩ := hrow (by omega)
  subst e
  refine ⟨ad.add (l * T.n), ?_, hcells.part _ _⟩
  unfold offA
  rw [if_neg (by omega)]
  rfl
def Cd.cv : (c : Cd) → c.den → List CV
  | .i k, x => [.int k x]
  | .y, x => [.int .u8 (x.toNat : Int)]
  | .b, x => [.bool x]
  | .s, x => [.str x]
  | .a c, x => [.ro c x true]
  | .p c d, x => c.cv x.1 ++ d.cv x.2
theorem inK_u8 (x : UInt8) : inK .u8 (x.toNat : Int) := by
  have := x.toNat_lt
  simp [inK, IntKind.min, IntKind.max, IntKind.signed, IntKind.bits]; omega
theorem Cd.cv_real {g : Gh} {ρ : Env} {bl : List BV} : ∀ (c : Cd) {x : c.den} {cs : List Value}, c.ty.rep g.b cs x → All2 (RealC g ρ bl) (c.cv x) cs
  | .i k, x, cs, h => by
    obtain ⟨e, h2⟩ : cs = [.int k x] ∧ inK k x := h
    subst e; exact ⟨⟨rfl, h2⟩, trivial⟩
  | .y, x, cs, h => by
    have e : cs = [.int .u8 (UInt8.toNat x : Int)] := h
    subst e; exact ⟨⟨rfl, inK_u8 x⟩, trivial⟩
  | .b, x, cs, h => by
    have e : cs = [.bool x] := h
    subst e; exact ⟨rfl, trivial⟩
  | .s, x, cs, h => by
    obtain ⟨e, h2⟩ : cs = [.string (mkS x)] ∧ List.length (α := UInt8) x ≤ 140737488355328 := h
    subst e; exact ⟨⟨rfl, h2⟩, trivial⟩
  | .a c, x, cs, h => by
    obtain ⟨A, cap, e, h2⟩ : ∃ A cap, cs = [.slice A (List.length (α := c.den) x) cap] ∧ Arr g.b c.ty A cap x := h
    subst e; exact ⟨⟨A, cap, rfl, h2⟩, trivial⟩
  | .p c d, x, cs, h => by
    obtain ⟨c1, c2, e, h1, h2⟩ : ∃ c1 c2, cs = c1 ++ c2 ∧ c.ty.rep g.b c1 x.1 ∧ d.ty.rep g.b c2 x.2 := h
    subst e; exact All2.app (Cd.cv_real d h2) (Cd.cv_real c h1)
end Go.Proofs.YtpleflcfaecojaaGreat
namespace Go.Proofs.YtpleflcfaecojaaGreat
set_option linter.unusedVariables false
set_option linter.unusedSimpArgs false
open Go.RowKit
def cnd {α : Type} (c : Bool) (x y : α) : α := (fun _ : Nat → Option Unit => match c with | true => x | false => y) fun n => loopO n (fun _ => none) ()
def gd {α : Type} (c : Bool) (x : Option α) : Option α := (fun _ : Nat → Option Unit => match c with | true => x | false => none) fun n => loopO n (fun _ => none) ()
def bd {α β : Type} (x : Option α) (k : α → Option β) : Option β := (fun _ : Nat → Option Unit => match x with | some t => k t | none => none) fun n => loopO n (fun _ => none) ()
def jd {α β : Type} (x : Option (Ctl α β)) (k : α → Option β) : Option β := (fun _ : Nat → Option Unit => match x with | some (.go t) => k t | some (.done r) => some r | none => none) fun n => loopO n (fun _ => none) ()
def dnO {α β : Type} (x : Option β) : Option (Ctl α β) := (fun _ : Nat → Option Unit => match x with | some r => some (.done r) | none => none) fun n => loopO n (fun _ => none) ()
def sm {α β ρ : Type} (x : α ⊕ β) (f : α → ρ) (g : β → ρ) : ρ := (fun _ : Nat → Option Unit => match x with | .inl a => f a | .inr b => g b) fun n => loopO n (fun _ => none) ()
noncomputable def bothO {α : Type} (x y : Option α) : Option α := (fun _ : Nat → Option Unit => @ite _ (x = y) (Classical.propDecidable _) x none) fun n => loopO n (fun _ => none) ()
noncomputable def nlO {α : Type} (e : Bool) (x y : Option α) : Option α := (fun _ : Nat → Option Unit => match e with | true => bothO x y | false => y) fun n => loopO n (fun _ => none) ()
theorem bothO_some {α : Type} {x y : Option α} {r : α} (h : bothO x y = some r) : x = some r ∧ y = some r := by
  unfold bothO at h
  by_cases e : x = y
  · simp only [e, if_true] at h ⊢; exact ⟨h, h⟩
  · simp only [e, if_false] at h; cases h
theorem nlO_some {α : Type} {e : Bool} {x y : Option α} {r : α} (h : nlO e x y = some r) : y = some r ∧ (e = true → x = some r) := by
  cases e with
  | true => have := bothO_some (h : bothO x y = some r); exact ⟨this.2, fun _ => this.1⟩
  | false => exact ⟨h, fun e => by cases e⟩
theorem nlO_eq {α : Type} {e : Bool} {x y : Option α} (h : e = true → x = y) : nlO e x y = y := by
  cases e with
  | true =>
    show bothO x y = y
    unfold bothO
    simp [h rfl]
  | false => rfl
theorem dnO_some {α β : Type} {x : Option β} {c : Ctl α β} (h : dnO x = some c) : ∃ r, x = some r ∧ c = .done r := by
  cases x with
  | none => cases h
  | some r => injection (show some (Ctl.done r) = some c from h) with h; exact ⟨r, rfl, h.symm⟩
theorem gd_def {α : Type} (c : Bool) (x : Option α) : gd c x = grd c x := by cases c <;> rfl
theorem bd_def {α β : Type} (x : Option α) (k : α → Option β) : bd x k = bindO x k := by cases x <;> rfl
theorem jd_def {α β : Type} (x : Option (Ctl α β)) (k : α → Option β) : jd x k = joinO x k := by
  cases x with
  | none => rfl
  | some c => cases c <;> rfl
structure HE where
  val : SV
  upd : List (Nat × BV)
  new : List BV
def natMem (x : Nat) : List Nat → Bool
  | [] => false
  | y :: l => cond (Nat.beq x y) true (natMem x l)
def maskB : Nat → List Nat → List BV → List BV
  | _, _, [] => []
  | i, ids, bv :: l => cond (natMem i ids) bv .no :: maskB (i + 1) ids l
inductive Tr : Type 1 where
  | no
  | done (e : HE)
  | need (b : Nat) (k : BV → Tr)
  | frz (b : Nat) (k : Tr)
  | grd (c : Bool) (k : Tr)
  | bnd {τ : Type} (x : Option τ) (k : τ → Tr)
  | sub (ids : List BV → List Nat) (k : List BV → Tr)
  | alt {α β : Type} (x : α ⊕ β) (k1 : α → Tr) (k2 : β → Tr)
def setNew : List BV → Nat → List BV → List BV
  | bl, _, [] => bl
  | bl, f, v :: l => setNew (bl.set f v) (f + 1) l
def setUpd : List BV → List (Nat × BV) → List BV
  | bl, [] => bl
  | bl, (b, v) :: l => setUpd (bl.set b v) l
def applyE (bl : List BV) (f : Nat) (e : HE) : List BV := setNew (setUpd bl e.upd) f e.new
def frzB : BV → Option BV
  | .row c _ xs => some (.fz c xs)
  | _ => none
def Told (f : Nat) : Tr → List BV → List BV → SV → Prop
  | .no, _, _, _ => False
  | .done e, bl, bl', v => bl' = applyE bl f e ∧ v = e.val
  | .need b k, bl, bl', v => ∃ bv, bl[b]? = some bv ∧ Told f (k bv) bl bl' v
  | .frz b k, bl, bl', v => ∃ bv fv, bl[b]? = some bv ∧ frzB bv = some fv ∧ Told f k (bl.set b fv) bl' v
  | .grd c k, bl, bl', v => c = true ∧ Told f k bl bl' v
  | .bnd x k, bl, bl', v => ∃ t, x = some t ∧ Told f (k t) bl bl' v
  | .sub _ k, bl, bl', v => ∃ idl, Told f (k (maskB 0 idl bl)) bl bl' v
  | .alt x k1 k2, bl, bl', v => (∃ a, x = .inl a ∧ Told f (k1 a) bl bl' v) ∨ ∃ b, x = .inr b ∧ Told f (k2 b) bl bl' v
def runT {ρ : Type} (f : Nat) : Tr → List BV → (List BV → SV → Option ρ) → Option ρ
  | .no, _, _ => none
  | .done e, bl, K => K (applyE bl f e) e.val
  | .need b k, bl, K => match bl[b]? with | some bv => runT f (k bv) bl K | none => none
  | .frz b k, bl, K => match bl[b]? with | some bv => (match frzB bv with | some fv => runT f k (bl.set b fv) K | none => none) | none => none
  | .grd c k, bl, K => gd c (runT f k bl K)
  | .bnd x k, bl, K => bd x fun t => runT f (k t) bl K
  | .sub ids k, bl, K => runT f (k (maskB 0 (ids bl) bl)) bl K
  | .alt x k1 k2, bl, K => sm x (fun a => runT f (k1 a) bl K) (fun b => runT f (k2 b) bl K)
theorem runT_told {ρ : Type} {f : Nat} {K : List BV → SV → Option ρ} {r : ρ} : ∀ {t : Tr} {bl : List BV}, runT f t bl K = some r → ∃ bl' v, Told f t bl bl' v ∧ K bl' v = some r
  | .no, bl, h => by cases h
  | .done e, bl, h => ⟨_, _, ⟨rfl, rfl⟩, h⟩
  | .need b k, bl, h => by
    unfold runT at h
    split at h
    · rename_i bv e
      obtain ⟨bl', v, h1, h2⟩ := runT_told h
      exact ⟨bl', v, ⟨bv, e, h1⟩, h2⟩
    · cases h
  | .frz b k, bl, h => by
    unfold runT at h
    split at h
    · rename_i bv e
      split at h
      · rename_i fv e2
        obtain ⟨bl', v, h1, h2⟩ := runT_told h
        exact ⟨bl', v, ⟨bv, fv, e, e2, h1⟩, h2⟩
      · cases h
    · cases h
  | .grd c k, bl, h => by
    obtain ⟨hc, h⟩ := grd_T ((gd_def _ _).symm.trans h)
    obtain ⟨bl', v, h1, h2⟩ := runT_told h
    exact ⟨bl', v, ⟨hc, h1⟩, h2⟩
  | .bnd x k, bl, h => by
    obtain ⟨t, hx, h⟩ := bindO_T ((bd_def _ _).symm.trans h)
    obtain ⟨bl', v, h1, h2⟩ := runT_told h
    exact ⟨bl', v, ⟨t, hx, h1⟩, h2⟩
  | .sub ids k, bl, h => by
    unfold runT at h
    obtain ⟨bl', v, h1, h2⟩ := runT_told h
    exact ⟨bl', v, ⟨_, h1⟩, h2⟩
  | .alt x k1 k2, bl, h => by
    unfold runT at h
    cases x with
    | inl a =>
      obtain ⟨bl', v, h1, h2⟩ := runT_told h
      exact ⟨bl', v, .inl ⟨a, rfl, h1⟩, h2⟩
    | inr b =>
      obtain ⟨bl', v, h1, h2⟩ := runT_told h
      exact ⟨bl', v, .inr ⟨b, rfl, h1⟩, h2⟩
def EffH (P : Program) (n : Nat) (op : Op) (ty : TypeId) (sl : List (Nat × SV)) (bl bl' : List BV) (val : SV) : Prop :=
  ∀ (o : Oper) (a : Act) (w : World) (Q : Exit → Act → World → Prop) (K : Act → World → Prop) (g : Gh) (ρ : Env) (own : Own) (fr : Sl),
    o.op = op → o.type = ty → Rl g ρ ⟨sl, bl⟩ own fr → Fr n a fr → St w g own →
    (∀ v g' ρ' own' w', g.le g' → Ext ρ bl ρ' bl' → St w' g' own' → Rl g' ρ' ⟨sl, bl'⟩ own' fr → RealS g' ρ' bl' val v → K (a.put o.dst v) w') → Oper.wp P o a w K Q
theorem Rl.turn {g g' : Gh} {ρ ρ' : Env} {sl : List (Nat × SV)} {bl bl' : List BV} {own own' : Own} {fr : Sl} (h : Rl g ρ ⟨sl, bl⟩ own fr) (hg : g.le g') (he : Ext ρ bl ρ' bl') (hl : own'.length = bl'.length)
    (hb : ∀ i bv k, bl'[i]? = some bv → own'[i]? = some k → BlkR g' ρ' bl' k (ρ' i) bv) : Rl g' ρ' ⟨sl, bl'⟩ own' fr :=
  ⟨hl, hb, fun t sv e => by
    obtain ⟨v, h1, h2⟩ := h.slot t sv e
    exact ⟨v, h1, h2.ext hg he⟩, h.gi.mono hg.b⟩
theorem EffH.of_yld {P : Program} {n : Nat} {op : Op} {ty : TypeId} {sl : List (Nat × SV)} {bl : List BV} {val : SV}
    (h : ∀ g ρ own fr, Rl g ρ ⟨sl, bl⟩ own fr → ∃ v, RealS g ρ bl val v ∧ Yld P n g.r own fr op ty v) : EffH P n op ty sl bl bl val := by
  intro o a w Q K g ρ own fr h1 h2 hr hf hs hk
  obtain ⟨v, hv, hy⟩ := h g ρ own fr hr
  simp only [Oper.wp, hy o a w h1 h2 hf hs.rdw, Oper.upon]
  exact hk v g ρ own w (.refl g) .refl hs hr hv
def leI : Int → Int → Bool
  | .ofNat a, .ofNat b => Nat.ble a b
  | .negSucc _, .ofNat _ => true
  | .ofNat _, .negSucc _ => false
  | .negSucc a, .negSucc b => Nat.ble b a
theorem leI_ok {a b : Int} (h : leI a b = true) : a ≤ b := by
  cases a <;> cases b <;> simp only [leI] at h
  · have := Nat.le_of_ble_eq_true h; rw [Int.ofNat_eq_natCast, Int.ofNat_eq_natCast]; omega
  · cases h
  · rw [Int.ofNat_eq_natCast]; omega
  · have := Nat.le_of_ble_eq_true h; omega
def kMin : IntKind → Int
  | .i8 => .negSucc 127 | .i16 => .negSucc 32767 | .i32 => .negSucc 2147483647 | .i64 => .negSucc 9223372036854775807 | _ => 0
def kMax : IntKind → Int
  | .i8 => 127 | .i16 => 32767 | .i32 => 2147483647 | .i64 => 9223372036854775807 | .u8 => 255 | .u16 => 65535 | .u32 => 4294967295 | .u64 => 18446744073709551615
def inKb (k : IntKind) (x : Int) : Bool := leI (kMin k) x && leI x (kMax k)
theorem inKb_ok {k : IntKind} {x : Int} (h : inKb k x = true) : inK k x := by
  simp only [inKb, Bool.and_eq_true] at h
  have h1 := leI_ok h.1
  have h2 := leI_ok h.2
  have e1 : k.min = kMin k := by cases k <;> rfl
  have e2 : k.max = kMax k := by cases k <;> rfl
  exact ⟨by rw [e1]; exact h1, by rw [e2]; exact h2⟩
def constC (v : Value) : Option CV := match v with
  | .int k x => cond (inKb k x) (some (.int k x)) none
  | .bool b => some (.bool b)
  | .string b => cond (Nat.ble b.data.toList.length 140737488355328) (some (.str b.data.toList)) none
  | v => cond (constant v) (some (.k v)) none
def constL : List Value → Option (List CV)
  | [] => some []
  | v :: l => match constC v, constL l with | some c, some m => some (c :: m) | _, _ => none
def constS : Value → Option SV
  | .agg cs => match constL cs.toList with | some l => some (.v (.agg l)) | none => none
  | v => match constC v with | some c => some (.v (.c c)) | none => none
def evH (sl : List (Nat × SV)) : Operand → Option SV
  | .tmp t => getH sl t
  | .const v => constS v
  | .func f => some (.v (.c (.fn f)))
  | .global _ => none
section
variable {g : Gh} {ρ : Env} {bl : List BV}
theorem constC_real {v : Value} {c : CV} (h : constC v = some c) : RealC g ρ bl c v := by
  unfold constC at h
  split at h
  · rename_i k x
    cases e : inKb k x with
    | true => rw [e] at h; injection h with h; subst h; exact ⟨rfl, inKb_ok e⟩
    | false => rw [e] at h; cases h
  · injection h with h; subst h; rfl
  · rename_i b
    cases e : Nat.ble b.data.toList.length 140737488355328 with
    | true => rw [e] at h; injection h with h; subst h; exact ⟨rfl, Nat.le_of_ble_eq_true e⟩
    | false => rw [e] at h; cases h
  · rename_i u _ _ _
    cases e : constant v with
    | true => rw [e] at h; injection h with h; subst h; exact ⟨rfl, e⟩
    | false => rw [e] at h; cases h
theorem constL_real : ∀ {l : List Value} {m : List CV}, constL l = some m → All2 (RealC g ρ bl) m l
  | [], m, h => by injection h with h; subst h; trivial
  | v :: l, m, h => by
    unfold constL at h
    split at h
    · rename_i c m' h1 h2
      injection h with h; subst h
      exact ⟨constC_real h1, constL_real h2⟩
    · cases h
theorem constS_real {v : Value} {s : SV} (h : constS v = some s) : RealS g ρ bl s v := by
  unfold constS at h
  split at h
  · rename_i cs
    split at h
    · rename_i l e
      injection h with h; subst h
      exact ⟨cs.toList, by simp, constL_real e⟩
    · cases h
  · split at h
    · rename_i c e
      injection h with h; subst h
      exact constC_real e
    · cases h
theorem evH_real {sl : List (Nat × SV)} {own : Own} {fr : Sl} (h : Rl g ρ ⟨sl, bl⟩ own fr) {x : Operand} {s : SV} (e : evH sl x = some s) : ∃ v, evS fr x = some v ∧ RealS g ρ bl s v := by
  cases x with
  | tmp t => exact h.slot t s e
  | const v => exact ⟨v, rfl, constS_real e⟩
  | func f => injection e with e; subst e; exact ⟨_, rfl, rfl⟩
  | global _ => cases e
end
end Go.Proofs.YtpleflcfaecojaaGreat
namespace Go.Proofs.YtpleflcfaecojaaGreat
set_option linter.unusedVariables false
set_option linter.unusedSimpArgs false
open Go.RowKit
abbrev vC (c : CV) : SV := .v (.c c)
def retT (v : SV) : Tr := .done ⟨v, [], []⟩
def tMove (sl : List (Nat × SV)) (x : Operand) : Tr := match evH sl x with | some v => retT v | none => .no
def asI (sl : List (Nat × SV)) (x : Operand) (k : IntKind → Int → Tr) : Tr := match evH sl x with | some (.v (.c (.int j z))) => k j z | _ => .no
def asB (sl : List (Nat × SV)) (x : Operand) (k : Bool → Tr) : Tr := match evH sl x with | some (.v (.c (.bool b))) => k b | _ => .no
def pickS (c : Bool) : SV → SV → SV
  | .v (.c (.int k x)), .v (.c (.int j y)) => match sameK k j with | some _ => vC (.int k (cond c x y)) | none => cond c (vC (.int k x)) (vC (.int j y))
  | .v (.c (.bool x)), .v (.c (.bool y)) => vC (.bool (cond c x y))
  | u, v => cond c u v
def tPick (sl : List (Nat × SV)) (c x y : Operand) : Tr := asB sl c fun b => match evH sl x, evH sl y with | some u, some v => retT (pickS b u v) | _, _ => .no
section
variable {P : Program} {n : Nat} {ty : TypeId} {sl : List (Nat × SV)} {bl bl' : List BV} {v : SV} {f : Nat} {g : Gh} {ρ : Env}
theorem told_ret {u : SV} (h : Told f (retT u) bl bl' v) : bl' = bl ∧ v = u := h
theorem asI_told {x : Operand} {k : IntKind → Int → Tr} (h : Told f (asI sl x k) bl bl' v) : ∃ j z, evH sl x = some (vC (.int j z)) ∧ Told f (k j z) bl bl' v := by
  unfold asI at h
  split at h
  · rename_i j z e; exact ⟨j, z, e, h⟩
  · exact h.elim
theorem asB_told {x : Operand} {k : Bool → Tr} (h : Told f (asB sl x k) bl bl' v) : ∃ b, evH sl x = some (vC (.bool b)) ∧ Told f (k b) bl bl' v := by
  unfold asB at h
  split at h
  · rename_i b e; exact ⟨b, e, h⟩
  · exact h.elim
theorem tMove_ok {x : Operand} (h : Told f (tMove sl x) bl bl' v) : EffH P n (.move x) ty sl bl bl' v ∧ EffH P n (.assign x) ty sl bl bl' v := by
  unfold tMove at h
  split at h
  · rename_i u e
    obtain ⟨rfl, rfl⟩ := told_ret h
    exact ⟨.of_yld fun g ρ own fr hr => by obtain ⟨w, h1, h2⟩ := evH_real hr e; exact ⟨w, h2, y_move h1⟩, .of_yld fun g ρ own fr hr => by obtain ⟨w, h1, h2⟩ := evH_real hr e; exact ⟨w, h2, y_assign h1⟩⟩
  · exact h.elim
theorem pickS_real {c : Bool} {x y : SV} {vx vy : Value} (hx : RealS g ρ bl x vx) (hy : RealS g ρ bl y vy) : RealS g ρ bl (pickS c x y) (cond c vx vy) := by
  unfold pickS
  split
  · rename_i k x j y
    split
    · rename_i h _
      obtain ⟨h⟩ := h
      subst h
      obtain ⟨rfl, h1⟩ := hx
      obtain ⟨rfl, h2⟩ := hy
      cases c
      · exact ⟨rfl, h2⟩
      · exact ⟨rfl, h1⟩
    · cases c
      · exact hy
      · exact hx
  · have hx : vx = _ := hx
    have hy : vy = _ := hy
    subst hx; subst hy
    cases c <;> rfl
  · cases c
    · exact hy
    · exact hx
theorem tPick_ok {c x y : Operand} (h : Told f (tPick sl c x y) bl bl' v) : EffH P n (.pick c x y) ty sl bl bl' v := by
  obtain ⟨b, eb, h⟩ := asB_told h
  split at h
  · rename_i u w e1 e2
    obtain ⟨rfl, rfl⟩ := told_ret h
    refine .of_yld fun g ρ own fr hr => ?_
    obtain ⟨vb, hb1, hb2⟩ := evH_real hr eb
    obtain ⟨vu, hu1, hu2⟩ := evH_real hr e1
    obtain ⟨vw, hw1, hw2⟩ := evH_real hr e2
    have hb2 : vb = .bool b := hb2
    subst hb2
    refine ⟨_, pickS_real hu2 hw2, ?_⟩
    cases b
    · exact y_pickF hb1 hw1
    · exact y_pickT hb1 hu1
  · exact h.elim
def intOp (op : BinOp) (k : IntKind) (a b : Int) : Option CV := match op with
  | .add => some (.int k (k.wrap (a + b)))
  | .sub => some (.int k (k.wrap (a - b)))
  | .mul => some (.int k (k.wrap (a * b)))
  | .and => some (.int k (landK k a b))
  | .or => some (.int k (lorK k a b))
  | .xor => some (.int k (lxorK k a b))
  | .andNot => some (.int k (landnK k a b))
  | .eql => some (.bool (a == b))
  | .neq => some (.bool (a != b))
  | .lss => some (.bool (decide (a < b)))
  | .leq => some (.bool (decide (a ≤ b)))
  | .gtr => some (.bool (decide (a > b)))
  | .geq => some (.bool (decide (a ≥ b)))
  | _ => none
theorem intOp_ok {op : BinOp} {k : IntKind} {a b : Int} {c : CV} (h : intOp op k a b = some c) : ∃ v, RealC g ρ bl c v ∧ ∀ (t : TypeId) w, (binOp op t (.int k a) (.int k b)).run P w = .ok v w := by
  unfold intOp at h
  cases op <;> simp only [Option.some.injEq, reduceCtorEq] at h <;> subst h <;>
    first
      | (refine ⟨_, ⟨rfl, inK_wrap _ _⟩, fun t w => ?_⟩; simp [binOp, Op.intArith, Op.intBits, landK, lorK, lxorK, landnK]; done)
      | (refine ⟨_, rfl, fun t w => ?_⟩; simp [binOp, Op.intCmp]; done)
theorem emod_le_ {a b : Int} (h : 0 ≤ a) (hb : 0 < b) : a % b ≤ a := by
  have h1 := Int.emod_add_mul_ediv a b
  have h2 := Int.mul_nonneg (Int.le_of_lt hb) (Int.ediv_nonneg h (Int.le_of_lt hb))
  omega
theorem inK_tmod {k : IntKind} {a b : Int} (h : inK k a) : inK k (a.tmod b) := by
  obtain ⟨h1, h2⟩ := h
  have e0 : k.min ≤ 0 := (inK_zero k).1
  have e1 : 0 ≤ k.max := (inK_zero k).2
  rcases Int.le_total 0 a with h0 | h0
  · have := Int.tmod_nonneg b h0
    have h3 : a.tmod b ≤ a := by
      rw [Int.tmod_eq_emod_of_nonneg h0]
      rcases Int.lt_trichotomy b 0 with hb | hb | hb
      · have := Int.emod_lt_of_neg a hb
        have h4 : a % b = a % (-b) := (Int.emod_neg a b).symm
        rw [h4]
        exact emod_le_ h0 (by omega)
      · subst hb; simp
      · exact emod_le_ h0 hb
    exact ⟨by omega, by omega⟩
  · have e : a.tmod b = - ((-a).tmod b) := by rw [Int.neg_tmod]; omega
    have h0' : 0 ≤ -a := by omega
    have h4 := Int.tmod_nonneg b h0'
    have h3 : (-a).tmod b ≤ -a := by
      rw [Int.tmod_eq_emod_of_nonneg h0']
      rcases Int.lt_trichotomy b 0 with hb | hb | hb
      · have h4 : (-a) % b = (-a) % (-b) := (Int.emod_neg (-a) b).symm
        rw [h4]
        exact emod_le_ h0' (by omega)
      · subst hb; simp
      · exact emod_le_ h0' hb
    exact ⟨by omega, by omega⟩
theorem inK_shr {k : IntKind} {a : Int} (m : Nat) (h : inK k a) : inK k (a.fdiv (2 ^ m)) := by
  obtain ⟨h1, h2⟩ := h
  have e0 : k.min ≤ 0 := (inK_zero k).1
  have e1 : 0 ≤ k.max := (inK_zero k).2
  have hp : (0 : Int) < 2 ^ m := Int.pow_pos (by decide)
  rw [Int.fdiv_eq_ediv_of_nonneg _ (by omega)]
  have hp1 : (1 : Int) ≤ 2 ^ m := hp
  rcases Int.le_total 0 a with h0 | h0
  · have h3 := Int.ediv_nonneg h0 (by omega : (0 : Int) ≤ 2 ^ m)
    have h4 : a / 2 ^ m ≤ a := Int.ediv_le_self _ h0
    exact ⟨by omega, by omega⟩
  · have h3 : a / 2 ^ m ≤ 0 := by
      have := Int.ediv_le_ediv hp h0
      simpa using this
    have h4 : a ≤ a / 2 ^ m := by
      rw [Int.le_ediv_iff_mul_le hp]
      have : a * 2 ^ m ≤ a * 1 := Int.mul_le_mul_of_nonpos_left h0 hp1
      omega
    exact ⟨by omega, by omega⟩
end
end Go.Proofs.YtpleflcfaecojaaGreat
namespace Go.Proofs.YtpleflcfaecojaaGreat
set_option linter.unusedVariables false
set_option linter.unusedSimpArgs false
open Go.RowKit
def readL (P : Program) (t : TypeId) (l : List CV) (off : Nat) : Option SV := match flatOf P t with
  | true => match l[off]? with | some c => some (vC c) | none => none
  | false => match aggOf P t with
    | some m => cond (Nat.ble (off + m) l.length) (some (.v (.agg ((l.drop off).take m)))) none
    | none => none
def readT (P : Program) (t : TypeId) (l : List CV) (off : Nat) : Tr := match readL P t l off with | some v => retT v | none => .no
def tLoad (P : Program) (sl : List (Nat × SV)) (t : TypeId) (x : Operand) : Tr := match evH sl x with
  | some (.v (.c (.ptr b off))) => .need b fun | .cells _ l => readT P t l off | .lent l => readT P t l off | _ => .no
  | some (.v (.c (.el c x off))) => readT P t (c.cv x) off
  | some (.v (.c (.eo b c i off))) => .need b fun
    | .row c' _ xs => (match c'.same c with | some _ => readT P t (c'.cv (xs.getD i c'.dflt)) off | none => .no)
    | .fz c' xs => (match c'.same c with | some _ => readT P t (c'.cv (xs.getD i c'.dflt)) off | none => .no)
    | _ => .no
  | _ => .no
section
variable {P : Program} {n : Nat} {ty : TypeId} {sl : List (Nat × SV)} {bl bl' : List BV} {v : SV} {f : Nat} {g : Gh} {ρ : Env} {own : Own} {fr : Sl}
theorem readT_told {t : TypeId} {l : List CV} {off : Nat} (h : Told f (readT P t l off) bl bl' v) : bl' = bl ∧ readL P t l off = some v := by
  unfold readT at h
  split at h
  · rename_i u e
    obtain ⟨h1, rfl⟩ := told_ret h
    exact ⟨h1, e⟩
  · exact h.elim
theorem readL_real {t : TypeId} {l : List CV} {off : Nat} {cs : List Value} (h : readL P t l off = some v) (hl : All2 (RealC g ρ bl) l cs) :
    (flatOf P t = true ∧ ∃ u, cs[off]? = some u ∧ RealS g ρ bl v u) ∨ ∃ vs, aggOf P t = some vs.length ∧ (cs.drop off).take vs.length = vs ∧ RealS g ρ bl v (.agg vs.toArray) := by
  unfold readL at h
  split at h
  · rename_i hf
    split at h
    · rename_i c e
      injection h with h; subst h
      obtain ⟨u, h1, h2⟩ := hl.get e
      exact .inl ⟨hf, u, h1, h2⟩
    · cases h
  · split at h
    · rename_i m hm
      cases e : Nat.ble (off + m) l.length with
      | false => rw [e] at h; cases h
      | true =>
        rw [e] at h
        injection h with h; subst h
        have hle := Nat.le_of_ble_eq_true e
        rw [hl.len] at hle
        have hlen : ((cs.drop off).take m).length = m := by rw [List.length_take, List.length_drop]; omega
        exact .inr ⟨(cs.drop off).take m, by rw [hlen]; exact hm, by rw [hlen], _, rfl, (hl.drop off).take m⟩
    · cases h
theorem load_own {t : TypeId} {x : Operand} {i b off : Nat} {k : Bk} {l : List CV} (hx : evS fr x = some (.pointer (some ⟨b, off, none⟩))) (hi : own[i]? = some (some k)) (hg : k.g = b) (h : readL P t l off = some v) (hl : All2 (RealC g ρ bl) l k.cs) :
    ∃ u, RealS g ρ bl v u ∧ Yld P n g.r own fr (.load t x) ty u := by
  rcases readL_real h hl with ⟨hf, u, h1, h2⟩ | ⟨vs, h1, h2, h3⟩
  · exact ⟨u, h2, y_load1 hx hi hg hf h1⟩
  · exact ⟨_, h3, y_loadA hx hi hg h1 h2⟩
theorem load_row {t : TypeId} {x : Operand} {i b o m off : Nat} {k : Bk} {l : List CV} {cs : List Value} (hx : evS fr x = some (.pointer (some ⟨b, o + off, none⟩))) (hi : own[i]? = some (some k)) (hg : k.g = b) (h : readL P t l off = some v) (hc : (k.cs.drop o).take m = cs) (hl : All2 (RealC g ρ bl) l cs) :
    ∃ u, RealS g ρ bl v u ∧ Yld P n g.r own fr (.load t x) ty u := by
  rcases readL_real h hl with ⟨hf, u, h1, h2⟩ | ⟨vs, h1, h2, h3⟩
  · refine ⟨u, h2, y_load1 hx hi hg hf ?_⟩
    rw [← hc] at h1
    exact take_drop_get h1
  · refine ⟨_, h3, y_loadA hx hi hg h1 ?_⟩
    have hle : vs.length ≤ ((cs.drop off).take vs.length).length := by rw [h2]; exact Nat.le_refl _
    subst hc
    have e1 : ((List.take m (List.drop o k.cs)).drop off).take vs.length = (List.drop (o + off) k.cs).take (min vs.length (m - off)) := by
      rw [List.drop_take, List.take_take, List.drop_drop]
    rw [List.length_take, List.length_drop, List.length_take] at hle
    have e2 : min vs.length (m - off) = vs.length := by omega
    rw [e1, e2] at h2
    exact h2
theorem load_cells {t : TypeId} {x : Operand} {a : Addr} {off : Nat} {l : List CV} {cs : List Value} (hx : evS fr x = some (.pointer (some (a.add off)))) (hc : Cells g.r a cs) (h : readL P t l off = some v) (hl : All2 (RealC g ρ bl) l cs) :
    ∃ u, RealS g ρ bl v u ∧ Yld P n g.r own fr (.load t x) ty u := by
  rcases readL_real h hl with ⟨hf, u, h1, h2⟩ | ⟨vs, h1, h2, h3⟩
  · exact ⟨u, h2, y_loadP1 off hx hc hf h1⟩
  · exact ⟨_, h3, y_loadPA off hx hc h1 h2⟩
theorem Rl.own_at {bv : BV} {i : Nat} (h : Rl g ρ ⟨sl, bl⟩ own fr) (hi : bl[i]? = some bv) : ∃ k, own[i]? = some k ∧ BlkR g ρ bl k (ρ i) bv := by
  have hlt : i < own.length := by rw [h.len]; exact (List.getElem?_eq_some_iff.1 hi).1
  exact ⟨own[i], List.getElem?_eq_getElem hlt, h.blk i bv _ hi (List.getElem?_eq_getElem hlt)⟩
theorem tLoad_ok {t : TypeId} {x : Operand} (h : Told f (tLoad P sl t x) bl bl' v) : EffH P n (.load t x) ty sl bl bl' v := by
  unfold tLoad at h
  split at h
  · rename_i b off ex
    obtain ⟨bv, hb, h⟩ := h
    dsimp only at h
    split at h
    · rename_i t0 l
      obtain ⟨rfl, e⟩ := readT_told h
      refine .of_yld fun g ρ own fr hr => ?_
      obtain ⟨w, h1, h2⟩ := evH_real hr ex
      obtain ⟨_, a, ha, rfl⟩ := h2
      obtain ⟨k, hk, b0, cs, rfl, h4, h5⟩ := hr.own_at hb
      rw [ha] at h4; injection h4 with h4; subst h4
      rw [addr_add, Nat.zero_add] at h1
      exact load_own h1 hk rfl e h5
    · rename_i l
      obtain ⟨rfl, e⟩ := readT_told h
      refine .of_yld fun g ρ own fr hr => ?_
      obtain ⟨w, h1, h2⟩ := evH_real hr ex
      obtain ⟨_, a, ha, rfl⟩ := h2
      obtain ⟨k, hk, rfl, a', cs, h4, h5, h6⟩ := hr.own_at hb
      rw [ha] at h4; injection h4 with h4; subst h4
      exact load_cells h1 h5 e h6
    · exact h.elim
  · rename_i c x0 off ex
    obtain ⟨rfl, e⟩ := readT_told h
    refine .of_yld fun g ρ own fr hr => ?_
    obtain ⟨w, h1, a, cs, rfl, h3, h4⟩ := evH_real hr ex
    exact load_cells h1 h3 e (c.cv_real h4)
  · rename_i b c i off ex
    obtain ⟨bv, hb, h⟩ := h
    dsimp only at h
    split at h
    · rename_i c' et xs
      split at h
      · rename_i hs _
        obtain ⟨hs⟩ := hs
        subst hs
        obtain ⟨rfl, e⟩ := readT_told h
        refine .of_yld fun g ρ own fr hr => ?_
        obtain ⟨w, h1, h2⟩ := evH_real hr ex
        obtain ⟨_, a, ha, rfl, hlt⟩ := h2
        have hlt := hlt _ _ hb rfl
        obtain ⟨k, hk, hbuf⟩ := hr.own_at hb
        obtain ⟨kb, cs, h4, rfl, h5, h6⟩ := Buf.open_ hbuf hlt c'.dflt
        rw [ha] at h4; injection h4 with h4; subst h4
        rw [addr_add, Nat.zero_add] at h1
        rw [c'.ty_n] at h6
        exact load_row h1 hk rfl e h6 (c'.cv_real h5)
      · exact h.elim
    · rename_i c' xs
      split at h
      · rename_i hs _
        obtain ⟨hs⟩ := hs
        subst hs
        obtain ⟨rfl, e⟩ := readT_told h
        refine .of_yld fun g ρ own fr hr => ?_
        obtain ⟨w, h1, h2⟩ := evH_real hr ex
        obtain ⟨_, a, ha, rfl, hlt⟩ := h2
        have hlt := hlt _ _ hb rfl
        obtain ⟨k, hk, rfl, harr⟩ := hr.own_at hb
        have hx : xs[i]? = some (xs.getD i c'.dflt) := by rw [List.getD_eq_getElem?_getD, List.getElem?_eq_getElem hlt]; rfl
        obtain ⟨ad, cs, h4, h5, h6⟩ := harr.at_ hx
        rw [ha] at h4; injection h4 with h4; subst h4
        rw [← add_add] at h1
        rw [c'.ty_n] at h6
        exact load_cells h1 (h6.mono g.br) e (c'.cv_real h5)
      · exact h.elim
    · exact h.elim
  · exact h.elim
def fieldOff (P : Program) (t : TypeId) (i : Nat) : Option Nat := match P.underlying t with
  | some (.struct fs) => match fs[i]? with
    | some fd => match cellsOfT P fd.type with | some m => cond (Nat.beq m 0) none (some fd.offset) | none => none
    | none => none
  | _ => none
theorem add_off (a : Addr) (i j : Nat) : (a.add i).add j = a.add (i + j) := add_add a i j
theorem y_fieldA {t : TypeId} {x : Operand} {i o : Nat} {a : Addr} {p : Psi} (hx : evS fr x = some (.pointer (some a))) (h : fieldOff P t i = some o) : Yld P n p own fr (.fieldAddr t x i) ty (.pointer (some (a.add o))) := by
  intro op ac w h1 h2 hf hr
  unfold fieldOff at h
  split at h
  · rename_i fs hu
    split at h
    · rename_i fd hfd
      split at h
      · rename_i m hm
        cases e : Nat.beq m 0 with
        | true => rw [e] at h; cases h
        | false =>
          rw [e] at h
          injection h with h; subst h
          have hm0 : ¬ m = 0 := fun h0 => by subst h0; simp at e
          have : (Instr.fieldAt t (.pointer (some a)) i).run P w = .ok (.pointer (some (a.add fd.offset))) w := by
            simp only [Instr.fieldAt, run_underlying hu, Sem.run_bind, Sem.run_pure, Result.andThen_ok, Instr.sureAddr, hfd, fieldPlace, run_sizeOf_of hm, if_neg hm0]
          simp [execOp, h1, hf.ev hx, this]
      · cases h
    · cases h
  · cases h
def tFieldA (P : Program) (sl : List (Nat × SV)) (t : TypeId) (x : Operand) (i : Nat) : Tr := match fieldOff P t i with
  | some o => (match evH sl x with
    | some (.v (.c (.ptr b off))) => retT (vC (.ptr b (off + o)))
    | some (.v (.c (.el c x off))) => retT (vC (.el c x (off + o)))
    | some (.v (.c (.eo b c i off))) => retT (vC (.eo b c i (off + o)))
    | _ => .no)
  | none => .no
theorem tFieldA_ok {t : TypeId} {x : Operand} {i : Nat} (h : Told f (tFieldA P sl t x i) bl bl' v) : EffH P n (.fieldAddr t x i) ty sl bl bl' v := by
  unfold tFieldA at h
  split at h
  · rename_i o ho
    split at h
    · rename_i b off ex
      obtain ⟨rfl, rfl⟩ := told_ret h
      refine .of_yld fun g ρ own fr hr => ?_
      obtain ⟨w, h1, hk, a, ha, rfl⟩ := evH_real hr ex
      exact ⟨_, ⟨hk, a, ha, by rw [← add_off]⟩, y_fieldA h1 ho⟩
    · rename_i c x0 off ex
      obtain ⟨rfl, rfl⟩ := told_ret h
      refine .of_yld fun g ρ own fr hr => ?_
      obtain ⟨w, h1, a, cs, rfl, h3, h4⟩ := evH_real hr ex
      exact ⟨_, ⟨a, cs, by rw [← add_off], h3, h4⟩, y_fieldA h1 ho⟩
    · rename_i b c j off ex
      obtain ⟨rfl, rfl⟩ := told_ret h
      refine .of_yld fun g ρ own fr hr => ?_
      obtain ⟨w, h1, hk, a, ha, rfl, hl⟩ := evH_real hr ex
      exact ⟨_, ⟨hk, a, ha, by rw [add_off, Nat.add_assoc], hl⟩, y_fieldA h1 ho⟩
    · exact h.elim
  · exact h.elim
end
end Go.Proofs.YtpleflcfaecojaaGreat
namespace Go.Proofs.YtpleflcfaecojaaGreat
set_option linter.unusedVariables false
set_option linter.unusedSimpArgs false
open Go.RowKit
theorem St.fill {w : World} {g : Gh} {own : Own} {k : Bk} (h : St w g (some k :: own)) {i : Nat} (hi : own[i]? = some none) : St w g (own.set i (some k)) := by
  have hp : (own.set i (some k)).Perm (some k :: own.eraseIdx i) := by
    have hlt : i < own.length := (List.getElem?_eq_some_iff.1 hi).1
    have h2 := perm_erase (l := own.set i (some k)) (i := i) (x := some k) (by simp [List.getElem?_set, hlt])
    rwa [List.eraseIdx_set_eq] at h2
  have hp0 : own.Perm (none :: own.eraseIdx i) := perm_erase hi
  have hi0 : (Own.ids own).Perm (Own.ids (own.eraseIdx i)) := by
    have := Own.ids_perm hp0
    rwa [Own.ids_cons] at this
  refine h.fewer ((Own.ids_perm hp).nodup_iff.2 ?_) fun k' hk' => ?_
  · have hn := h.nodup
    rw [Own.ids_cons] at hn ⊢
    exact ((hi0.append_left _).nodup_iff).1 hn
  · rcases List.mem_cons.1 (hp.mem_iff.1 hk') with e | e
    · rw [e]; exact List.mem_cons_self ..
    · exact List.mem_cons_of_mem _ (List.mem_of_mem_eraseIdx e)
def setρ (ρ : Env) (i : Nat) (e : Option Addr × Nat) : Env := fun j => if j = i then e else ρ j
theorem setρ_at (ρ : Env) (i : Nat) (e : Option Addr × Nat) : setρ ρ i e i = e := if_pos rfl
theorem setρ_ne {ρ : Env} {i j : Nat} {e : Option Addr × Nat} (h : j ≠ i) : setρ ρ i e j = ρ j := if_neg h
section
variable {P : Program} {n : Nat} {ty : TypeId} {sl : List (Nat × SV)} {bl bl' : List BV} {v : SV} {f : Nat} {g : Gh} {ρ : Env} {own : Own} {fr : Sl}
theorem get_set {α : Type} {l : List α} {i j : Nat} {x y : α} (h : (l.set i x)[j]? = some y) : (j = i ∧ y = x ∧ i < l.length) ∨ (j ≠ i ∧ l[j]? = some y) := by
  rw [List.getElem?_set] at h
  split at h
  · rename_i e
    subst e
    split at h
    · rename_i hl; injection h with h; exact .inl ⟨rfl, h.symm, hl⟩
    · cases h
  · rename_i e; exact .inr ⟨fun e2 => e e2.symm, h⟩
theorem Ext.set_hole {e : Option Addr × Nat} {bv : BV} (h : bl[f]? = some .hole) : Ext ρ bl (setρ ρ f e) (bl.set f bv) := by
  intro b bv0 h1 h2
  have hne : b ≠ f := fun e => by subst e; rw [h] at h1; injection h1 with h1; subst h1; cases h2
  exact ⟨setρ_ne hne, bv0, by rw [List.getElem?_set, if_neg (Ne.symm hne)]; exact h1, h2, fun m h => h⟩
theorem Ext.set_at {bv bv1 : BV} {b : Nat} (h : bl[b]? = some bv) (hh : bv1.isHole = false) (hm : ∀ m, bv1.len = some m → bv.len = some m) : Ext ρ bl ρ (bl.set b bv1) := by
  intro i bv0 h1 h2
  refine ⟨rfl, ?_⟩
  by_cases e : i = b
  · subst e
    have hlt : i < bl.length := (List.getElem?_eq_some_iff.1 h).1
    refine ⟨bv1, by simp [List.getElem?_set, hlt], hh, fun m hk => ?_⟩
    rw [h] at h1; injection h1 with h1; subst h1
    exact hm m hk
  · exact ⟨bv0, by rw [List.getElem?_set, if_neg (Ne.symm e)]; exact h1, h2, fun m h => h⟩
theorem Rl.lay {g' : Gh} {bv : BV} {k : Option Bk} {e : Option Addr × Nat} (h : Rl g ρ ⟨sl, bl⟩ own fr) (hg : g.le g') (hf : bl[f]? = some .hole) (hb : BlkR g' (setρ ρ f e) (bl.set f bv) k e bv) : Rl g' (setρ ρ f e) ⟨sl, bl.set f bv⟩ (own.set f k) fr := by
  have hx : Ext ρ bl (setρ ρ f e) (bl.set f bv) := Ext.set_hole hf
  refine h.turn hg hx (by rw [List.length_set, List.length_set]; exact h.len) fun i bv1 k1 h1 h2 => ?_
  rcases get_set h1 with ⟨rfl, rfl, _⟩ | ⟨h3, h4⟩
  · rcases get_set h2 with ⟨_, rfl, _⟩ | ⟨h5, _⟩
    · rw [setρ_at]; exact hb
    · exact absurd rfl h5
  · rcases get_set h2 with ⟨h5, _⟩ | ⟨_, h6⟩
    · exact absurd h5 h3
    · rw [setρ_ne h3]; exact (h.blk i bv1 k1 h4 h6).ext hg hx
theorem Rl.setB {g' : Gh} {bv bv1 : BV} {b : Nat} {k : Option Bk} (h : Rl g ρ ⟨sl, bl⟩ own fr) (hg : g.le g') (hb0 : bl[b]? = some bv) (hh : bv1.isHole = false) (hm : ∀ m, bv1.len = some m → bv.len = some m) (hb : BlkR g' ρ (bl.set b bv1) k (ρ b) bv1) : Rl g' ρ ⟨sl, bl.set b bv1⟩ (own.set b k) fr := by
  have hx : Ext ρ bl ρ (bl.set b bv1) := Ext.set_at hb0 hh hm
  refine h.turn hg hx (by rw [List.length_set, List.length_set]; exact h.len) fun i bv2 k1 h1 h2 => ?_
  rcases get_set h1 with ⟨rfl, rfl, _⟩ | ⟨h3, h4⟩
  · rcases get_set h2 with ⟨_, rfl, _⟩ | ⟨h5, _⟩
    · exact hb
    · exact absurd rfl h5
  · rcases get_set h2 with ⟨h5, _⟩ | ⟨_, h6⟩
    · exact absurd h5 h3
    · exact (h.blk i bv2 k1 h4 h6).ext hg hx
theorem Rl.hole_none {i : Nat} (h : Rl g ρ ⟨sl, bl⟩ own fr) (hi : bl[i]? = some .hole) : own[i]? = some none := by
  obtain ⟨k, h1, h2⟩ := h.own_at hi
  have h2 : k = none := h2
  rw [h1, h2]
def cellsS : SV → Option (List CV)
  | .v (.c x) => some [x]
  | .v (.agg l) => some l
  | _ => none
theorem realC_one {x : CV} {v : Value} (h : RealC g ρ bl x v) : one1 v = true ∧ v.cells = #[v] := by
  cases x with
  | int k x => obtain ⟨rfl, _⟩ := h; exact ⟨rfl, rfl⟩
  | bool b => have h : v = _ := h; subst h; exact ⟨rfl, rfl⟩
  | str l => obtain ⟨rfl, _⟩ := h; exact ⟨rfl, rfl⟩
  | k c =>
    obtain ⟨rfl, h⟩ := h
    cases v <;> first | (exact ⟨rfl, rfl⟩) | (cases h; done) | skip
  | ptr b off => obtain ⟨_, a, _, rfl⟩ := h; exact ⟨rfl, rfl⟩
  | own b => obtain ⟨_, m, rfl, _⟩ := h; exact ⟨rfl, rfl⟩
  | ro c xs m => obtain ⟨A, cap, rfl, _⟩ := h; exact ⟨rfl, rfl⟩
  | el c x off => obtain ⟨a, cs, rfl, _⟩ := h; exact ⟨rfl, rfl⟩
  | eo b c i off => obtain ⟨_, a, _, rfl, _⟩ := h; exact ⟨rfl, rfl⟩
  | vw b c l r => obtain ⟨_, rfl, _⟩ := h; exact ⟨rfl, rfl⟩
  | fn f => have h : v = _ := h; subst h; exact ⟨rfl, rfl⟩
  | nb e neg => obtain ⟨b, rfl, _⟩ := h; exact ⟨rfl, rfl⟩
  | cap f c => obtain ⟨fn, caps, vc, _, _, rfl⟩ := h; exact ⟨rfl, rfl⟩
  | ifc t c => obtain ⟨u, _, rfl⟩ := h; exact ⟨rfl, rfl⟩
theorem all2_one : ∀ {l : List CV} {cs : List Value}, All2 (RealC g ρ bl) l cs → cs.all one1 = true
  | [], [], _ => rfl
  | x :: l, c :: cs, h => by rw [List.all_cons, (realC_one h.1).1, all2_one h.2]; rfl
  | [], _ :: _, h => h.elim
  | _ :: _, [], h => h.elim
theorem cellsS_real {s : SV} {l : List CV} {v : Value} (h : cellsS s = some l) (hr : RealS g ρ bl s v) : ∃ cs, v.cells = cs.toArray ∧ All2 (RealC g ρ bl) l cs := by
  unfold cellsS at h
  split at h
  · injection h with h; subst h
    have hr : RealC g ρ bl _ v := hr
    exact ⟨[v], (realC_one hr).2, hr, trivial⟩
  · injection h with h; subst h
    obtain ⟨cs, rfl, h2⟩ := hr
    exact ⟨cs, rfl, h2⟩
  · cases h
def tAlloc (P : Program) (f : Nat) (t : TypeId) : Tr := match zeroOf P t with
  | some z => (match constL z.toList with | some l => .done ⟨vC (.ptr f 0), [], [.cells t l]⟩ | none => .no)
  | none => .no
def tBox (sl : List (Nat × SV)) (f : Nat) (t : TypeId) (x : Operand) : Tr := match evH sl x with
  | some s => (match cellsS s with | some l => .done ⟨vC (.ptr f 0), [], [.cells t l]⟩ | none => .no)
  | none => .no
theorem known_set {bv : BV} {b : Nat} (h : b < bl.length) (hh : bv.isHole = false) : Known (bl.set b bv) b := ⟨bv, by simp [List.getElem?_set, h], hh⟩
theorem get_lt {α : Type} {l : List α} {i : Nat} {x : α} (h : l[i]? = some x) : i < l.length := (List.getElem?_eq_some_iff.1 h).1
theorem effH_new {op : Op} {t : TypeId} {l : List CV} (hf : bl[f]? = some .hole)
    (h : ∀ g ρ own fr, Rl g ρ ⟨sl, bl⟩ own fr → ∃ cs, All2 (RealC g ρ bl) l cs ∧ Eff P n g own fr op ty (fun v' g' own' => ∃ b, v' = .pointer (some ⟨b, 0, none⟩) ∧ g = g' ∧ own' = some ⟨b, t, cs⟩ :: own)) :
    EffH P n op ty sl bl (bl.set f (.cells t l)) (vC (.ptr f 0)) := by
  intro o a w Q K g ρ own fr h1 h2 hr hfr hs hk
  obtain ⟨cs, hcs, he⟩ := h g ρ own fr hr
  refine he o a w Q K h1 h2 hfr hs fun v g' own' w' hg hs' ⟨b, e1, e2, e3⟩ => ?_
  subst e1; subst e2; subst e3
  have hx : Ext ρ bl (setρ ρ f (some ⟨b, 0, none⟩, 0)) (bl.set f (.cells t l)) := Ext.set_hole hf
  refine hk _ g (setρ ρ f (some ⟨b, 0, none⟩, 0)) _ w' (.refl g) hx (hs'.fill (hr.hole_none hf)) (hr.lay (.refl g) hf ⟨b, cs, rfl, rfl, hcs.mono fun _ _ => RealC.ext (.refl g) hx⟩) ⟨known_set (get_lt hf) rfl, ⟨b, 0, none⟩, by rw [setρ_at], rfl⟩
theorem tAlloc_ok {t : TypeId} (hf : bl[f]? = some .hole) (h : Told f (tAlloc P f t) bl bl' v) : EffH P n (.alloc t) ty sl bl bl' v := by
  unfold tAlloc at h
  split at h
  · rename_i z hz
    split at h
    · rename_i l hl
      obtain ⟨rfl, rfl⟩ := h
      exact effH_new hf fun g ρ own fr hr => ⟨z.toList, constL_real hl, e_alloc (by rw [hz])⟩
    · exact h.elim
  · exact h.elim
theorem tBox_ok {t : TypeId} {x : Operand} (hf : bl[f]? = some .hole) (h : Told f (tBox sl f t x) bl bl' v) : EffH P n (.box t x) ty sl bl bl' v := by
  unfold tBox at h
  split at h
  · rename_i s hs
    split at h
    · rename_i l hl
      obtain ⟨rfl, rfl⟩ := h
      refine effH_new hf fun g ρ own fr hr => ?_
      obtain ⟨u, h1, h2⟩ := evH_real hr hs
      obtain ⟨cs, h3, h4⟩ := cellsS_real hl h2
      exact ⟨cs, h4, e_box h1 h3⟩
    · exact h.elim
  · exact h.elim
def setRowC (cs : List CV) (off : Nat) : List CV → List CV
  | [] => cs
  | v :: vs => setRowC (cs.set off v) (off + 1) vs
theorem setRowC_real : ∀ {vs : List CV} {us : List Value} {l : List CV} {cs : List Value} (off : Nat), All2 (RealC g ρ bl) vs us → All2 (RealC g ρ bl) l cs → All2 (RealC g ρ bl) (setRowC l off vs) (setRow cs off us)
  | [], [], l, cs, off, _, h => h
  | v :: vs, u :: us, l, cs, off, h1, h => setRowC_real (off + 1) h1.2 (h.set h1.1 off)
  | [], _ :: _, _, _, _, h, _ => h.elim
  | _ :: _, [], _, _, _, h, _ => h.elim
def fitsT (P : Program) (t : TypeId) (m off l : Nat) : Bool := match cellsOfT P t with
  | some z => Nat.beq z m && Nat.ble (off + m) l
  | none => false
theorem fitsT_ok {t : TypeId} {m off l : Nat} (h : fitsT P t m off l = true) : cellsOfT P t = some m ∧ off + m ≤ l := by
  unfold fitsT at h
  split at h
  · rename_i z hz
    simp only [Bool.and_eq_true] at h
    have := Nat.eq_of_beq_eq_true h.1
    subst this
    exact ⟨hz, Nat.le_of_ble_eq_true h.2⟩
  · cases h
def headC (l : List CV) (K : CV → List CV → Tr) : Tr := match l with | x :: r => K x r | [] => .no
def encA (c : Cd) (x : CV) (K : List c.den → Tr) : Tr := match x with
  | .ro d xs true => (match d.same c with | some h => K (h.down ▸ xs) | none => .no)
  | .k (.slice none 0 0) => K ([] : List c.den)
  | .own b => .need b fun
    | .row d _ xs => (match d.same c with | some h => .frz b (K (h.down ▸ xs)) | none => .no)
    | .fz d xs => (match d.same c with | some h => K (h.down ▸ xs) | none => .no)
    | _ => .no
  | _ => .no
def encC : (c : Cd) → List CV → (c.den → List CV → Tr) → Tr
  | .i k, l, K => headC l fun x r => match x with | .int j x => (match sameK j k with | some _ => K x r | none => .no) | _ => .no
  | .y, l, K => headC l fun x r => match x with | .int j x => (match sameK j .u8 with | some _ => K (u8 x) r | none => .no) | _ => .no
  | .b, l, K => headC l fun x r => match x with | .bool x => K x r | _ => .no
  | .s, l, K => headC l fun x r => match x with | .str x => K x r | _ => .no
  | .a c, l, K => headC l fun x r => encA c x fun xs => K xs r
  | .p c d, l, K => encC c l fun x r => encC d r fun y r => K (x, y) r
def EncD (bl : List BV) : (c : Cd) → List CV → c.den → List CV → Prop
  | .i k, l, x, r => l = .int k x :: r
  | .y, l, x, r => ∃ z, l = .int .u8 z :: r ∧ x = u8 z
  | .b, l, x, r => l = .bool x :: r
  | .s, l, x, r => l = .str x :: r
  | .a c, l, x, r => l = .ro c x true :: r ∨ (l = .k (.slice none 0 0) :: r ∧ x = ([] : List c.den)) ∨ ∃ b, l = .own b :: r ∧ bl[b]? = some (.fz c x)
  | .p c d, l, x, r => ∃ m, EncD bl c l x.1 m ∧ EncD bl d m x.2 r
inductive FrzTo : List BV → List BV → Prop where
  | refl {l : List BV} : FrzTo l l
  | step {l l2 : List BV} {b : Nat} {c : Cd} {et : TypeId} {xs : List c.den} (h : l[b]? = some (.row c et xs)) (k : FrzTo (l.set b (.fz c xs)) l2) : FrzTo l l2
theorem FrzTo.trans {a b c : List BV} (h : FrzTo a b) (k : FrzTo b c) : FrzTo a c := by
  induction h with
  | refl => exact k
  | step h _ ih => exact .step h (ih k)
theorem FrzTo.fz {a b : List BV} (h : FrzTo a b) {i : Nat} {c : Cd} {xs : List c.den} (e : a[i]? = some (.fz c xs)) : b[i]? = some (.fz c xs) := by
  induction h with
  | refl => exact e
  | step h _ ih =>
    refine ih ?_
    rw [List.getElem?_set]
    split
    · rename_i e2; subst e2; rw [e] at h; injection h with h; cases h
    · exact e
theorem FrzTo.hole {a b : List BV} (h : FrzTo a b) {i : Nat} (e : a[i]? = some .hole) : b[i]? = some .hole := by
  induction h with
  | refl => exact e
  | step h _ ih =>
    refine ih ?_
    rw [List.getElem?_set]
    split
    · rename_i e2; subst e2; rw [e] at h; injection h with h; cases h
    · exact e
theorem EncD.frz {a b : List BV} (h : FrzTo a b) : ∀ (c : Cd) {l r : List CV} {x : c.den}, EncD a c l x r → EncD b c l x r
  | .i _, _, _, _, e => e
  | .y, _, _, _, e => e
  | .b, _, _, _, e => e
  | .s, _, _, _, e => e
  | .a c, _, _, _, .inl e => .inl e
  | .a c, _, _, _, .inr (.inl e) => .inr (.inl e)
  | .a c, _, _, _, .inr (.inr ⟨i, e1, e2⟩) => .inr (.inr ⟨i, e1, h.fz e2⟩)
  | .p c d, _, _, _, ⟨m, h1, h2⟩ => ⟨m, EncD.frz h c h1, EncD.frz h d h2⟩
theorem headC_told {l : List CV} {K : CV → List CV → Tr} (h : Told f (headC l K) bl bl' v) : ∃ x r, l = x :: r ∧ Told f (K x r) bl bl' v := by
  cases l with
  | nil => exact h.elim
  | cons x r => exact ⟨x, r, rfl, h⟩
theorem encA_told {c : Cd} {x : CV} {K : List c.den → Tr} (h : Told f (encA c x K) bl bl' v) : ∃ xs bl1, Told f (K xs) bl1 bl' v ∧ FrzTo bl bl1 ∧ (x = .ro c xs true ∨ (x = .k (.slice none 0 0) ∧ xs = []) ∨ ∃ b, x = .own b ∧ bl1[b]? = some (.fz c xs)) := by
  unfold encA at h
  split at h
  · split at h
    · rename_i hk _; obtain ⟨hk⟩ := hk; subst hk; exact ⟨_, bl, h, .refl, .inl rfl⟩
    · exact h.elim
  · exact ⟨_, bl, h, .refl, .inr (.inl ⟨rfl, rfl⟩)⟩
  · rename_i b
    obtain ⟨bv, e, h⟩ := h
    dsimp only at h
    split at h
    · split at h
      · rename_i hk _; obtain ⟨hk⟩ := hk; subst hk
        obtain ⟨bv, fv, e1, e2, h⟩ := h
        rw [e] at e1; injection e1 with e1; subst e1
        injection e2 with e2; subst e2
        refine ⟨_, _, h, .step e .refl, .inr (.inr ⟨b, rfl, ?_⟩)⟩
        simp [List.getElem?_set, (List.getElem?_eq_some_iff.1 e).1]
      · exact h.elim
    · split at h
      · rename_i hk _; obtain ⟨hk⟩ := hk; subst hk
        exact ⟨_, bl, h, .refl, .inr (.inr ⟨b, rfl, e⟩)⟩
      · exact h.elim
    · exact h.elim
  · exact h.elim
theorem encC_told : ∀ (c : Cd) {l : List CV} {K : c.den → List CV → Tr} {bl : List BV}, Told f (encC c l K) bl bl' v → ∃ x r bl1, Told f (K x r) bl1 bl' v ∧ FrzTo bl bl1 ∧ EncD bl1 c l x r
  | .i k, l, K, bl, h => by
    obtain ⟨x, r, rfl, h2⟩ := headC_told h
    clear h
    split at h2
    · split at h2
      · rename_i hk _; obtain ⟨hk⟩ := hk; subst hk; exact ⟨_, _, bl, h2, .refl, rfl⟩
      · exact h2.elim
    · exact h2.elim
  | .y, l, K, bl, h => by
    obtain ⟨x, r, rfl, h2⟩ := headC_told h
    clear h
    split at h2
    · split at h2
      · rename_i hk _; obtain ⟨hk⟩ := hk; subst hk; exact ⟨_, _, bl, h2, .refl, _, rfl, rfl⟩
      · exact h2.elim
    · exact h2.elim
  | .b, l, K, bl, h => by
    obtain ⟨x, r, rfl, h2⟩ := headC_told h
    clear h
    split at h2
    · exact ⟨_, _, bl, h2, .refl, rfl⟩
    · exact h2.elim
  | .s, l, K, bl, h => by
    obtain ⟨x, r, rfl, h2⟩ := headC_told h
    clear h
    split at h2
    · exact ⟨_, _, bl, h2, .refl, rfl⟩
    · exact h2.elim
  | .a c, l, K, bl, h => by
    obtain ⟨x, r, rfl, h2⟩ := headC_told h
    clear h
    obtain ⟨xs, bl1, h3, h1, h4⟩ := encA_told h2
    clear h2
    refine ⟨xs, r, bl1, h3, h1, ?_⟩
    rcases h4 with rfl | ⟨rfl, rfl⟩ | ⟨b, rfl, h2⟩
    · exact .inl rfl
    · exact .inr (.inl ⟨rfl, rfl⟩)
    · exact .inr (.inr ⟨b, rfl, h2⟩)
  | .p c d, l, K, bl, h => by
    unfold encC at h
    obtain ⟨x, m, bl1, h, h1, h2⟩ := encC_told c h
    obtain ⟨y, r, bl2, h, h3, h4⟩ := encC_told d h
    exact ⟨_, _, bl2, h, h1.trans h3, m, h2.frz h3, h4⟩
theorem EncD.real (hr : Rl g ρ ⟨sl, bl⟩ own fr) : ∀ (c : Cd) {l r : List CV} {x : c.den} {cs : List Value}, EncD bl c l x r → All2 (RealC g ρ bl) l cs → ∃ c1 c2, cs = c1 ++ c2 ∧ c.ty.rep g.b c1 x ∧ All2 (RealC g ρ bl) r c2
  | .i k, l, r, x, u :: cs, e, h => by
    have e : l = _ := e
    subst e
    exact ⟨[u], cs, rfl, ⟨by rw [h.1.1], h.1.2⟩, h.2⟩
  | .y, l, r, x, u :: cs, e, h => by
    obtain ⟨z, e, rfl⟩ := e
    subst e
    obtain ⟨⟨rfl, h1⟩, h2⟩ := h
    exact ⟨[_], cs, rfl, u8_rep (by simpa [inK, IntKind.min, IntKind.max, IntKind.signed, IntKind.bits] using h1), h2⟩
  | .b, l, r, x, u :: cs, e, h => by
    have e : l = _ := e
    subst e
    have h1 : u = _ := h.1
    exact ⟨[u], cs, rfl, by rw [h1]; rfl, h.2⟩
  | .s, l, r, x, u :: cs, e, h => by
    have e : l = _ := e
    subst e
    exact ⟨[u], cs, rfl, ⟨by rw [h.1.1], h.1.2⟩, h.2⟩
  | .a c, l, r, x, u :: cs, e, h => by
    rcases e with e | ⟨e, e2⟩ | ⟨b, e, e2⟩
    · subst e
      obtain ⟨⟨A, cap, hv, ha⟩, h2⟩ := h
      exact ⟨[u], cs, rfl, ⟨A, cap, by rw [hv], ha⟩, h2⟩
    · subst e; subst e2
      obtain ⟨⟨hv, _⟩, h2⟩ := h
      exact ⟨[u], cs, rfl, ⟨none, 0, by rw [hv]; rfl, Arr.nil⟩, h2⟩
    · subst e
      obtain ⟨⟨_, m, hv, hl⟩, h2⟩ := h
      obtain ⟨k, hk, _, ha⟩ := hr.own_at e2
      have := hl _ _ e2 rfl
      subst this
      exact ⟨[u], cs, rfl, ⟨_, _, by rw [hv], ha⟩, h2⟩
  | .p c d, l, r, x, cs, e, h => by
    obtain ⟨m, h1, h2⟩ := e
    obtain ⟨c1, c2, rfl, h3, h4⟩ := EncD.real hr c h1 h
    obtain ⟨c3, c4, rfl, h5, h6⟩ := EncD.real hr d h2 h4
    exact ⟨c1 ++ c3, c4, by rw [List.append_assoc], ⟨c1, c3, rfl, h3, h5⟩, h6⟩
  | .i _, _, _, _, [], e, h => by have e : _ = _ := e; subst e; exact h.elim
  | .y, _, _, _, [], e, h => by obtain ⟨z, e, _⟩ := e; subst e; exact h.elim
  | .b, _, _, _, [], e, h => by have e : _ = _ := e; subst e; exact h.elim
  | .s, _, _, _, [], e, h => by have e : _ = _ := e; subst e; exact h.elim
  | .a _, _, _, _, [], e, h => by rcases e with e | ⟨e, _⟩ | ⟨b, e, _⟩ <;> subst e <;> exact h.elim
theorem FrzTo.do_ {w : World} {bl2 : List BV} (h : FrzTo bl bl2) : ∀ {g : Gh} {own : Own}, Rl g ρ ⟨sl, bl⟩ own fr → St w g own → ∃ g' own', g.le g' ∧ St w g' own' ∧ Ext ρ bl ρ bl2 ∧ Rl g' ρ ⟨sl, bl2⟩ own' fr := by
  induction h with
  | refl => exact fun hr hs => ⟨_, _, .refl _, hs, .refl, hr⟩
  | @step bl bl2 b c et xs hb _ ih =>
    intro g own hr hs
    obtain ⟨k, hk, hbuf⟩ := hr.own_at hb
    have hbuf : Buf g.b c.ty et (.slice (ρ b).1 xs.length (ρ b).2) k xs := hbuf
    have key : ∃ g' , g.le g' ∧ St w g' (own.set b none) ∧ Arr g'.b c.ty (ρ b).1 (ρ b).2 xs :=
      wpq_freeze (K := fun _ w' => ∃ g' , g.le g' ∧ St w' g' (own.set b none) ∧ Arr g'.b c.ty (ρ b).1 (ρ b).2 xs) (n := 0) (sl := []) b hk hbuf (fun g' h1 h2 a w' _ h3 => ⟨g', h1, h3, h2⟩) ⟨#[], []⟩ w ⟨rfl, rfl, fun _ _ h => by cases h⟩ hs
    obtain ⟨g', hg, hs', ha⟩ := key
    have hx : Ext ρ bl ρ (bl.set b (.fz c xs)) := Ext.set_at hb rfl fun m hm => hm
    obtain ⟨g2, own2, h1, h2, h3, h4⟩ := ih (hr.setB hg hb rfl (fun m hm => hm) ⟨rfl, ha⟩) hs'
    exact ⟨g2, own2, hg.trans h1, h2, hx.trans h3, h4⟩
theorem EffH.frz {op : Op} {bl1 : List BV} (h : FrzTo bl bl1) (k : EffH P n op ty sl bl1 bl' v) : EffH P n op ty sl bl bl' v := by
  intro o a w Q K g ρ own fr h1 h2 hr hf hs hk
  obtain ⟨g1, own1, hg, hs1, hx, hr1⟩ := h.do_ hr hs
  exact k o a w Q K g1 ρ own1 fr h1 h2 hr1 hf hs1 fun v g' ρ' own' w' e1 e2 e3 e4 e5 => hk v g' ρ' own' w' (hg.trans e1) (hx.trans e2) e3 e4 e5
end
end Go.Proofs.YtpleflcfaecojaaGreat
namespace Go.Proofs.YtpleflcfaecojaaGreat
set_option linter.unusedVariables false
set_option linter.unusedSimpArgs false
open Go.RowKit
theorem ids_at {l : Own} {i : Nat} {x : Option Bk} (h : l[i]? = some x) : (Own.ids l).Perm (Own.ids [x] ++ Own.ids (l.eraseIdx i)) := by
  have := Own.ids_perm (perm_erase h)
  rw [Own.ids_cons] at this
  cases x <;> simpa [Own.ids] using this
theorem ids_set {l : Own} {i : Nat} (y : Option Bk) (h : i < l.length) : (Own.ids (l.set i y)).Perm (Own.ids [y] ++ Own.ids (l.eraseIdx i)) := by
  have := ids_at (l := l.set i y) (i := i) (x := y) (by simp [List.getElem?_set, h])
  rwa [List.eraseIdx_set_eq] at this
theorem St.move {w : World} {g : Gh} {own : Own} {k : Option Bk} {b f : Nat} (h : St w g own) (hb : own[b]? = some k) (hf : own[f]? = some none) (hne : b ≠ f) : St w g ((own.set b none).set f k) := by
  have hlb := get_lt hb
  have hlf := get_lt hf
  have h1 : (own.set b none)[f]? = some none := by rw [List.getElem?_set, if_neg hne]; exact hf
  have p1 := ids_at hb
  have p2 := ids_set (l := own) none hlb
  have p3 := ids_at h1
  have p4 := ids_set (l := own.set b none) k (by rw [List.length_set]; exact hlf)
  simp only [show Own.ids [none] = [] from rfl, List.nil_append] at p2 p3
  refine h.fewer ?_ fun k' hk' => ?_
  · exact (p4.trans ((p3.symm.trans p2).append_left _) |>.trans p1.symm).nodup_iff.2 h.nodup
  · have hp : ((own.set b none).set f k).Perm (k :: (own.set b none).eraseIdx f) := by
      have := perm_erase (l := (own.set b none).set f k) (i := f) (x := k) (by simp [List.getElem?_set, hlf])
      rwa [List.eraseIdx_set_eq] at this
    rcases List.mem_cons.1 (hp.mem_iff.1 hk') with e | e
    · rw [e]; exact List.mem_of_getElem? hb
    · rcases List.mem_or_eq_of_mem_set (List.mem_of_mem_eraseIdx e) with e | e
      · exact e
      · cases e
section
variable {P : Program} {n : Nat} {ty : TypeId} {sl : List (Nat × SV)} {bl bl' : List BV} {v : SV} {f : Nat} {g : Gh} {ρ : Env} {own : Own} {fr : Sl}
def tStore (P : Program) (sl : List (Nat × SV)) (t : TypeId) (x y : Operand) : Tr := match evH sl x, evH sl y with
  | some (.v (.c (.ptr b off))), some s => (match cellsS s with
    | some vs => .need b fun
      | .cells t0 l => (match fitsT P t vs.length off l.length with | true => .done ⟨.any, [(b, .cells t0 (setRowC l off vs))], []⟩ | false => .no)
      | _ => .no
    | none => .no)
  | some (.v (.c (.eo b c i off))), some s => (match cellsS s with
    | some vs => .need b fun
      | .row d _ xs => (match fitsT P t vs.length off d.n with
        | true => encC d (setRowC (d.cv (xs.getD i d.dflt)) off vs) fun u _ => .need b fun
          | .row d2 et ys => (match d2.same c, d.same d2 with | some _, some h => .done ⟨.any, [(b, .row d2 et (ys.set i (h.down ▸ u)))], []⟩ | _, _ => .no)
          | _ => .no
        | false => .no)
      | _ => .no
    | none => .no)
  | _, _ => .no
theorem setB_ok {bv : BV} {b : Nat} (hb : bl[b]? = some bv) {g' : Gh} {bv1 : BV} {k : Option Bk} (h : Rl g ρ ⟨sl, bl⟩ own fr) (hg : g.le g') (hh : bv1.isHole = false) (hm : ∀ m, bv1.len = some m → bv.len = some m) (hk : BlkR g' ρ (bl.set b bv1) k (ρ b) bv1) :
    Ext ρ bl ρ (bl.set b bv1) ∧ Rl g' ρ ⟨sl, bl.set b bv1⟩ (own.set b k) fr := ⟨Ext.set_at hb hh hm, h.setB hg hb hh hm hk⟩
theorem tStore_ok {t : TypeId} {x y : Operand} (h : Told f (tStore P sl t x y) bl bl' v) : EffH P n (.store t x y) ty sl bl bl' v := by
  unfold tStore at h
  split at h
  · rename_i b off s ex ey
    split at h
    · rename_i vs hvs
      obtain ⟨bv, hb, h⟩ := h
      dsimp only at h
      split at h
      · rename_i t0 l
        split at h
        · rename_i hfit
          obtain ⟨rfl, rfl⟩ := h
          obtain ⟨hz, hle⟩ := fitsT_ok hfit
          intro o a w Q K g ρ own fr h1 h2 hr hf hs hk
          obtain ⟨vx, hx1, hx2⟩ := evH_real hr ex
          obtain ⟨vy, hy1, hy2⟩ := evH_real hr ey
          obtain ⟨us, hc1, hc2⟩ := cellsS_real hvs hy2
          obtain ⟨_, ad, ha, rfl⟩ := hx2
          obtain ⟨k, hko, b0, cs, rfl, h4, h5⟩ := hr.own_at hb
          rw [ha] at h4; injection h4 with h4; subst h4
          rw [addr_add, Nat.zero_add] at hx1
          refine e_store (P := P) hx1 hy1 hko rfl hc1 (by rw [← hc2.len]; exact hz) (all2_one hc2) (by rw [← hc2.len]; exact Nat.ble_eq_true_of_le (by rw [← h5.len]; exact hle)) rfl o a w Q K h1 h2 hf hs fun v g' own' w' hg hs' ⟨e1, e2⟩ => ?_
          subst e1; subst e2
          have hx : Ext ρ bl ρ (bl.set b (.cells t0 (setRowC l off vs))) := Ext.set_at hb rfl fun m hm => by cases hm
          have hrl := hr.setB (g' := g) (bv1 := .cells t0 (setRowC l off vs)) (k := some ⟨b0, t0, setRow cs off us⟩) (.refl g) hb rfl (fun m hm => by cases hm) ⟨b0, _, rfl, ha, (setRowC_real off hc2 h5).mono fun _ _ => RealC.ext (.refl g) hx⟩
          exact hk v g ρ _ w' (.refl g) hx hs' hrl trivial
        · exact h.elim
      · exact h.elim
    · exact h.elim
  · rename_i b c i off s ex ey
    split at h
    · rename_i vs hvs
      obtain ⟨bv, hb, h⟩ := h
      dsimp only at h
      split at h
      · rename_i d et xs
        split at h
        · rename_i hfit
          obtain ⟨hz, hle⟩ := fitsT_ok hfit
          obtain ⟨u, r, bl1, hh, hfz, henc⟩ := encC_told d h
          clear h
          obtain ⟨bv, hb1, h⟩ := hh
          dsimp only at h
          split at h
          · rename_i d2 et2 ys
            split at h
            · rename_i h1 h2 _ _
              obtain ⟨h1⟩ := h1
              obtain ⟨h2⟩ := h2
              subst h1; subst h2
              obtain ⟨rfl, rfl⟩ := h
              refine EffH.frz hfz ?_
              have hb1 : bl1[b]? = some (.row d et2 ys) := hb1
              have hsame : BV.row d et xs = BV.row d et2 ys := by
                have : ∀ {a b : List BV}, FrzTo a b → ∀ {i : Nat} {c1 c2 : Cd} {e1 e2 : TypeId} {x1 : List c1.den} {x2 : List c2.den}, a[i]? = some (.row c1 e1 x1) → b[i]? = some (.row c2 e2 x2) → BV.row c1 e1 x1 = BV.row c2 e2 x2 := by
                  intro a b hab
                  induction hab with
                  | refl => intro i c1 c2 e1 e2 x1 x2 h1 h2; rw [h1] at h2; injection h2
                  | @step l l2 b c et xs h0 hk ih =>
                    intro i c1 c2 e1 e2 x1 x2 h1 h2
                    by_cases e : b = i
                    · subst e
                      have := hk.fz (i := b) (c := c) (xs := xs) (by simp [List.getElem?_set, get_lt h0])
                      rw [this] at h2; injection h2 with h2; cases h2
                    · exact ih (by rw [List.getElem?_set, if_neg e]; exact h1) h2
                exact this hfz hb hb1
              injection hsame with _ e2 e3
              subst e2; subst e3
              intro o a w Q K g ρ own fr h1 h2 hr hf hs hk
              obtain ⟨vx, hx1, hx2⟩ := evH_real hr ex
              obtain ⟨vy, hy1, hy2⟩ := evH_real hr ey
              obtain ⟨us, hc1, hc2⟩ := cellsS_real hvs hy2
              obtain ⟨_, ad, ha, rfl, hlt⟩ := hx2
              have hlt := hlt _ _ hb1 rfl
              obtain ⟨k, hko, hbuf⟩ := hr.own_at hb1
              have hbuf : Buf g.b d.ty et (.slice (ρ b).1 xs.length (ρ b).2) k xs := hbuf
              obtain ⟨kb, cs, h4, rfl, h5, h6⟩ := Buf.open_ hbuf hlt d.dflt
              rw [ha] at h4; injection h4 with h4; subst h4
              rw [addr_add, Nat.zero_add] at hx1
              have hall := setRowC_real off hc2 (d.cv_real h5 (ρ := ρ) (bl := bl1))
              obtain ⟨c1, c2, e1, e2, e3⟩ := henc.real hr d hall
              have hl1 : (setRow cs off us).length = d.n := by rw [setRow_length, d.ty.len h5, d.ty_n]
              have hl2 : c1.length = d.n := by rw [d.ty.len e2, d.ty_n]
              have hc20 : c2 = [] := by
                have : (setRow cs off us).length = c1.length + c2.length := by rw [e1, List.length_append]
                exact List.eq_nil_of_length_eq_zero (by omega)
              rw [hc20, List.append_nil] at e1
              rw [d.ty_n] at h6
              refine e_storeB (P := P) (T := d.ty) i d.n off b vy us xs u hx1 hy1 hko hc1 (by rw [← hc2.len]; exact hz) (all2_one hc2) hbuf (d.ty_n).symm h6 (by rw [e1]; exact e2) (by rw [← hc2.len, d.ty_n]; exact Nat.ble_eq_true_of_le hle) hlt o a w Q K h1 h2 hf hs fun v g' own' w' hg hs' ⟨k', e1, e2, e3⟩ => ?_
              subst e1; subst e2
              obtain ⟨hx, hrl⟩ := setB_ok (bv1 := .row d et (xs.set i u)) (k := k') hb1 hr (.refl g) rfl (fun m hm => by have : (xs.set i u).length = m := Option.some.inj hm; rw [List.length_set] at this; exact congrArg some this) (by show Buf g.b d.ty et (.slice (ρ b).1 (xs.set i u).length (ρ b).2) k' (xs.set i u); rw [List.length_set]; exact e3)
              exact hk v g ρ _ w' (.refl g) hx hs' hrl trivial
            · exact h.elim
          · exact h.elim
        · exact h.elim
      · exact h.elim
    · exact h.elim
  · exact h.elim
end
end Go.Proofs.YtpleflcfaecojaaGreat
