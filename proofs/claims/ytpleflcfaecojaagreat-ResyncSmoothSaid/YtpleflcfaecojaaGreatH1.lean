/-
The third engine, part 1: kinds of data, symbolic values and blocks, what they stand for. Conditions: each lemma's own.
-/
import Derived.Test.YtpleflcfaecojaaGreatHG
namespace Go.Proofs.YtpleflcfaecojaaGreat
set_option linter.unusedVariables false
set_option linter.unusedSimpArgs false
open Go.RowKit
inductive Cd where
  | i (k : IntKind)
  | y
  | b
  | s
  | a (c : Cd)
  | p (c d : Cd)
def Cd.den : Cd → Type
  | .i _ => Int
  | .y => UInt8
  | .b => Bool
  | .s => List UInt8
  | .a c => List c.den
  | .p c d => c.den × d.den
def Cd.n : Cd → Nat
  | .p c d => c.n + d.n
  | _ => 1
def Cd.dflt : (c : Cd) → c.den
  | .i _ => (0 : Int)
  | .y => (0 : UInt8)
  | .b => false
  | .s => ([] : List UInt8)
  | .a c => ([] : List c.den)
  | .p c d => (c.dflt, d.dflt)
def sameK : (j k : IntKind) → Option (PLift (j = k))
  | .i8, .i8 => some ⟨rfl⟩ | .i16, .i16 => some ⟨rfl⟩ | .i32, .i32 => some ⟨rfl⟩ | .i64, .i64 => some ⟨rfl⟩
  | .u8, .u8 => some ⟨rfl⟩ | .u16, .u16 => some ⟨rfl⟩ | .u32, .u32 => some ⟨rfl⟩ | .u64, .u64 => some ⟨rfl⟩
  | _, _ => none
def Cd.same : (c d : Cd) → Option (PLift (c = d))
  | .i j, .i k => match sameK j k with | some ⟨h⟩ => some ⟨by rw [h]⟩ | none => none
  | .y, .y => some ⟨rfl⟩
  | .b, .b => some ⟨rfl⟩
  | .s, .s => some ⟨rfl⟩
  | .a c, .a d => match c.same d with | some ⟨h⟩ => some ⟨by rw [h]⟩ | none => none
  | .p c d, .p e f => match c.same e, d.same f with | some ⟨h⟩, some ⟨k⟩ => some ⟨by rw [h, k]⟩ | _, _ => none
  | _, _ => none
theorem inK_zero (k : IntKind) : inK k 0 := by cases k <;> simp [inK, IntKind.min, IntKind.max, IntKind.signed, IntKind.bits]
theorem inK_wrap (k : IntKind) (x : Int) : inK k (k.wrap x) := by
  have h : k.wrap x = k.wrap x := rfl
  cases k <;> simp [inK, IntKind.min, IntKind.max, IntKind.signed, IntKind.bits, IntKind.wrap] <;> omega
def tyIR (k : IntKind) : Ty Int := ⟨1, by decide, fun _ cs x => cs = [.int k x] ∧ inK k x, fun h => by rw [h.1]; rfl, fun h => by rw [h.1]; rfl, fun _ h => h⟩
def tySR : Ty (List UInt8) := ⟨1, by decide, fun _ cs x => cs = [.string (mkS x)] ∧ x.length ≤ 140737488355328, fun h => by rw [h.1]; rfl, fun h => by rw [h.1]; rfl, fun _ h => h⟩
def tyPr {α β : Type} (T : Ty α) (U : Ty β) : Ty (α × β) := ⟨T.n + U.n, Nat.add_pos_left T.pos _, fun p cs x => ∃ c1 c2, cs = c1 ++ c2 ∧ T.rep p c1 x.1 ∧ U.rep p c2 x.2,
  fun ⟨c1, c2, e, h1, h2⟩ => by rw [e, List.length_append, T.len h1, U.len h2], fun ⟨c1, c2, e, h1, h2⟩ => by rw [e, List.all_append, T.one h1, U.one h2]; rfl, fun k ⟨c1, c2, e, h1, h2⟩ => ⟨c1, c2, e, T.mono k h1, U.mono k h2⟩⟩
def Cd.ty : (c : Cd) → Ty c.den
  | .i k => tyIR k
  | .y => tyU8
  | .b => tyB
  | .s => tySR
  | .a c => tyArr c.ty
  | .p c d => tyPr c.ty d.ty
theorem Cd.ty_n : ∀ (c : Cd), c.ty.n = c.n
  | .i _ => rfl
  | .y => rfl
  | .b => rfl
  | .s => rfl
  | .a _ => rfl
  | .p c d => by show c.ty.n + d.ty.n = c.n + d.n; rw [Cd.ty_n c, Cd.ty_n d]
inductive CV where
  | int (k : IntKind) (x : Int)
  | bool (b : Bool)
  | str (l : List UInt8)
  | k (v : Value)
  | ptr (b off : Nat)
  | own (b : Nat)
  | ro (c : Cd) (xs : List c.den) (m : Bool)
  | el (c : Cd) (x : c.den) (off : Nat)
  | eo (b : Nat) (c : Cd) (i off : Nat)
  | vw (b : Nat) (c : Cd) (l h : Nat)
  | fn (f : FuncId)
  | cap (f c : CV)
  | ifc (t : TypeId) (c : CV)
  | nb (e neg : Bool)
inductive V1 where
  | c (x : CV)
  | agg (l : List CV)
inductive SV where
  | v (x : V1)
  | tup (l : List V1)
  | und
  | any
inductive BV where
  | hole
  | no
  | cells (t : TypeId) (l : List CV)
  | row (c : Cd) (et : TypeId) (xs : List c.den)
  | fz (c : Cd) (xs : List c.den)
  | lent (l : List CV)
structure HSt where
  sl : List (Nat × SV)
  bl : List BV
abbrev Env := Nat → Option Addr × Nat
def BV.len : BV → Option Nat
  | .row _ _ xs => some xs.length
  | .fz _ xs => some xs.length
  | _ => none
def BV.isHole : BV → Bool
  | .hole => true
  | _ => false
def Known (bl : List BV) (b : Nat) : Prop := ∃ bv, bl[b]? = some bv ∧ bv.isHole = false
def constant : Value → Bool
  | .pointer none => true
  | .slice none 0 0 => true
  | .nilFunc => true
  | .map none => true
  | .nilIface => true
  | _ => false
def RealC (g : Gh) (ρ : Env) (bl : List BV) : CV → Value → Prop
  | .int k x, v => v = .int k x ∧ inK k x
  | .bool b, v => v = .bool b
  | .str l, v => v = .string (mkS l) ∧ l.length ≤ 140737488355328
  | .k c, v => v = c ∧ constant c = true
  | .ptr b off, v => Known bl b ∧ ∃ a, (ρ b).1 = some a ∧ v = .pointer (some (a.add off))
  | .own b, v => Known bl b ∧ ∃ n, v = .slice (ρ b).1 n (ρ b).2 ∧ ∀ bv m, bl[b]? = some bv → bv.len = some m → n = m
  | .ro c xs m, v => ∃ A cap, v = .slice A xs.length cap ∧ (match m with | true => Arr g.b c.ty A cap xs | false => ArrM g.r g.b c.ty A cap xs)
  | .el c x off, v => ∃ a cs, v = .pointer (some (a.add off)) ∧ Cells g.r a cs ∧ c.ty.rep g.b cs x
  | .eo b c i off, v => Known bl b ∧ ∃ a, (ρ b).1 = some a ∧ v = .pointer (some (a.add (i * c.n + off))) ∧ ∀ bv m, bl[b]? = some bv → bv.len = some m → i < m
  | .vw b c l h, v => Known bl b ∧ v = .slice (offA (ρ b).1 (ρ b).2 l c.n) (h - l) ((ρ b).2 - l) ∧ ∀ bv m, bl[b]? = some bv → bv.len = some m → l ≤ h ∧ h ≤ m
  | .fn f, v => v = .func (.func f) #[] #[]
  | .cap f c, v => ∃ fn caps vc, RealC g ρ bl f (.func fn #[] caps) ∧ RealC g ρ bl c vc ∧ v = .func fn #[] (caps.push vc)
  | .ifc t c, v => ∃ u, RealC g ρ bl c u ∧ v = .iface t u
  | .nb e neg, v => ∃ b : Bool, v = .bool (cond neg (!b) b) ∧ (b = true → e = true)
def All2 {α β : Type} (R : α → β → Prop) : List α → List β → Prop
  | [], [] => True
  | x :: l, y :: m => R x y ∧ All2 R l m
  | _, _ => False
theorem All2.len {α β : Type} {R : α → β → Prop} : ∀ {l : List α} {m : List β}, All2 R l m → l.length = m.length
  | [], [], _ => rfl
  | _ :: l, _ :: m, h => by rw [List.length_cons, List.length_cons, h.2.len]
  | [], _ :: _, h => h.elim
  | _ :: _, [], h => h.elim
theorem All2.get {α β : Type} {R : α → β → Prop} : ∀ {l : List α} {m : List β} {i : Nat} {x : α}, All2 R l m → l[i]? = some x → ∃ y, m[i]? = some y ∧ R x y
  | x :: l, y :: m, 0, z, h, e => by simp at e; subst e; exact ⟨y, rfl, h.1⟩
  | x :: l, y :: m, i + 1, z, h, e => by simpa using All2.get (i := i) h.2 (by simpa using e)
  | [], [], _, _, _, e => by simp at e
  | [], _ :: _, _, _, h, _ => h.elim
  | _ :: _, [], _, _, h, _ => h.elim
theorem All2.mono {α β : Type} {R S : α → β → Prop} (hi : ∀ x y, R x y → S x y) : ∀ {l : List α} {m : List β}, All2 R l m → All2 S l m
  | [], [], _ => trivial
  | _ :: _, _ :: _, h => ⟨hi _ _ h.1, h.2.mono hi⟩
  | [], _ :: _, h => h.elim
  | _ :: _, [], h => h.elim
theorem All2.app {α β : Type} {R : α → β → Prop} {l2 : List α} {m2 : List β} (h2 : All2 R l2 m2) : ∀ {l : List α} {m : List β}, All2 R l m → All2 R (l ++ l2) (m ++ m2)
  | [], [], _ => h2
  | _ :: _, _ :: _, h => ⟨h.1, h2.app h.2⟩
  | [], _ :: _, h => h.elim
  | _ :: _, [], h => h.elim
theorem All2.take {α β : Type} {R : α → β → Prop} : ∀ (n : Nat) {l : List α} {m : List β}, All2 R l m → All2 R (l.take n) (m.take n)
  | 0, _, _, _ => trivial
  | _ + 1, [], [], _ => trivial
  | n + 1, _ :: _, _ :: _, h => ⟨h.1, h.2.take n⟩
  | _ + 1, [], _ :: _, h => h.elim
  | _ + 1, _ :: _, [], h => h.elim
theorem All2.drop {α β : Type} {R : α → β → Prop} : ∀ (n : Nat) {l : List α} {m : List β}, All2 R l m → All2 R (l.drop n) (m.drop n)
  | 0, _, _, h => h
  | _ + 1, [], [], _ => trivial
  | n + 1, _ :: _, _ :: _, h => h.2.drop n
  | _ + 1, [], _ :: _, h => h.elim
  | _ + 1, _ :: _, [], h => h.elim
theorem All2.set {α β : Type} {R : α → β → Prop} {x : α} {y : β} (h1 : R x y) : ∀ (n : Nat) {l : List α} {m : List β}, All2 R l m → All2 R (l.set n x) (m.set n y)
  | _, [], [], _ => trivial
  | 0, _ :: _, _ :: _, h => ⟨h1, h.2⟩
  | n + 1, _ :: _, _ :: _, h => ⟨h.1, h.2.set h1 n⟩
  | _, [], _ :: _, h => h.elim
  | _, _ :: _, [], h => h.elim
def Real1 (g : Gh) (ρ : Env) (bl : List BV) : V1 → Value → Prop
  | .c x, v => RealC g ρ bl x v
  | .agg l, v => ∃ cs, v = .agg cs.toArray ∧ All2 (RealC g ρ bl) l cs
def RealS (g : Gh) (ρ : Env) (bl : List BV) : SV → Value → Prop
  | .v x, v => Real1 g ρ bl x v
  | .tup l, v => ∃ vs, v = .tuple vs.toArray ∧ All2 (Real1 g ρ bl) l vs
  | .und, v => v = undef
  | .any, _ => True
def BlkR (g : Gh) (ρ : Env) (bl : List BV) (k : Option Bk) (e : Option Addr × Nat) : BV → Prop
  | .hole => k = none
  | .no => k = none
  | .cells t l => ∃ b cs, k = some ⟨b, t, cs⟩ ∧ e.1 = some ⟨b, 0, none⟩ ∧ All2 (RealC g ρ bl) l cs
  | .row c et xs => Buf g.b c.ty et (.slice e.1 xs.length e.2) k xs
  | .fz c xs => k = none ∧ Arr g.b c.ty e.1 e.2 xs
  | .lent l => k = none ∧ ∃ a cs, e.1 = some a ∧ Cells g.r a cs ∧ All2 (RealC g ρ bl) l cs
def getH : List (Nat × SV) → Nat → Option SV
  | [], _ => none
  | (k, v) :: l, t => cond (Nat.beq k t) (some v) (getH l t)
def GI (p : Psi) : Prop := ∀ w, p.In w → GW w
theorem Psi.In.of_le {p q : Psi} (h : p.le q) {w : World} (k : q.In w) : p.In w := ⟨k.os.trans h.os, k.tape.trans h.tape, k.out.trans h.out, fun b o e => k.m b o (h.m b o e)⟩
theorem GI.mono {p q : Psi} (h : p.le q) (k : GI p) : GI q := fun w hw => k w (hw.of_le h)
structure Rl (g : Gh) (ρ : Env) (st : HSt) (own : Own) (sl : Sl) : Prop where
  len : own.length = st.bl.length
  blk : ∀ i bv k, st.bl[i]? = some bv → own[i]? = some k → BlkR g ρ st.bl k (ρ i) bv
  slot : ∀ t sv, getH st.sl t = some sv → ∃ v, getS sl t = some v ∧ RealS g ρ st.bl sv v
  gi : GI g.b
def Ext (ρ : Env) (bl : List BV) (ρ' : Env) (bl' : List BV) : Prop :=
  ∀ (b : Nat) (bv : BV), bl[b]? = some bv → bv.isHole = false → ρ' b = ρ b ∧ ∃ bv' : BV, bl'[b]? = some bv' ∧ bv'.isHole = false ∧ ∀ m, bv'.len = some m → bv.len = some m
theorem Ext.refl {ρ : Env} {bl : List BV} : Ext ρ bl ρ bl := fun b bv h1 h2 => ⟨rfl, bv, h1, h2, fun m h => h⟩
theorem Ext.trans {ρ ρ1 ρ2 : Env} {bl bl1 bl2 : List BV} (h : Ext ρ bl ρ1 bl1) (k : Ext ρ1 bl1 ρ2 bl2) : Ext ρ bl ρ2 bl2 := fun b bv h1 h2 => by
  obtain ⟨e, bv1, h3, h4, h5⟩ := h b bv h1 h2
  obtain ⟨e2, bv2, h6, h7, h8⟩ := k b bv1 h3 h4
  exact ⟨e2.trans e, bv2, h6, h7, fun m hm => h5 m (h8 m hm)⟩
theorem Ext.known {ρ ρ1 : Env} {bl bl1 : List BV} (h : Ext ρ bl ρ1 bl1) {b : Nat} (k : Known bl b) : Known bl1 b ∧ ρ1 b = ρ b := by
  obtain ⟨bv, h1, h2⟩ := k
  obtain ⟨e, bv', h3, h4, _⟩ := h b bv h1 h2
  exact ⟨⟨bv', h3, h4⟩, e⟩
theorem RealC.ext {g g' : Gh} {ρ ρ' : Env} {bl bl' : List BV} (hg : g.le g') (h : Ext ρ bl ρ' bl') : ∀ {x : CV} {v : Value}, RealC g ρ bl x v → RealC g' ρ' bl' x v
  | .int _ _, _, hr => hr
  | .bool _, _, hr => hr
  | .str _, _, hr => hr
  | .k _, _, hr => hr
  | .ptr b off, v, ⟨hk, a, e, hv⟩ => by
    obtain ⟨h1, h2⟩ := h.known hk
    exact ⟨h1, a, by rw [h2]; exact e, hv⟩
  | .own b, v, ⟨hk, n, hv, hl⟩ => by
    obtain ⟨h1, h2⟩ := h.known hk
    refine ⟨h1, n, by rw [h2]; exact hv, fun bv m e1 e2 => ?_⟩
    obtain ⟨bv0, h3, h4⟩ := hk
    obtain ⟨_, bv', h5, _, h6⟩ := h b bv0 h3 h4
    rw [h5] at e1
    injection e1 with e1; subst e1
    exact hl bv0 m h3 (h6 m e2)
  | .ro c xs true, v, ⟨A, cap, hv, ha⟩ => ⟨A, cap, hv, Arr.mono ha hg.b⟩
  | .ro c xs false, v, ⟨A, cap, hv, ha⟩ => ⟨A, cap, hv, ArrM.mono ha hg.r hg.b⟩
  | .el c x off, v, ⟨a, cs, hv, hc, hr⟩ => ⟨a, cs, hv, hc.mono hg.r, c.ty.mono hg.b hr⟩
  | .eo b c i off, v, ⟨hk, a, e, hv, hl⟩ => by
    obtain ⟨h1, h2⟩ := h.known hk
    refine ⟨h1, a, by rw [h2]; exact e, hv, fun bv m e1 e2 => ?_⟩
    obtain ⟨bv0, h3, h4⟩ := hk
    obtain ⟨_, bv', h5, _, h6⟩ := h b bv0 h3 h4
    rw [h5] at e1
    injection e1 with e1; subst e1
    exact hl bv0 m h3 (h6 m e2)
  | .vw b c l r, v, ⟨hk, hv, hl⟩ => by
    obtain ⟨h1, h2⟩ := h.known hk
    refine ⟨h1, by rw [h2]; exact hv, fun bv m e1 e2 => ?_⟩
    obtain ⟨bv0, h3, h4⟩ := hk
    obtain ⟨_, bv', h5, _, h6⟩ := h b bv0 h3 h4
    rw [h5] at e1
    injection e1 with e1; subst e1
    exact hl bv0 m h3 (h6 m e2)
  | .fn f, _, hr => hr
  | .nb _ _, _, hr => hr
  | .cap f c, v, ⟨fn, caps, vc, h1, h2, h3⟩ => ⟨fn, caps, vc, RealC.ext hg h h1, RealC.ext hg h h2, h3⟩
  | .ifc t c, v, ⟨u, h1, h2⟩ => ⟨u, RealC.ext hg h h1, h2⟩
section
variable {g g' : Gh} {ρ ρ' : Env} {bl bl' : List BV}
theorem Real1.ext (hg : g.le g') (h : Ext ρ bl ρ' bl') : ∀ {x : V1} {v : Value}, Real1 g ρ bl x v → Real1 g' ρ' bl' x v
  | .c _, _, hr => RealC.ext hg h hr
  | .agg _, _, ⟨cs, e, hr⟩ => ⟨cs, e, hr.mono fun _ _ => RealC.ext hg h⟩
theorem RealS.ext (hg : g.le g') (h : Ext ρ bl ρ' bl') : ∀ {x : SV} {v : Value}, RealS g ρ bl x v → RealS g' ρ' bl' x v
  | .v _, _, hr => Real1.ext hg h hr
  | .tup _, _, ⟨vs, e, hr⟩ => ⟨vs, e, hr.mono fun _ _ => Real1.ext hg h⟩
  | .und, _, hr => hr
  | .any, _, hr => hr
theorem BlkR.ext (hg : g.le g') (h : Ext ρ bl ρ' bl') {k : Option Bk} {e : Option Addr × Nat} : ∀ {bv : BV}, BlkR g ρ bl k e bv → BlkR g' ρ' bl' k e bv
  | .hole, hr => hr
  | .no, hr => hr
  | .cells t l, ⟨b, cs, h1, h2, h3⟩ => ⟨b, cs, h1, h2, h3.mono fun _ _ => RealC.ext hg h⟩
  | .row c et xs, hr => Buf.mono hr hg.b
  | .fz c xs, ⟨h1, h2⟩ => ⟨h1, h2.mono hg.b⟩
  | .lent l, ⟨h1, a, cs, h2, h3, h4⟩ => ⟨h1, a, cs, h2, h3.mono hg.r, h4.mono fun _ _ => RealC.ext hg h⟩
end
theorem ArrM.cut {α : Type} {T : Ty α} {r b : Psi} {A : Option Addr} {c : Nat} {xs : List α} (h : ArrM r b T A c xs) (l m : Nat) (h1 : l ≤ m) (h2 : m ≤ xs.length) : ArrM r b T (offA A c l T.n) (c - l) ((xs.drop l).take (m - l)) := by
  obtain ⟨hc, hl0, cs, hr, hrow⟩ := h
  refine ⟨by rw [List.length_take, List.length_drop]; omega, by rw [List.length_take, List.length_drop]; omega, (cs.drop (l * T.n)).take ((m - l) * T.n), (hr.drop l).take _, fun hn => ?_⟩
  rw [List.length_take, List.length_drop] at hn
  obtain ⟨ad, e, hcells⟩ := hrow (by omega)
  subst e
  refine ⟨ad.add (l * T.n), ?_, hcells.part _ _⟩
  unfold offA
  rw [if_neg (by omega)]
  rfl
def Cd.cv : (c : Cd) → c.den → List CV
  | .i k, x => [.int k x]
  | .y, x => [.int .u8 (x.toNat : Int)]
  | .b, x => [.bool x]
  | .s, x => [.str x]
  | .a c, x => [.ro c x true]
  | .p c d, x => c.cv x.1 ++ d.cv x.2
theorem inK_u8 (x : UInt8) : inK .u8 (x.toNat : Int) := by
  have := x.toNat_lt
  simp [inK, IntKind.min, IntKind.max, IntKind.signed, IntKind.bits]; omega
theorem Cd.cv_real {g : Gh} {ρ : Env} {bl : List BV} : ∀ (c : Cd) {x : c.den} {cs : List Value}, c.ty.rep g.b cs x → All2 (RealC g ρ bl) (c.cv x) cs
  | .i k, x, cs, h => by
    obtain ⟨e, h2⟩ : cs = [.int k x] ∧ inK k x := h
    subst e; exact ⟨⟨rfl, h2⟩, trivial⟩
  | .y, x, cs, h => by
    have e : cs = [.int .u8 (UInt8.toNat x : Int)] := h
    subst e; exact ⟨⟨rfl, inK_u8 x⟩, trivial⟩
  | .b, x, cs, h => by
    have e : cs = [.bool x] := h
    subst e; exact ⟨rfl, trivial⟩
  | .s, x, cs, h => by
    obtain ⟨e, h2⟩ : cs = [.string (mkS x)] ∧ List.length (α := UInt8) x ≤ 140737488355328 := h
    subst e; exact ⟨⟨rfl, h2⟩, trivial⟩
  | .a c, x, cs, h => by
    obtain ⟨A, cap, e, h2⟩ : ∃ A cap, cs = [.slice A (List.length (α := c.den) x) cap] ∧ Arr g.b c.ty A cap x := h
    subst e; exact ⟨⟨A, cap, rfl, h2⟩, trivial⟩
  | .p c d, x, cs, h => by
    obtain ⟨c1, c2, e, h1, h2⟩ : ∃ c1 c2, cs = c1 ++ c2 ∧ c.ty.rep g.b c1 x.1 ∧ d.ty.rep g.b c2 x.2 := h
    subst e; exact All2.app (Cd.cv_real d h2) (Cd.cv_real c h1)
end Go.Proofs.YtpleflcfaecojaaGreat
