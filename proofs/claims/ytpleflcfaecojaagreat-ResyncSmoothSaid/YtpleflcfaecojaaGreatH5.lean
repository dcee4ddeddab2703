/-
The third engine, part 5: operations that make blocks and turn them. Conditions: each lemma's own.
-/
import Derived.Test.YtpleflcfaecojaaGreatH4
namespace Go.Proofs.YtpleflcfaecojaaGreat
set_option linter.unusedVariables false
set_option linter.unusedSimpArgs false
open Go.RowKit
theorem St.fill {w : World} {g : Gh} {own : Own} {k : Bk} (h : St w g (some k :: own)) {i : Nat} (hi : own[i]? = some none) : St w g (own.set i (some k)) := by
  have hp : (own.set i (some k)).Perm (some k :: own.eraseIdx i) := by
    have hlt : i < own.length := (List.getElem?_eq_some_iff.1 hi).1
    have h2 := perm_erase (l := own.set i (some k)) (i := i) (x := some k) (by simp [List.getElem?_set, hlt])
    rwa [List.eraseIdx_set_eq] at h2
  have hp0 : own.Perm (none :: own.eraseIdx i) := perm_erase hi
  have hi0 : (Own.ids own).Perm (Own.ids (own.eraseIdx i)) := by
    have := Own.ids_perm hp0
    rwa [Own.ids_cons] at this
  refine h.fewer ((Own.ids_perm hp).nodup_iff.2 ?_) fun k' hk' => ?_
  · have hn := h.nodup
    rw [Own.ids_cons] at hn ⊢
    exact ((hi0.append_left _).nodup_iff).1 hn
  · rcases List.mem_cons.1 (hp.mem_iff.1 hk') with e | e
    · rw [e]; exact List.mem_cons_self ..
    · exact List.mem_cons_of_mem _ (List.mem_of_mem_eraseIdx e)
def setρ (ρ : Env) (i : Nat) (e : Option Addr × Nat) : Env := fun j => if j = i then e else ρ j
theorem setρ_at (ρ : Env) (i : Nat) (e : Option Addr × Nat) : setρ ρ i e i = e := if_pos rfl
theorem setρ_ne {ρ : Env} {i j : Nat} {e : Option Addr × Nat} (h : j ≠ i) : setρ ρ i e j = ρ j := if_neg h
section
variable {P : Program} {n : Nat} {ty : TypeId} {sl : List (Nat × SV)} {bl bl' : List BV} {v : SV} {f : Nat} {g : Gh} {ρ : Env} {own : Own} {fr : Sl}
theorem get_set {α : Type} {l : List α} {i j : Nat} {x y : α} (h : (l.set i x)[j]? = some y) : (j = i ∧ y = x ∧ i < l.length) ∨ (j ≠ i ∧ l[j]? = some y) := by
  rw [List.getElem?_set] at h
  split at h
  · rename_i e
    subst e
    split at h
    · rename_i hl; injection h with h; exact .inl ⟨rfl, h.symm, hl⟩
    · cases h
  · rename_i e; exact .inr ⟨fun e2 => e e2.symm, h⟩
theorem Ext.set_hole {e : Option Addr × Nat} {bv : BV} (h : bl[f]? = some .hole) : Ext ρ bl (setρ ρ f e) (bl.set f bv) := by
  intro b bv0 h1 h2
  have hne : b ≠ f := fun e => by subst e; rw [h] at h1; injection h1 with h1; subst h1; cases h2
  exact ⟨setρ_ne hne, bv0, by rw [List.getElem?_set, if_neg (Ne.symm hne)]; exact h1, h2, fun m h => h⟩
theorem Ext.set_at {bv bv1 : BV} {b : Nat} (h : bl[b]? = some bv) (hh : bv1.isHole = false) (hm : ∀ m, bv1.len = some m → bv.len = some m) : Ext ρ bl ρ (bl.set b bv1) := by
  intro i bv0 h1 h2
  refine ⟨rfl, ?_⟩
  by_cases e : i = b
  · subst e
    have hlt : i < bl.length := (List.getElem?_eq_some_iff.1 h).1
    refine ⟨bv1, by simp [List.getElem?_set, hlt], hh, fun m hk => ?_⟩
    rw [h] at h1; injection h1 with h1; subst h1
    exact hm m hk
  · exact ⟨bv0, by rw [List.getElem?_set, if_neg (Ne.symm e)]; exact h1, h2, fun m h => h⟩
theorem Rl.lay {g' : Gh} {bv : BV} {k : Option Bk} {e : Option Addr × Nat} (h : Rl g ρ ⟨sl, bl⟩ own fr) (hg : g.le g') (hf : bl[f]? = some .hole) (hb : BlkR g' (setρ ρ f e) (bl.set f bv) k e bv) : Rl g' (setρ ρ f e) ⟨sl, bl.set f bv⟩ (own.set f k) fr := by
  have hx : Ext ρ bl (setρ ρ f e) (bl.set f bv) := Ext.set_hole hf
  refine h.turn hg hx (by rw [List.length_set, List.length_set]; exact h.len) fun i bv1 k1 h1 h2 => ?_
  rcases get_set h1 with ⟨rfl, rfl, _⟩ | ⟨h3, h4⟩
  · rcases get_set h2 with ⟨_, rfl, _⟩ | ⟨h5, _⟩
    · rw [setρ_at]; exact hb
    · exact absurd rfl h5
  · rcases get_set h2 with ⟨h5, _⟩ | ⟨_, h6⟩
    · exact absurd h5 h3
    · rw [setρ_ne h3]; exact (h.blk i bv1 k1 h4 h6).ext hg hx
theorem Rl.setB {g' : Gh} {bv bv1 : BV} {b : Nat} {k : Option Bk} (h : Rl g ρ ⟨sl, bl⟩ own fr) (hg : g.le g') (hb0 : bl[b]? = some bv) (hh : bv1.isHole = false) (hm : ∀ m, bv1.len = some m → bv.len = some m) (hb : BlkR g' ρ (bl.set b bv1) k (ρ b) bv1) : Rl g' ρ ⟨sl, bl.set b bv1⟩ (own.set b k) fr := by
  have hx : Ext ρ bl ρ (bl.set b bv1) := Ext.set_at hb0 hh hm
  refine h.turn hg hx (by rw [List.length_set, List.length_set]; exact h.len) fun i bv2 k1 h1 h2 => ?_
  rcases get_set h1 with ⟨rfl, rfl, _⟩ | ⟨h3, h4⟩
  · rcases get_set h2 with ⟨_, rfl, _⟩ | ⟨h5, _⟩
    · exact hb
    · exact absurd rfl h5
  · rcases get_set h2 with ⟨h5, _⟩ | ⟨_, h6⟩
    · exact absurd h5 h3
    · exact (h.blk i bv2 k1 h4 h6).ext hg hx
theorem Rl.hole_none {i : Nat} (h : Rl g ρ ⟨sl, bl⟩ own fr) (hi : bl[i]? = some .hole) : own[i]? = some none := by
  obtain ⟨k, h1, h2⟩ := h.own_at hi
  have h2 : k = none := h2
  rw [h1, h2]
def cellsS : SV → Option (List CV)
  | .v (.c x) => some [x]
  | .v (.agg l) => some l
  | _ => none
theorem realC_one {x : CV} {v : Value} (h : RealC g ρ bl x v) : one1 v = true ∧ v.cells = #[v] := by
  cases x with
  | int k x => obtain ⟨rfl, _⟩ := h; exact ⟨rfl, rfl⟩
  | bool b => have h : v = _ := h; subst h; exact ⟨rfl, rfl⟩
  | str l => obtain ⟨rfl, _⟩ := h; exact ⟨rfl, rfl⟩
  | k c =>
    obtain ⟨rfl, h⟩ := h
    cases v <;> first | (exact ⟨rfl, rfl⟩) | (cases h; done) | skip
  | ptr b off => obtain ⟨_, a, _, rfl⟩ := h; exact ⟨rfl, rfl⟩
  | own b => obtain ⟨_, m, rfl, _⟩ := h; exact ⟨rfl, rfl⟩
  | ro c xs m => obtain ⟨A, cap, rfl, _⟩ := h; exact ⟨rfl, rfl⟩
  | el c x off => obtain ⟨a, cs, rfl, _⟩ := h; exact ⟨rfl, rfl⟩
  | eo b c i off => obtain ⟨_, a, _, rfl, _⟩ := h; exact ⟨rfl, rfl⟩
  | vw b c l r => obtain ⟨_, rfl, _⟩ := h; exact ⟨rfl, rfl⟩
  | fn f => have h : v = _ := h; subst h; exact ⟨rfl, rfl⟩
  | nb e neg => obtain ⟨b, rfl, _⟩ := h; exact ⟨rfl, rfl⟩
  | cap f c => obtain ⟨fn, caps, vc, _, _, rfl⟩ := h; exact ⟨rfl, rfl⟩
  | ifc t c => obtain ⟨u, _, rfl⟩ := h; exact ⟨rfl, rfl⟩
theorem all2_one : ∀ {l : List CV} {cs : List Value}, All2 (RealC g ρ bl) l cs → cs.all one1 = true
  | [], [], _ => rfl
  | x :: l, c :: cs, h => by rw [List.all_cons, (realC_one h.1).1, all2_one h.2]; rfl
  | [], _ :: _, h => h.elim
  | _ :: _, [], h => h.elim
theorem cellsS_real {s : SV} {l : List CV} {v : Value} (h : cellsS s = some l) (hr : RealS g ρ bl s v) : ∃ cs, v.cells = cs.toArray ∧ All2 (RealC g ρ bl) l cs := by
  unfold cellsS at h
  split at h
  · injection h with h; subst h
    have hr : RealC g ρ bl _ v := hr
    exact ⟨[v], (realC_one hr).2, hr, trivial⟩
  · injection h with h; subst h
    obtain ⟨cs, rfl, h2⟩ := hr
    exact ⟨cs, rfl, h2⟩
  · cases h
def tAlloc (P : Program) (f : Nat) (t : TypeId) : Tr := match zeroOf P t with
  | some z => (match constL z.toList with | some l => .done ⟨vC (.ptr f 0), [], [.cells t l]⟩ | none => .no)
  | none => .no
def tBox (sl : List (Nat × SV)) (f : Nat) (t : TypeId) (x : Operand) : Tr := match evH sl x with
  | some s => (match cellsS s with | some l => .done ⟨vC (.ptr f 0), [], [.cells t l]⟩ | none => .no)
  | none => .no
theorem known_set {bv : BV} {b : Nat} (h : b < bl.length) (hh : bv.isHole = false) : Known (bl.set b bv) b := ⟨bv, by simp [List.getElem?_set, h], hh⟩
theorem get_lt {α : Type} {l : List α} {i : Nat} {x : α} (h : l[i]? = some x) : i < l.length := (List.getElem?_eq_some_iff.1 h).1
theorem effH_new {op : Op} {t : TypeId} {l : List CV} (hf : bl[f]? = some .hole)
    (h : ∀ g ρ own fr, Rl g ρ ⟨sl, bl⟩ own fr → ∃ cs, All2 (RealC g ρ bl) l cs ∧ Eff P n g own fr op ty (fun v' g' own' => ∃ b, v' = .pointer (some ⟨b, 0, none⟩) ∧ g = g' ∧ own' = some ⟨b, t, cs⟩ :: own)) :
    EffH P n op ty sl bl (bl.set f (.cells t l)) (vC (.ptr f 0)) := by
  intro o a w Q K g ρ own fr h1 h2 hr hfr hs hk
  obtain ⟨cs, hcs, he⟩ := h g ρ own fr hr
  refine he o a w Q K h1 h2 hfr hs fun v g' own' w' hg hs' ⟨b, e1, e2, e3⟩ => ?_
  subst e1; subst e2; subst e3
  have hx : Ext ρ bl (setρ ρ f (some ⟨b, 0, none⟩, 0)) (bl.set f (.cells t l)) := Ext.set_hole hf
  refine hk _ g (setρ ρ f (some ⟨b, 0, none⟩, 0)) _ w' (.refl g) hx (hs'.fill (hr.hole_none hf)) (hr.lay (.refl g) hf ⟨b, cs, rfl, rfl, hcs.mono fun _ _ => RealC.ext (.refl g) hx⟩) ⟨known_set (get_lt hf) rfl, ⟨b, 0, none⟩, by rw [setρ_at], rfl⟩
theorem tAlloc_ok {t : TypeId} (hf : bl[f]? = some .hole) (h : Told f (tAlloc P f t) bl bl' v) : EffH P n (.alloc t) ty sl bl bl' v := by
  unfold tAlloc at h
  split at h
  · rename_i z hz
    split at h
    · rename_i l hl
      obtain ⟨rfl, rfl⟩ := h
      exact effH_new hf fun g ρ own fr hr => ⟨z.toList, constL_real hl, e_alloc (by rw [hz])⟩
    · exact h.elim
  · exact h.elim
theorem tBox_ok {t : TypeId} {x : Operand} (hf : bl[f]? = some .hole) (h : Told f (tBox sl f t x) bl bl' v) : EffH P n (.box t x) ty sl bl bl' v := by
  unfold tBox at h
  split at h
  · rename_i s hs
    split at h
    · rename_i l hl
      obtain ⟨rfl, rfl⟩ := h
      refine effH_new hf fun g ρ own fr hr => ?_
      obtain ⟨u, h1, h2⟩ := evH_real hr hs
      obtain ⟨cs, h3, h4⟩ := cellsS_real hl h2
      exact ⟨cs, h4, e_box h1 h3⟩
    · exact h.elim
  · exact h.elim
def setRowC (cs : List CV) (off : Nat) : List CV → List CV
  | [] => cs
  | v :: vs => setRowC (cs.set off v) (off + 1) vs
theorem setRowC_real : ∀ {vs : List CV} {us : List Value} {l : List CV} {cs : List Value} (off : Nat), All2 (RealC g ρ bl) vs us → All2 (RealC g ρ bl) l cs → All2 (RealC g ρ bl) (setRowC l off vs) (setRow cs off us)
  | [], [], l, cs, off, _, h => h
  | v :: vs, u :: us, l, cs, off, h1, h => setRowC_real (off + 1) h1.2 (h.set h1.1 off)
  | [], _ :: _, _, _, _, h, _ => h.elim
  | _ :: _, [], _, _, _, h, _ => h.elim
def fitsT (P : Program) (t : TypeId) (m off l : Nat) : Bool := match cellsOfT P t with
  | some z => Nat.beq z m && Nat.ble (off + m) l
  | none => false
theorem fitsT_ok {t : TypeId} {m off l : Nat} (h : fitsT P t m off l = true) : cellsOfT P t = some m ∧ off + m ≤ l := by
  unfold fitsT at h
  split at h
  · rename_i z hz
    simp only [Bool.and_eq_true] at h
    have := Nat.eq_of_beq_eq_true h.1
    subst this
    exact ⟨hz, Nat.le_of_ble_eq_true h.2⟩
  · cases h
def headC (l : List CV) (K : CV → List CV → Tr) : Tr := match l with | x :: r => K x r | [] => .no
def encA (c : Cd) (x : CV) (K : List c.den → Tr) : Tr := match x with
  | .ro d xs true => (match d.same c with | some h => K (h.down ▸ xs) | none => .no)
  | .k (.slice none 0 0) => K ([] : List c.den)
  | .own b => .need b fun
    | .row d _ xs => (match d.same c with | some h => .frz b (K (h.down ▸ xs)) | none => .no)
    | .fz d xs => (match d.same c with | some h => K (h.down ▸ xs) | none => .no)
    | _ => .no
  | _ => .no
def encC : (c : Cd) → List CV → (c.den → List CV → Tr) → Tr
  | .i k, l, K => headC l fun x r => match x with | .int j x => (match sameK j k with | some _ => K x r | none => .no) | _ => .no
  | .y, l, K => headC l fun x r => match x with | .int j x => (match sameK j .u8 with | some _ => K (u8 x) r | none => .no) | _ => .no
  | .b, l, K => headC l fun x r => match x with | .bool x => K x r | _ => .no
  | .s, l, K => headC l fun x r => match x with | .str x => K x r | _ => .no
  | .a c, l, K => headC l fun x r => encA c x fun xs => K xs r
  | .p c d, l, K => encC c l fun x r => encC d r fun y r => K (x, y) r
def EncD (bl : List BV) : (c : Cd) → List CV → c.den → List CV → Prop
  | .i k, l, x, r => l = .int k x :: r
  | .y, l, x, r => ∃ z, l = .int .u8 z :: r ∧ x = u8 z
  | .b, l, x, r => l = .bool x :: r
  | .s, l, x, r => l = .str x :: r
  | .a c, l, x, r => l = .ro c x true :: r ∨ (l = .k (.slice none 0 0) :: r ∧ x = ([] : List c.den)) ∨ ∃ b, l = .own b :: r ∧ bl[b]? = some (.fz c x)
  | .p c d, l, x, r => ∃ m, EncD bl c l x.1 m ∧ EncD bl d m x.2 r
inductive FrzTo : List BV → List BV → Prop where
  | refl {l : List BV} : FrzTo l l
  | step {l l2 : List BV} {b : Nat} {c : Cd} {et : TypeId} {xs : List c.den} (h : l[b]? = some (.row c et xs)) (k : FrzTo (l.set b (.fz c xs)) l2) : FrzTo l l2
theorem FrzTo.trans {a b c : List BV} (h : FrzTo a b) (k : FrzTo b c) : FrzTo a c := by
  induction h with
  | refl => exact k
  | step h _ ih => exact .step h (ih k)
theorem FrzTo.fz {a b : List BV} (h : FrzTo a b) {i : Nat} {c : Cd} {xs : List c.den} (e : a[i]? = some (.fz c xs)) : b[i]? = some (.fz c xs) := by
  induction h with
  | refl => exact e
  | step h _ ih =>
    refine ih ?_
    rw [List.getElem?_set]
    split
    · rename_i e2; subst e2; rw [e] at h; injection h with h; cases h
    · exact e
theorem FrzTo.hole {a b : List BV} (h : FrzTo a b) {i : Nat} (e : a[i]? = some .hole) : b[i]? = some .hole := by
  induction h with
  | refl => exact e
  | step h _ ih =>
    refine ih ?_
    rw [List.getElem?_set]
    split
    · rename_i e2; subst e2; rw [e] at h; injection h with h; cases h
    · exact e
theorem EncD.frz {a b : List BV} (h : FrzTo a b) : ∀ (c : Cd) {l r : List CV} {x : c.den}, EncD a c l x r → EncD b c l x r
  | .i _, _, _, _, e => e
  | .y, _, _, _, e => e
  | .b, _, _, _, e => e
  | .s, _, _, _, e => e
  | .a c, _, _, _, .inl e => .inl e
  | .a c, _, _, _, .inr (.inl e) => .inr (.inl e)
  | .a c, _, _, _, .inr (.inr ⟨i, e1, e2⟩) => .inr (.inr ⟨i, e1, h.fz e2⟩)
  | .p c d, _, _, _, ⟨m, h1, h2⟩ => ⟨m, EncD.frz h c h1, EncD.frz h d h2⟩
theorem headC_told {l : List CV} {K : CV → List CV → Tr} (h : Told f (headC l K) bl bl' v) : ∃ x r, l = x :: r ∧ Told f (K x r) bl bl' v := by
  cases l with
  | nil => exact h.elim
  | cons x r => exact ⟨x, r, rfl, h⟩
theorem encA_told {c : Cd} {x : CV} {K : List c.den → Tr} (h : Told f (encA c x K) bl bl' v) : ∃ xs bl1, Told f (K xs) bl1 bl' v ∧ FrzTo bl bl1 ∧ (x = .ro c xs true ∨ (x = .k (.slice none 0 0) ∧ xs = []) ∨ ∃ b, x = .own b ∧ bl1[b]? = some (.fz c xs)) := by
  unfold encA at h
  split at h
  · split at h
    · rename_i hk _; obtain ⟨hk⟩ := hk; subst hk; exact ⟨_, bl, h, .refl, .inl rfl⟩
    · exact h.elim
  · exact ⟨_, bl, h, .refl, .inr (.inl ⟨rfl, rfl⟩)⟩
  · rename_i b
    obtain ⟨bv, e, h⟩ := h
    dsimp only at h
    split at h
    · split at h
      · rename_i hk _; obtain ⟨hk⟩ := hk; subst hk
        obtain ⟨bv, fv, e1, e2, h⟩ := h
        rw [e] at e1; injection e1 with e1; subst e1
        injection e2 with e2; subst e2
        refine ⟨_, _, h, .step e .refl, .inr (.inr ⟨b, rfl, ?_⟩)⟩
        simp [List.getElem?_set, (List.getElem?_eq_some_iff.1 e).1]
      · exact h.elim
    · split at h
      · rename_i hk _; obtain ⟨hk⟩ := hk; subst hk
        exact ⟨_, bl, h, .refl, .inr (.inr ⟨b, rfl, e⟩)⟩
      · exact h.elim
    · exact h.elim
  · exact h.elim
theorem encC_told : ∀ (c : Cd) {l : List CV} {K : c.den → List CV → Tr} {bl : List BV}, Told f (encC c l K) bl bl' v → ∃ x r bl1, Told f (K x r) bl1 bl' v ∧ FrzTo bl bl1 ∧ EncD bl1 c l x r
  | .i k, l, K, bl, h => by
    obtain ⟨x, r, rfl, h2⟩ := headC_told h
    clear h
    split at h2
    · split at h2
      · rename_i hk _; obtain ⟨hk⟩ := hk; subst hk; exact ⟨_, _, bl, h2, .refl, rfl⟩
      · exact h2.elim
    · exact h2.elim
  | .y, l, K, bl, h => by
    obtain ⟨x, r, rfl, h2⟩ := headC_told h
    clear h
    split at h2
    · split at h2
      · rename_i hk _; obtain ⟨hk⟩ := hk; subst hk; exact ⟨_, _, bl, h2, .refl, _, rfl, rfl⟩
      · exact h2.elim
    · exact h2.elim
  | .b, l, K, bl, h => by
    obtain ⟨x, r, rfl, h2⟩ := headC_told h
    clear h
    split at h2
    · exact ⟨_, _, bl, h2, .refl, rfl⟩
    · exact h2.elim
  | .s, l, K, bl, h => by
    obtain ⟨x, r, rfl, h2⟩ := headC_told h
    clear h
    split at h2
    · exact ⟨_, _, bl, h2, .refl, rfl⟩
    · exact h2.elim
  | .a c, l, K, bl, h => by
    obtain ⟨x, r, rfl, h2⟩ := headC_told h
    clear h
    obtain ⟨xs, bl1, h3, h1, h4⟩ := encA_told h2
    clear h2
    refine ⟨xs, r, bl1, h3, h1, ?_⟩
    rcases h4 with rfl | ⟨rfl, rfl⟩ | ⟨b, rfl, h2⟩
    · exact .inl rfl
    · exact .inr (.inl ⟨rfl, rfl⟩)
    · exact .inr (.inr ⟨b, rfl, h2⟩)
  | .p c d, l, K, bl, h => by
    unfold encC at h
    obtain ⟨x, m, bl1, h, h1, h2⟩ := encC_told c h
    obtain ⟨y, r, bl2, h, h3, h4⟩ := encC_told d h
    exact ⟨_, _, bl2, h, h1.trans h3, m, h2.frz h3, h4⟩
theorem EncD.real (hr : Rl g ρ ⟨sl, bl⟩ own fr) : ∀ (c : Cd) {l r : List CV} {x : c.den} {cs : List Value}, EncD bl c l x r → All2 (RealC g ρ bl) l cs → ∃ c1 c2, cs = c1 ++ c2 ∧ c.ty.rep g.b c1 x ∧ All2 (RealC g ρ bl) r c2
  | .i k, l, r, x, u :: cs, e, h => by
    have e : l = _ := e
    subst e
    exact ⟨[u], cs, rfl, ⟨by rw [h.1.1], h.1.2⟩, h.2⟩
  | .y, l, r, x, u :: cs, e, h => by
    obtain ⟨z, e, rfl⟩ := e
    subst e
    obtain ⟨⟨rfl, h1⟩, h2⟩ := h
    exact ⟨[_], cs, rfl, u8_rep (by simpa [inK, IntKind.min, IntKind.max, IntKind.signed, IntKind.bits] using h1), h2⟩
  | .b, l, r, x, u :: cs, e, h => by
    have e : l = _ := e
    subst e
    have h1 : u = _ := h.1
    exact ⟨[u], cs, rfl, by rw [h1]; rfl, h.2⟩
  | .s, l, r, x, u :: cs, e, h => by
    have e : l = _ := e
    subst e
    exact ⟨[u], cs, rfl, ⟨by rw [h.1.1], h.1.2⟩, h.2⟩
  | .a c, l, r, x, u :: cs, e, h => by
    rcases e with e | ⟨e, e2⟩ | ⟨b, e, e2⟩
    · subst e
      obtain ⟨⟨A, cap, hv, ha⟩, h2⟩ := h
      exact ⟨[u], cs, rfl, ⟨A, cap, by rw [hv], ha⟩, h2⟩
    · subst e; subst e2
      obtain ⟨⟨hv, _⟩, h2⟩ := h
      exact ⟨[u], cs, rfl, ⟨none, 0, by rw [hv]; rfl, Arr.nil⟩, h2⟩
    · subst e
      obtain ⟨⟨_, m, hv, hl⟩, h2⟩ := h
      obtain ⟨k, hk, _, ha⟩ := hr.own_at e2
      have := hl _ _ e2 rfl
      subst this
      exact ⟨[u], cs, rfl, ⟨_, _, by rw [hv], ha⟩, h2⟩
  | .p c d, l, r, x, cs, e, h => by
    obtain ⟨m, h1, h2⟩ := e
    obtain ⟨c1, c2, rfl, h3, h4⟩ := EncD.real hr c h1 h
    obtain ⟨c3, c4, rfl, h5, h6⟩ := EncD.real hr d h2 h4
    exact ⟨c1 ++ c3, c4, by rw [List.append_assoc], ⟨c1, c3, rfl, h3, h5⟩, h6⟩
  | .i _, _, _, _, [], e, h => by have e : _ = _ := e; subst e; exact h.elim
  | .y, _, _, _, [], e, h => by obtain ⟨z, e, _⟩ := e; subst e; exact h.elim
  | .b, _, _, _, [], e, h => by have e : _ = _ := e; subst e; exact h.elim
  | .s, _, _, _, [], e, h => by have e : _ = _ := e; subst e; exact h.elim
  | .a _, _, _, _, [], e, h => by rcases e with e | ⟨e, _⟩ | ⟨b, e, _⟩ <;> subst e <;> exact h.elim
theorem FrzTo.do_ {w : World} {bl2 : List BV} (h : FrzTo bl bl2) : ∀ {g : Gh} {own : Own}, Rl g ρ ⟨sl, bl⟩ own fr → St w g own → ∃ g' own', g.le g' ∧ St w g' own' ∧ Ext ρ bl ρ bl2 ∧ Rl g' ρ ⟨sl, bl2⟩ own' fr := by
  induction h with
  | refl => exact fun hr hs => ⟨_, _, .refl _, hs, .refl, hr⟩
  | @step bl bl2 b c et xs hb _ ih =>
    intro g own hr hs
    obtain ⟨k, hk, hbuf⟩ := hr.own_at hb
    have hbuf : Buf g.b c.ty et (.slice (ρ b).1 xs.length (ρ b).2) k xs := hbuf
    have key : ∃ g' , g.le g' ∧ St w g' (own.set b none) ∧ Arr g'.b c.ty (ρ b).1 (ρ b).2 xs :=
      wpq_freeze (K := fun _ w' => ∃ g' , g.le g' ∧ St w' g' (own.set b none) ∧ Arr g'.b c.ty (ρ b).1 (ρ b).2 xs) (n := 0) (sl := []) b hk hbuf (fun g' h1 h2 a w' _ h3 => ⟨g', h1, h3, h2⟩) ⟨#[], []⟩ w ⟨rfl, rfl, fun _ _ h => by cases h⟩ hs
    obtain ⟨g', hg, hs', ha⟩ := key
    have hx : Ext ρ bl ρ (bl.set b (.fz c xs)) := Ext.set_at hb rfl fun m hm => hm
    obtain ⟨g2, own2, h1, h2, h3, h4⟩ := ih (hr.setB hg hb rfl (fun m hm => hm) ⟨rfl, ha⟩) hs'
    exact ⟨g2, own2, hg.trans h1, h2, hx.trans h3, h4⟩
theorem EffH.frz {op : Op} {bl1 : List BV} (h : FrzTo bl bl1) (k : EffH P n op ty sl bl1 bl' v) : EffH P n op ty sl bl bl' v := by
  intro o a w Q K g ρ own fr h1 h2 hr hf hs hk
  obtain ⟨g1, own1, hg, hs1, hx, hr1⟩ := h.do_ hr hs
  exact k o a w Q K g1 ρ own1 fr h1 h2 hr1 hf hs1 fun v g' ρ' own' w' e1 e2 e3 e4 e5 => hk v g' ρ' own' w' (hg.trans e1) (hx.trans e2) e3 e4 e5
end
end Go.Proofs.YtpleflcfaecojaaGreat
