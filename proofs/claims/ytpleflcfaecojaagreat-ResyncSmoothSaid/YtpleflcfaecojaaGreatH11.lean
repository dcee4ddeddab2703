/-
The third engine, part 11: what is made out of the data stands for what was read. Conditions: each lemma's own.
-/
import Derived.Test.YtpleflcfaecojaaGreatH10
namespace Go.Proofs.YtpleflcfaecojaaGreat
set_option linter.unusedVariables false
set_option linter.unusedSimpArgs false
open Go.RowKit
structure Ctx (L : List Nat) (n0 : Nat) (σ : List (Option Nat)) (bl : List BV) (ρ : Env) (g : Gh) (bl' : List BV) (ρ' : Env) (g' : Gh) : Prop where
  gr : g.r.le g'.r
  gb : g.b.le g'.b
  at_ : ∀ (j b : Nat), σ[j]? = some (some b) → ρ' j = ρ b ∧ ∃ bv : BV, bl'[j]? = some bv ∧ bv.isHole = false ∧ ∀ m, bv.len = some m → ∃ bv0 : BV, bl[b]? = some bv0 ∧ bv0.len = some m
  nil : ∀ (b : Nat) (bv : BV), n0 ≤ b → bl[b]? = some bv → ρ b = (none, 0)
  fz : ∀ (b : Nat) (c : Cd) (xs : List c.den), bl[b]? = some (.fz c xs) → Arr g.b c.ty (ρ b).1 (ρ b).2 xs
  lend : ∀ (b : Nat) (c : Cd) (et : TypeId) (xs : List c.den), b ∈ L → bl[b]? = some (.row c et xs) → ArrM g'.r g'.b c.ty (ρ b).1 (ρ b).2 xs
section
variable {L : List Nat} {n0 : Nat} {σ : List (Option Nat)} {bl bl' : List BV} {ρ ρ' : Env} {g g' : Gh}
theorem SimC.real (c : Ctx L n0 σ bl ρ g bl' ρ' g') {x y : CV} {v : Value} (h : SimC L n0 σ bl x y) : ∀ {v : Value}, RealC g ρ bl x v → RealC g' ρ' bl' y v := by
  induction h with
  | int => exact fun hr => hr
  | bool => exact fun hr => hr
  | str => exact fun hr => hr
  | k => exact fun hr => hr
  | el => exact fun ⟨a, cs, h1, h2, h3⟩ => ⟨a, cs, h1, h2.mono c.gr, Ty.mono _ c.gb h3⟩
  | fn => exact fun hr => hr
  | @ro d xs m m' h =>
    intro v hr
    obtain ⟨A, cap, hv, ha⟩ := hr
    refine ⟨A, cap, hv, ?_⟩
    cases m with
    | true =>
      have := h rfl
      subst this
      exact Arr.mono ha c.gb
    | false =>
      cases m' with
      | true => exact Arr.toM (Arr.mono ha c.gb) g'.br
      | false => exact ArrM.mono ha c.gr c.gb
  | @ptr j b off h =>
    intro v ⟨hk, a, ha, hv⟩
    obtain ⟨e, bv, e1, e2, _⟩ := c.at_ _ _ h
    exact ⟨⟨bv, e1, e2⟩, a, by rw [e]; exact ha, hv⟩
  | @own j b h =>
    intro v ⟨hk, m, hv, hl⟩
    obtain ⟨e, bv, e1, e2, e3⟩ := c.at_ _ _ h
    refine ⟨⟨bv, e1, e2⟩, m, by rw [e]; exact hv, fun bv' l h1 h2 => ?_⟩
    rw [e1] at h1; injection h1 with h1; subst h1
    obtain ⟨bv0, h3, h4⟩ := e3 l h2
    exact hl bv0 l h3 h4
  | @nilown j b bv0 h hb hl hn =>
    intro v ⟨hv, _⟩
    obtain ⟨e, bv, e1, e2, e3⟩ := c.at_ _ _ h
    refine ⟨⟨bv, e1, e2⟩, 0, by rw [e, c.nil b bv0 hn hb]; exact hv, fun bv' l h1 h2 => ?_⟩
    rw [e1] at h1; injection h1 with h1; subst h1
    obtain ⟨bv1, h3, h4⟩ := e3 l h2
    rw [hb] at h3; injection h3 with h3; subst h3
    rw [hl] at h4; injection h4
  | @fz b d xs m hb =>
    intro v ⟨hk, l, hv, hl⟩
    have := hl _ _ hb rfl
    subst this
    refine ⟨_, _, hv, ?_⟩
    have ha := c.fz b d xs hb
    cases m with
    | true => exact ha.mono c.gb
    | false => exact Arr.toM (ha.mono c.gb) g'.br
  | @lend b d et xs hl hb =>
    intro v ⟨hk, l, hv, hl2⟩
    have := hl2 _ _ hb rfl
    subst this
    exact ⟨_, _, hv, c.lend b d et xs hl hb⟩
  | @fzv b l r d xs m hb =>
    intro v ⟨hk, hv, hl2⟩
    obtain ⟨h1, h2⟩ := hl2 _ _ hb rfl
    have hlen : ((xs.drop l).take (r - l)).length = r - l := by rw [List.length_take, List.length_drop]; omega
    have ha := (c.fz b d xs hb).cut l r h1 h2
    rw [d.ty_n] at ha
    refine ⟨_, _, by rw [hlen]; exact hv, ?_⟩
    cases m with
    | true => exact ha.mono c.gb
    | false => exact Arr.toM (ha.mono c.gb) g'.br
  | @lendv b l r d et xs hl hb =>
    intro v ⟨hk, hv, hl2⟩
    obtain ⟨h1, h2⟩ := hl2 _ _ hb rfl
    have hlen : ((xs.drop l).take (r - l)).length = r - l := by rw [List.length_take, List.length_drop]; omega
    have ha := (c.lend b d et xs hl hb).cut l r h1 h2
    rw [d.ty_n] at ha
    exact ⟨_, _, by rw [hlen]; exact hv, ha⟩
  | nilro =>
    rename_i d m
    intro v ⟨hv, _⟩
    refine ⟨none, 0, hv, ?_⟩
    cases m with
    | true => exact Arr.nil
    | false => exact ArrM.nil
  | cap _ _ ih1 ih2 => exact fun ⟨f0, caps, vc, h1, h2, h3⟩ => ⟨f0, caps, vc, ih1 h1, ih2 h2, h3⟩
  | ifc _ ih => exact fun ⟨u, h1, h2⟩ => ⟨u, ih h1, h2⟩
theorem All2.over {α β γ : Type} {R : α → β → Prop} {S : α → γ → Prop} {T : β → γ → Prop} (hi : ∀ x y v, R x y → S x v → T y v) : ∀ {l : List α} {m : List β} {n : List γ}, All2 R l m → All2 S l n → All2 T m n
  | [], [], [], _, _ => trivial
  | _ :: _, _ :: _, _ :: _, h, k => ⟨hi _ _ _ h.1 k.1, All2.over hi h.2 k.2⟩
  | [], [], _ :: _, _, k => k.elim
  | [], _ :: _, _, h, _ => h.elim
  | _ :: _, [], _, h, _ => h.elim
  | _ :: _, _ :: _, [], _, k => k.elim
theorem Sim1.real (c : Ctx L n0 σ bl ρ g bl' ρ' g') {x y : V1} {v : Value} (h : Sim1 L n0 σ bl x y) (hr : Real1 g ρ bl x v) : Real1 g' ρ' bl' y v := by
  cases x <;> cases y <;> first | exact h.elim | skip
  · exact SimC.real (v := v) c h hr
  · obtain ⟨cs, e, hr⟩ := hr
    refine ⟨cs, e, ?_⟩
    rename_i l m
    exact All2.over (R := SimC L n0 σ bl) (S := RealC g ρ bl) (T := RealC g' ρ' bl') (fun x y v h1 h2 => SimC.real (v := v) c h1 h2) h hr
theorem all2_real {l m : List CV} (c : Ctx L n0 σ bl ρ g bl' ρ' g') (h : All2 (SimC L n0 σ bl) l m) {cs : List Value} (hr : All2 (RealC g ρ bl) l cs) : All2 (RealC g' ρ' bl') m cs := by
  obtain ⟨cs', e, h'⟩ := Sim1.real (x := .agg l) (y := .agg m) (v := .agg cs.toArray) c h ⟨cs, rfl, hr⟩
  have : cs = cs' := by simpa using e
  subst this; exact h'
theorem SimS.real (c : Ctx L n0 σ bl ρ g bl' ρ' g') {x y : SV} {v : Value} (h : SimS L n0 σ bl x y) (hr : RealS g ρ bl x v) : RealS g' ρ' bl' y v := by
  cases x <;> cases y <;> first | exact h.elim | skip
  · exact Sim1.real c h hr
  · obtain ⟨vs, e, hr⟩ := hr
    refine ⟨vs, e, ?_⟩
    rename_i l m
    exact All2.over (R := Sim1 L n0 σ bl) (S := Real1 g ρ bl) (T := Real1 g' ρ' bl') (fun x y v h1 h2 => Sim1.real c h1 h2) h hr
end
def BV.owned : BV → Bool
  | .cells _ _ => true
  | .row _ _ _ => true
  | _ => false
def ownIds (σ : List (Option Nat)) : Nat → List BV → List (Option Nat)
  | _, [] => []
  | j, y :: l => cond y.owned (sigAt σ j) none :: ownIds σ (j + 1) l
theorem ownIds_len (σ : List (Option Nat)) : ∀ (j : Nat) (l : List BV), (ownIds σ j l).length = l.length
  | _, [] => rfl
  | j, y :: l => by simp [ownIds, ownIds_len σ (j + 1) l]
theorem ownIds_get (σ : List (Option Nat)) : ∀ (l : List BV) (j i : Nat) {y : BV}, l[i]? = some y → (ownIds σ j l)[i]? = some (cond y.owned (sigAt σ (j + i)) none)
  | [], _, _, _, h => by simp at h
  | z :: l, j, 0, y, h => by simp at h; subst h; rfl
  | z :: l, j, i + 1, y, h => by
    have := ownIds_get σ l (j + 1) i (by simpa using h)
    simp only [ownIds, List.getElem?_cons_succ, this]
    rw [show j + 1 + i = j + (i + 1) by omega]
theorem SimBs.get {L : List Nat} {n0 : Nat} {σ : List (Option Nat)} {bl : List BV} : ∀ {l : List BV} {j i : Nat} {y : BV}, SimBs L n0 σ bl j l → l[i]? = some y → y = .no ∨ ∃ b, sigAt σ (j + i) = some b ∧ SimB L n0 σ bl (some b) y
  | [], _, _, _, _, h => by simp at h
  | z :: l, j, 0, y, hs, h => by simp at h; subst h; exact hs.1
  | z :: l, j, i + 1, y, hs, h => by
    have := hs.2.get (i := i) (by simpa using h)
    rwa [show j + 1 + i = j + (i + 1) by omega] at this
def nodupB : List Nat → Bool
  | [] => true
  | x :: l => !natMem x l && nodupB l
theorem natMem_iff {x : Nat} : ∀ {l : List Nat}, natMem x l = true ↔ x ∈ l
  | [] => by simp [natMem]
  | y :: l => by
    unfold natMem
    cases h : Nat.beq x y with
    | true => have := Nat.eq_of_beq_eq_true h; simp [this]
    | false => have : x ≠ y := fun e => by subst e; simp at h
               simp [natMem_iff (x := x) (l := l), this]
theorem nodupB_ok : ∀ {l : List Nat}, nodupB l = true → l.Nodup
  | [], _ => List.nodup_nil
  | x :: l, h => by
    simp only [nodupB, Bool.and_eq_true, Bool.not_eq_true'] at h
    exact List.nodup_cons.2 ⟨fun hm => by rw [natMem_iff.2 hm] at h; exact absurd h.1 (by decide), nodupB_ok h.2⟩
def rowsB (bl : List BV) (σ : List (Option Nat)) : Nat → List BV → Bool
  | _, [] => true
  | j, y :: l => (match y with
    | .row _ _ _ => (match sigAt σ j with | some i => (match bl[i]? with | some (.row _ _ _) => true | _ => false) | none => false)
    | _ => true) && rowsB bl σ (j + 1) l
theorem rowsB_get {bl : List BV} {σ : List (Option Nat)} : ∀ {l : List BV} {j i : Nat} {c : Cd} {et : TypeId} {xs : List c.den}, rowsB bl σ j l = true → l[i]? = some (.row c et xs) → ∃ b c' et' xs', sigAt σ (j + i) = some b ∧ bl[b]? = some (.row c' et' xs')
  | [], _, _, _, _, _, _, h => by simp at h
  | z :: l, j, 0, c, et, xs, hr, h => by
    simp at h; subst h
    simp only [rowsB, Bool.and_eq_true] at hr
    have hr := hr.1
    split at hr
    · rename_i i hi
      split at hr
      · rename_i c' et' xs' hb; exact ⟨i, c', et', xs', hi, hb⟩
      · cases hr
    · cases hr
  | z :: l, j, i + 1, c, et, xs, hr, h => by
    simp only [rowsB, Bool.and_eq_true] at hr
    have := rowsB_get (i := i) hr.2 (by simpa using h)
    rwa [show j + 1 + i = j + (i + 1) by omega] at this
def absChk (s : AS) (bl' : List BV) : Bool := let os := (ownIds s.σ 0 bl').filterMap id
  nodupB os && (rowsB s.bl s.σ 0 bl' && (os.all (fun i => !natMem i s.lt) && Nat.beq s.σ.length bl'.length))
def joinChk (s : AS) (bl' : List BV) : Bool := (match s.lt with | [] => true | _ => false) && absChk s bl'
def sig0 : Nat → Nat → List (Option Nat)
  | _, 0 => []
  | j, m + 1 => some j :: sig0 (j + 1) m
theorem sig0_get : ∀ (m j i : Nat), i < m → (sig0 j m)[i]? = some (some (j + i))
  | m + 1, j, 0, _ => rfl
  | m + 1, j, i + 1, h => by
    have := sig0_get m (j + 1) i (by omega)
    simp only [sig0, List.getElem?_cons_succ, this]
    rw [show j + 1 + i = j + (i + 1) by omega]
structure An where
  np : Nat
  ρ : Env
  len : Nat → Option Nat
def Anch (A : An) (ρ : Env) (bl : List BV) : Prop := ∀ j, j < A.np → ρ j = A.ρ j ∧ Known bl j ∧ ∀ (bv : BV) (m : Nat), bl[j]? = some bv → bv.len = some m → A.len j = some m
theorem Anch.ext {A : An} {ρ ρ' : Env} {bl bl' : List BV} (h : Anch A ρ bl) (hx : Ext ρ bl ρ' bl') : Anch A ρ' bl' := fun j hj => by
  obtain ⟨h1, h2, h5⟩ := h j hj
  obtain ⟨h3, h4⟩ := hx.known h2
  refine ⟨h4.trans h1, h3, fun bv m e1 e2 => ?_⟩
  obtain ⟨bv0, e3, e4⟩ := h2
  obtain ⟨_, bv', e5, _, e6⟩ := hx j bv0 e3 e4
  rw [e5] at e1; injection e1 with e1; subst e1
  exact h5 bv0 m e3 (e6 m e2)
def SW (K : Act → World → Prop) (n : Nat) (A : An) (g0 : Gh) (st : HSt) : Prop := ∀ g ρ own fr, g0.le g → Anch A ρ st.bl → Rl g ρ st own fr → WPq K n g own fr
def envOf (σ : List (Option Nat)) (ρ : Env) : Env := fun j => match sigAt σ j with | some b => ρ b | none => (none, 0)
theorem sigAt_of {σ : List (Option Nat)} {j b : Nat} (h : σ[j]? = some (some b)) : sigAt σ j = some b := by unfold sigAt; rw [h]
theorem simB_hole {L : List Nat} {n0 : Nat} {σ : List (Option Nat)} {bl : List BV} {x : Option Nat} {y : BV} (h : SimB L n0 σ bl x y) : y.isHole = false := by cases h <;> rfl
theorem simBs_ctx {L : List Nat} {n0 : Nat} {σ : List (Option Nat)} {bl bl' : List BV} {ρ : Env} (hb : SimBs L n0 σ bl 0 bl') (hl : σ.length = bl'.length) (j b : Nat) (e : σ[j]? = some (some b)) :
    envOf σ ρ j = ρ b ∧ ∃ bv : BV, bl'[j]? = some bv ∧ bv.isHole = false ∧ ∀ m, bv.len = some m → ∃ bv0 : BV, bl[b]? = some bv0 ∧ bv0.len = some m := by
  have hlt : j < bl'.length := by rw [← hl]; exact get_lt e
  refine ⟨by unfold envOf; rw [sigAt_of e], bl'[j], List.getElem?_eq_getElem hlt, ?_, ?_⟩
  · rcases hb.get (List.getElem?_eq_getElem hlt) with h | ⟨b', h1, h2⟩
    · rw [h]; rfl
    · exact simB_hole h2
  · intro m hm
    rcases hb.get (List.getElem?_eq_getElem hlt) with h | ⟨b', h1, h2⟩
    · rw [h] at hm; cases hm
    · rw [Nat.zero_add, sigAt_of e] at h1
      injection h1 with h1; subst h1
      generalize bl'[j] = bv at h2 hm
      cases h2 with
      | no => cases hm
      | cells h hs => cases hm
      | row h =>
        obtain ⟨bv, e1, h⟩ := h
        rcases h with rfl | rfl
        · exact ⟨_, e1, hm⟩
        · exact ⟨_, e1, hm⟩
      | lent h hs => cases hm
      | lend hl h hs => cases hm
theorem getH_mem {l : List (Nat × SV)} {t : Nat} {v : SV} (h : getH l t = some v) : (t, v) ∈ l := by
  induction l with
  | nil => cases h
  | cons p l ih =>
    obtain ⟨k, u⟩ := p
    unfold getH at h
    cases hb : Nat.beq k t with
    | true =>
      rw [hb] at h
      have := Nat.eq_of_beq_eq_true hb
      subst this
      injection h with h; subst h
      exact List.mem_cons_self ..
    | false => rw [hb] at h; exact List.mem_cons_of_mem _ (ih h)
theorem weaken_sem {st st' : HSt} {sc : Sch} {σ0 : List (Option Nat)} {s : AS} {g : Gh} {ρ : Env} {own : Own} {fr : Sl} {w : World} (h : absSt false sc σ0 st = some s) (hc : conSt id sc s.ds = some st') (hk : joinChk s st'.bl = true) (hr : Rl g ρ st own fr) (hs : St w g own) :
    ∃ g1 ρ1 own1, g.le g1 ∧ St w g1 own1 ∧ Rl g1 (envOf s.σ ρ1) st' own1 fr ∧ SigLe σ0 s.σ ∧ ∀ b, b < st.bl.length → ρ1 b = ρ b := by
  unfold joinChk at hk
  rw [Bool.and_eq_true] at hk
  obtain ⟨hk0, hk⟩ := hk
  have hlt : ∀ b, b ∈ s.lt → False := fun b hb => by
    cases e : s.lt with
    | nil => rw [e] at hb; cases hb
    | cons x l => rw [e] at hk0; cases hk0
  obtain ⟨st2, e1, hst, hsg, hsl, hbl⟩ := absSt_ok h
  rw [hc] at e1; injection e1 with e1; subst e1
  unfold absChk at hk
  simp only [Bool.and_eq_true] at hk
  obtain ⟨hnd, hrows, hlent, hlen⟩ := hk
  have hlen := Nat.eq_of_beq_eq_true hlen
  obtain ⟨g1, ρ1, own1, hg1, hs1, hx, hr1, hρ1, hρ2⟩ := hst.do_ (sl := st.sl) hr hs
  have hctx : Ctx s.lt st.bl.length s.σ s.bl ρ1 g1 st'.bl (envOf s.σ ρ1) g1 := by
    refine ⟨.refl _, .refl _, fun j b e => simBs_ctx hbl hlen j b e, fun b bv hn e => hρ2 b hn (get_lt e), fun b c xs e => ?_, fun b c et xs hb _ => (hlt b hb).elim⟩
    obtain ⟨k0, h1, h2⟩ := hr1.own_at e
    exact h2.2
  refine ⟨g1, ρ1, pickP (ownIds s.σ 0 st'.bl) own1, hg1, keepP (ownIds s.σ 0 st'.bl) (by simpa using nodupB_ok hnd) rfl w hs1, ⟨?_, fun i bv k0 e1 e2 => ?_, fun t sv e => ?_, hr1.gi⟩, hsg, hρ1⟩
  · simp [pickP, ownIds_len]
  · have e3 : (pickP (ownIds s.σ 0 st'.bl) own1)[i]? = some (match cond bv.owned (sigAt s.σ i) none with | none => none | some b => (own1[b]?).join) := by
      unfold pickP
      rw [List.getElem?_map, ownIds_get s.σ st'.bl 0 i e1, Nat.zero_add]
      rfl
    rw [e3] at e2
    injection e2 with e2
    have hB := hbl.get e1
    rw [Nat.zero_add] at hB
    have hown : ∀ b bv0, s.bl[b]? = some bv0 → ∃ k1, own1[b]? = some k1 ∧ BlkR g1 ρ1 s.bl k1 (ρ1 b) bv0 := fun b bv0 e => hr1.own_at e
    rcases hB with rfl | ⟨b, hb1, hb2⟩
    · exact e2.symm
    · have henv : envOf s.σ ρ1 i = ρ1 b := by unfold envOf; rw [hb1]
      rw [henv]
      rw [hb1] at e2
      cases hb2 with
      | no => exact e2.symm
      | cells h hs =>
        obtain ⟨k1, h1, b0, cs, rfl, h3, h4⟩ := hown _ _ h
        have e2 : (own1[b]?).join = k0 := e2
        rw [h1] at e2
        exact ⟨b0, cs, e2.symm, h3, all2_real hctx hs h4⟩
      | @row _ c et xs h =>
        obtain ⟨b', c', et', xs', h3, h4⟩ := rowsB_get hrows e1
        rw [Nat.zero_add, hb1] at h3
        injection h3 with h3; subst h3
        obtain ⟨bv, h5, h6⟩ := h
        rw [h4] at h5; injection h5 with h5; subst h5
        rcases h6 with h6 | h6
        · rw [h6] at h4
          obtain ⟨k1, h1, h2⟩ := hown _ _ h4
          have e2 : (own1[b]?).join = k0 := e2
          rw [h1] at e2
          have e2 : k1 = k0 := e2
          subst e2
          exact h2
        · cases h6
      | lent h hs =>
        obtain ⟨k1, h1, h2, ad, cs, h3, h4, h5⟩ := hown _ _ h
        exact ⟨e2.symm, ad, cs, h3, h4, all2_real hctx hs h5⟩
      | lend hl h hs => exact (hlt b hl).elim
  · obtain ⟨y, h1, h2⟩ := hsl (t, sv) (getH_mem e)
    obtain ⟨v, h3, h4⟩ := hr1.slot t y h1
    exact ⟨v, h3, SimS.real hctx h2 h4⟩
theorem SW.weaken {K : Act → World → Prop} {n : Nat} {A : An} {g0 : Gh} {st st' : HSt} {sc : Sch} {m : Nat} {s : AS} (h : absSt false sc (sig0 0 A.np ++ nones m) st = some s) (hc : conSt id sc s.ds = some st') (hk : joinChk s st'.bl = true) (k : SW K n A g0 st') : SW K n A g0 st := by
  intro g ρ own fr hg hA hr a w hf hs
  obtain ⟨g1, ρ1, own1, hg1, hs1, hr1, hsg, hρ⟩ := weaken_sem h hc hk hr hs
  refine k g1 _ own1 fr (hg.trans hg1) (fun j hj => ?_) hr1 a w hf hs1
  have hj0 : s.σ[j]? = some (some j) := hsg j j (by
    have := sig0_get A.np 0 j hj
    rw [Nat.zero_add] at this
    rw [List.getElem?_append_left (get_lt this)]
    exact this)
  obtain ⟨h1, h2, h20⟩ := hA j hj
  obtain ⟨bv, h3, _⟩ := h2
  obtain ⟨st2, e1, hsteps, _, _, hbl⟩ := absSt_ok h
  rw [hc] at e1; injection e1 with e1; subst e1
  unfold joinChk absChk at hk
  simp only [Bool.and_eq_true] at hk
  obtain ⟨_, _, _, _, hlen⟩ := hk
  obtain ⟨h4, bv', h5, h6, h7⟩ := simBs_ctx (ρ := ρ1) hbl (Nat.eq_of_beq_eq_true hlen) j j hj0
  refine ⟨h4.trans ((hρ j (get_lt h3)).trans h1), ⟨bv', h5, h6⟩, fun bv2 m e1 e2 => ?_⟩
  rw [h5] at e1; injection e1 with e1; subst e1
  obtain ⟨bv3, e3, e4⟩ := h7 m e2
  obtain ⟨bv4, e5, e6, _⟩ := hsteps.grow.len h3
  rw [e3] at e5; injection e5 with e5; subst e5
  exact h20 bv m h3 (e6.symm.trans e4)
end Go.Proofs.YtpleflcfaecojaaGreat
