/-
The third engine, part 12e: the states that a region which draws its order may come to. Conditions: each lemma's own.
-/
import Derived.Test.YtpleflcfaecojaaGreatH12d
namespace Go.Proofs.YtpleflcfaecojaaGreat
set_option linter.unusedVariables false
set_option linter.unusedSimpArgs false
open Go.RowKit
structure F4 where
  bR : Nat
  bW : Nat
  sR : Nat
  sW : Nat
def dj (x y : F4) : Bool := sepN x.bW (uniN y.bR y.bW) && (sepN y.bW x.bR && (sepN x.sW (uniN y.sR y.sW) && sepN y.sW x.sR))
structure RcD where
  d : Option Nat
  E : List (Nat × BV)
  v : SV
  f4 : F4
def putL (d : Option Nat) (v : SV) (sl : List (Nat × SV)) : List (Nat × SV) := match d with | some d => (d, v) :: sl | none => sl
def apR (r : RcD) (st : HSt) : HSt := ⟨putL r.d r.v st.sl, setUpd st.bl r.E⟩
def stD (D : Nat → Bool) (st0 : HSt) (rc : Nat → RcD) : Nat → HSt
  | 0 => st0
  | k + 1 => cond (D k) (apR (rc k) (stD D st0 rc k)) (stD D st0 rc k)
def Eqv (s t : HSt) : Prop := s.bl = t.bl ∧ ∀ x, getH s.sl x = getH t.sl x
theorem Eqv.refl {s : HSt} : Eqv s s := ⟨rfl, fun _ => rfl⟩
theorem Eqv.trans {s t u : HSt} (h : Eqv s t) (k : Eqv t u) : Eqv s u := ⟨h.1.trans k.1, fun x => (h.2 x).trans (k.2 x)⟩
theorem Eqv.symm {s t : HSt} (h : Eqv s t) : Eqv t s := ⟨h.1.symm, fun x => (h.2 x).symm⟩
theorem getH_cons {d t : Nat} {v : SV} {l : List (Nat × SV)} : getH ((d, v) :: l) t = cond (Nat.beq d t) (some v) (getH l t) := rfl
theorem getH_putL {d : Option Nat} {v : SV} {l : List (Nat × SV)} {t : Nat} : getH (putL d v l) t = match d with | some d => cond (Nat.beq d t) (some v) (getH l t) | none => getH l t := by cases d <;> rfl
theorem Eqv.ap {s t : HSt} (h : Eqv s t) (r : RcD) : Eqv (apR r s) (apR r t) := by
  refine ⟨by show setUpd _ _ = setUpd _ _; rw [h.1], fun x => ?_⟩
  show getH (putL _ _ _) x = getH (putL _ _ _) x
  rw [getH_putL, getH_putL]
  cases r.d with
  | none => exact h.2 x
  | some d => dsimp only; rw [h.2 x]
theorem Rl.eqv {g : Gh} {ρ : Env} {own : Own} {fr : Sl} {s t : HSt} (h : Rl g ρ s own fr) (e : Eqv s t) : Rl g ρ t own fr := by
  obtain ⟨sl, bl⟩ := s
  obtain ⟨sl', bl'⟩ := t
  obtain ⟨e1, e2⟩ := e
  have e1 : bl = bl' := e1
  subst e1
  exact h.sub fun t sv h => (e2 t).trans h
theorem SW.eqv {K : Act → World → Prop} {n : Nat} {A : An} {g0 : Gh} {s t : HSt} (h : SW K n A g0 t) (e : Eqv s t) : SW K n A g0 s := fun g ρ own fr hg hA hr => h g ρ own fr hg (by rw [← e.1]; exact hA) (hr.eqv e)
structure RcD.Wf (r : RcD) : Prop where
  b : ∀ b u, lastE r.E b = some u → hasN r.f4.bW b = true
  s : ∀ d, r.d = some d → hasN r.f4.sW d = true
structure Apart (x y : F4) : Prop where
  b1 : ∀ b, hasN x.bW b = true → hasN y.bR b = false ∧ hasN y.bW b = false
  b2 : ∀ b, hasN y.bW b = true → hasN x.bR b = false
  s1 : ∀ b, hasN x.sW b = true → hasN y.sR b = false ∧ hasN y.sW b = false
  s2 : ∀ b, hasN y.sW b = true → hasN x.sR b = false
theorem dj_spec {x y : F4} (h : dj x y = true) : Apart x y := by
  unfold dj at h
  simp only [Bool.and_eq_true] at h
  obtain ⟨h1, h2, h3, h4⟩ := h
  refine ⟨fun b hb => ?_, fun b hb => sepN_spec h2 hb, fun b hb => ?_, fun b hb => sepN_spec h4 hb⟩
  · have := sepN_spec h1 hb
    rw [hasN_uni, Bool.or_eq_false_iff] at this
    exact this
  · have := sepN_spec h3 hb
    rw [hasN_uni, Bool.or_eq_false_iff] at this
    exact this
theorem Apart.symm {x y : F4} (h : Apart x y) : Apart y x := by
  refine ⟨fun b hb => ⟨h.b2 b hb, ?_⟩, fun b hb => (h.b1 b hb).1, fun b hb => ⟨h.s2 b hb, ?_⟩, fun b hb => (h.s1 b hb).1⟩
  · cases e : hasN x.bW b with
    | false => rfl
    | true => rw [(h.b1 b e).2] at hb; cases hb
  · cases e : hasN x.sW b with
    | false => rfl
    | true => rw [(h.s1 b e).2] at hb; cases hb
theorem lastE_none {r : RcD} (h : r.Wf) {b : Nat} (hb : hasN r.f4.bW b = false) : lastE r.E b = none := by
  cases e : lastE r.E b with
  | none => rfl
  | some u => rw [h.b b u e] at hb; cases hb
theorem ap_comm {x y : RcD} {s : HSt} (hx : x.Wf) (hy : y.Wf) (h : Apart x.f4 y.f4) : Eqv (apR x (apR y s)) (apR y (apR x s)) := by
  constructor
  · show setUpd (setUpd s.bl y.E) x.E = setUpd (setUpd s.bl x.E) y.E
    refine List.ext_getElem? fun b => ?_
    rw [setUpd_get, setUpd_get, setUpd_get, setUpd_get, setUpd_lenD, setUpd_lenD]
    cases e : lastE x.E b with
    | none => rfl
    | some u => rw [lastE_none hy (h.b1 b (hx.b b u e)).2]
  · intro t
    show getH (putL x.d x.v (putL y.d y.v s.sl)) t = getH (putL y.d y.v (putL x.d x.v s.sl)) t
    rw [getH_putL, getH_putL, getH_putL, getH_putL]
    cases e1 : x.d with
    | none => rfl
    | some d =>
      cases e2 : y.d with
      | none => rfl
      | some c =>
        dsimp only
        have hd := (h.s1 d (hx.s d e1)).2
        have hc := hy.s c e2
        cases hb : Nat.beq d t with
        | false => rfl
        | true =>
          have := Nat.eq_of_beq_eq_true hb
          subst this
          cases hb2 : Nat.beq c d with
          | false => rfl
          | true =>
            have := Nat.eq_of_beq_eq_true hb2
            subst this
            rw [hc] at hd; cases hd
theorem stD_len {D : Nat → Bool} {st0 : HSt} {rc : Nat → RcD} : ∀ {k : Nat}, (stD D st0 rc k).bl.length = st0.bl.length
  | 0 => rfl
  | k + 1 => by
    show (cond (D k) _ _ : HSt).bl.length = _
    cases D k with
    | false => exact stD_len
    | true => exact (setUpd_lenD (E := (rc k).E)).trans stD_len
theorem stD_same {D D' : Nat → Bool} {st0 : HSt} {rc : Nat → RcD} : ∀ {k : Nat}, (∀ j, j < k → D j = D' j) → stD D st0 rc k = stD D' st0 rc k
  | 0, _ => rfl
  | k + 1, h => by
    show cond (D k) _ _ = cond (D' k) _ _
    rw [h k (Nat.lt_succ_self k), stD_same fun j hj => h j (Nat.lt_succ_of_lt hj)]
theorem stD_rc {D : Nat → Bool} {st0 : HSt} {rc rc' : Nat → RcD} : ∀ {k : Nat}, (∀ j, j < k → rc j = rc' j) → stD D st0 rc k = stD D st0 rc' k
  | 0, _ => rfl
  | k + 1, h => by
    show cond (D k) _ _ = cond (D k) _ _
    rw [h k (Nat.lt_succ_self k), stD_rc fun j hj => h j (Nat.lt_succ_of_lt hj)]
def setD (D : Nat → Bool) (i : Nat) : Nat → Bool := fun k => cond (Nat.beq i k) true (D k)
theorem setD_self {D : Nat → Bool} {i : Nat} : setD D i i = true := by simp [setD]
theorem setD_ne {D : Nat → Bool} {i k : Nat} (h : i ≠ k) : setD D i k = D k := by
  have : Nat.beq i k = false := by
    cases hb : Nat.beq i k with
    | false => rfl
    | true => exact absurd (Nat.eq_of_beq_eq_true hb) h
  simp [setD, this]
theorem stD_put {D : Nat → Bool} {st0 : HSt} {rc : Nat → RcD} {i : Nat} (hi : D i = false) : ∀ {k : Nat}, i < k → (∀ j, j < k → (rc j).Wf) → (∀ j, i < j → j < k → D j = true → Apart (rc j).f4 (rc i).f4) → Eqv (stD (setD D i) st0 rc k) (apR (rc i) (stD D st0 rc k))
  | 0, h, _, _ => absurd h (Nat.not_lt_zero i)
  | k + 1, h, hw, ha => by
    rcases Nat.lt_or_ge i k with hk | hk
    · have ih := stD_put (st0 := st0) hi hk (fun j hj => hw j (by omega)) fun j h1 h2 => ha j h1 (by omega)
      show Eqv (cond (setD D i k) _ _) (apR _ (cond (D k) _ _))
      rw [setD_ne (by omega)]
      cases hd : D k with
      | false => exact ih
      | true => exact (ih.ap (rc k)).trans (ap_comm (hw k (by omega)) (hw i (by omega)) (ha k hk (by omega) hd))
    · have : i = k := by omega
      subst this
      show Eqv (cond (setD D i i) _ _) (apR _ (cond (D i) _ _))
      rw [setD_self, hi, stD_same (D' := D) fun j hj => setD_ne (by omega)]
      exact .refl
theorem stD_looks {D : Nat → Bool} {st0 : HSt} {rc : Nat → RcD} {i : Nat} {bR sR : Nat} (hb : (rc i).f4.bR = bR) (hs : (rc i).f4.sR = sR) (hi : D i = false) : ∀ {k : Nat}, (∀ j, j < k → (rc j).Wf) → (∀ j, i < j → j < k → D j = true → Apart (rc j).f4 (rc i).f4) → (∀ j, j < k → j < i → D j = false → Apart (rc i).f4 (rc j).f4) →
    (∀ b, hasN bR b = true → (stD D st0 rc k).bl[b]? = (stD (fun _ => true) st0 rc (min i k)).bl[b]?) ∧ ∀ t, hasN sR t = true → getH (stD D st0 rc k).sl t = getH (stD (fun _ => true) st0 rc (min i k)).sl t
  | 0, _, _, _ => by rw [Nat.min_zero]; exact ⟨fun _ _ => rfl, fun _ _ => rfl⟩
  | k + 1, hw, h1, h2 => by
    have ih := stD_looks (st0 := st0) hb hs hi (k := k) (fun j hj => hw j (by omega)) (fun j a b => h1 j a (by omega)) (fun j a => h2 j (by omega))
    have wk := hw k (by omega)
    -- an operation that may not touch
    have skip : Apart (rc k).f4 (rc i).f4 → ∀ s : HSt, (∀ b, hasN bR b = true → (apR (rc k) s).bl[b]? = s.bl[b]?) ∧ ∀ t, hasN sR t = true → getH (apR (rc k) s).sl t = getH s.sl t := fun ap s => by
      refine ⟨fun b hb2 => ?_, fun t ht => ?_⟩
      · show (setUpd s.bl (rc k).E)[b]? = _
        rw [setUpd_get, lastE_none wk]
        cases e : hasN (rc k).f4.bW b with
        | false => rfl
        | true => have := (ap.b1 b e).1; rw [hb, hb2] at this; cases this
      · show getH (putL _ _ _) t = _
        rw [getH_putL]
        cases e : (rc k).d with
        | none => rfl
        | some d =>
          dsimp only
          cases hbq : Nat.beq d t with
          | false => rfl
          | true =>
            have := Nat.eq_of_beq_eq_true hbq
            subst this
            have := (ap.s1 d (wk.s d e)).1
            rw [hs, ht] at this; cases this
    rcases Nat.lt_or_ge k i with hk | hk
    · rw [show min i (k + 1) = k + 1 by omega]
      rw [show min i k = k by omega] at ih
      show (∀ b, hasN bR b = true → (cond (D k) _ _ : HSt).bl[b]? = (apR _ _).bl[b]?) ∧ ∀ t, hasN sR t = true → getH (cond (D k) _ _ : HSt).sl t = getH (apR _ _).sl t
      cases hd : D k with
      | true =>
        refine ⟨fun b hb2 => ?_, fun t ht => ?_⟩
        · show (setUpd _ _)[b]? = (setUpd _ _)[b]?
          rw [setUpd_get, setUpd_get, stD_len, stD_len, ih.1 b hb2]
        · show getH (putL _ _ _) t = getH (putL _ _ _) t
          rw [getH_putL, getH_putL, ih.2 t ht]
      | false =>
        have sk := skip (h2 k (by omega) hk hd).symm (stD (fun _ => true) st0 rc k)
        exact ⟨fun b hb2 => (ih.1 b hb2).trans (sk.1 b hb2).symm, fun t ht => (ih.2 t ht).trans (sk.2 t ht).symm⟩
    · rw [show min i (k + 1) = i by omega]
      rw [show min i k = i by omega] at ih
      show (∀ b, hasN bR b = true → (cond (D k) _ _ : HSt).bl[b]? = _) ∧ ∀ t, hasN sR t = true → getH (cond (D k) _ _ : HSt).sl t = _
      cases hd : D k with
      | false => exact ih
      | true =>
        have hne : i ≠ k := fun e => by subst e; rw [hi] at hd; cases hd
        have sk := skip (h1 k (by omega) (by omega) hd) (stD D st0 rc k)
        exact ⟨fun b hb2 => (sk.1 b hb2).trans (ih.1 b hb2), fun t ht => (sk.2 t ht).trans (ih.2 t ht)⟩
end Go.Proofs.YtpleflcfaecojaaGreat
