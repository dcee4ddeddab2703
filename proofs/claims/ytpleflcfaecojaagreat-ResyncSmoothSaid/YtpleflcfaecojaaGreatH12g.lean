/-
The third engine, part 12g: a region that draws its order, whatever the order. Conditions: each lemma's own.
-/
import Derived.Test.YtpleflcfaecojaaGreatH12f
namespace Go.Proofs.YtpleflcfaecojaaGreat
set_option linter.unusedVariables false
set_option linter.unusedSimpArgs false
open Go.RowKit
def Dl (listed : Array Bool) : Nat → Bool := fun k => listed.getD k false
theorem Dl_set {listed : Array Bool} {i : Nat} (h : i < listed.size) : Dl (listed.setIfInBounds i true) = setD (Dl listed) i := by
  funext k
  by_cases e : i = k
  · subst e
    rw [setD_self]
    simp [Dl, h]
  · rw [setD_ne e]
    exact getD_set_ne false e
theorem getD_in {listed : Array Bool} {i : Nat} (h : i < listed.size) : listed.getD i true = listed.getD i false := by simp [h]
def cntD (D : Nat → Bool) : Nat → Nat
  | 0 => 0
  | k + 1 => cond (D k) (cntD D k) (cntD D k + 1)
theorem cntD_same {D D' : Nat → Bool} : ∀ {k : Nat}, (∀ j, j < k → D j = D' j) → cntD D k = cntD D' k
  | 0, _ => rfl
  | k + 1, h => by
    show cond (D k) _ _ = cond (D' k) _ _
    rw [h k (Nat.lt_succ_self k), cntD_same fun j hj => h j (Nat.lt_succ_of_lt hj)]
theorem cntD_set {D : Nat → Bool} {i : Nat} (hi : D i = false) : ∀ {k : Nat}, i < k → cntD (setD D i) k + 1 = cntD D k
  | 0, h => absurd h (Nat.not_lt_zero i)
  | k + 1, h => by
    show cond (setD D i k) _ _ + 1 = cond (D k) _ _
    by_cases e : i = k
    · subst e
      rw [setD_self, hi, cntD_same (D' := D) fun j hj => setD_ne (by omega)]
      rfl
    · rw [setD_ne e]
      have := cntD_set hi (k := k) (by omega)
      cases D k with
      | true => exact this
      | false => show cntD _ k + 1 + 1 = cntD D k + 1; rw [this]
theorem cntD_zero {D : Nat → Bool} : ∀ {k : Nat}, cntD D k = 0 → ∀ j, j < k → D j = true
  | 0, _, j, hj => absurd hj (Nat.not_lt_zero j)
  | k + 1, h, j, hj => by
    have h : cond (D k) (cntD D k) (cntD D k + 1) = 0 := h
    cases e : D k with
    | false => rw [e] at h; cases h
    | true =>
      rw [e] at h
      by_cases e2 : j = k
      · subst e2; exact e
      · exact cntD_zero h j (by omega)
section
variable {P : Program} {S : Stp P} {n : Nat} {ops : Array Oper} {A : An} {g0 : Gh} {Q : Exit → Act → World → Prop}
theorem wanted_of {sl : List (Nat × SV)} {o : Oper} {b : Bool} (h : wantS ops sl o = some b) {g : Gh} {ρ : Env} {own : Own} {fr : Sl} {bl : List BV} {a : Act} (hr : Rl g ρ ⟨sl, bl⟩ own fr) (hf : Fr n a fr) : Region.wanted o (yielded ops a.tmps) = b := by
  unfold wantS at h
  split at h
  · rename_i hg
    injection h with h; subst h
    simp [Region.wanted, hg]
  · rename_i j want hg
    split at h
    · cases h
    · rename_i t hj
      split at h
      · rename_i c hc
        injection h with h; subst h
        exact wanted_at hg hj hc hr hf
      · rename_i hc
        injection h with h; subst h
        exact wanted_und hg hj hc hr hf
      · cases h
theorem ready_all {st0 st : HSt} {rc : Nat → RcD} {acc : DAcc} (I : InvD S n ops st0 ops.size rc acc st) {listed : Array Bool} (hs : listed.size = ops.size) (h : Region.ready .any ops listed = []) : ∀ k, k < ops.size → Dl listed k = true := by
  intro k
  induction k using Nat.strongRecOn with
  | _ k ih =>
    intro hk
    cases e : Dl listed k with
    | true => rfl
    | false =>
      exfalso
      have : k ∈ Region.ready .any ops listed := by
        rw [mem_ready]
        refine ⟨by rw [getD_in (by omega)]; exact e, ?_⟩
        obtain ⟨o, ho⟩ := I.op k hk
        refine ⟨o, ho, fun x hx hb => ?_⟩
        have := I.fwd k hk o x ho (by simpa using hx) hb
        exact ih x.on this (by omega)
      rw [h] at this
      cases this
theorem any_ok {st0 st : HSt} {rc : Nat → RcD} {acc : DAcc} (I : InvD S n ops st0 ops.size rc acc st) (hK : SW (Q .normal) n A g0 (stD (fun _ => true) st0 rc ops.size)) :
    ∀ (fuel : Nat) (listed : Array Bool), listed.size = ops.size → Closed ops (Dl listed) → cntD (Dl listed) ops.size ≤ fuel → SW (wpAny P .any ops Q fuel listed) n A g0 (stD (Dl listed) st0 rc ops.size) := by
  have hwf : ∀ j, j < ops.size → (rc j).Wf := fun j hj => by
    obtain ⟨o, ho⟩ := I.op j hj
    exact (I.ok j o hj ho).wf
  have hdone : ∀ listed : Array Bool, (∀ k, k < ops.size → Dl listed k = true) → SW (Q .normal) n A g0 (stD (Dl listed) st0 rc ops.size) := fun listed h => by
    rw [stD_same (D' := fun _ => true) h]; exact hK
  intro fuel
  induction fuel with
  | zero =>
    intro listed hs hc hn
    have hall := cntD_zero (Nat.le_zero.1 hn)
    intro g ρ own fr hg hA hr a w hf hw
    refine ⟨?_, hdone listed hall g ρ own fr hg hA hr a w hf hw⟩
    refine List.eq_nil_iff_forall_not_mem.2 fun i hi => ?_
    obtain ⟨h1, o, ho, _⟩ := mem_ready.1 hi
    have hi2 : i < ops.size := (Array.getElem?_eq_some_iff.1 ho).1
    rw [getD_in (by omega)] at h1
    have := hall i hi2
    unfold Dl at this
    rw [h1] at this; cases this
  | succ fuel ih =>
    intro listed hs hc hn g ρ own fr hg hA hr a w hf hw
    refine ⟨fun h0 => hdone listed (ready_all I hs h0) g ρ own fr hg hA hr a w hf hw, fun i hi => ?_⟩
    obtain ⟨h1, o, ho, hpre⟩ := mem_ready.1 hi
    have hi2 : i < ops.size := (Array.getElem?_eq_some_iff.1 ho).1
    rw [getD_in (by omega)] at h1
    have hDi : Dl listed i = false := h1
    have hset := Dl_set (listed := listed) (i := i) (by omega)
    have hc2 : Closed ops (setD (Dl listed) i) := fun k o' e ho' he hb hk => by
      by_cases ek : i = k
      · subst ek
        rw [ho] at ho'; injection ho' with ho'; subst ho'
        have := hpre e (by simpa using he) hb
        by_cases ee : i = e.on
        · rw [ee]; exact setD_self
        · rw [setD_ne ee]; exact this
      · rw [setD_ne ek] at hk
        have := hc k o' e ho' he hb hk
        by_cases ee : i = e.on
        · rw [ee]; exact setD_self
        · rw [setD_ne ee]; exact this
    have later : ∀ j, i < j → j < ops.size → Dl listed j = true → Apart (rc j).f4 (rc i).f4 := fun j h2 h3 h4 => by
      rcases I.sep j i h2 h3 with h | h
      · exact h
      · have := h _ hc h4; rw [hDi] at this; cases this
    have before : ∀ j, j < ops.size → j < i → Dl listed j = false → Apart (rc i).f4 (rc j).f4 := fun j h2 h3 h4 => by
      rcases I.sep i j h3 hi2 with h | h
      · exact h
      · have := h _ hc2 setD_self; rw [setD_ne (by omega), h4] at this; cases this
    have R := I.ok i o hi2 ho
    obtain ⟨lb, ls⟩ := stD_looks (st0 := st0) rfl R.sR hDi hwf later before
    rw [Nat.min_eq_left (by omega)] at lb ls
    have next := (ih (listed.setIfInBounds i true) (by simpa using hs) (by rw [hset]; exact hc2) (by rw [hset]; have := cntD_set hDi hi2; omega))
    rw [hset] at next
    have next := next.eqv (stD_put (st0 := st0) hDi hi2 hwf later).symm
    have hls : ∀ t ∈ opSlots o.op, getH (stD (Dl listed) st0 rc ops.size).sl t = getH (stD (fun _ => true) st0 rc i).sl t := fun t ht => ls t (by unfold lookM; rw [hasN_uni, hasN_bits ht]; rfl)
    have hre := restr_congr hls
    have hws : wantS ops (stD (Dl listed) st0 rc ops.size).sl o = wantS ops (stD (fun _ => true) st0 rc i).sl o := by
      unfold wantS
      cases hgd : o.guard with
      | none => rfl
      | some q =>
        obtain ⟨j, want⟩ := q
        dsimp only
        cases hj : dstAt ops j with
        | none => rfl
        | some t =>
          dsimp only
          rw [ls t (by unfold lookM; rw [hasN_uni, hgd]; dsimp only; rw [hj]; dsimp only; rw [hasN_bit]; simp)]
    unfold wpOp
    rw [ho]
    dsimp only
    rcases R.how with ⟨hwt, f, hh, hhb, ht⟩ | ⟨hwt, hv, hE, d, hd⟩
    · rw [wanted_of (hws.trans hwt) hr hf, if_pos rfl]
      left
      have hold := TolD.told ht (bl2 := (stD (Dl listed) st0 rc ops.size).bl) (by rw [stD_len, stD_len]) lb
      rw [← hre] at hold
      have heff := S.ok (n := n) (fun k hk => by
        rw [hre] at hk
        rw [lb _ (hhb k hk)]
        exact areHoles_spec hh k hk) hold
      refine heff.sub (fun t sv h => restr_get h) o a w Q _ g ρ own fr rfl rfl hr hf hw fun v' g' ρ' own' w' hg' hx hs' hr' hv' => ?_
      have e : apR (rc i) (stD (Dl listed) st0 rc ops.size) = ⟨putL o.dst (rc i).v (stD (Dl listed) st0 rc ops.size).sl, setUpd (stD (Dl listed) st0 rc ops.size).bl (rc i).E⟩ := by
        unfold apR; rw [R.d]
      rw [e] at next
      cases hd : o.dst with
      | none =>
        rw [hd] at next
        exact next g' ρ' own' fr (hg.trans hg') (hA.ext hx) hr' a w' hf hs'
      | some d =>
        rw [hd] at next
        exact next g' ρ' own' ((d, v') :: fr) (hg.trans hg') (hA.ext hx) (hr'.put d hv') _ w' (hf.put (R.lt d hd) v') hs'
    · rw [wanted_of (hws.trans hwt) hr hf, if_neg (by simp)]
      have e : apR (rc i) (stD (Dl listed) st0 rc ops.size) = ⟨(d, .und) :: (stD (Dl listed) st0 rc ops.size).sl, (stD (Dl listed) st0 rc ops.size).bl⟩ := by
        unfold apR; rw [R.d, hd, hv, hE]; rfl
      rw [e] at next
      rw [hd]
      exact next g ρ own ((d, undef) :: fr) hg hA (hr.put d rfl) _ w (hf.put (R.lt d hd) _) hw
theorem evD_ok {ρ : Type} {r : ρ} {st : HSt} {K : HSt → Option ρ} (hm : P.follows .mixedOrders = true) {id : Nat} {f : Nat} (h : evD S n ops ops.size 0 ⟨f, [], []⟩ st K = some r) (hK : ∀ st', K st' = some r → SW (Q .normal) n A g0 st') : SW (Code.wp P (.region id ops true) Q) n A g0 st := by
  have I0 : InvD S n ops st 0 (fun _ => ⟨none, [], .und, ⟨0, 0, 0, 0⟩⟩) ⟨f, [], []⟩ st :=
    ⟨fun k _ hk => absurd hk (Nat.not_lt_zero k), fun k hk => absurd hk (Nat.not_lt_zero k), fun k hk => absurd hk (Nat.not_lt_zero k), fun k j _ hk => absurd hk (Nat.not_lt_zero k), fun k hk => absurd hk (Nat.not_lt_zero k), fun k hk => absurd hk (Nat.not_lt_zero k), .refl⟩
  obtain ⟨rc, acc, st', I, h'⟩ := evD_inv I0 h
  have hk := (hK st' h').eqv I.eqv.symm
  have hD : Dl (Array.replicate ops.size false) = fun _ => false := by
    funext k
    by_cases hk : k < ops.size <;> simp [Dl, Array.getElem?_replicate, hk]
  have hcnt : ∀ k, cntD (fun _ => false) k ≤ k := fun k => by
    induction k with
    | zero => exact Nat.le_refl 0
    | succ k ih => exact Nat.succ_le_succ ih
  have hst : ∀ k, stD (fun _ => false) st rc k = st := fun k => by
    induction k with
    | zero => rfl
    | succ k ih => exact ih
  have := any_ok I hk ops.size (Array.replicate ops.size false) (by simp) (by rw [hD]; exact fun k o e _ _ _ h => by cases h) (by rw [hD]; exact hcnt _)
  rw [hD, hst] at this
  intro g ρ own fr hg hA hr a w hf hw
  exact wp_region_any hm (this g ρ own fr hg hA hr a w.drew hf hw.drew)
end
end Go.Proofs.YtpleflcfaecojaaGreat
