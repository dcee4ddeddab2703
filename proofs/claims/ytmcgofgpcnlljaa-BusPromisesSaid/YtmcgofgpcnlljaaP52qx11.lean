/-
The checks of a list of messages (law BusPromises). Conditions: each lemma's own.
-/
import Derived.Test.YtmcgofgpcnlljaaPB
import Derived.Test.YtmcgofgpcnlljaaK11x0
namespace Go.Proofs.Ytmcgofgpcnlljaa
set_option linter.unusedVariables false
set_option linter.unusedSimpArgs false
open Go.RowKit
theorem o12_true : o12 = some true := by kernel_rfl
theorem grd_at {p : Prop} [Decidable p] {α : Type} {A : Option α} (h : p) : grd (decide p) A = A := grd_pos (dt h)
def badP (p : Int) : Bool := (((((p != 1) && (p != 2)) && (p != 4)) && (p != 8)) && (p != 16)) && (p != 32)
theorem bad_small : ∀ k : _root_.Fin 33, ((decide (((k.val : Nat) : Int) < 1) || decide (((k.val : Nat) : Int) > 32)) || ((landK .i64 ((k.val : Nat) : Int) (((k.val : Nat) : Int) - 1)) != 0)) = badP ((k.val : Nat) : Int) := by decide +kernel
theorem bad_eq (p : Int) : ((decide (p < 1) || decide (p > 32)) || ((landK .i64 p (p - 1)) != 0)) = badP p := by
  by_cases h : 0 ≤ p ∧ p ≤ 32
  · have := bad_small ⟨p.toNat, by omega⟩
    have e : ((p.toNat : Nat) : Int) = p := by omega
    simp only [e] at this
    exact this
  · have h1 : badP p = true := by
      unfold badP
      rw [neq_t (by omega : p ≠ 1), neq_t (by omega : p ≠ 2), neq_t (by omega : p ≠ 4), neq_t (by omega : p ≠ 8), neq_t (by omega : p ≠ 16), neq_t (by omega : p ≠ 32)]
      rfl
    rw [h1]
    by_cases h2 : p < 1
    · rw [dt h2]; rfl
    · rw [dt (p := p > 32) (by omega), Bool.or_true, Bool.true_or]
theorem bad_in {p : Int} (h : badP p = false) : 1 ≤ p ∧ p ≤ 32 := by
  rw [← bad_eq] at h
  rw [Bool.or_eq_false_iff, Bool.or_eq_false_iff] at h
  have h1 := of_decide_eq_false h.1.1
  have h2 := of_decide_eq_false h.1.2
  omega
def eM (l : List Msg) (k : Nat) : Option Int :=
  if ((badP (l.getD k default).period || decide ((l.getD k default).length < 1)) || decide ((l.getD k default).length > 1000)) = true then some 1
  else if ∀ j, j < k → (l.getD j default).label ≠ (l.getD k default).label then none else some 7
def firstE (e : Nat → Option Int) : Nat → Nat → Option Int
  | _, 0 => none
  | k, m + 1 => match e k with
    | some v => some v
    | none => firstE e (k + 1) m
def outE : Option Int → Ctl Unit Int
  | none => .go ()
  | some v => .done v
theorem loop_first {σ : Type} {f : σ → Option (Ctl σ (Ctl Unit Int))} (n : Nat) (e : Nat → Option Int) (R : Nat → σ → Prop)
    (h : ∀ k s, k < n → R k s → (e k = none ∧ ∃ s', f s = some (.go s') ∧ R (k + 1) s') ∨ ∃ v, e k = some v ∧ f s = some (.done (.done v)))
    (hn : ∀ s, R n s → f s = some (.done (.go ()))) : ∀ (m k N : Nat) (s : σ), R k s → k + m = n → m < N → loopO N f s = some (outE (firstE e k m))
  | 0, k, N, s, hR, hk, hN => by
    obtain ⟨N', rfl⟩ : ∃ N', N = N' + 1 := ⟨N - 1, by omega⟩
    obtain rfl : k = n := by omega
    exact loopO_done (hn s hR)
  | m + 1, k, N, s, hR, hk, hN => by
    obtain ⟨N', rfl⟩ : ∃ N', N = N' + 1 := ⟨N - 1, by omega⟩
    rcases h k s (by omega) hR with ⟨he, s', hf, hR'⟩ | ⟨v, he, hf⟩
    · rw [loopO_go hf, loop_first n e R h hn m (k + 1) N' s' hR' (by omega) (by omega)]
      unfold firstE
      rw [he]
      cases m <;> rfl
    · rw [loopO_done hf]
      unfold firstE
      rw [he]
      rfl
theorem first_none (e : Nat → Option Int) : ∀ (m k : Nat), firstE e k m = none → ∀ j, k ≤ j → j < k + m → e j = none
  | 0, k, _, j, h1, h2 => by omega
  | m + 1, k, h, j, h1, h2 => by
    unfold firstE at h
    cases he : e k with
    | some v => rw [he] at h; cases h
    | none =>
      rw [he] at h
      by_cases hj : j = k
      · subst hj; exact he
      · exact first_none e m (k + 1) h j (by omega) (by omega)
def okL (l : List Msg) : Prop := ∀ j, j < l.length → 0 ≤ (l.getD j default).label ∧ (l.getD j default).label ≤ 255
def chkC (l : List Msg) : Int := match outE (firstE (eM l) 0 l.length) with | .go _ => 0 | .done v => v
theorem o37_eq (l : List Msg) (hl : l.length ≤ 32) (ok : okL l) : o37 l = some (chkC l) := by
  unfold o37
  rw [df (by omega)]
  simp only [cond_false]
  rw [loop_first (f := o37_L0 l) l.length (eM l) (fun k s => s.1 = k ∧ s.2.length = 256 ∧ ∀ v, v < 256 → (s.2.getD v false = true ↔ ∃ j, j < k ∧ (l.getD j default).label = ((v : Nat) : Int))) (by
    rintro k ⟨k', tab⟩ hk ⟨rfl, ht, htab⟩
    simp only at hk ht htab
    unfold o37_L0 eM
    obtain ⟨M, hM⟩ : ∃ M : Int, M = 9223372036854775807 := ⟨_, rfl⟩
    rw [← hM, bad_eq]
    simp only
    rw [dt (by omega : ((k' : Nat) : Int) < ((l.length : Nat) : Int))]
    simp only [cond_true]
    cases hb : ((badP (l.getD k' default).period || decide ((l.getD k' default).length < 1)) || decide ((l.getD k' default).length > 1000)) with
    | true => exact .inr ⟨1, if_pos rfl, rfl⟩
    | false =>
    simp only [cond_false]
    have hlab := ok k' hk
    have hi : (((l.getD k' default).label.toNat : Nat) : Int) = (l.getD k' default).label := by omega
    have hv := htab (l.getD k' default).label.toNat (by omega)
    rw [hi] at hv
    rw [grd_at (by omega), grd_at (by omega), grd_at (by omega), if_neg (by decide)]
    cases hd : (tab.getD (l.getD k' default).label.toNat false) with
    | true =>
      obtain ⟨j, hj, he⟩ := hv.1 hd
      exact .inr ⟨7, if_neg (fun h => h j hj he), rfl⟩
    | false =>
      have hno : ∀ j, j < k' → (l.getD j default).label ≠ (l.getD k' default).label := fun j hj he => by
        have := hv.2 ⟨j, hj, he⟩
        rw [hd] at this; cases this
      refine .inl ⟨if_pos hno, _, rfl, rfl, by simp only [List.length_set]; exact ht, fun v hv' => ?_⟩
      simp only
      rw [List.getD_eq_getElem?_getD, List.getElem?_set]
      by_cases hev : (l.getD k' default).label.toNat = v
      · rw [if_pos hev, if_pos (by omega)]
        exact ⟨fun _ => ⟨k', by omega, by omega⟩, fun _ => rfl⟩
      · rw [if_neg hev, ← List.getD_eq_getElem?_getD, htab v hv']
        constructor
        · rintro ⟨j, hj, he⟩; exact ⟨j, by omega, he⟩
        · rintro ⟨j, hj, he⟩
          by_cases hjk : j = k'
          · subst hjk; omega
          · exact ⟨j, by omega, he⟩) (by
    rintro ⟨k', tab⟩ ⟨rfl, ht, htab⟩
    unfold o37_L0
    obtain ⟨M, hM⟩ : ∃ M : Int, M = 9223372036854775807 := ⟨_, rfl⟩
    rw [← hM]
    exact cond_neg (df (by simp only; omega))) l.length 0 fuelN (0, List.replicate 256 false) ⟨rfl, List.length_replicate, fun v hv => by
      rw [List.getD_eq_getElem?_getD, List.getElem?_replicate, if_pos hv]
      constructor
      · intro h; cases h
      · rintro ⟨j, hj, -⟩; omega⟩ (by omega) (by simp only [fuelN]; omega)]
  unfold chkC
  cases firstE (eM l) 0 l.length <;> rfl
theorem chk_none (l : List Msg) (h0 : chkC l = 0) : firstE (eM l) 0 l.length = none := by
  unfold chkC at h0
  cases hf : firstE (eM l) 0 l.length with
  | none => rfl
  | some v =>
    exfalso
    rw [hf] at h0
    have h0 : v = 0 := h0
    subst h0
    have key : ∀ (m k : Nat), firstE (eM l) k m ≠ some 0 := by
      intro m
      induction m with
      | zero => intro k h; cases h
      | succ m ih =>
        intro k h
        unfold firstE at h
        cases he : eM l k with
        | none => rw [he] at h; exact ih _ h
        | some w =>
          rw [he] at h
          have h : w = 0 := by simpa using h
          subst h
          unfold eM at he
          split at he
          · simp at he
          · split at he
            · cases he
            · simp at he
    exact key _ _ hf
theorem chk_dist (l : List Msg) (h0 : chkC l = 0) : ∀ i j, i < l.length → j < l.length → (l.getD i default).label = (l.getD j default).label → i = j := by
  have hn := chk_none l h0
  have key : ∀ i j, i < j → j < l.length → (l.getD i default).label ≠ (l.getD j default).label := fun i j hij hj => by
    have := first_none _ _ _ hn j (Nat.zero_le _) (by omega)
    unfold eM at this
    split at this
    · cases this
    · split at this
      · rename_i h; exact h i hij
      · cases this
  intro i j hi hj e
  rcases Nat.lt_trichotomy i j with h | h | h
  · exact absurd e (key i j h hj)
  · exact h
  · exact absurd e.symm (key j i h hi)
theorem o49_told (x : List Int) (cap : Int) (hx : x.length = 32) : ∃ m, o49 x = some m ∧ (m > cap ↔ ∃ j, j < 32 ∧ x.getD j 0 > cap) := by
  unfold o49
  rw [df (by omega)]
  simp only [cond_false]
  obtain ⟨r, h, hr⟩ := loopO_ok (f := o49_L0 x) (fun s => (1 ≤ s.2 ∧ s.2 ≤ 32) ∧ (s.1 > cap ↔ ∃ j, j < s.2 ∧ x.getD j 0 > cap)) (fun s => 32 - s.2) (fun r => r > cap ↔ ∃ j, j < 32 ∧ x.getD j 0 > cap) (by
    rintro ⟨a, s⟩ ⟨hs, ha⟩
    simp only at hs ha
    unfold o49_L0
    obtain ⟨M, hM⟩ : ∃ M : Int, M = 9223372036854775807 := ⟨_, rfl⟩
    rw [← hM]
    simp only
    by_cases hlt : s < 32
    · rw [dt (by omega : ((s : Nat) : Int) < ((x.length : Nat) : Int))]
      simp only [cond_true]
      rw [grd_at (by omega)]
      refine .inl ⟨_, rfl, ⟨by simp only; omega, ?_⟩, by simp only; omega⟩
      simp only
      have hm : maxI a (x.getD s 0) > cap ↔ (a > cap ∨ x.getD s 0 > cap) := by unfold maxI; split <;> omega
      rw [hm, ha]
      constructor
      · rintro (⟨j, hj, h⟩ | h)
        · exact ⟨j, by omega, h⟩
        · exact ⟨s, by omega, h⟩
      · rintro ⟨j, hj, h⟩
        by_cases hjs : j = s
        · subst hjs; exact .inr h
        · exact .inl ⟨j, by omega, h⟩
    · obtain rfl : s = 32 := by omega
      exact .inr ⟨a, cond_neg (df (by omega)), ha⟩) fuelN (x.getD 0 0, 1) ⟨⟨Nat.le_refl _, by simp only; omega⟩, ⟨fun h => ⟨0, by simp only; omega, h⟩, fun ⟨j, hj, h⟩ => by
        have : j = 0 := by simp only at hj; omega
        subst this; exact h⟩⟩ (by simp only [fuelN]; omega)
  rw [h]
  exact ⟨r, rfl, hr⟩
theorem okL_of {l : List Msg} (h : ∀ x, x ∈ l → okMsg x) : okL l := fun j hj => by
  rw [List.getD_eq_getElem?_getD, List.getElem?_eq_getElem hj]
  have := h l[j] (List.getElem_mem hj)
  exact this.1
/-- two loops that go the same way through states that answer each other -/
theorem loop_map {σ τ ρ : Type} {f : σ → Option (Ctl σ ρ)} {g : τ → Option (Ctl τ ρ)} (R : σ → τ → Prop) (h : ∀ s t, R s t → (∃ v, f s = some (.done v) ∧ g t = some (.done v)) ∨ ∃ s' t', f s = some (.go s') ∧ g t = some (.go t') ∧ R s' t') : ∀ (N : Nat) (s : σ) (t : τ), R s t → loopO N f s = loopO N g t
  | 0, _, _, _ => rfl
  | N + 1, s, t, hR => by
    rcases h s t hR with ⟨v, h1, h2⟩ | ⟨s', t', h1, h2, h3⟩
    · rw [loopO_done h1, loopO_done h2]
    · rw [loopO_go h1, loopO_go h2]
      exact loop_map R h N s' t' h3
end Go.Proofs.Ytmcgofgpcnlljaa
