/-
The checks of a list of messages, program and reference. Conditions: each lemma's own.
-/
import Derived.Test.YtmcgofgpcnlljaaPB
import Derived.Test.YtmcgofgpcnlljaaK5x0
namespace Go.Proofs.Ytmcgofgpcnlljaa
set_option linter.unusedVariables false
set_option linter.unusedSimpArgs false
open Go.RowKit
theorem o12_true : o12 = some true := by kernel_rfl
theorem grd_at {p : Prop} [Decidable p] {α : Type} {A : Option α} (h : p) : grd (decide p) A = A := grd_pos (dt h)
theorem o21_eq (l : List Msg) (hl : l.length ≤ 1000) : o21 l = some l := by
  unfold o21
  obtain ⟨r, h, rfl⟩ := loopO_ok (f := o21_L0 l) (fun s => s.2 ≤ l.length ∧ s.1 = l.take s.2) (fun s => l.length - s.2) (fun r => r = l) (by
    rintro ⟨x, k⟩ ⟨hk, hx⟩
    simp only at hk hx
    unfold o21_L0
    obtain ⟨M, hM⟩ : ∃ M : Int, M = 9223372036854775807 := ⟨_, rfl⟩
    rw [← hM]
    by_cases hlt : k < l.length
    · have hxl : x.length = k := by rw [hx, List.length_take]; omega
      refine .inl ⟨(x ++ [l.getD k default], k + 1), ?_, ⟨by simp only; omega, ?_⟩, by simp only; omega⟩
      · refine (cond_pos (dt (by simp only; omega))).trans ?_
        simp only [List.length_cons, List.length_nil]
        rw [grd_at (by omega), grd_at (by omega)]
      · simp only
        rw [hx, List.take_add_one, List.getD_eq_getElem?_getD, List.getElem?_eq_getElem hlt]
        rfl
    · obtain rfl : k = l.length := by omega
      exact .inr ⟨x, cond_neg (df (by simp only; omega)), by rw [hx, List.take_length]⟩) fuelN ([], 0) ⟨Nat.zero_le _, by simp⟩ (by simp only [fuelN]; omega)
  rw [h, bindO_some rfl]
def badP (p : Int) : Bool := (((((p != 1) && (p != 2)) && (p != 4)) && (p != 8)) && (p != 16)) && (p != 32)
theorem bad_small : ∀ k : _root_.Fin 33, ((decide (((k.val : Nat) : Int) < 1) || decide (((k.val : Nat) : Int) > 32)) || ((landK .i64 ((k.val : Nat) : Int) (((k.val : Nat) : Int) - 1)) != 0)) = badP ((k.val : Nat) : Int) := by decide +kernel
theorem bad_eq (p : Int) : ((decide (p < 1) || decide (p > 32)) || ((landK .i64 p (p - 1)) != 0)) = badP p := by
  by_cases h : 0 ≤ p ∧ p ≤ 32
  · have := bad_small ⟨p.toNat, by omega⟩
    have e : ((p.toNat : Nat) : Int) = p := by omega
    simp only [e] at this
    exact this
  · have h1 : badP p = true := by
      unfold badP
      rw [neq_t (by omega : p ≠ 1), neq_t (by omega : p ≠ 2), neq_t (by omega : p ≠ 4), neq_t (by omega : p ≠ 8), neq_t (by omega : p ≠ 16), neq_t (by omega : p ≠ 32)]
      rfl
    rw [h1]
    by_cases h2 : p < 1
    · rw [dt h2]; rfl
    · rw [dt (p := p > 32) (by omega), Bool.or_true, Bool.true_or]
theorem bad_in {p : Int} (h : badP p = false) : 1 ≤ p ∧ p ≤ 32 := by
  rw [← bad_eq] at h
  rw [Bool.or_eq_false_iff, Bool.or_eq_false_iff] at h
  have h1 := of_decide_eq_false h.1.1
  have h2 := of_decide_eq_false h.1.2
  omega
def eM (l : List Msg) (k : Nat) : Option Int :=
  if ((badP (l.getD k default).period || decide ((l.getD k default).length < 1)) || decide ((l.getD k default).length > 1000)) = true then some 1
  else if ∀ j, j < k → (l.getD j default).label ≠ (l.getD k default).label then none else some 7
def firstE (e : Nat → Option Int) : Nat → Nat → Option Int
  | _, 0 => none
  | k, m + 1 => match e k with
    | some v => some v
    | none => firstE e (k + 1) m
def outE : Option Int → Ctl Unit Int
  | none => .go ()
  | some v => .done v
theorem loop_first {σ : Type} {f : σ → Option (Ctl σ (Ctl Unit Int))} (n : Nat) (e : Nat → Option Int) (R : Nat → σ → Prop)
    (h : ∀ k s, k < n → R k s → (e k = none ∧ ∃ s', f s = some (.go s') ∧ R (k + 1) s') ∨ ∃ v, e k = some v ∧ f s = some (.done (.done v)))
    (hn : ∀ s, R n s → f s = some (.done (.go ()))) : ∀ (m k N : Nat) (s : σ), R k s → k + m = n → m < N → loopO N f s = some (outE (firstE e k m))
  | 0, k, N, s, hR, hk, hN => by
    obtain ⟨N', rfl⟩ : ∃ N', N = N' + 1 := ⟨N - 1, by omega⟩
    obtain rfl : k = n := by omega
    exact loopO_done (hn s hR)
  | m + 1, k, N, s, hR, hk, hN => by
    obtain ⟨N', rfl⟩ : ∃ N', N = N' + 1 := ⟨N - 1, by omega⟩
    rcases h k s (by omega) hR with ⟨he, s', hf, hR'⟩ | ⟨v, he, hf⟩
    · rw [loopO_go hf, loop_first n e R h hn m (k + 1) N' s' hR' (by omega) (by omega)]
      unfold firstE
      rw [he]
      cases m <;> rfl
    · rw [loopO_done hf]
      unfold firstE
      rw [he]
      rfl
theorem first_none (e : Nat → Option Int) : ∀ (m k : Nat), firstE e k m = none → ∀ j, k ≤ j → j < k + m → e j = none
  | 0, k, _, j, h1, h2 => by omega
  | m + 1, k, h, j, h1, h2 => by
    unfold firstE at h
    cases he : e k with
    | some v => rw [he] at h; cases h
    | none =>
      rw [he] at h
      by_cases hj : j = k
      · subst hj; exact he
      · exact first_none e m (k + 1) h j (by omega) (by omega)
def okL (l : List Msg) : Prop := ∀ j, j < l.length → 0 ≤ (l.getD j default).label ∧ (l.getD j default).label ≤ 255
def chkC (l : List Msg) : Int := match outE (firstE (eM l) 0 l.length) with | .go _ => 0 | .done v => v
theorem o37_eq (l : List Msg) (hl : l.length ≤ 32) (ok : okL l) : o37 l = some (chkC l) := by
  unfold o37
  rw [df (by omega)]
  simp only [cond_false]
  rw [loop_first (f := o37_L0 l) l.length (eM l) (fun k s => s.1 = k ∧ s.2.length = 256 ∧ ∀ v, v < 256 → (s.2.getD v false = true ↔ ∃ j, j < k ∧ (l.getD j default).label = ((v : Nat) : Int))) (by
    rintro k ⟨k', tab⟩ hk ⟨rfl, ht, htab⟩
    simp only at hk ht htab
    unfold o37_L0 eM
    obtain ⟨M, hM⟩ : ∃ M : Int, M = 9223372036854775807 := ⟨_, rfl⟩
    rw [← hM, bad_eq]
    simp only
    rw [dt (by omega : ((k' : Nat) : Int) < ((l.length : Nat) : Int))]
    simp only [cond_true]
    cases hb : ((badP (l.getD k' default).period || decide ((l.getD k' default).length < 1)) || decide ((l.getD k' default).length > 1000)) with
    | true => exact .inr ⟨1, if_pos rfl, rfl⟩
    | false =>
    simp only [cond_false]
    have hlab := ok k' hk
    have hi : (((l.getD k' default).label.toNat : Nat) : Int) = (l.getD k' default).label := by omega
    have hv := htab (l.getD k' default).label.toNat (by omega)
    rw [hi] at hv
    rw [grd_at (by omega), grd_at (by omega), grd_at (by omega), if_neg (by decide)]
    cases hd : (tab.getD (l.getD k' default).label.toNat false) with
    | true =>
      obtain ⟨j, hj, he⟩ := hv.1 hd
      exact .inr ⟨7, if_neg (fun h => h j hj he), rfl⟩
    | false =>
      have hno : ∀ j, j < k' → (l.getD j default).label ≠ (l.getD k' default).label := fun j hj he => by
        have := hv.2 ⟨j, hj, he⟩
        rw [hd] at this; cases this
      refine .inl ⟨if_pos hno, _, rfl, rfl, by simp only [List.length_set]; exact ht, fun v hv' => ?_⟩
      simp only
      rw [List.getD_eq_getElem?_getD, List.getElem?_set]
      by_cases hev : (l.getD k' default).label.toNat = v
      · rw [if_pos hev, if_pos (by omega)]
        exact ⟨fun _ => ⟨k', by omega, by omega⟩, fun _ => rfl⟩
      · rw [if_neg hev, ← List.getD_eq_getElem?_getD, htab v hv']
        constructor
        · rintro ⟨j, hj, he⟩; exact ⟨j, by omega, he⟩
        · rintro ⟨j, hj, he⟩
          by_cases hjk : j = k'
          · subst hjk; omega
          · exact ⟨j, by omega, he⟩) (by
    rintro ⟨k', tab⟩ ⟨rfl, ht, htab⟩
    unfold o37_L0
    obtain ⟨M, hM⟩ : ∃ M : Int, M = 9223372036854775807 := ⟨_, rfl⟩
    rw [← hM]
    exact cond_neg (df (by simp only; omega))) l.length 0 fuelN (0, List.replicate 256 false) ⟨rfl, List.length_replicate, fun v hv => by
      rw [List.getD_eq_getElem?_getD, List.getElem?_replicate, if_pos hv]
      constructor
      · intro h; cases h
      · rintro ⟨j, hj, -⟩; omega⟩ (by omega) (by simp only [fuelN]; omega)]
  unfold chkC
  cases firstE (eM l) 0 l.length <;> rfl
theorem o44_dup (l : List Msg) (s : Nat) (hl : l.length ≤ 32) (hs : s < l.length) :
    (loopO fuelN (o44_L1 l s) 0 = some (Ctl.go ()) ∧ ∀ j, j < s → (l.getD j default).label ≠ (l.getD s default).label) ∨ (loopO fuelN (o44_L1 l s) 0 = some (Ctl.done (Ctl.done (Ctl.done (Ctl.done 7)))) ∧ ¬ ∀ j, j < s → (l.getD j default).label ≠ (l.getD s default).label) := by
  have hlen : (l.take s).length = s := by rw [List.length_take]; omega
  have hg : ∀ j, j < s → (l.take s).getD j default = l.getD j default := fun j hj => by
    rw [List.getD_eq_getElem?_getD, List.getElem?_take, if_pos hj, ← List.getD_eq_getElem?_getD]
  obtain ⟨r, h, hp⟩ := loopO_ok (f := o44_L1 l s) (fun k => k ≤ s ∧ ∀ j, j < k → (l.getD j default).label ≠ (l.getD s default).label) (fun k => s - k) (fun r => (r = Ctl.go () ∧ ∀ j, j < s → (l.getD j default).label ≠ (l.getD s default).label) ∨ (r = Ctl.done (Ctl.done (Ctl.done (Ctl.done 7))) ∧ ¬ ∀ j, j < s → (l.getD j default).label ≠ (l.getD s default).label)) (by
    intro k ⟨hk, hall⟩
    unfold o44_L1
    obtain ⟨M, hM⟩ : ∃ M : Int, M = 9223372036854775807 := ⟨_, rfl⟩
    rw [← hM, hlen]
    by_cases hlt : k < s
    · rw [dt (by omega : ((k : Nat) : Int) < ((s : Nat) : Int)), hg k hlt]
      simp only [cond_true]
      by_cases he : (l.getD k default).label = (l.getD s default).label
      · rw [eq_t he]
        exact .inr ⟨_, rfl, .inr ⟨rfl, fun hh => hh k hlt he⟩⟩
      · rw [eq_f he]
        simp only [cond_false]
        refine .inl ⟨k + 1, grd_at (by omega), ⟨by omega, fun j hj => ?_⟩, by omega⟩
        by_cases hjk : j = k
        · subst hjk; exact he
        · exact hall j (by omega)
    · obtain rfl : k = s := by omega
      exact .inr ⟨_, cond_neg (df (by omega)), .inl ⟨rfl, hall⟩⟩) fuelN 0 ⟨Nat.zero_le _, fun j hj => by omega⟩ (by simp only [fuelN]; omega)
  rcases hp with ⟨rfl, hp⟩ | ⟨rfl, hp⟩
  · exact .inl ⟨h, hp⟩
  · exact .inr ⟨h, hp⟩
theorem o44_eq (l : List Msg) (hl : l.length ≤ 32) : o44 l = some (chkC l) := by
  unfold o44
  rw [df (by omega)]
  simp only [cond_false]
  rw [loop_first (f := o44_L0 l) l.length (eM l) (fun k s => s = k) (by
    rintro k s hk rfl
    unfold o44_L0 eM
    obtain ⟨M, hM⟩ : ∃ M : Int, M = 9223372036854775807 := ⟨_, rfl⟩
    rw [← hM]
    rw [dt (by omega : ((s : Nat) : Int) < ((l.length : Nat) : Int))]
    simp only [cond_true]
    have hb' : (((((((l.getD s default).period != 1) && ((l.getD s default).period != 2)) && ((l.getD s default).period != 4)) && ((l.getD s default).period != 8)) && ((l.getD s default).period != 16)) && ((l.getD s default).period != 32)) = badP (l.getD s default).period := rfl
    rw [hb', grd_at (by omega)]
    cases hb : ((badP (l.getD s default).period || decide ((l.getD s default).length < 1)) || decide ((l.getD s default).length > 1000)) with
    | true => exact .inr ⟨1, if_pos rfl, rfl⟩
    | false =>
    simp only [cond_false]
    rw [if_neg (by decide)]
    rcases o44_dup l s hl hk with ⟨h1, h2⟩ | ⟨h1, h2⟩
    · rw [h1]; exact .inl ⟨if_pos h2, _, rfl, rfl⟩
    · rw [h1]; exact .inr ⟨7, if_neg h2, rfl⟩) (by
    rintro s rfl
    unfold o44_L0
    obtain ⟨M, hM⟩ : ∃ M : Int, M = 9223372036854775807 := ⟨_, rfl⟩
    rw [← hM]
    exact cond_neg (df (by omega))) l.length 0 fuelN 0 rfl (by omega) (by simp only [fuelN]; omega)]
  unfold chkC
  cases firstE (eM l) 0 l.length <;> rfl
theorem chk_same (l : List Msg) (ok : okL l) : ∃ v, o37 l = some v ∧ o44 l = some v ∧ (v = 0 → l.length ≤ 32 ∧ ∀ j, j < l.length → 1 ≤ (l.getD j default).period ∧ (l.getD j default).period ≤ 32) := by
  by_cases hl : l.length ≤ 32
  · refine ⟨_, o37_eq l hl ok, o44_eq l hl, fun h0 => ⟨hl, fun j hj => ?_⟩⟩
    unfold chkC at h0
    cases hf : firstE (eM l) 0 l.length with
    | none =>
      have := first_none _ _ _ hf j (Nat.zero_le _) (by omega)
      unfold eM at this
      by_cases hb : ((badP (l.getD j default).period || decide ((l.getD j default).length < 1)) || decide ((l.getD j default).length > 1000)) = true
      · rw [if_pos hb] at this; cases this
      · have hb : ((badP (l.getD j default).period || decide ((l.getD j default).length < 1)) || decide ((l.getD j default).length > 1000)) = false := by simpa using hb
        rw [Bool.or_eq_false_iff, Bool.or_eq_false_iff] at hb
        exact bad_in hb.1.1
    | some v =>
      exfalso
      rw [hf] at h0
      have h0 : v = 0 := h0
      subst h0
      have key : ∀ (m k : Nat), firstE (eM l) k m ≠ some 0 := by
        intro m
        induction m with
        | zero => intro k h; cases h
        | succ m ih =>
          intro k h
          unfold firstE at h
          cases he : eM l k with
          | none => rw [he] at h; exact ih _ h
          | some w =>
            rw [he] at h
            have h : w = 0 := by simpa using h
            subst h
            unfold eM at he
            split at he
            · simp at he
            · split at he
              · cases he
              · simp at he
      exact key _ _ hf
  · refine ⟨3, ?_, ?_, fun h => by omega⟩
    · unfold o37; rw [dt (by omega)]; simp only [cond_true]
    · unfold o44; rw [dt (by omega)]; simp only [cond_true]
theorem chk_none (l : List Msg) (h0 : chkC l = 0) : firstE (eM l) 0 l.length = none := by
  unfold chkC at h0
  cases hf : firstE (eM l) 0 l.length with
  | none => rfl
  | some v =>
    exfalso
    rw [hf] at h0
    have h0 : v = 0 := h0
    subst h0
    have key : ∀ (m k : Nat), firstE (eM l) k m ≠ some 0 := by
      intro m
      induction m with
      | zero => intro k h; cases h
      | succ m ih =>
        intro k h
        unfold firstE at h
        cases he : eM l k with
        | none => rw [he] at h; exact ih _ h
        | some w =>
          rw [he] at h
          have h : w = 0 := by simpa using h
          subst h
          unfold eM at he
          split at he
          · simp at he
          · split at he
            · cases he
            · simp at he
    exact key _ _ hf
theorem chk_dist (l : List Msg) (h0 : chkC l = 0) : ∀ i j, i < l.length → j < l.length → (l.getD i default).label = (l.getD j default).label → i = j := by
  have hn := chk_none l h0
  have key : ∀ i j, i < j → j < l.length → (l.getD i default).label ≠ (l.getD j default).label := fun i j hij hj => by
    have := first_none _ _ _ hn j (Nat.zero_le _) (by omega)
    unfold eM at this
    split at this
    · cases this
    · split at this
      · rename_i h; exact h i hij
      · cases this
  intro i j hi hj e
  rcases Nat.lt_trichotomy i j with h | h | h
  · exact absurd e (key i j h hj)
  · exact h
  · exact absurd e.symm (key j i h hi)
end Go.Proofs.Ytmcgofgpcnlljaa
