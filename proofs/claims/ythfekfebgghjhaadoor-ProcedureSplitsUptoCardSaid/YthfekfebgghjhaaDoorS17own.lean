/-
Seat 17's own check of a procedure in plain words. Conditions: each lemma's own.
-/
import Derived.Test.YthfekfebgghjhaaDoorS17a
namespace Go.Proofs.YthfekfebgghjhaaDoor
namespace W17
set_option linter.unusedVariables false
set_option linter.unusedSimpArgs false
open Go.RowKit
/-- an answer that is so -/
def Tot {α : Type} (Q : α → Prop) (X : Option α) : Prop := ∃ r, X = some r ∧ Q r
theorem tot_ok {α : Type} {Q : α → Prop} (r : α) (h : Q r) : Tot Q (some r) := ⟨r, rfl, h⟩
theorem tot_cond {α : Type} {Q : α → Prop} {b : Bool} {X X' : Option α} (h : b = true → Tot Q X) (h' : b = false → Tot Q X') : Tot Q (cond b X X') := by
  cases b with
  | true => exact h rfl
  | false => exact h' rfl
theorem tot_bind {α τ : Type} {Q : α → Prop} {R : τ → Prop} {x : Option τ} {k : τ → Option α} (h : Tot R x) (hk : ∀ t, R t → Tot Q (k t)) : Tot Q (bindO x k) := by
  obtain ⟨r, rfl, hr⟩ := h
  rw [bindO_some rfl]
  exact hk r hr
theorem tot_join {α τ : Type} {Q : α → Prop} {R : Ctl τ α → Prop} {x : Option (Ctl τ α)} {k : τ → Option α} (h : Tot R x) (hg : ∀ t, R (.go t) → Tot Q (k t)) (hd : ∀ v, R (.done v) → Q v) : Tot Q (joinO x k) := by
  obtain ⟨r, rfl, hr⟩ := h
  cases r with
  | go t => rw [joinO_go rfl]; exact hg t hr
  | done v => rw [joinO_done rfl]; exact ⟨v, rfl, hd v hr⟩
theorem tot_mono {α : Type} {Q R : α → Prop} {X : Option α} (h : Tot R X) (hq : ∀ r, X = some r → R r → Q r) : Tot Q X := by
  obtain ⟨r, e, hr⟩ := h
  exact ⟨r, e, hq r e hr⟩
def T0 {α : Type} : α → Prop := fun _ => True
/-! ### names and references -/
def badB (b : UInt8) : Bool := (decide (((b).toNat : Int) < 65) || decide (((b).toNat : Int) > 90)) && (decide (((b).toNat : Int) < 48) || decide (((b).toNat : Int) > 57))
theorem o35_tot {s : List UInt8} (h : s.length ≤ 140737488355328) (m : Int) : Tot (fun b => b = true → s ≠ []) (o35 s m) := by
  unfold o35
  refine tot_cond (fun _ => tot_ok _ fun h => by cases h) fun hc => ?_
  obtain ⟨r, hr, hp⟩ := loop_find (f := o35_L0 s) s.length (by omega) (fun k => badB (s.getD k 0)) (fun _ => false) (by
      intro k hk
      unfold o35_L0 badB
      obtain ⟨M, hM, hMb⟩ : ∃ M : Int, M = 9223372036854775807 ∧ M > 1000000000000000000 := ⟨_, rfl, by decide⟩
      rw [← hM, dt (by omega), cond_true, grd_at' (by omega)]
      cases ((decide ((((List.getD (s : List UInt8) k 0)).toNat : Int) < 65) || decide ((((List.getD (s : List UInt8) k 0)).toNat : Int) > 90)) && (decide ((((List.getD (s : List UInt8) k 0)).toNat : Int) < 48) || decide ((((List.getD (s : List UInt8) k 0)).toNat : Int) > 57))) <;> rfl) (by unfold o35_L0; exact cond_neg (df (by omega))) s.length 0 fuelN (by omega) (by simp only [fuelN]; omega)
  have hne : s ≠ [] := by
    rintro rfl
    simp at hc
  rw [hr]
  rcases hp with ⟨rfl, -⟩ | ⟨j, -, -, -, -, rfl⟩
  · rw [joinO_go rfl]; exact tot_ok _ fun _ => hne
  · rw [joinO_done rfl]; exact tot_ok _ fun _ => hne
theorem o71_tot (s : List UInt8) : Tot T0 (o71 s) := by
  unfold o71
  refine tot_cond (fun _ => tot_ok _ trivial) fun hc => ?_
  have h : s.length ≤ 140737488355328 := by
    have : ((s.length : Nat) : Int) = 2 := by simpa using hc
    omega
  clear hc
  obtain ⟨r, hr, hp⟩ := loop_find (f := o71_L0 s) s.length (by omega) (fun k => badB (s.getD k 0)) (fun _ => false) (by
      intro k hk
      unfold o71_L0 badB
      obtain ⟨M, hM, hMb⟩ : ∃ M : Int, M = 9223372036854775807 ∧ M > 1000000000000000000 := ⟨_, rfl, by decide⟩
      rw [← hM, dt (by omega), cond_true, grd_at' (by omega)]
      cases ((decide ((((List.getD (s : List UInt8) k 0)).toNat : Int) < 65) || decide ((((List.getD (s : List UInt8) k 0)).toNat : Int) > 90)) && (decide ((((List.getD (s : List UInt8) k 0)).toNat : Int) < 48) || decide ((((List.getD (s : List UInt8) k 0)).toNat : Int) > 57))) <;> rfl) (by unfold o71_L0; exact cond_neg (df (by omega))) s.length 0 fuelN (by omega) (by simp only [fuelN]; omega)
  rw [hr]
  rcases hp with ⟨rfl, -⟩ | ⟨j, -, -, -, -, rfl⟩
  · rw [joinO_go rfl]; exact tot_ok _ trivial
  · rw [joinO_done rfl]; exact tot_ok _ trivial
theorem idx_in (c : UInt8) : ∀ l : List UInt8, Lib.indexByte l c = -1 ∨ ∃ j, j < l.length ∧ Lib.indexByte l c = ((j : Nat) : Int)
  | [] => .inl rfl
  | b :: l => by
    unfold Lib.indexByte
    cases hb : (b == c) with
    | true => exact .inr ⟨0, by simp, by simp⟩
    | false =>
      rcases idx_in c l with h1 | ⟨j, j1, j2⟩
      · exact .inl (by simp [h1])
      · refine .inr ⟨j + 1, by simpa using j1, ?_⟩
        rw [j2, eq_f (show ((j : Nat) : Int) ≠ -1 by omega)]
        simp
theorem o76_is (s : List UInt8) : o76k47 s = Lib.indexByte s 47 := by
  unfold o76k47
  cases h : ([47] == s) with
  | true =>
    obtain rfl : [47] = s := by simpa using h
    rfl
  | false => rw [cond_false, letJ_def]; unfold o77; rfl
theorem o63_tot {s : List UInt8} (h : s.length ≤ 140737488355328) : Tot T0 (o63 s) := by
  have hcut : Tot (fun y => y.2.2 = true → y.1.length ≤ 140737488355328 ∧ y.2.1.length ≤ 140737488355328) (o70k47 s) := by
    unfold o70k47 o74k47
    rw [o76_is]
    rcases idx_in 47 s with h1 | ⟨j, j1, j2⟩
    · rw [h1, letJ_def, df (by omega), cond_false, bindO_some rfl]
      exact tot_ok _ fun h => by cases h
    · have ej : (((j : Nat) : Int)).toNat = j := by omega
      have ej1 : (((j : Nat) : Int) + 1).toNat = j + 1 := by omega
      obtain ⟨M, hM, hMb⟩ : ∃ M : Int, M = 9223372036854775807 ∧ M > 1000000000000000000 := ⟨_, rfl, by decide⟩
      rw [j2, letJ_def, dt (by omega), cond_true, grd_at' (by omega), ← hM, grd_at' (by omega), grd_at' (by omega), ej, ej1, bindO_some rfl]
      exact tot_ok _ fun _ => ⟨by simp only [List.length_take]; omega, by simp only [List.length_drop]; omega⟩
  unfold o63
  refine tot_bind hcut fun y hy => tot_cond (fun _ => tot_ok _ trivial) fun hy2 => ?_
  obtain ⟨l1, l2⟩ := hy (by simpa using hy2)
  refine tot_bind (o35_tot l1 6) fun b _ => ?_
  refine tot_bind (R := T0) (tot_cond (fun _ => tot_ok _ trivial) fun _ => tot_bind (o35_tot l2 6) fun b' _ => tot_bind (R := T0) (tot_cond (fun _ => tot_bind (o71_tot _) fun _ _ => tot_ok _ trivial) fun _ => tot_ok _ trivial) fun _ _ => tot_ok _ trivial) fun _ _ => ?_
  exact tot_cond (fun _ => tot_ok _ trivial) fun _ => tot_ok _ trivial
theorem o46_tot {s : List UInt8} (h : s.length ≤ 140737488355328) (u : Bool) : Tot T0 (o46 s u) := by
  unfold o46
  exact tot_cond (fun _ => tot_bind (o63_tot h) fun _ _ => tot_cond (fun _ => tot_ok _ trivial) fun _ => tot_ok _ trivial) fun _ => tot_cond (fun _ => tot_ok _ trivial) fun _ => tot_ok _ trivial
/-! ### legs -/
theorem o25_tot {l : Leg} (hl : okLeg l) : Tot T0 (o25 l) := by
  obtain ⟨k0, k1, k2, -⟩ := hl
  unfold o25
  simp only [letJ_def]
  refine tot_cond (fun _ => tot_ok _ trivial) fun h45 => ?_
  have ht : 1 ≤ l.type_ ∧ l.type_ ≤ 17 := by
    unfold o45 at h45
    simpa using h45
  rw [grd_at' (by omega)]
  refine tot_bind (o46_tot k1 _) fun _ _ => tot_cond (fun _ => tot_ok _ trivial) fun _ => ?_
  refine tot_bind (o46_tot k2 _) fun _ _ => tot_cond (fun _ => tot_ok _ trivial) fun _ => ?_
  refine tot_join (R := T0) (tot_cond (fun _ => tot_cond (fun _ => tot_ok _ trivial) fun _ => tot_ok _ trivial) fun _ => tot_cond (fun _ => tot_ok _ trivial) fun _ => tot_ok _ trivial) (fun _ _ => ?_) fun _ _ => trivial
  repeat (first | exact tot_ok _ trivial | refine tot_cond (fun _ => tot_ok _ trivial) fun _ => ?_)
theorem o57_tot {s : List UInt8} (h : s.length ≤ 1000) (v : Int) : Tot (fun y => 0 ≤ y → ∃ j, j < s.length ∧ v = (((s.getD j 0)).toNat : Int)) (o57 s v) := by
  obtain ⟨r, hr, hp⟩ := loop_find (f := o57_L0 s v) s.length (by omega) (fun k => v == ((s.getD k 0).toNat : Int)) (fun k => ((k : Nat) : Int)) (by
    intro k hk
    unfold o57_L0
    obtain ⟨M, hM, hMb⟩ : ∃ M : Int, M = 9223372036854775807 ∧ M > 1000000000000000000 := ⟨_, rfl, by decide⟩
    rw [← hM, dt (by omega), cond_true, grd_at' (by omega)]
    cases (v == ((s.getD k 0).toNat : Int)) <;> rfl) (by unfold o57_L0; exact cond_neg (df (by omega))) s.length 0 fuelN (by omega) (by simp only [fuelN]; omega)
  unfold o57
  rw [hr]
  rcases hp with ⟨rfl, q⟩ | ⟨j, -, j1, j2, j3, rfl⟩
  · rw [joinO_go rfl]; exact tot_ok _ fun h => by omega
  · rw [joinO_done rfl]; exact tot_ok _ fun _ => ⟨j, j1, by simpa using j2⟩
theorem o36_three {k : Int} (h : 1 ≤ k ∧ k ≤ 3) : (k = 1 ∧ o36 k = [1, 2, 3]) ∨ (k = 2 ∧ o36 k = [3, 2, 1]) ∨ (k = 3 ∧ o36 k = [3, 2, 4]) := by
  obtain rfl | rfl | rfl : k = 1 ∨ k = 2 ∨ k = 3 := by omega
  · exact .inl ⟨rfl, rfl⟩
  · exact .inr (.inl ⟨rfl, rfl⟩)
  · exact .inr (.inr ⟨rfl, rfl⟩)
theorem o36_len (k : Int) : (o36 k).length ≤ 1000 := by
  unfold o36
  cases (k == 1) <;> cases (k == 2) <;> cases (k == 3) <;> decide
theorem o36_nil {k : Int} (h : ¬ (1 ≤ k ∧ k ≤ 3)) : List.isEmpty (o36 k) = true := by
  unfold o36
  rw [eq_f (by omega), eq_f (by omega), eq_f (by omega)]; rfl
/-! ### parts -/
def legAt (p : Proc) (i j : Nat) : Leg := (p.parts.getD i default).legs.getD j default
def legOk (p : Proc) (i j : Nat) : Prop := o25 (legAt p i j) = some 0 ∧ (j = 0 → o58 p (p.parts.getD i default).kind (legAt p i j).type_ = true) ∧ (0 < j → o26 (legAt p i (j - 1)) (legAt p i j) = true)
structure PartOk (p : Proc) (i : Nat) : Prop where
  kind : ∃ j, j < (o36 p.kind).length ∧ (p.parts.getD i default).kind = (((o36 p.kind).getD j 0).toNat : Int)
  named : (p.parts.getD i default).kind = 1 ∨ (p.parts.getD i default).kind = 3 → (p.parts.getD i default).name ≠ []
  bare : ¬ ((p.parts.getD i default).kind = 1 ∨ (p.parts.getD i default).kind = 3) → (p.parts.getD i default).name = []
  some : 0 < (p.parts.getD i default).legs.length
  few : (p.parts.getD i default).legs.length ≤ 24
  legs : ∀ j, j < (p.parts.getD i default).legs.length → legOk p i j
theorem legs_tot {p : Proc} {i : Nat} (hp : okPart (p.parts.getD i default)) : Tot (fun r : Ctl Unit Int => match r with | .go _ => ∀ j, j < (p.parts.getD i default).legs.length → legOk p i j | .done v => v ≠ 0) (loopO fuelN (o37_L0 p i) 0) := by
  obtain ⟨-, -, ⟨hb, hl⟩, -⟩ := hp
  have ok : ∀ j, j < (p.parts.getD i default).legs.length → okLeg ((p.parts.getD i default).legs.getD j default) := fun j hj => by
    rw [List.getD_eq_getElem?_getD, List.getElem?_eq_getElem hj]
    exact hl _ (List.getElem_mem hj)
  refine loopO_ok (f := o37_L0 p i) (fun s => s ≤ (p.parts.getD i default).legs.length ∧ ∀ j, j < s → legOk p i j) (fun s => (p.parts.getD i default).legs.length - s) _ ?_ fuelN 0 ⟨Nat.zero_le _, fun j hj => by omega⟩ (by simp only [fuelN]; omega)
  rintro j ⟨hj, hg⟩
  unfold o37_L0
  obtain ⟨M, hM, hMb⟩ : ∃ M : Int, M = 9223372036854775807 ∧ M > 1000000000000000000 := ⟨_, rfl, by decide⟩
  rw [← hM, show (((i : Nat) : Int)).toNat = i by omega]
  by_cases hlt : j < (p.parts.getD i default).legs.length
  · rw [dt (by omega), cond_true]
    obtain ⟨v, hv, -⟩ := o25_tot (ok j hlt)
    rw [hv, bindO_some rfl]
    by_cases hv0 : v = 0
    · subst hv0
      rw [neq_f rfl, cond_false]
      simp only [letJ_def]
      by_cases h0 : j = 0
      · subst h0
        rw [df (show ¬ ((0 : Nat) : Int) > 0 by omega), eq_t (show ((0 : Nat) : Int) = 0 by omega), cond_true, cond_false, bindO_some rfl]
        cases ho : o58 p (p.parts.getD i default).kind ((p.parts.getD i default).legs.getD 0 default).type_ with
        | false => exact .inr ⟨_, rfl, show (9 : Int) ≠ 0 by decide⟩
        | true =>
          rw [Bool.not_true, cond_false, bindO_some rfl, cond_false, grd_at' (by omega)]
          refine .inl ⟨_, rfl, ⟨by omega, fun j' hj' => ?_⟩, by omega⟩
          obtain rfl : j' = 0 := by omega
          exact ⟨hv, fun _ => ho, fun h => by omega⟩
      · have ej : (((j : Nat) : Int) - 1).toNat = j - 1 := by omega
        rw [dt (show ((j : Nat) : Int) > 0 by omega), eq_f (show ((j : Nat) : Int) ≠ 0 by omega), cond_true, cond_false, cond_false, grd_at' (by omega), ej, bindO_some rfl]
        cases ho : o26 ((p.parts.getD i default).legs.getD (j - 1) default) ((p.parts.getD i default).legs.getD j default) with
        | false => exact .inr ⟨_, rfl, show (9 : Int) ≠ 0 by decide⟩
        | true =>
          rw [Bool.not_true, bindO_some rfl, cond_false, grd_at' (by omega)]
          refine .inl ⟨_, rfl, ⟨by omega, fun j' hj' => ?_⟩, by omega⟩
          by_cases hjj : j' = j
          · subst hjj; exact ⟨hv, fun h => absurd h h0, fun _ => ho⟩
          · exact hg j' (by omega)
    · rw [neq_t hv0, cond_true]
      exact .inr ⟨_, rfl, hv0⟩
  · rw [df (by omega), cond_false]
    exact .inr ⟨_, rfl, fun j' hj' => hg j' (by omega)⟩
theorem o37_tot {p : Proc} {i : Nat} (hp : okPart (p.parts.getD i default)) (hi : i < p.parts.length) (hl : p.parts.length ≤ 140737488355328) : Tot (fun v => v = 0 → PartOk p i) (o37 p i) := by
  have ei : (((i : Nat) : Int)).toNat = i := by omega
  unfold o37
  rw [letJ_def, grd_at' (by omega), ei]
  refine tot_bind (o57_tot (o36_len _) _) fun y hy => tot_cond (fun _ => tot_ok _ fun h => by cases h) fun hy0 => ?_
  refine tot_join (R := fun r : Ctl Unit Int => match r with | .go _ => True | .done v => v ≠ 0) ?_ (fun _ _ => ?_) fun v hv h0 => absurd h0 hv
  · refine tot_cond (fun h => ?_) fun _ => tot_ok _ trivial
    have hi0 : ((i : Nat) : Int) > 0 := of_decide_eq_true h
    rw [grd_at' (by omega), grd_at' (by omega)]
    exact tot_bind (o57_tot (o36_len _) _) fun _ _ => tot_cond (fun _ => tot_ok _ (by decide)) fun _ => tot_cond (fun _ => tot_ok _ (by decide)) fun _ => tot_ok _ trivial
  · refine tot_bind (R := fun b => (((p.parts.getD i default).kind == 1) || ((p.parts.getD i default).kind == 3)) = true → b = false → (p.parts.getD i default).name ≠ []) (tot_cond (fun _ => tot_bind (o35_tot hp.2.1 8) fun b hb => tot_ok _ fun _ h => hb (by simpa using h)) fun h => tot_ok _ fun h' => by rw [h] at h'; cases h') fun b hb => ?_
    refine tot_cond (fun _ => tot_ok _ fun h => by cases h) fun hn => ?_
    refine tot_cond (fun _ => tot_ok _ fun h => by cases h) fun h0 => ?_
    refine tot_cond (fun _ => tot_ok _ fun h => by cases h) fun h24 => ?_
    refine tot_join (legs_tot hp) (fun _ hlg => tot_ok _ fun _ => ?_) fun v hv h0 => absurd h0 hv
    rw [Bool.or_eq_false_iff] at hn
    have hkk : ((((p.parts.getD i default).kind == 1) || ((p.parts.getD i default).kind == 3)) = true) ↔ ((p.parts.getD i default).kind = 1 ∨ (p.parts.getD i default).kind = 3) := by
      rw [Bool.or_eq_true, beq_iff_eq, beq_iff_eq]
    refine ⟨hy (by have := of_decide_eq_false hy0; omega), fun h => hb (hkk.2 h) hn.1, fun h => ?_, ?_, ?_, hlg⟩
    · have hf : (((p.parts.getD i default).kind == 1) || ((p.parts.getD i default).kind == 3)) = false := by
        rw [← Bool.not_eq_true, hkk]; exact h
      have := hn.2
      rw [hf] at this
      simpa using this
    · have : ¬ (((p.parts.getD i default).legs.length : Nat) : Int) = 0 := by simpa using h0
      omega
    · have := of_decide_eq_false h24
      omega
structure Chk (p : Proc) : Prop where
  kind : 1 ≤ p.kind ∧ p.kind ≤ 3
  some : 0 < p.parts.length
  few : p.parts.length ≤ 12
  parts : ∀ i, i < p.parts.length → PartOk p i
  mid : p.kind = 3 → (partP p 2 []).2 = true
theorem partsOk {p : Proc} (h : okProc p) {i : Nat} (hi : i < p.parts.length) : okPart (p.parts.getD i default) := by
  rw [List.getD_eq_getElem?_getD, List.getElem?_eq_getElem hi]
  exact h.2.2.2.1.2 _ (List.getElem_mem hi)
theorem o13_tot {p : Proc} (h : okProc p) : Tot (fun v => v = 0 → Chk p) (o13 p) := by
  have hlen : p.parts.length ≤ 140737488355328 := by have := (sizedP_of h).1; omega
  unfold o13
  refine tot_bind (o35_tot h.1 6) fun b _ => ?_
  refine tot_bind (R := T0) (tot_cond (fun _ => tot_ok _ trivial) fun _ => tot_bind (o35_tot h.2.1 8) fun _ _ => tot_ok _ trivial) fun _ _ => ?_
  refine tot_cond (fun _ => tot_ok _ fun h => by cases h) fun _ => ?_
  rw [letJ_def]
  refine tot_cond (fun _ => tot_ok _ fun h => by cases h) fun hk => ?_
  refine tot_cond (fun _ => tot_ok _ fun h => by cases h) fun h12 => ?_
  refine tot_join (R := fun r : Ctl Unit Int => match r with | .go _ => ∀ i, i < p.parts.length → PartOk p i | .done v => v ≠ 0) ?_ (fun _ hparts => ?_) fun v hv h0 => absurd h0 hv
  · refine loopO_ok (f := o13_L0 p) (fun s => s ≤ p.parts.length ∧ ∀ i, i < s → PartOk p i) (fun s => p.parts.length - s) _ ?_ fuelN 0 ⟨Nat.zero_le _, fun j hj => by omega⟩ (by simp only [fuelN]; omega)
    rintro i ⟨hi, hg⟩
    unfold o13_L0
    obtain ⟨M, hM, hMb⟩ : ∃ M : Int, M = 9223372036854775807 ∧ M > 1000000000000000000 := ⟨_, rfl, by decide⟩
    rw [← hM]
    by_cases hlt : i < p.parts.length
    · obtain ⟨v, hv, hq⟩ := o37_tot (partsOk h hlt) hlt hlen
      rw [dt (by omega), cond_true, hv, bindO_some rfl]
      by_cases hv0 : v = 0
      · rw [neq_f hv0, cond_false, grd_at' (by omega)]
        refine .inl ⟨_, rfl, ⟨by omega, fun j hj => ?_⟩, by omega⟩
        by_cases hji : j = i
        · rw [hji]; exact hq hv0
        · exact hg j (by omega)
      · rw [neq_t hv0, cond_true]
        exact .inr ⟨_, rfl, hv0⟩
    · rw [df (by omega), cond_false]
      exact .inr ⟨_, rfl, fun j hj => hg j (by omega)⟩
  · refine tot_cond (fun _ => tot_ok _ fun h => by cases h) fun h0 => ?_
    rw [o17_is (sizedP_of h), bindO_some rfl]
    refine tot_cond (fun _ => tot_ok _ fun h => by cases h) fun h3 => tot_ok _ fun _ => ?_
    refine ⟨?_, ?_, ?_, hparts, fun hk3 => ?_⟩
    · by_cases hkk : 1 ≤ p.kind ∧ p.kind ≤ 3
      · exact hkk
      · rw [o36_nil hkk] at hk; cases hk
    · have : ¬ ((p.parts.length : Nat) : Int) = 0 := by simpa using h0
      omega
    · have := of_decide_eq_false h12
      omega
    · rw [eq_t hk3, Bool.true_and] at h3
      simpa using h3
end W17
end Go.Proofs.YthfekfebgghjhaaDoor
