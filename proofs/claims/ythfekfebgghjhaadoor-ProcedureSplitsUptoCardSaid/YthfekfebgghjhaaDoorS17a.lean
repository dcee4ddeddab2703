/-
Words of seat 17's plain proofs: lists of legs. Conditions: each lemma's own.
-/
import Derived.Test.YthfekfebgghjhaaDoorPB
import Derived.Test.YthfekfebgghjhaaDoorT2
namespace Go.Proofs.YthfekfebgghjhaaDoor
set_option linter.unusedVariables false
set_option linter.unusedSimpArgs false
open Go.RowKit
theorem o12_true : o12 = some true := by kernel_rfl
theorem grd_at' {p : Prop} [Decidable p] {α : Type} {A : Option α} (h : p) : grd (decide p) A = A := grd_pos (dt h)
theorem o41_is {l : List Leg} (h : l.length * 112 ≤ 140737488355328) : o41 l = some l := by unfold o41; exact grd_at' (by omega)
theorem eqLeg_self (x : Leg) : ((x.type_ == x.type_) && ((strEq x.fix x.fix) && ((strEq x.center x.center) && ((x.turn == x.turn) && ((x.over == x.over) && ((x.course == x.course) && ((x.dist == x.dist) && ((x.radius == x.radius) && ((x.theta == x.theta) && (((x.alt.lo == x.alt.lo) && (x.alt.hi == x.alt.hi)) && ((x.speed == x.speed) && (x.rnp == x.rnp)))))))))))) = true := by
  simp [strEq_eq]
theorem o20_same {l : List Leg} (h : l.length ≤ 140737488355328) : o20 l l = some true := by
  unfold o20
  rw [neq_f rfl, cond_false]
  obtain ⟨r, hr, rfl⟩ := loopO_ok (f := o20_L0 l l) (fun s => s ≤ l.length) (fun s => l.length - s) (fun r => r = Ctl.go ()) (by
    intro k hk
    unfold o20_L0
    obtain ⟨M, hM, hMb⟩ : ∃ M : Int, M = 9223372036854775807 ∧ M > 1000000000000000000 := ⟨_, rfl, by decide⟩
    rw [← hM]
    by_cases hlt : k < l.length
    · rw [dt (by omega), cond_true, grd_at' hlt, eqLeg_self]
      simp only [Bool.not_true, cond_false]
      rw [grd_at' (by omega)]
      exact .inl ⟨_, rfl, by omega, by omega⟩
    · exact .inr ⟨_, cond_neg (df (by omega)), rfl⟩) fuelN 0 (Nat.zero_le _) (by simp only [fuelN]; omega)
  rw [hr, joinO_go rfl]
theorem o20_short {a b : List Leg} (h : a.length ≠ b.length) : o20 a b = some false := by
  unfold o20
  rw [neq_t (by omega), cond_true]
/-! ### the parts of a procedure -/
def sizedP (p : Proc) : Prop := p.parts.length * 48 ≤ 140737488351232 ∧ ∀ j, j < p.parts.length → (p.parts.getD j default).legs.length * 112 ≤ 140737488351232
theorem sizedP_of {p : Proc} (h : okProc p) : sizedP p := ⟨h.2.2.2.1.1, fun j hj => by
  rw [List.getD_eq_getElem?_getD, List.getElem?_eq_getElem hj]
  exact (h.2.2.2.1.2 _ (List.getElem_mem hj)).2.2.1.1⟩
/-- the names of the parts of a kind, of the first m parts -/
def namesP (p : Proc) (k : Int) : Nat → List (List UInt8)
  | 0 => []
  | m + 1 => cond ((p.parts.getD m default).kind == k) (namesP p k m ++ [(p.parts.getD m default).name]) (namesP p k m)
theorem namesP_len (p : Proc) (k : Int) : ∀ m, (namesP p k m).length ≤ m
  | 0 => Nat.le_refl _
  | m + 1 => by
    have := namesP_len p k m
    rw [namesP]
    cases ((p.parts.getD m default).kind == k) <;> simp only [cond_true, cond_false, List.length_append, List.length_cons, List.length_nil] <;> omega
theorem o15_is {p : Proc} (h : sizedP p) (k : Int) : o15 p k = some (namesP p k p.parts.length) := by
  have hb := h.1
  unfold o15
  obtain ⟨r, hr, rfl⟩ := loopO_ok (f := o15_L0 p k) (fun s => s.2 ≤ p.parts.length ∧ s.1 = namesP p k s.2) (fun s => p.parts.length - s.2) (fun r => r = namesP p k p.parts.length) (by
    rintro ⟨x, m⟩ ⟨h1, h2⟩
    simp only at h1 h2
    subst h2
    unfold o15_L0
    obtain ⟨M, hM, hMb⟩ : ∃ M : Int, M = 9223372036854775807 ∧ M > 1000000000000000000 := ⟨_, rfl, by decide⟩
    rw [← hM]
    simp only
    by_cases hlt : m < p.parts.length
    · have := namesP_len p k m
      rw [dt (by omega), cond_true]
      cases hk : ((p.parts.getD m default).kind == k) with
      | true =>
        rw [cond_true, grd_at' (by simp only [List.length_cons, List.length_nil]; omega), bindO_some rfl, grd_at' (by omega)]
        exact .inl ⟨_, rfl, ⟨by simp only; omega, by simp only; rw [namesP, hk]; rfl⟩, by simp only; omega⟩
      | false =>
        rw [cond_false, bindO_some rfl, grd_at' (by omega)]
        exact .inl ⟨_, rfl, ⟨by simp only; omega, by simp only; rw [namesP, hk]; rfl⟩, by simp only; omega⟩
    · obtain rfl : m = p.parts.length := by omega
      exact .inr ⟨_, cond_neg (df (by omega)), rfl⟩) fuelN ([], 0) ⟨Nat.zero_le _, rfl⟩ (by simp only [fuelN]; omega)
  rw [hr, bindO_some rfl]
/-- the first part of a kind with a name, from place m on -/
def findP (p : Proc) (k : Int) (n : List UInt8) : Nat → Nat → Part × Bool
  | _, 0 => (⟨0, [], []⟩, false)
  | m, c + 1 => cond (((p.parts.getD m default).kind == k) && ((p.parts.getD m default).name == n)) (p.parts.getD m default, true) (findP p k n (m + 1) c)
def partP (p : Proc) (k : Int) (n : List UInt8) : Part × Bool := findP p k n 0 p.parts.length
theorem findP_in (p : Proc) (k : Int) (n : List UInt8) : ∀ c m, m + c = p.parts.length → (findP p k n m c = (⟨0, [], []⟩, false) ∧ ∀ j, m ≤ j → j < p.parts.length → (((p.parts.getD j default).kind == k) && ((p.parts.getD j default).name == n)) = false) ∨ ∃ j, m ≤ j ∧ j < p.parts.length ∧ findP p k n m c = (p.parts.getD j default, true) ∧ (p.parts.getD j default).kind = k ∧ (p.parts.getD j default).name = n
  | 0, m, h => .inl ⟨rfl, fun j h1 h2 => by omega⟩
  | c + 1, m, h => by
    rw [findP]
    cases hk : (((p.parts.getD m default).kind == k) && ((p.parts.getD m default).name == n)) with
    | true =>
      rw [Bool.and_eq_true] at hk
      exact .inr ⟨m, Nat.le_refl _, by omega, rfl, by simpa using hk.1, by simpa using hk.2⟩
    | false =>
      rw [cond_false]
      rcases findP_in p k n c (m + 1) (by omega) with ⟨h1, h2⟩ | ⟨j, j1, j2, j3⟩
      · refine .inl ⟨h1, fun j q1 q2 => ?_⟩
        by_cases hj : j = m
        · subst hj; exact hk
        · exact h2 j (by omega) q2
      · exact .inr ⟨j, by omega, j2, j3⟩
theorem partP_in (p : Proc) (k : Int) (n : List UInt8) : (partP p k n = (⟨0, [], []⟩, false) ∧ ∀ j, j < p.parts.length → (((p.parts.getD j default).kind == k) && ((p.parts.getD j default).name == n)) = false) ∨ ∃ j, j < p.parts.length ∧ partP p k n = (p.parts.getD j default, true) ∧ (p.parts.getD j default).kind = k ∧ (p.parts.getD j default).name = n := by
  rcases findP_in p k n p.parts.length 0 (Nat.zero_add _) with ⟨h1, h2⟩ | ⟨j, j1, j2, j3⟩
  · exact .inl ⟨h1, fun j => h2 j (Nat.zero_le _)⟩
  · exact .inr ⟨j, j2, j3⟩
theorem partP_legs {p : Proc} (h : sizedP p) (k : Int) (n : List UInt8) : (partP p k n).1.legs.length * 112 ≤ 140737488351232 := by
  rcases partP_in p k n with ⟨h1, -⟩ | ⟨j, j1, h1, -⟩
  · rw [h1]; decide
  · rw [h1]; exact h.2 j j1
theorem loop_find {ρ : Type} {f : Nat → Option (Ctl Nat (Ctl Unit ρ))} (n : Nat) (hn : n ≤ 1000000000000000000) (e : Nat → Bool) (v : Nat → ρ) (h : ∀ s, s < n → f s = some (cond (e s) (Ctl.done (Ctl.done (v s))) (Ctl.go (s + 1)))) (hE : f n = some (Ctl.done (Ctl.go ()))) :
    ∀ (c m N : Nat), m + c = n → c < N → ∃ r, loopO N f m = some r ∧ (r = Ctl.go () ∧ (∀ j, m ≤ j → j < n → e j = false) ∨ ∃ j, m ≤ j ∧ j < n ∧ e j = true ∧ (∀ i, m ≤ i → i < j → e i = false) ∧ r = Ctl.done (v j))
  | 0, m, N + 1, hc, hN => by
    obtain rfl : m = n := by omega
    exact ⟨_, loopO_done hE, .inl ⟨rfl, fun j h1 h2 => by omega⟩⟩
  | c + 1, m, N + 1, hc, hN => by
    have hm := h m (by omega)
    cases he : e m with
    | true =>
      rw [he] at hm
      exact ⟨_, loopO_done hm, .inr ⟨m, Nat.le_refl _, by omega, he, fun i h1 h2 => by omega, rfl⟩⟩
    | false =>
      rw [he] at hm
      rw [loopO_go hm]
      obtain ⟨r, h1, h2⟩ := loop_find n hn e v h hE c (m + 1) N (by omega) (by omega)
      refine ⟨r, h1, ?_⟩
      rcases h2 with ⟨h2, h3⟩ | ⟨j, j1, j2, j3, j4, j5⟩
      · refine .inl ⟨h2, fun j q1 q2 => ?_⟩
        by_cases hj : j = m
        · subst hj; exact he
        · exact h3 j (by omega) q2
      · refine .inr ⟨j, by omega, j2, j3, fun i q1 q2 => ?_, j5⟩
        by_cases hi : i = m
        · subst hi; exact he
        · exact j4 i (by omega) q2
theorem o17_is {p : Proc} (h : sizedP p) (k : Int) (n : List UInt8) : o17 p k n = some (partP p k n) := by
  have hb := h.1
  unfold o17
  have key : ∀ (c m N : Nat), m + c = p.parts.length → c < N → loopO N (o17_L0 p k n) m = some (cond (findP p k n m c).2 (Ctl.done (findP p k n m c)) (Ctl.go ())) := by
    intro c
    induction c with
    | zero =>
      intro m N hm hN
      obtain ⟨N', rfl⟩ : ∃ N', N = N' + 1 := ⟨N - 1, by omega⟩
      have : o17_L0 p k n m = some (Ctl.done (Ctl.go ())) := by unfold o17_L0; exact cond_neg (df (by omega))
      rw [loopO_done this]; rfl
    | succ c ih =>
      intro m N hm hN
      obtain ⟨N', rfl⟩ : ∃ N', N = N' + 1 := ⟨N - 1, by omega⟩
      have hl := h.2 m (by omega)
      have step : o17_L0 p k n m = some (cond (((p.parts.getD m default).kind == k) && ((p.parts.getD m default).name == n)) (Ctl.done (Ctl.done (p.parts.getD m default, true))) (Ctl.go (m + 1))) := by
        unfold o17_L0
        obtain ⟨M, hM, hMb⟩ : ∃ M : Int, M = 9223372036854775807 ∧ M > 1000000000000000000 := ⟨_, rfl, by decide⟩
        rw [← hM, dt (by omega), cond_true]
        cases (((p.parts.getD m default).kind == k) && ((p.parts.getD m default).name == n)) with
        | true => rw [cond_true, cond_true, o41_is (by omega), bindO_some rfl]
        | false => rw [cond_false, cond_false, grd_at' (by omega)]
      rw [findP]
      cases hk : (((p.parts.getD m default).kind == k) && ((p.parts.getD m default).name == n)) with
      | true => rw [hk] at step; rw [loopO_done step]; rfl
      | false => rw [hk] at step; rw [loopO_go step, ih (m + 1) N' (by omega) (by omega)]; rfl
  rw [key p.parts.length 0 fuelN (Nat.zero_add _) (by simp only [fuelN]; omega)]
  show joinO (some (cond (partP p k n).2 (Ctl.done (partP p k n)) (Ctl.go ()))) _ = some (partP p k n)
  rcases partP_in p k n with ⟨h1, -⟩ | ⟨j, j1, h1, -⟩ <;> rw [h1] <;> rfl
end Go.Proofs.YthfekfebgghjhaaDoor
