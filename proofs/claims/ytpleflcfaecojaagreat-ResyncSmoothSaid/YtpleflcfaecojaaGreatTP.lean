/-
Plain tools for what is printed: one step at a time, loops. Conditions: each lemma's own.
-/
import Derived.Test.YtpleflcfaecojaaGreatH21
import Derived.Test.YtpleflcfaecojaaGreatPB
namespace Go.Proofs.YtpleflcfaecojaaGreat
set_option linter.unusedVariables false
set_option linter.unusedSimpArgs false
set_option maxRecDepth 100000
open Go.RowKit
theorem cndT {α : Type} {c : Bool} {x y : α} (h : c = true) : cnd c x y = x := by subst h; rfl
theorem cndF {α : Type} {c : Bool} {x y : α} (h : c = false) : cnd c x y = y := by subst h; rfl
theorem gdT {α : Type} {c : Bool} {x : Option α} (h : c = true) : gd c x = x := by subst h; rfl
theorem bdS {α β : Type} {x : Option α} {t : α} {k : α → Option β} (h : x = some t) : bd x k = k t := by subst h; rfl
theorem bdI {α β : Type} (t : α) (k : α → Option β) : bd (some t) k = k t := rfl
theorem dnS {α β : Type} (x : β) : dnO (α := α) (some x) = some (.done x) := rfl
theorem smL {α β ρ : Type} (a : α) (f : α → ρ) (g : β → ρ) : sm (.inl a) f g = f a := rfl
theorem smR {α β ρ : Type} (b : β) (f : α → ρ) (g : β → ρ) : sm (.inr b) f g = g b := rfl
theorem loop_cnt {σ ρ : Type} {B : σ → Option (Ctl σ ρ)} (S : Nat → σ) {r : ρ} {n : Nat} (h : ∀ i, i < n → B (S i) = some (.go (S (i + 1)))) (hd : B (S n) = some (.done r)) (hn : n < 18446744073709551616) : loopO fuelN B (S 0) = some r := by
  have key : ∀ k m, k ≤ n → k < m → loopO m B (S (n - k)) = some r := by
    intro k
    induction k with
    | zero =>
      intro m _ hm
      obtain ⟨j, rfl⟩ : ∃ j, m = j + 1 := ⟨m - 1, by omega⟩
      exact loopO_done hd
    | succ k ih =>
      intro m hk hm
      obtain ⟨j, rfl⟩ : ∃ j, m = j + 1 := ⟨m - 1, by omega⟩
      rw [loopO_go (h (n - (k + 1)) (by omega)), show n - (k + 1) + 1 = n - k by omega]
      exact ih j (by omega) (by omega)
  have := key n fuelN (Nat.le_refl _) (by show n < 18446744073709551616; exact hn)
  rw [Nat.sub_self] at this
  exact this
theorem loop_inv {σ ρ : Type} {B : σ → Option (Ctl σ ρ)} (I : Nat → σ → Prop) {Q : ρ → Prop} {n : Nat} (h : ∀ i s, i < n → I i s → ∃ s', B s = some (.go s') ∧ I (i + 1) s') (hd : ∀ s, I n s → ∃ r, B s = some (.done r) ∧ Q r) (hn : n < 18446744073709551616) {s0 : σ} (h0 : I 0 s0) : ∃ r, loopO fuelN B s0 = some r ∧ Q r := by
  have key : ∀ k m s, k ≤ n → k < m → I (n - k) s → ∃ r, loopO m B s = some r ∧ Q r := by
    intro k
    induction k with
    | zero =>
      intro m s _ hm hi
      obtain ⟨j, rfl⟩ : ∃ j, m = j + 1 := ⟨m - 1, by omega⟩
      obtain ⟨r, h1, h2⟩ := hd s hi
      exact ⟨r, loopO_done h1, h2⟩
    | succ k ih =>
      intro m s hk hm hi
      obtain ⟨j, rfl⟩ : ∃ j, m = j + 1 := ⟨m - 1, by omega⟩
      obtain ⟨s', h1, h2⟩ := h (n - (k + 1)) s (by omega) hi
      rw [loopO_go h1]
      rw [show n - (k + 1) + 1 = n - k by omega] at h2
      exact ih j s' (by omega) (by omega) h2
  exact key n fuelN s0 (Nat.le_refl _) (by show n < 18446744073709551616; exact hn) (by rw [Nat.sub_self]; exact h0)
theorem getD_of {α : Type} {l : List α} {i : Nat} {d : α} (h : i < l.length) : l.getD i d = l[i] := by
  rw [List.getD_eq_getElem?_getD, List.getElem?_eq_getElem h]; rfl
theorem loop_from {σ ρ : Type} {B : σ → Option (Ctl σ ρ)} (S : Nat → σ) (n : Nat) {s0 : σ} {r : ρ} (e : S 0 = s0) (h : ∀ i, i < n → B (S i) = some (.go (S (i + 1)))) (hd : B (S n) = some (.done r)) (hn : n < 18446744073709551616) : loopO fuelN B s0 = some r := e ▸ loop_cnt S h hd hn
theorem cnd_ext {α β : Type} {c : Bool} {A B : Option β} {F : α → β} {X Y : α} (hT : A = some (F X)) (hF : B = some (F Y)) : cnd c A B = some (F (cond c X Y)) := by cases c <;> assumption
theorem cndN_ext {α β : Type} {c : Bool} {A B : Option β} {F : α → β} {X Y : α} (hT : B = some (F X)) (hF : A = some (F Y)) : cnd (!c) A B = some (F (cond c X Y)) := by cases c <;> assumption
end Go.Proofs.YtpleflcfaecojaaGreat
