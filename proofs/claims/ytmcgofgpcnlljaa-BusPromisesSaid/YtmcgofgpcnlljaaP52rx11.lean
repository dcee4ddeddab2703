/-
BusPromises: sums, and the loads that a message adds. Conditions: each lemma's own.
-/
import Derived.Test.YtmcgofgpcnlljaaP525a
import Derived.Test.YtmcgofgpcnlljaaP52qx11
namespace Go.Proofs.Ytmcgofgpcnlljaa
set_option linter.unusedVariables false
set_option linter.unusedSimpArgs false
open Go.RowKit
/-! ### sums -/
def sumZ : Nat → (Nat → Int) → Int
  | 0, _ => 0
  | n + 1, g => sumZ n g + g n
theorem sumZ_congr {g h : Nat → Int} : ∀ (n : Nat), (∀ j, j < n → g j = h j) → sumZ n g = sumZ n h
  | 0, _ => rfl
  | n + 1, e => by rw [sumZ, sumZ, sumZ_congr n (fun j hj => e j (by omega)), e n (by omega)]
theorem sumZ_zero : ∀ (n : Nat), sumZ n (fun _ => 0) = 0
  | 0 => rfl
  | n + 1 => by rw [sumZ, sumZ_zero n]; rfl
theorem sumZ_add (g h : Nat → Int) : ∀ (n : Nat), sumZ n (fun j => g j + h j) = sumZ n g + sumZ n h
  | 0 => rfl
  | n + 1 => by rw [sumZ, sumZ, sumZ, sumZ_add g h n]; omega
theorem sumZ_swap (g : Nat → Nat → Int) (m : Nat) : ∀ (n : Nat), sumZ n (fun i => sumZ m (g i)) = sumZ m (fun j => sumZ n (fun i => g i j))
  | 0 => (sumZ_zero m).symm
  | n + 1 => by rw [sumZ, sumZ_swap g m n, ← sumZ_add]; rfl
theorem sumZ_bound {g : Nat → Int} {B : Int} : ∀ (n : Nat), (∀ j, j < n → 0 ≤ g j ∧ g j ≤ B) → 0 ≤ sumZ n g ∧ sumZ n g ≤ ((n : Nat) : Int) * B
  | 0, _ => ⟨Int.le_refl _, by rw [sumZ]; simp⟩
  | n + 1, h => by
    obtain ⟨h1, h2⟩ := sumZ_bound n (fun j hj => h j (by omega))
    obtain ⟨h3, h4⟩ := h n (by omega)
    rw [sumZ]
    refine ⟨by omega, ?_⟩
    have : (((n + 1 : Nat) : Nat) : Int) * B = ((n : Nat) : Int) * B + B := by rw [Int.natCast_add, Int.add_mul]; simp
    omega
/-- one more of them counts -/
theorem sumZ_take {g : Nat → Int} (t t' : Nat → Bool) (y : Nat) (hy : t y = false) (ht : ∀ j, t' j = (t j || decide (j = y))) : ∀ (n : Nat), sumZ n (fun j => cond (t' j) (g j) 0) = sumZ n (fun j => cond (t j) (g j) 0) + (if y < n then g y else 0)
  | 0 => by simp [sumZ]
  | n + 1 => by
    rw [sumZ, sumZ, sumZ_take t t' y hy ht n, ht n]
    by_cases h : n = y
    · subst h
      rw [hy, dt rfl, if_neg (by omega), if_pos (by omega)]
      simp only [Bool.or_true, cond_true, cond_false]
      try omega
    · rw [df h, Bool.or_false]
      by_cases h2 : y < n
      · rw [if_pos h2, if_pos (by omega)]; omega
      · rw [if_neg h2, if_neg (by omega)]; omega
/-! ### what a message adds -/
def hit (o p f : Nat) : Bool := decide (o ≤ f) && decide ((f - o) % p = 0)
def adds (m : Msg) (o f : Nat) : Int := cond (hit o m.period.toNat f) m.length 0
theorem nohit {a d p : Nat} (h : a % p = 0) (h1 : 0 < d) (h2 : d < p) : (a + d) % p ≠ 0 := by
  rw [Nat.add_mod, h, Nat.zero_add, Nat.mod_mod, Nat.mod_eq_of_lt h2]; omega
def goodM (m : Msg) : Prop := (m.period = 1 ∨ m.period = 2 ∨ m.period = 4 ∨ m.period = 8 ∨ m.period = 16 ∨ m.period = 32) ∧ 1 ≤ m.length ∧ m.length ≤ 1000
theorem goodM.p {m : Msg} (h : goodM m) : 1 ≤ m.period ∧ m.period ≤ 32 := by rcases h.1 with h | h | h | h | h | h <;> omega
theorem adds_in {m : Msg} (h : goodM m) (o f : Nat) : 0 ≤ adds m o f ∧ adds m o f ≤ 1000 := by
  unfold adds
  have := h.2
  cases hit o m.period.toNat f <;> simp only [cond_true, cond_false] <;> omega
theorem hits32 : ∀ p : _root_.Fin 33, (p.val = 1 ∨ p.val = 2 ∨ p.val = 4 ∨ p.val = 8 ∨ p.val = 16 ∨ p.val = 32) → ∀ o : _root_.Fin 32, o.val < p.val → sumZ 32 (fun f => cond (hit o.val p.val f) 1 0) = 32 / ((p.val : Nat) : Int) := by decide +kernel
theorem sumZ_mul (g : Nat → Bool) (c : Int) : ∀ (n : Nat), sumZ n (fun f => cond (g f) c 0) = sumZ n (fun f => cond (g f) 1 0) * c
  | 0 => by rw [sumZ, sumZ, Int.zero_mul]
  | n + 1 => by
    rw [sumZ, sumZ, sumZ_mul g c n, Int.add_mul]
    cases g n <;> simp only [cond_true, cond_false] <;> omega
theorem adds_sum {m : Msg} (h : goodM m) {o : Nat} (ho : ((o : Nat) : Int) < m.period) : sumZ 32 (adds m o) = 32 / m.period * m.length := by
  have hp := h.p
  have := hits32 ⟨m.period.toNat, by omega⟩ (by have := h.1; simp only; omega) ⟨o, by omega⟩ (by simp only; omega)
  simp only at this
  rw [show (((m.period.toNat : Nat) : Int)) = m.period from by omega] at this
  rw [← this]
  exact sumZ_mul (hit o m.period.toNat) m.length 32
/-- the loop that adds a message's words: any function that goes as o19_L1 -/
theorem add_loop {f : Int × List Int → Option (Ctl (Int × List Int) (List Int))} {m : Msg} (gm : goodM m) (hf : ∀ (s : Int × List Int), f s = cond (decide (s.1 < 32)) (grd (decide (0 ≤ s.1 ∧ s.1 < 32)) (grd (decide (-9223372036854775808 ≤ s.1 + m.period ∧ s.1 + m.period ≤ 9223372036854775807)) (some (Ctl.go ((s.1 + m.period), ((List.set s.2 (s.1).toNat ((IntKind.i64.wrap ((List.getD s.2 (s.1).toNat 0) + m.length)) : Int)) : List Int)))))) (some (Ctl.done (s.2 : List Int))))
    (x : List Int) (hx : x.length = 32) (hb : ∀ k, k < 32 → 0 ≤ x.getD k 0 ∧ x.getD k 0 ≤ 1000000) (o : Nat) (ho : o < 32) :
    ∃ r, loopO fuelN f (((o : Nat) : Int), x) = some r ∧ r.length = 32 ∧ ∀ k, k < 32 → r.getD k 0 = x.getD k 0 + adds m o k := by
  have hp := gm.p
  have hl := gm.2
  refine loopO_ok (f := f) (fun s => (∃ q : Nat, s.1 = ((q : Nat) : Int) ∧ o ≤ q ∧ q ≤ 64 ∧ (q - o) % m.period.toNat = 0 ∧ s.2.length = 32 ∧ ∀ k, k < 32 → s.2.getD k 0 = x.getD k 0 + if k < q then adds m o k else 0)) (fun s => (100 - s.1).toNat) (fun r => r.length = 32 ∧ ∀ k, k < 32 → r.getD k 0 = x.getD k 0 + adds m o k) ?_ fuelN _ ⟨o, rfl, Nat.le_refl _, by omega, by simp, hx, fun k hk => ?_⟩ (by simp only [fuelN]; omega)
  rotate_left
  · simp only
    by_cases h : k < o
    · rw [if_pos h]; unfold adds hit; rw [df (by omega : ¬ o ≤ k), Bool.false_and, cond_false]; omega
    · rw [if_neg h]; simp
  rintro ⟨s, y⟩ ⟨q, e, h1, h2, h3, h4, h5⟩
  simp only at e h4 h5
  subst e
  rw [hf]
  simp only
  obtain ⟨M, hM, hM2⟩ : ∃ M : Int, M = 9223372036854775807 ∧ M > 1000 := ⟨_, rfl, by decide⟩
  obtain ⟨M', hM', hM2'⟩ : ∃ M : Int, M = -9223372036854775808 ∧ M < 0 := ⟨_, rfl, by decide⟩
  rw [← hM, ← hM']
  by_cases hlt : q < 32
  · rw [dt (by omega : ((q : Nat) : Int) < 32)]
    simp only [cond_true]
    rw [grd_at' (by omega), grd_at' (by omega)]
    have eq : (((q : Nat) : Int)).toNat = q := by omega
    have hq := h5 q hlt
    rw [if_neg (by omega)] at hq
    have hbq := hb q hlt
    have had : adds m o q = m.length := by unfold adds hit; rw [dt h1, dt h3]; rfl
    refine .inl ⟨_, rfl, ⟨q + m.period.toNat, by simp only; omega, by omega, by omega, ?_, by simp only [List.length_set]; exact h4, fun k hk => ?_⟩, by simp only; omega⟩
    · rw [show q + m.period.toNat - o = (q - o) + m.period.toNat from by omega, Nat.add_mod_right]; exact h3
    · simp only
      rw [eq, getD_set]
      by_cases hkq : q = k
      · subst hkq
        rw [if_pos ⟨rfl, by omega⟩, if_pos (by omega), had, hq, wr64 (by omega)]
        omega
      · rw [if_neg (fun h => hkq h.1), h5 k hk]
        congr 1
        by_cases hk2 : k < q
        · rw [if_pos hk2, if_pos (by omega)]
        · rw [if_neg hk2]
          by_cases hk3 : k < q + m.period.toNat
          · rw [if_pos hk3]
            have hn := nohit (a := q - o) (d := k - q) (p := m.period.toNat) h3 (by omega) (by omega)
            rw [show q - o + (k - q) = k - o from by omega] at hn
            unfold adds hit
            rw [df hn, Bool.and_false]; rfl
          · rw [if_neg hk3]
  · rw [df (by omega)]
    refine .inr ⟨y, rfl, h4, fun k hk => ?_⟩
    rw [h5 k hk, if_pos (by omega)]
/-- a message that fits -/
theorem room_ok {x : List Int} {m : Msg} (gm : goodM m) (o : Nat) (ho : o < 32) (cap : Int) (hb : ∀ k, k < 32 → 0 ≤ x.getD k 0 ∧ x.getD k 0 ≤ 1000000) :
    ∃ b, o43 x m ((o : Nat) : Int) cap = some b ∧ (b = true → ∀ k, k < 32 → hit o m.period.toNat k = true → x.getD k 0 + m.length ≤ cap) := by
  have hp := gm.p
  have hl := gm.2
  unfold o43
  obtain ⟨r, h, hr⟩ := loopO_ok (f := o43_L0 x m cap) (fun s => (∃ q : Nat, s = ((q : Nat) : Int) ∧ o ≤ q ∧ q ≤ 64 ∧ (q - o) % m.period.toNat = 0 ∧ ∀ k, k < 32 → k < q → hit o m.period.toNat k = true → x.getD k 0 + m.length ≤ cap)) (fun s => (100 - s).toNat) (fun r => (r = Ctl.done false) ∨ (r = Ctl.go () ∧ ∀ k, k < 32 → hit o m.period.toNat k = true → x.getD k 0 + m.length ≤ cap)) (by
    rintro s ⟨q, rfl, h1, h2, h3, h4⟩
    unfold o43_L0
    obtain ⟨M, hM, hM2⟩ : ∃ M : Int, M = 9223372036854775807 ∧ M > 1000 := ⟨_, rfl, by decide⟩
    obtain ⟨M', hM', hM2'⟩ : ∃ M : Int, M = -9223372036854775808 ∧ M < 0 := ⟨_, rfl, by decide⟩
    rw [← hM, ← hM']
    by_cases hlt : q < 32
    · have hbq := hb q hlt
      have eq : (((q : Nat) : Int)).toNat = q := by omega
      rw [dt (by omega : ((q : Nat) : Int) < 32)]
      simp only [cond_true]
      rw [grd_at' (by omega), eq, wr64 (by omega)]
      by_cases hc : x.getD q 0 + m.length > cap
      · rw [dt hc]; exact .inr ⟨_, rfl, .inl rfl⟩
      · rw [df hc]
        simp only [cond_false]
        rw [grd_at' (by omega)]
        refine .inl ⟨_, rfl, ⟨q + m.period.toNat, by omega, by omega, by omega, ?_, fun k hk hk2 hh => ?_⟩, by omega⟩
        · rw [show q + m.period.toNat - o = (q - o) + m.period.toNat from by omega, Nat.add_mod_right]; exact h3
        · by_cases hk3 : k < q
          · exact h4 k hk hk3 hh
          · by_cases hk4 : k = q
            · subst hk4; omega
            · exfalso
              have hn := nohit (a := q - o) (d := k - q) (p := m.period.toNat) h3 (by omega) (by omega)
              rw [show q - o + (k - q) = k - o from by omega] at hn
              unfold hit at hh
              rw [df hn, Bool.and_false] at hh; cases hh
    · rw [df (by omega)]
      exact .inr ⟨_, rfl, .inr ⟨rfl, fun k hk hh => h4 k hk (by omega) hh⟩⟩) fuelN _ ⟨o, rfl, Nat.le_refl _, by omega, by simp, fun k hk hk2 hh => by
        unfold hit at hh; rw [df (by omega : ¬ o ≤ k)] at hh; cases hh⟩ (by simp only [fuelN]; omega)
  rw [h]
  rcases hr with rfl | ⟨rfl, hr⟩
  · exact ⟨false, rfl, fun h => by cases h⟩
  · exact ⟨true, rfl, fun _ => hr⟩
end Go.Proofs.Ytmcgofgpcnlljaa
