/-
Numbers read from bytes, and the checks of a list (from the texts of BusDecodes and AlertChecks). Conditions: each lemma's own.
-/
import Derived.Test.YtfhchendnfpbkaaPB
import Derived.Test.YtfhchendnfpbkaaK8x2
namespace Go.Proofs.Ytfhchendnfpbkaa
set_option linter.unusedVariables false
set_option linter.unusedSimpArgs false
open Go.RowKit
theorem take_one {p : List UInt8} {k : Nat} (h : k < p.length) : p.take (k + 1) = p.take k ++ [p.getD k 0] := by
  rw [List.take_add_one, List.getD_eq_getElem?_getD, List.getElem?_eq_getElem h]; rfl
theorem natL_at (q : List UInt8) : ∀ (m i : Nat), i < m → natL q m / 256 ^ i % 256 = (q.getD i 0).toNat
  | 0, i, h => by omega
  | m + 1, i, h => by
    have hq := UInt8.toNat_lt (q.getD m 0)
    have hlt := natL_lt q m
    by_cases e : i = m
    · subst e
      have hpos : 0 < 256 ^ i := Nat.pow_pos (by decide)
      rw [natL, Nat.add_mul_div_right _ _ hpos, Nat.div_eq_of_lt hlt]
      omega
    · have ih := natL_at q m i (by omega)
      have e2 : 256 ^ m = 256 ^ (m - i - 1) * 256 * 256 ^ i := by
        rw [Nat.mul_assoc, Nat.mul_comm 256, ← Nat.mul_assoc, ← Nat.pow_add, ← Nat.pow_succ]
        congr 1; omega
      have hpos : 0 < 256 ^ i := Nat.pow_pos (by decide)
      rw [natL, e2, ← Nat.mul_assoc, Nat.add_mul_div_right _ _ hpos, ← Nat.mul_assoc, Nat.add_mul_mod_self_right]
      exact ih
theorem byteAt_natL (q : List UInt8) (m i : Nat) (h : i < m) (h8 : m ≤ 8) : byteAt ((natL q m : Nat) : Int) i = q.getD i 0 := by
  have e := byteAt_toNat ((natL q m : Nat) : Int) i (by omega)
  have e2 := natL_at q m i h
  have e3 : ((natL q m : Nat) : Int) / 256 ^ i % 256 = ((natL q m / 256 ^ i % 256 : Nat) : Int) := by simp
  rw [e3, e2] at e
  have e4 : (byteAt ((natL q m : Nat) : Int) i).toNat = (q.getD i 0).toNat := by omega
  exact UInt8.toNat_inj.1 e4
theorem byteAt_wrap (x : Int) (i : Nat) (h : i < 8) : byteAt (IntKind.i64.wrap x) i = byteAt x i := by
  have e1 := byteAt_toNat (IntKind.i64.wrap x) i h
  have e2 := byteAt_toNat x i h
  apply UInt8.toNat_inj.1
  have : IntKind.i64.wrap x / 256 ^ i % 256 = x / 256 ^ i % 256 := by
    rw [IntKind.wrap_i64]
    have h8 : i = 0 ∨ i = 1 ∨ i = 2 ∨ i = 3 ∨ i = 4 ∨ i = 5 ∨ i = 6 ∨ i = 7 := by omega
    rcases h8 with rfl | rfl | rfl | rfl | rfl | rfl | rfl | rfl <;> simp only [Int.reducePow] <;> omega
  omega
theorem map_take (q : List UInt8) : ∀ k, k ≤ q.length → (List.range k).map (fun i => q.getD i 0) = q.take k
  | 0, _ => rfl
  | k + 1, h => by
    rw [List.range_succ, List.map_append, map_take q k (by omega), take_one (by omega)]
    rfl
theorem putB_natL (q : List UInt8) (k : Nat) (h : k ≤ q.length) (h8 : k ≤ 8) : putB ((natL q k : Nat) : Int) k = q.take k := by
  unfold putB
  rw [← map_take q k h]
  apply List.map_congr_left
  intro i hi
  exact byteAt_natL q k i (List.mem_range.1 hi) h8
theorem putB_getI (q : List UInt8) (h : 8 ≤ q.length) : putB (getI q 8) 8 = q.take 8 := by
  rw [← putB_natL q 8 h (by decide)]
  unfold putB
  apply List.map_congr_left
  intro i hi
  exact byteAt_wrap _ i (List.mem_range.1 hi)
theorem loop_all {ρ : Type} {f : Nat → Option (Ctl Nat (Ctl Unit ρ))} (n : Nat) (v : ρ) (ok : Nat → Prop) (h : ∀ s, s < n → (ok s ∧ f s = some (.go (s + 1))) ∨ (¬ ok s ∧ f s = some (.done (.done v)))) (hn : f n = some (.done (.go ()))) (hb : n ≤ 1000) :
    (loopO fuelN f 0 = some (Ctl.go ()) ∧ ∀ s, s < n → ok s) ∨ (loopO fuelN f 0 = some (Ctl.done v) ∧ ¬ ∀ s, s < n → ok s) := by
  obtain ⟨r, h1, h2⟩ := loopO_ok (f := f) (fun s => s ≤ n ∧ ∀ j, j < s → ok j) (fun s => n - s) (fun r => (r = Ctl.go () ∧ ∀ s, s < n → ok s) ∨ (r = Ctl.done v ∧ ¬ ∀ s, s < n → ok s)) (by
    intro s ⟨hs, hall⟩
    by_cases hlt : s < n
    · rcases h s hlt with ⟨a, b⟩ | ⟨a, b⟩
      · refine .inl ⟨s + 1, b, ⟨by omega, fun j hj => ?_⟩, by omega⟩
        by_cases hjs : j = s
        · subst hjs; exact a
        · exact hall j (by omega)
      · exact .inr ⟨_, b, .inr ⟨rfl, fun hh => a (hh s hlt)⟩⟩
    · obtain rfl : s = n := by omega
      exact .inr ⟨_, hn, .inl ⟨rfl, hall⟩⟩) fuelN 0 ⟨Nat.zero_le _, fun j hj => by omega⟩ (by simp only [fuelN]; omega)
  rcases h2 with ⟨rfl, h3⟩ | ⟨rfl, h3⟩
  · exact .inl ⟨h1, h3⟩
  · exact .inr ⟨h1, h3⟩
def chI (s : List UInt8) (i : Nat) : Int := (((List.getD (s : List UInt8) i 0)).toNat : Int)
def alI (c : Int) : Bool := ((decide (c ≥ 65) && decide (c ≤ 90)) || (decide (c ≥ 48) && decide (c ≤ 57)))
theorem al_32 : alI 32 = false := by decide
theorem o34_told (s : List UInt8) : ∃ b, o34 s = some b ∧ (b = true ↔ (1 ≤ s.length ∧ s.length ≤ 20) ∧ ∀ i, i < s.length → alI (chI s i) = true ∨ (chI s i = 32 ∧ 0 < i ∧ i + 1 < s.length ∧ chI s (i - 1) ≠ 32)) := by
  unfold o34
  by_cases h1 : s.length < 1 ∨ 20 < s.length
  · have : (decide (((s.length : Nat) : Int) < 1) || decide (((s.length : Nat) : Int) > 20)) = true := by rw [Bool.or_eq_true]; rcases h1 with h | h; exact .inl (dt (by omega)); exact .inr (dt (by omega))
    rw [this]
    refine ⟨false, rfl, ?_⟩
    constructor
    · intro h; cases h
    · intro h; omega
  · have hn : (decide (((s.length : Nat) : Int) < 1) || decide (((s.length : Nat) : Int) > 20)) = false := by rw [df (by omega), df (by omega)]; rfl
    rw [hn]
    simp only [cond_false]
    have step : ∀ k, k < s.length → ((alI (chI s k) = true ∨ (chI s k = 32 ∧ 0 < k ∧ k + 1 < s.length ∧ chI s (k - 1) ≠ 32)) ∧ o34_L0 s k = some (.go (k + 1))) ∨ (¬ (alI (chI s k) = true ∨ (chI s k = 32 ∧ 0 < k ∧ k + 1 < s.length ∧ chI s (k - 1) ≠ 32)) ∧ o34_L0 s k = some (.done (.done false))) := by
      intro k hk
      unfold o34_L0
      obtain ⟨M, hM⟩ : ∃ M : Int, M = 9223372036854775807 := ⟨_, rfl⟩
      rw [← hM, dt (by omega : ((k : Nat) : Int) < ((s.length : Nat) : Int))]
      simp only [cond_true]
      rw [grd_pos (dt (by omega : ((k : Nat) : Int) + 1 ≤ M))]
      have e : (((k : Nat) : Int) - 1).toNat = k - 1 := by omega
      rw [e]
      have hc : (((List.getD (s : List UInt8) k 0)).toNat : Int) = chI s k := rfl
      have hp : (((List.getD (s : List UInt8) (k - 1) 0)).toNat : Int) = chI s (k - 1) := rfl
      rw [hc, hp]
      have ha : ((decide (chI s k ≥ 65) && decide (chI s k ≤ 90)) || (decide (chI s k ≥ 48) && decide (chI s k ≤ 57))) = alI (chI s k) := rfl
      rw [ha]
      by_cases hm : chI s k = 32 ∧ 0 < k ∧ k + 1 < s.length
      · have : (((chI s k == 32) && decide (((k : Nat) : Int) > 0)) && decide (((k : Nat) : Int) < (((s.length : Nat) : Int) - 1))) = true := by rw [eq_t hm.1, dt (by omega), dt (by omega)]; rfl
        rw [this]
        simp only [cond_true]
        rw [grd_pos (dt (by omega)), bindO_some rfl]
        rw [hm.1, al_32]
        by_cases hq : chI s (k - 1) = 32
        · rw [neq_f hq]
          refine .inr ⟨?_, rfl⟩
          rintro (h | h)
          · cases h
          · exact h.2.2.2 hq
        · rw [neq_t hq]
          exact .inl ⟨.inr ⟨rfl, hm.2.1, hm.2.2, hq⟩, rfl⟩
      · have : (((chI s k == 32) && decide (((k : Nat) : Int) > 0)) && decide (((k : Nat) : Int) < (((s.length : Nat) : Int) - 1))) = false := by
          by_cases h1 : chI s k = 32
          · by_cases h2 : 0 < k
            · rw [df (p := ((k : Nat) : Int) < (((s.length : Nat) : Int) - 1)) (fun h => hm ⟨h1, h2, by omega⟩)]; simp
            · rw [df (p := ((k : Nat) : Int) > 0) (by omega)]; simp
          · rw [eq_f h1]; simp
        rw [this]
        simp only [cond_false]
        rw [bindO_some rfl]
        cases h : alI (chI s k) with
        | true => exact .inl ⟨.inl rfl, rfl⟩
        | false =>
          refine .inr ⟨?_, rfl⟩
          rintro (h | h)
          · cases h
          · exact hm ⟨h.1, h.2.1, h.2.2.1⟩
    rcases loop_all s.length false _ step (by unfold o34_L0; exact cond_neg (df (by omega))) (by omega) with ⟨h, ha⟩ | ⟨h, ha⟩
    · rw [h]; exact ⟨true, rfl, ⟨fun _ => ⟨by omega, ha⟩, fun _ => rfl⟩⟩
    · rw [h]; exact ⟨false, rfl, ⟨fun h => (by cases h), fun hh => absurd hh.2 ha⟩⟩
theorem o37_told (s : List UInt8) : ∃ b, o37 s = some b ∧ (b = true ↔ (1 ≤ s.length ∧ s.length ≤ 20) ∧ (chI s 0 ≠ 32 ∧ chI s (s.length - 1) ≠ 32) ∧ ∀ i, i < s.length → alI (chI s i) = true ∨ (chI s i = 32 ∧ chI s (i - 1) ≠ 32)) := by
  unfold o37
  have h0 : (((List.getD (s : List UInt8) 0 0)).toNat : Int) = chI s 0 := rfl
  rw [h0]
  by_cases h1 : (s.length < 1 ∨ 20 < s.length) ∨ chI s 0 = 32
  · have : ((decide (((s.length : Nat) : Int) < 1) || decide (((s.length : Nat) : Int) > 20)) || (chI s 0 == 32)) = true := by
      rcases h1 with (h | h) | h
      · rw [dt (p := ((s.length : Nat) : Int) < 1) (by omega)]; simp
      · rw [dt (p := ((s.length : Nat) : Int) > 20) (by omega)]; simp
      · rw [eq_t h]; simp
    rw [this]
    refine ⟨false, rfl, ?_⟩
    constructor
    · intro h; cases h
    · intro h
      rcases h1 with h1 | h1
      · omega
      · exact absurd h1 h.2.1.1
  · have hc0 : chI s 0 ≠ 32 := fun h => h1 (.inr h)
    have hn : ((decide (((s.length : Nat) : Int) < 1) || decide (((s.length : Nat) : Int) > 20)) || (chI s 0 == 32)) = false := by rw [df (by omega), df (by omega), eq_f hc0]; rfl
    rw [hn]
    simp only [cond_false]
    have e : (((s.length : Nat) : Int) - 1).toNat = s.length - 1 := by omega
    rw [grd_pos (dt (by omega)), bindO_some rfl, e]
    have hl : (((List.getD (s : List UInt8) (s.length - 1) 0)).toNat : Int) = chI s (s.length - 1) := rfl
    rw [hl]
    by_cases hz : chI s (s.length - 1) = 32
    · rw [eq_t hz]
      refine ⟨false, rfl, ?_⟩
      constructor
      · intro h; cases h
      · intro h; exact absurd hz h.2.1.2
    rw [eq_f hz]
    simp only [cond_false]
    have step : ∀ k, k < s.length → ((alI (chI s k) = true ∨ (chI s k = 32 ∧ chI s (k - 1) ≠ 32)) ∧ o37_L0 s k = some (.go (k + 1))) ∨ (¬ (alI (chI s k) = true ∨ (chI s k = 32 ∧ chI s (k - 1) ≠ 32)) ∧ o37_L0 s k = some (.done (.done false))) := by
      intro k hk
      unfold o37_L0
      obtain ⟨M, hM⟩ : ∃ M : Int, M = 9223372036854775807 := ⟨_, rfl⟩
      have hw : IntKind.i64.wrap (((k : Nat) : Int) - 1) = ((k : Nat) : Int) - 1 := wr64 (by omega)
      rw [← hM, dt (by omega : ((k : Nat) : Int) < ((s.length : Nat) : Int)), hw]
      simp only [cond_true]
      rw [grd_pos (dt (by omega : ((k : Nat) : Int) + 1 ≤ M))]
      have e : (((k : Nat) : Int) - 1).toNat = k - 1 := by omega
      rw [e]
      have hc : (((List.getD (s : List UInt8) k 0)).toNat : Int) = chI s k := rfl
      have hp : (((List.getD (s : List UInt8) (k - 1) 0)).toNat : Int) = chI s (k - 1) := rfl
      rw [hc, hp]
      have ha : ((decide (chI s k ≥ 65) && decide (chI s k ≤ 90)) || (decide (chI s k ≥ 48) && decide (chI s k ≤ 57))) = alI (chI s k) := rfl
      rw [ha]
      cases h : alI (chI s k) with
      | true => exact .inl ⟨.inl rfl, rfl⟩
      | false =>
        simp only [Bool.not_false, cond_true]
        by_cases hm : chI s k = 32
        · rw [neq_f hm]
          simp only [cond_false]
          have hk0 : 0 < k := by
            rcases Nat.eq_zero_or_pos k with h | h
            · subst h; exact absurd hm hc0
            · exact h
          rw [grd_pos (dt (by omega)), bindO_some rfl, bindO_some rfl]
          by_cases hq : chI s (k - 1) = 32
          · rw [eq_t hq]
            refine .inr ⟨?_, rfl⟩
            rintro (h | h)
            · cases h
            · exact h.2 hq
          · rw [eq_f hq]
            exact .inl ⟨.inr ⟨hm, hq⟩, rfl⟩
        · rw [neq_t hm]
          refine .inr ⟨?_, rfl⟩
          rintro (h | h)
          · cases h
          · exact hm h.1
    rcases loop_all s.length false _ step (by unfold o37_L0; exact cond_neg (df (by omega))) (by omega) with ⟨h, ha⟩ | ⟨h, ha⟩
    · rw [h]; exact ⟨true, rfl, ⟨fun _ => ⟨by omega, ⟨hc0, hz⟩, ha⟩, fun _ => rfl⟩⟩
    · rw [h]; exact ⟨false, rfl, ⟨fun h => (by cases h), fun hh => absurd hh.2.2 ha⟩⟩
theorem o37_eq (s : List UInt8) : o37 s = o34 s := by
  obtain ⟨a, ha, h1⟩ := o34_told s
  obtain ⟨b, hb, h2⟩ := o37_told s
  rw [ha, hb]
  congr 1
  rw [Bool.eq_iff_iff, h1, h2]
  constructor
  · rintro ⟨hl, ⟨hf, hz⟩, hall⟩
    refine ⟨hl, fun i hi => ?_⟩
    rcases hall i hi with h | ⟨h, h'⟩
    · exact .inl h
    · refine .inr ⟨h, ?_, ?_, h'⟩
      · rcases Nat.eq_zero_or_pos i with e | e
        · subst e; exact absurd h hf
        · exact e
      · by_cases e : i + 1 < s.length
        · exact e
        · obtain rfl : i = s.length - 1 := by omega
          exact absurd h hz
  · rintro ⟨hl, hall⟩
    refine ⟨hl, ⟨fun h => ?_, fun h => ?_⟩, fun i hi => ?_⟩
    · rcases hall 0 (by omega) with h' | h'
      · rw [h, al_32] at h'; cases h'
      · omega
    · rcases hall (s.length - 1) (by omega) with h' | h'
      · rw [h, al_32] at h'; cases h'
      · omega
    · rcases hall i hi with h | h
      · exact .inl h
      · exact .inr ⟨h.1, h.2.2.2⟩
theorem dupP (l : List AlertDef) (c : AlertDef) (hl : l.length ≤ 1000) : ∃ b, o35f36 l c = some b ∧ (b = false ↔ ∀ i, i < l.length → ¬ ((l.getD i default).name == c.name) = true) := by
  unfold o35f36 o58f36
  obtain ⟨r, h, hp⟩ := loopO_ok (f := o58f36_L0 l c) (fun s => s ≤ l.length ∧ ∀ j, j < s → ¬ ((l.getD j default).name == c.name) = true) (fun s => l.length - s) (fun r => (r = Ctl.go () ∧ ∀ i, i < l.length → ¬ ((l.getD i default).name == c.name) = true) ∨ ∃ k : Nat, r = Ctl.done ((k : Nat) : Int) ∧ k < l.length ∧ ((l.getD k default).name == c.name) = true) (by
    intro s ⟨hs, hall⟩
    unfold o58f36_L0
    obtain ⟨M, hM⟩ : ∃ M : Int, M = 9223372036854775807 := ⟨_, rfl⟩
    rw [← hM]
    by_cases hlt : s < l.length
    · rw [dt (by omega : ((s : Nat) : Int) < ((l.length : Nat) : Int)), letJ_def]
      simp only [cond_true]
      unfold o36
      cases he : ((l.getD s default).name == c.name) with
      | true => exact .inr ⟨_, rfl, .inr ⟨s, rfl, hlt, he⟩⟩
      | false =>
        simp only [cond_false]
        refine .inl ⟨s + 1, grd_pos (dt (by omega)), ⟨by omega, fun j hj => ?_⟩, by omega⟩
        by_cases hjs : j = s
        · subst hjs; rw [he]; decide
        · exact hall j (by omega)
    · obtain rfl : s = l.length := by omega
      exact .inr ⟨_, cond_neg (df (by omega)), .inl ⟨rfl, hall⟩⟩) fuelN 0 ⟨Nat.zero_le _, fun j hj => by omega⟩ (by simp only [fuelN]; omega)
  rw [h]
  rcases hp with ⟨rfl, hp⟩ | ⟨k, rfl, hk, he⟩
  · exact ⟨false, rfl, ⟨fun _ => hp, fun _ => rfl⟩⟩
  · refine ⟨true, ?_, ⟨fun h => (by cases h), fun h => absurd he (h k hk)⟩⟩
    rw [joinO_done rfl, bindO_some rfl, dt (by omega)]
theorem dupR (l : List AlertDef) (s : Nat) (hl : l.length ≤ 1000) (hs : s ≤ l.length) :
    (loopO fuelN (o14_L1 l s) 0 = some (Ctl.go ()) ∧ o35f36 (l.take s) (l.getD s default) = some false) ∨ (loopO fuelN (o14_L1 l s) 0 = some (Ctl.done (Ctl.done (Ctl.done (Ctl.done 7)))) ∧ o35f36 (l.take s) (l.getD s default) = some true) := by
  have hlen : (l.take s).length = s := by rw [List.length_take]; omega
  obtain ⟨b, hb, hiff⟩ := dupP (l.take s) (l.getD s default) (by omega)
  have step : ∀ k, k < (l.take s).length → ((¬ (((l.take s).getD k default).name == (l.getD s default).name) = true) ∧ o14_L1 l s k = some (.go (k + 1))) ∨ (¬ (¬ (((l.take s).getD k default).name == (l.getD s default).name) = true) ∧ o14_L1 l s k = some (.done (.done (.done (.done (.done 7)))))) := by
    intro k hk
    unfold o14_L1
    obtain ⟨M, hM⟩ : ∃ M : Int, M = 9223372036854775807 := ⟨_, rfl⟩
    rw [← hM, dt (by omega : ((k : Nat) : Int) < (((l.take s).length : Nat) : Int))]
    simp only [cond_true]
    cases he : (((l.take s).getD k default).name == (l.getD s default).name) with
    | true => exact .inr ⟨by simp, rfl⟩
    | false => exact .inl ⟨by simp, grd_pos (dt (by omega))⟩
  rcases loop_all (l.take s).length _ _ step (by unfold o14_L1; exact cond_neg (df (by omega))) (by omega) with ⟨h, ha⟩ | ⟨h, ha⟩
  · exact .inl ⟨h, by rw [hb, hiff.2 ha]⟩
  · refine .inr ⟨h, ?_⟩
    cases b with
    | true => exact hb
    | false => exact absurd (hiff.1 rfl) ha
theorem inh (x : Int) : landnK .u16 x 510 = landK .u16 x 65025 := by
  unfold landnK landK
  have : ~~~ BitVec.ofInt IntKind.u16.bits 510 = BitVec.ofInt IntKind.u16.bits 65025 := by decide
  rw [this]
theorem steps_eq (l : List AlertDef) (s : Nat) (hl : l.length ≤ 1000) (hs : s ≤ l.length) : o14_L0 l s = o13_L0 l s := by
  unfold o14_L0 o13_L0
  obtain ⟨M, hM⟩ : ∃ M : Int, M = 9223372036854775807 := ⟨_, rfl⟩
  rw [← hM, o37_eq, inh]
  obtain ⟨b, hb, -⟩ := o34_told (l.getD s default).name
  rw [hb, bindO_some rfl, bindO_some rfl]
  cases (decide (((s : Nat) : Int) < ((l.length : Nat) : Int))) with
  | false => rfl
  | true =>
  simp only [cond_true]
  cases b with
  | false => rfl
  | true =>
  simp only [Bool.not_true, cond_false]
  rcases dupR l s hl hs with ⟨h1, h2⟩ | ⟨h1, h2⟩
  · rw [h1, h2, bindO_some rfl, joinO_go (t := ()) rfl]
    simp only [cond_false]
    cases (decide ((l.getD s default).level < 1) || decide ((l.getD s default).level > 3)) with
    | true => rfl
    | false =>
      simp only [cond_false]
      cases ((landK .u16 (l.getD s default).inhibit 65025) != 0) <;> rfl
  · rw [h1, h2]; rfl
theorem loop_same {σ ρ : Type} {f g : σ → Option (Ctl σ ρ)} (I : σ → Prop) (h : ∀ s, I s → f s = g s) (hI : ∀ s t, I s → f s = some (.go t) → I t) : ∀ (N : Nat) (s : σ), I s → loopO N f s = loopO N g s
  | 0, _, _ => rfl
  | N + 1, s, hs => by
    have e1 : loopO (N + 1) f s = joinO (f s) (loopO N f) := rfl
    have e2 : loopO (N + 1) g s = joinO (g s) (loopO N g) := rfl
    rw [e1, e2, ← h s hs]
    cases hf : f s with
    | none => rfl
    | some c => cases c with
      | done r => rfl
      | go t => exact loop_same I h hI N t (hI s t hs hf)
theorem o13_step (l : List AlertDef) (s : Nat) (hl : l.length ≤ 1000) (hs : s < l.length) : (o13_L0 l s = some (.go (s + 1))) ∨ ∃ v, o13_L0 l s = some (.done (.done v)) := by
  unfold o13_L0
  obtain ⟨M, hM⟩ : ∃ M : Int, M = 9223372036854775807 := ⟨_, rfl⟩
  rw [← hM, dt (by omega : ((s : Nat) : Int) < ((l.length : Nat) : Int))]
  simp only [cond_true]
  obtain ⟨b, hb, -⟩ := o34_told (l.getD s default).name
  obtain ⟨c, hc, -⟩ := dupP (l.take s) (l.getD s default) (by rw [List.length_take]; omega)
  rw [hb, bindO_some rfl, hc, bindO_some rfl, grd_pos (dt (by omega))]
  cases b with
  | false => exact .inr ⟨_, rfl⟩
  | true =>
  cases c with
  | true => exact .inr ⟨_, rfl⟩
  | false =>
  cases (decide ((l.getD s default).level < 1) || decide ((l.getD s default).level > 3)) with
  | true => exact .inr ⟨_, rfl⟩
  | false =>
  cases ((landnK .u16 (l.getD s default).inhibit 510) != 0) with
  | true => exact .inr ⟨_, rfl⟩
  | false => exact .inl rfl
theorem o13_end (l : List AlertDef) : o13_L0 l l.length = some (.done (.go ())) := by
  unfold o13_L0
  obtain ⟨M, hM⟩ : ∃ M : Int, M = 9223372036854775807 := ⟨_, rfl⟩
  rw [← hM]
  exact cond_neg (df (by omega))
theorem o14_eq (l : List AlertDef) : o14 l = o13 l := by
  unfold o14 o13
  by_cases hl : l.length ≤ 16
  · rw [loop_same (f := o14_L0 l) (g := o13_L0 l) (fun s => s ≤ l.length) (fun s hs => steps_eq l s (by omega) hs) (fun s t hs ht => by
      rw [steps_eq l s (by omega) hs] at ht
      rcases Nat.lt_or_ge s l.length with h | h
      · rcases o13_step l s (by omega) h with e | ⟨v, e⟩
        · rw [e] at ht; cases ht; omega
        · rw [e] at ht; cases ht
      · obtain rfl : s = l.length := by omega
        rw [o13_end] at ht; cases ht) fuelN 0 (Nat.zero_le _)]
  · rw [dt (by omega)]
    simp only [cond_true]
theorem o13_told (l : List AlertDef) : ∃ v, o13 l = some v ∧ (v = 0 → l.length ≤ 16) := by
  unfold o13
  by_cases hl : l.length ≤ 16
  · rw [df (by omega)]
    obtain ⟨r, h, -⟩ := loopO_ok (f := o13_L0 l) (fun s => s ≤ l.length) (fun s => l.length - s) (fun _ => True) (by
      intro s hs
      rcases Nat.lt_or_ge s l.length with h | h
      · rcases o13_step l s (by omega) h with e | ⟨v, e⟩
        · exact .inl ⟨_, e, by omega, by omega⟩
        · exact .inr ⟨_, e, trivial⟩
      · obtain rfl : s = l.length := by omega
        exact .inr ⟨_, o13_end l, trivial⟩) fuelN 0 (Nat.zero_le _) (by simp only [fuelN]; omega)
    simp only [cond_false]
    rw [h]
    cases r with
    | go u => exact ⟨0, rfl, fun _ => hl⟩
    | done v => exact ⟨v, rfl, fun _ => hl⟩
  · rw [dt (by omega)]
    exact ⟨3, rfl, fun h => by omega⟩
end Go.Proofs.Ytfhchendnfpbkaa
