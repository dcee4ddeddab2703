/-
The reference's decoding computes what the program's does. Conditions: each lemma's own.
-/
import Derived.Test.YtmcgofgpcnlljaaP52b
import Derived.Test.YtmcgofgpcnlljaaK4x0
namespace Go.Proofs.Ytmcgofgpcnlljaa
set_option linter.unusedVariables false
set_option linter.unusedSimpArgs false
open Go.RowKit
theorem o69_same : o69 = o68 := by
  funext r b
  unfold o69 o68
  rw [show o69_L0 = o68_L0 from rfl]
theorem o57_same : o57 = o56 := by
  funext s p
  unfold o57 o56
  have : o57_L0 p = o56_L0 p := by funext s; unfold o57_L0 o56_L0; rw [o69_same]
  rw [this]
theorem o51_eq (p : List UInt8) (hp : p.length ≤ 1000000000) : o51 p = some (crcU p) := by unfold o51; rw [o57_same, o56_eq 0 p hp]; rfl
theorem o50_eq (x : Int) : o50 x = four x := Eq.trans rfl rfl
theorem byte_ne2 (a b : UInt8) : (((a.toNat : Nat) : Int) != ((b.toNat : Nat) : Int)) = !(a == b) := by
  have h := byte_ne a (z := ((b.toNat : Nat) : Int)) (by have := UInt8.toNat_lt b; omega)
  rw [h, u8_of_toNat]
theorem o35_step (p y : List UInt8) (k : Nat) (hk : k < 4) (h4 : 4 ≤ p.length) (hp : p.length ≤ 1000000000) (hy : y.length = 4) :
    o35_L0 p y k = some (cond (p.getD (p.length - 4 + k) 0 == y.getD k 0) (Ctl.go (k + 1)) (Ctl.done (Ctl.done ([], 12)))) := by
  unfold o35_L0
  obtain ⟨M, hM⟩ : ∃ M : Int, M = 9223372036854775807 := ⟨_, rfl⟩
  obtain ⟨M2, hM2⟩ : ∃ M : Int, M = -9223372036854775808 := ⟨_, rfl⟩
  rw [← hM2, ← hM]
  have e0 : ((((p.length : Nat) : Int) - 4) + ((k : Nat) : Int)).toNat = p.length - 4 + k := by omega
  rw [dt (by omega : ((k : Nat) : Int) < 4)]
  simp only [cond_true]
  rw [grd_pos (dt (by omega)), grd_pos (dt (by omega)), grd_pos (dt (by omega)), e0, byte_ne2]
  cases (p.getD (p.length - 4 + k) 0 == y.getD k 0) with
  | true => simp only [Bool.not_true, cond_false, cond_true]; exact grd_pos (dt (by omega))
  | false => rfl
theorem o35_end (p y : List UInt8) : o35_L0 p y 4 = some (Ctl.done (Ctl.go ())) := by
  unfold o35_L0
  exact cond_neg (df (by decide))
theorem o35_loop (p y : List UInt8) (h4 : 4 ≤ p.length) (hp : p.length ≤ 1000000000) (hy : y.length = 4) :
    loopO fuelN (o35_L0 p y) 0 = some (cond (p.drop (p.length - 4) == y) (Ctl.go ()) (Ctl.done ([], 12))) := by
  have hf : fuelN = (((((fuelN - 5) + 1) + 1) + 1) + 1) + 1 := by simp [fuelN]
  obtain ⟨a, b, c, d, rfl⟩ : ∃ a b c d, y = [a, b, c, d] := by
    match y, hy with
    | [a, b, c, d], _ => exact ⟨a, b, c, d, rfl⟩
  have s0 := o35_step p [a, b, c, d] 0 (by decide) h4 hp hy
  have s1 := o35_step p [a, b, c, d] 1 (by decide) h4 hp hy
  have s2 := o35_step p [a, b, c, d] 2 (by decide) h4 hp hy
  have s3 := o35_step p [a, b, c, d] 3 (by decide) h4 hp hy
  have s4 := o35_end p [a, b, c, d]
  rw [last4 p h4, beq4]
  rw [show ([a, b, c, d] : List UInt8).getD 0 0 = a from rfl, Nat.add_zero] at s0
  rw [show ([a, b, c, d] : List UInt8).getD 1 0 = b from rfl] at s1
  rw [show ([a, b, c, d] : List UInt8).getD 2 0 = c from rfl] at s2
  rw [show ([a, b, c, d] : List UInt8).getD 3 0 = d from rfl] at s3
  cases e0 : (p.getD (p.length - 4) 0 == a) with
  | false => rw [e0] at s0; rw [hf, loopO_done s0]; rfl
  | true =>
    rw [e0] at s0
    cases e1 : (p.getD (p.length - 4 + 1) 0 == b) with
    | false => rw [e1] at s1; rw [hf, loopO_go s0, loopO_done s1]; rfl
    | true =>
      rw [e1] at s1
      cases e2 : (p.getD (p.length - 4 + 2) 0 == c) with
      | false => rw [e2] at s2; rw [hf, loopO_go s0, loopO_go s1, loopO_done s2]; rfl
      | true =>
        rw [e2] at s2
        cases e3 : (p.getD (p.length - 4 + 3) 0 == d) with
        | false => rw [e3] at s3; rw [hf, loopO_go s0, loopO_go s1, loopO_go s2, loopO_done s3]; rfl
        | true => rw [e3] at s3; rw [hf, loopO_go s0, loopO_go s1, loopO_go s2, loopO_go s3, loopO_done s4]; rfl
theorem o35_eq (p : List UInt8) (hp : p.length ≤ 1000000000) : o35 p = some (openC p) := by
  unfold o35 openC
  by_cases h4 : p.length < 4
  · rw [dt (by omega : ((p.length : Nat) : Int) < 4), dt h4]; rfl
  rw [df (by omega : ¬ ((p.length : Nat) : Int) < 4), df h4]
  have e0 : (((p.length : Nat) : Int) - 4).toNat = p.length - 4 := by omega
  simp only [cond_false]
  rw [grd_pos (dt (by omega)), e0, o51_eq _ (by rw [List.length_take]; omega), bindO_some rfl, letJ_def, o50_eq, o35_loop p _ (by omega) hp rfl]
  cases (p.drop (p.length - 4) == four (crcU (p.take (p.length - 4)))) with
  | false => rfl
  | true => simp only [cond_true]; rw [joinO_go rfl, grd_pos (dt (by omega))]
theorem o36_eq {p : List UInt8} (h1 : p.length ≤ 8) : o36 p = some (getI p p.length) := by
  obtain ⟨r, h2, rfl⟩ := loopO_ok (f := o36_L0 p) (fun s => s.1 = getK p s.2 ∧ s.2 ≤ p.length) (fun s => p.length - s.2) (fun r => r = getK p p.length) (fun s hI => by
    obtain ⟨x, k⟩ := s
    obtain ⟨hl2, hk⟩ := hI
    simp only at hl2 hk
    subst hl2
    by_cases hlt : (k : Int) < (p.length : Int)
    · refine .inl ⟨(getK p (k + 1), k + 1), ?_, ⟨rfl, by simp only; omega⟩, by simp only; omega⟩
      unfold o36_L0
      refine (cond_pos (dt hlt)).trans ((grd_pos (dt (by rw [w8 (by omega)]; omega))).trans ((grd_pos (dt (by simp only; omega))).trans ?_))
      rw [w8 (by omega)]
      rfl
    · refine .inr ⟨getK p k, ?_, by rw [show k = p.length by omega]⟩
      unfold o36_L0
      exact cond_neg (df hlt)) fuelN (0, 0) ⟨rfl, by simp⟩ (by simp only [fuelN]; omega)
  unfold o36
  rw [h2, getK_eq p _ (by omega)]
  rfl
theorem open_len (p : List UInt8) : (openC p).1.length ≤ p.length := by
  unfold openC
  by_cases h4 : p.length < 4
  · rw [dt h4]; simp
  · rw [df h4]
    cases (p.drop (p.length - 4) == four (crcU (p.take (p.length - 4)))) <;> simp
theorem o18_eq (p : List UInt8) (hp : p.length ≤ 1000000000) : o18 p = some (decC p) := by
  unfold o18 decC
  rw [o35_eq p hp, bindO_some rfl]
  cases e : ((openC p).2 != 0) with
  | true => rfl
  | false =>
    simp only [cond_false]
    have hl := open_len p
    generalize (openC p).1 = b at *
    unfold badB
    by_cases h12 : b.length < 12
    · rw [dt (by omega : ((b.length : Nat) : Int) < 12), dt h12]; rfl
    rw [df (by omega : ¬ ((b.length : Nat) : Int) < 12), df h12]
    by_cases h1012 : b.length > 1012
    · rw [dt (by omega : ((b.length : Nat) : Int) - 12 > 1000), dt h1012]; rfl
    rw [df (by omega : ¬ ((b.length : Nat) : Int) - 12 > 1000), df h1012]
    have hl2 : (List.take (12 - 10) (List.drop 10 b)).length = 2 := by simp; omega
    have hl8 : (List.take (10 - 2) (List.drop 2 b)).length = 8 := by simp; omega
    have e2 : o36 (List.take (12 - 10) (List.drop 10 b)) = some ((natL (b.drop 10) 2 : Nat) : Int) := by
      rw [o36_eq (by omega), hl2, show 12 - 10 = 2 from rfl, getI_take, getI_small _ _ (by decide)]
    have e8 : o36 (List.take (10 - 2) (List.drop 2 b)) = some (getI (b.drop 2) 8) := by
      rw [o36_eq (by omega), hl8, show 10 - 2 = 8 from rfl, getI_take]
    simp only [Bool.or_self, cond_false, Bool.false_or]
    rw [e2, bindO_some rfl, bindO_some rfl]
    simp only
    have hb : (((natL (b.drop 10) 2 : Nat) : Int) != ((b.length : Nat) : Int) - 12) = (natL (b.drop 10) 2 != b.length - 12) := by
      by_cases a : natL (b.drop 10) 2 = b.length - 12
      · rw [neq_f (by omega : ((natL (b.drop 10) 2 : Nat) : Int) = ((b.length : Nat) : Int) - 12)]
        simpa using a
      · rw [neq_t (by omega : ((natL (b.drop 10) 2 : Nat) : Int) ≠ ((b.length : Nat) : Int) - 12)]
        simpa using a
    rw [hb]
    cases (natL (b.drop 10) 2 != b.length - 12) with
    | true => rfl
    | false =>
      simp only [cond_false]
      rw [grd_pos (dt (by omega)), grd_pos (dt (by omega)), grd_pos (dt (by omega)), grd_pos (dt (by omega)), e8, bindO_some rfl]
      rfl
end Go.Proofs.Ytmcgofgpcnlljaa
