/-
Pieces of a snapshot: the law's own codec and the program's. Conditions: each lemma's own.
-/
import Derived.Test.YtnidomdebhekiaaGreatP53f
namespace Go.Proofs.YtnidomdebhekiaaGreat
set_option linter.unusedVariables false
set_option linter.unusedSimpArgs false
open Go.RowKit
theorem grd_at' {p : Prop} [Decidable p] {α : Type} {A : Option α} (h : p) : grd (decide p) A = A := grd_pos (dt h)
theorem ofInt_i64 (x : Int) : BitVec.ofInt 64 (IntKind.i64.wrap x) = BitVec.ofInt 64 x := by
  apply BitVec.eq_of_toNat_eq
  rw [BitVec.toNat_ofInt, BitVec.toNat_ofInt, IntKind.wrap_i64]
  congr 1
  have : ((2 ^ 64 : Nat) : Int) = 18446744073709551616 := by decide
  rw [this]
  omega
theorem lor_i64 (x y : Int) : lorK .i64 (IntKind.i64.wrap x) (IntKind.i64.wrap y) = IntKind.i64.wrap (lorK .u64 x y) := by
  unfold lorK
  have e1 : BitVec.ofInt IntKind.i64.bits (IntKind.i64.wrap x) = BitVec.ofInt IntKind.u64.bits x := ofInt_i64 x
  have e2 : BitVec.ofInt IntKind.i64.bits (IntKind.i64.wrap y) = BitVec.ofInt IntKind.u64.bits y := ofInt_i64 y
  rw [e1, e2]
  have hlt : (BitVec.ofInt IntKind.u64.bits x ||| BitVec.ofInt IntKind.u64.bits y).toNat < 2 ^ 64 := BitVec.isLt _
  have : IntKind.u64.wrap (((BitVec.ofInt IntKind.u64.bits x ||| BitVec.ofInt IntKind.u64.bits y).toNat : Nat) : Int) = (((BitVec.ofInt IntKind.u64.bits x ||| BitVec.ofInt IntKind.u64.bits y).toNat : Nat) : Int) := wr_u64 (by omega)
  rw [this]
  rfl
theorem natL_two (q : List UInt8) : ((natL q 2 : Nat) : Int) = ((q.getD 0 0).toNat : Int) + 256 * ((q.getD 1 0).toNat : Int) := by
  simp only [natL, Nat.reducePow]
  omega
theorem bad_is (p : Piece) : ((((((decide (p.base < 1) || decide (p.base > 2305843009213693952)) || decide (p.count < 1)) || decide (p.count > 874)) || decide (p.index < 0)) || decide (p.index ≥ p.count)) || decide ((((p.data).length : Nat) : Int) > 600)) = !(o106 p) := by
  unfold o106
  by_cases h1 : p.base < 1
  · rw [dt h1, df (show ¬ p.base ≥ 1 by omega)]; rfl
  by_cases h2 : p.base > 2305843009213693952
  · rw [dt h2, df (show ¬ p.base ≤ 2305843009213693952 by omega)]; simp
  by_cases h3 : p.count < 1
  · rw [dt h3, df (show ¬ p.count ≥ 1 by omega)]; simp
  by_cases h4 : p.count > 874
  · rw [dt h4, df (show ¬ p.count ≤ 874 by omega)]; simp
  by_cases h5 : p.index < 0
  · rw [dt h5, df (show ¬ p.index ≥ 0 by omega)]; simp
  by_cases h6 : p.index ≥ p.count
  · rw [dt h6, df (show ¬ p.index < p.count by omega)]; simp
  by_cases h7 : (((p.data).length : Nat) : Int) > 600
  · rw [dt h7, df (show ¬ (((p.data).length : Nat) : Int) ≤ 600 by omega)]; simp
  rw [df h1, df h2, df h3, df h4, df h5, df h6, df h7, dt (show p.base ≥ 1 by omega), dt (show p.base ≤ 2305843009213693952 by omega), dt (show p.count ≥ 1 by omega), dt (show p.count ≤ 874 by omega), dt (show p.index ≥ 0 by omega), dt (show p.index < p.count by omega), dt (show (((p.data).length : Nat) : Int) ≤ 600 by omega)]; rfl
structure PieceOk (p : Piece) : Prop where
  base : 1 ≤ p.base ∧ p.base ≤ 2305843009213693952
  count : 1 ≤ p.count ∧ p.count ≤ 874
  index : 0 ≤ p.index ∧ p.index < p.count
  data : p.data.length ≤ 600
theorem o106_ok {p : Piece} (h : o106 p = true) : PieceOk p := by
  unfold o106 at h
  simp only [Bool.and_eq_true, decide_eq_true_iff] at h
  exact ⟨by omega, by omega, by omega, by omega⟩
def encC (p : Piece) : List UInt8 × Int := cond (!(o106 p)) ([], 1) (putB p.base 8 ++ putB p.index 2 ++ putB p.count 2 ++ p.data, 0)
theorem o70_is (p : Piece) : o70 p = some (encC p) := by
  unfold o70 encC
  rw [bad_is]
  cases h : o106 p with
  | false => rfl
  | true =>
    have hp := (o106_ok h).data
    rw [Bool.not_true, cond_false, cond_false, o108_eq (by decide) (by decide), o108_eq (by decide) (by decide), o108_eq (by decide) (by decide), bindO_some rfl, bindO_some rfl]
    have e8 : (8 : Int).toNat = 8 := rfl
    have e2 : (2 : Int).toNat = 2 := rfl
    rw [e8, e2, grd_at' (by rw [putB_len, putB_len]; omega), bindO_some rfl, grd_at' (by rw [List.length_append, putB_len, putB_len, putB_len]; omega), grd_at' (by rw [List.length_append, List.length_append, putB_len, putB_len, putB_len]; omega)]
theorem four_bytes (i c : Int) : [(u8 (IntKind.u8.wrap i)), (u8 (IntKind.u8.wrap (shrK .i64 i 8))), (u8 (IntKind.u8.wrap c)), (u8 (IntKind.u8.wrap (shrK .i64 c 8)))] = putB i 2 ++ putB c 2 := by
  have e : ∀ n : Int, putB n 2 = [u8 (IntKind.u8.wrap n), u8 (IntKind.u8.wrap (shrK .i64 n 8))] := fun n => by
    have h0 : byteAt n 0 = u8 (IntKind.u8.wrap n) := by
      unfold byteAt
      rw [shr_i64 n 0 (by decide), Int.pow_zero, Int.ediv_one]
    have h1 : byteAt n 1 = u8 (IntKind.u8.wrap (shrK .i64 n 8)) := rfl
    rw [putB_succ, putB_succ, putB_zero, h0, h1]; rfl
  rw [e, e]; rfl
theorem o68_is (p : Piece) : o68 p = some (encC p) := by
  unfold o68 encC
  rw [letJ_def]
  cases h : o106 p with
  | false => rfl
  | true =>
    have hp := (o106_ok h).data
    rw [Bool.not_true, cond_false, cond_false]
    obtain ⟨r, h2, rfl⟩ := loopO_ok (f := o68_L0 p) (fun s => s.1 = putB p.base s.2 ∧ s.2 ≤ 8) (fun s => 8 - s.2) (fun r => r = putB p.base 8) (fun s hI => by
      obtain ⟨l, k⟩ := s
      obtain ⟨hl2, hk⟩ := hI
      simp only at hl2 hk
      subst hl2
      by_cases hlt : ((k : Nat) : Int) < 8
      · refine .inl ⟨(putB p.base k ++ [byteAt p.base k], k + 1), ?_, ⟨by simp [putB_succ], by simp only; omega⟩, by simp only; omega⟩
        unfold o68_L0
        refine (cond_pos (dt hlt)).trans ((grd_pos (dt (by rw [w8 (by omega)]; omega))).trans ((grd_pos (dt (by simp [putB_len]; omega))).trans ((grd_pos (dt (by simp only; omega))).trans ?_)))
        rw [w8 (by omega)]
        rfl
      · refine .inr ⟨putB p.base k, ?_, by rw [show k = 8 by omega]⟩
        unfold o68_L0
        exact cond_neg (df hlt)) fuelN ([], 0) ⟨by simp [putB_zero], by simp⟩ (by simp only [fuelN]; omega)
    rw [h2, bindO_some rfl, four_bytes]
    rw [grd_at' (by rw [List.length_append, putB_len, putB_len, putB_len]; omega), grd_at' (by rw [List.length_append, List.length_append, putB_len, putB_len, putB_len]; omega)]
    simp only [List.append_assoc]
def rawP (p : List UInt8) : Piece := ⟨getI p 8, (natL (p.drop 8) 2 : Int), (natL (p.drop 10) 2 : Int), p.drop 12⟩
def decP (p : List UInt8) : Piece × Int := cond (decide (((p.length : Nat) : Int) < 12)) (⟨0, 0, 0, []⟩, 4) (cond (!(o106 (rawP p))) (⟨0, 0, 0, []⟩, 4) (rawP p, 0))
theorem o71_loop (p : List UInt8) : loopO fuelN (o71_L0 p) (0, 0) = some (getI p 8) := by
  obtain ⟨x, h, rfl⟩ := loopO_ok (f := o71_L0 p) (fun s => s.2 = IntKind.i64.wrap (getK p s.1) ∧ s.1 ≤ 8) (fun s => 8 - s.1) (fun r => r = getI p 8) (by
    rintro ⟨k, x⟩ ⟨h1, h2⟩
    simp only at h1 h2
    subst h1
    by_cases hk : ((k : Nat) : Int) < 8
    · refine .inl ⟨(k + 1, IntKind.i64.wrap (getK p (k + 1))), ?_, ⟨rfl, by simp only; omega⟩, by simp only; omega⟩
      unfold o71_L0
      refine (cond_pos (dt hk)).trans ?_
      rw [w8 (by omega), grd_pos (dt (by omega)), grd_pos (dt (by simp only; omega)), lor_i64]
      rfl
    · refine .inr ⟨_, cond_neg (df hk), ?_⟩
      rw [show k = 8 by omega, getK_eq _ 8 (by decide)]
      rfl) fuelN (0, 0) ⟨rfl, by simp⟩ (by simp [fuelN])
  exact h
theorem two_i64 (a b : UInt8) : IntKind.i64.wrap ((a.toNat : Int) + (shlK .i64 (b.toNat : Int) 8)) = (a.toNat : Int) + 256 * (b.toNat : Int) := by
  have ha := UInt8.toNat_lt a
  have hb := UInt8.toNat_lt b
  have e : shlK .i64 (b.toNat : Int) 8 = 256 * (b.toNat : Int) := by
    unfold shlK
    have : (b.toNat : Int) * 2 ^ (min (8 : Int).toNat IntKind.i64.bits) = 256 * (b.toNat : Int) := by
      rw [show min (8 : Int).toNat IntKind.i64.bits = 8 from rfl, show (2 : Int) ^ 8 = 256 from rfl]; omega
    rw [this]
    exact wr64 (by omega)
  rw [e]
  exact wr64 (by omega)
theorem getD_drop (q : List UInt8) (a i : Nat) : (q.drop a).getD i 0 = q.getD (a + i) 0 := by simp [List.getD_eq_getElem?_getD, List.getElem?_drop]
theorem o71_is (p : List UInt8) : o71 p = some (decP p) := by
  unfold o71 decP
  cases h : decide (((p.length : Nat) : Int) < 12) with
  | true => rfl
  | false =>
    rw [cond_false, cond_false, letJ_def, o71_loop, bindO_some rfl, two_i64, two_i64, o43_def, letJ_def]
    have e : (⟨getI p 8, ((p.getD 8 0).toNat : Int) + 256 * ((p.getD 9 0).toNat : Int), ((p.getD 10 0).toNat : Int) + 256 * ((p.getD 11 0).toNat : Int), List.drop 12 p⟩ : Piece) = rawP p := by
      unfold rawP
      rw [natL_two, natL_two, getD_drop, getD_drop, getD_drop, getD_drop]
    rw [e]
    cases o106 (rawP p) <;> rfl
theorem o75_is (p : List UInt8) : o75 p = some (decP p) := by
  unfold o75 decP
  cases h : decide (((p.length : Nat) : Int) < 12) with
  | true => rfl
  | false =>
    have hl : 12 ≤ p.length := by have := of_decide_eq_false h; omega
    have g2 : ∀ (q : List UInt8), 2 ≤ q.length → o99 (q.take 2) = some ((natL q 2 : Nat) : Int) := fun q hq => by
      rw [o99_eq (by rw [List.length_take]; omega), List.length_take, Nat.min_eq_left hq, getI_small _ 2 (by decide), natL_take q 2 2 (Nat.le_refl _)]
    rw [cond_false, cond_false, o99_eq (by rw [List.length_take]; omega), List.length_take, Nat.min_eq_left (by omega), getI_take, bindO_some rfl, show 10 - 8 = 2 from rfl, g2 _ (by rw [List.length_drop]; omega), g2 _ (by rw [List.length_drop]; omega), bindO_some rfl, bindO_some rfl, o70_is, bindO_some rfl]
    show cond ((encC (rawP p)).2 != 0) _ (some (rawP p, (0 : Int))) = _
    unfold encC
    cases o106 (rawP p) <;> rfl
end Go.Proofs.YtnidomdebhekiaaGreat
