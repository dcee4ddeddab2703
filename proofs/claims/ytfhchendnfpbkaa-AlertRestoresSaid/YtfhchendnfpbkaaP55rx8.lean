/-
A board that is read again. Conditions: each lemma's own.
-/
import Derived.Test.YtfhchendnfpbkaaP55wx8
namespace Go.Proofs.Ytfhchendnfpbkaa
set_option linter.unusedVariables false
set_option linter.unusedSimpArgs false
open Go.RowKit
theorem loop_rel {σ τ ρ ρ' : Type} {f : σ → Option (Ctl σ ρ)} {g : τ → Option (Ctl τ ρ')} (R : σ → τ → Prop) (μ : σ → Nat) (Q : ρ → ρ' → Prop) (h : ∀ s t, R s t → (∃ v v', f s = some (.done v) ∧ g t = some (.done v') ∧ Q v v') ∨ ∃ s' t', f s = some (.go s') ∧ g t = some (.go t') ∧ R s' t' ∧ μ s' < μ s) : ∀ (N : Nat) (s : σ) (t : τ), R s t → μ s < N → ∃ v v', loopO N f s = some v ∧ loopO N g t = some v' ∧ Q v v'
  | 0, _, _, _, hN => by omega
  | N + 1, s, t, hR, hN => by
    rcases h s t hR with ⟨v, v', h1, h2, h5⟩ | ⟨s', t', h1, h2, h3, h4⟩
    · exact ⟨v, v', loopO_done h1, loopO_done h2, h5⟩
    · rw [loopO_go h1, loopO_go h2]
      exact loop_rel R μ Q h N s' t' h3 (by omega)
theorem getD_setBw (l : List Bool) (i k : Nat) (v : Bool) : (l.set i v).getD k false = if i = k ∧ k < l.length then v else l.getD k false := by
  rw [List.getD_eq_getElem?_getD, List.getElem?_set]
  by_cases h : i = k
  · subst h
    by_cases h2 : i < l.length
    · rw [if_pos rfl, if_pos h2, if_pos ⟨rfl, h2⟩]; rfl
    · rw [if_pos rfl, if_neg h2, if_neg (fun h => h2 h.2), List.getD_eq_getElem?_getD, List.getElem?_eq_none (by omega)]
  · rw [if_neg h, if_neg (fun h' => h h'.1), ← List.getD_eq_getElem?_getD]
theorem o48_is (p : List UInt8) (h : 8 ≤ p.length) : o48 p = some (getI p 8) := by
  unfold o48
  obtain ⟨r, hr, rfl⟩ := loopO_ok (f := o48_L0 p) (fun s => s.2 ≤ 8 ∧ s.1 = getK p s.2) (fun s => 8 - s.2) (fun r => r = getK p 8) (by
    rintro ⟨x, k⟩ ⟨h1, h2⟩
    simp only at h1 h2
    subst h2
    unfold o48_L0
    obtain ⟨M, hM, hMb⟩ : ∃ M : Int, M = 9223372036854775807 ∧ M > 1000 := ⟨_, rfl, by decide⟩
    rw [← hM]
    simp only
    by_cases hlt : k < 8
    · rw [dt (by omega), cond_true, w8 (by omega), grd_at' (by omega), grd_at' (by omega), grd_at' (by omega)]
      exact .inl ⟨_, rfl, ⟨by simp only; omega, rfl⟩, by simp only; omega⟩
    · obtain rfl : k = 8 := by omega
      exact .inr ⟨_, cond_neg (df (by omega)), rfl⟩) fuelN (0, 0) ⟨Nat.zero_le _, rfl⟩ (by simp only [fuelN]; omega)
  rw [hr, bindO_some rfl, getK_eq p 8 (Nat.le_refl _)]
  rfl
theorem o33_is (l : List AlertDef) (h : l.length ≤ 1000) : o33 l = some l := by unfold o33; exact grd_at' (by omega)
theorem o12_is (l : List AlertDef) (h0 : o13 l = some 0) (hl : l.length ≤ 16) : o12 l = some (some ⟨l, 0, 1, List.replicate l.length default⟩, 0) := by
  unfold o12
  rw [h0, bindO_some rfl, neq_f rfl, cond_false, o33_is l (by omega), bindO_some rfl, grd_at' (by omega)]
theorem o12_no (l : List AlertDef) {v : Int} (h0 : o13 l = some v) (hv : v ≠ 0) : o12 l = some (none, v) := by
  unfold o12
  rw [h0, bindO_some rfl, neq_t hv, cond_true]
theorem o28_is (l : List AlertDef) (h0 : o13 l = some 0) (hl : l.length ≤ 16) : o28 l = some (⟨l, 0, 1, List.replicate l.length 0, List.replicate l.length false⟩, 0) := by
  unfold o28
  rw [o14_eq, h0, bindO_some rfl, neq_f rfl, cond_false, grd_at' (by omega)]
theorem o28_no (l : List AlertDef) {v : Int} (h0 : o13 l = some v) (hv : v ≠ 0) : o28 l = some (⟨[], 0, 0, [], []⟩, v) := by
  unfold o28
  rw [o14_eq, h0, bindO_some rfl, neq_t hv, cond_true]
theorem new_rel (l : List AlertDef) (hl : l.length ≤ 16) : BRel ⟨l, 0, 1, List.replicate l.length default⟩ ⟨l, 0, 1, List.replicate l.length 0, List.replicate l.length false⟩ := by
  refine ⟨rfl, rfl, rfl, List.length_replicate, List.length_replicate, ⟨List.length_replicate, by simp only; omega, by simp only; decide, by simp only; decide⟩, fun j hj => ?_⟩
  simp only at hj ⊢
  have e1 : (List.replicate l.length (0 : Int)).getD j 0 = 0 := by rw [List.getD_eq_getElem?_getD, List.getElem?_replicate, if_pos hj]; rfl
  have e2 : (List.replicate l.length false).getD j false = false := by rw [List.getD_eq_getElem?_getD, List.getElem?_replicate, if_pos hj]; rfl
  have e3 : (List.replicate l.length (default : Cnd)).getD j default = default := by rw [List.getD_eq_getElem?_getD, List.getElem?_replicate, if_pos hj]; rfl
  rw [e1, e2, e3]
  exact ⟨rfl, rfl, Int.le_refl _⟩
def badS (s y Y : Int) : Bool := (((decide (s > 3) || (s == 2)) || ((s == 0) && (y != 0))) || ((s != 0) && (decide (y < 1) || decide (y > Y))))
theorem badS_no {s y Y : Int} (h : 0 ≤ s) (hb : badS s y Y = false) : (s = 0 ∧ y = 0) ∨ ((s = 1 ∨ s = 3) ∧ 1 ≤ y ∧ y ≤ Y) := by
  unfold badS at hb
  simp only [Bool.or_eq_false_iff, Bool.and_eq_false_iff, decide_eq_false_iff_not, beq_eq_false_iff_ne, bne_eq_false_iff_eq] at hb
  omega
theorem wN9 {k : Nat} (h : k ≤ 1000) (a : Int) (ha : 0 ≤ a ∧ a ≤ 100) : IntKind.i64.wrap (a + IntKind.i64.wrap (9 * ((k : Nat) : Int))) = a + 9 * ((k : Nat) : Int) := by
  rw [wr64 (x := 9 * ((k : Nat) : Int)) (by omega), wr64 (by omega)]
theorem getD_drop (p : List UInt8) (a : Nat) : (p.drop a).getD 0 0 = p.getD a 0 := by
  rw [List.getD_eq_getElem?_getD, List.getD_eq_getElem?_getD, List.getElem?_drop, Nat.add_zero]
theorem o25_round (p : List UInt8) (Y : Int) (d : Board) (k : Nat) (cs : List Cnd) (hk : k < d.conds.length) (hd : d.conds.length ≤ 18) (hp : p.length = 9 + 9 * d.conds.length) (hc : cs.length = d.conds.length) :
    o25_L0 p Y d (k, cs) = some (cond (badS ((p.getD (9 + 9 * k) 0).toNat : Int) (getI (p.drop (10 + 9 * k)) 8) Y) (Ctl.done (Ctl.done (none, 4))) (Ctl.go (k + 1, cs.set k ⟨getI (p.drop (10 + 9 * k)) 8, (((p.getD (9 + 9 * k) 0).toNat : Int) == 3)⟩))) := by
  unfold o25_L0
  obtain ⟨M, hM, hMb⟩ : ∃ M : Int, M = 9223372036854775807 ∧ M > 1000 := ⟨_, rfl, by decide⟩
  rw [← hM]
  simp only
  have e9 : (9 + 9 * ((k : Nat) : Int)).toNat = 9 + 9 * k := by omega
  have hdl : (p.drop (9 + 9 * k)).length = p.length - (9 + 9 * k) := List.length_drop
  have hdd : (p.drop (9 + 9 * k)).drop 1 = p.drop (10 + 9 * k) := by rw [List.drop_drop]; congr 1; omega
  have hdl2 : (p.drop (10 + 9 * k)).length = p.length - (10 + 9 * k) := List.length_drop
  rw [dt (by omega), cond_true, wN9 (by omega) 9 (by decide), e9, grd_at' (by omega), grd_at' (by omega), grd_at' (by omega), hdd, o48_is _ (by omega), bindO_some rfl, getD_drop]
  show cond (badS ((p.getD (9 + 9 * k) 0).toNat : Int) (getI (p.drop (10 + 9 * k)) 8) Y) _ _ = _
  cases badS ((p.getD (9 + 9 * k) 0).toNat : Int) (getI (p.drop (10 + 9 * k)) 8) Y with
  | true => rfl
  | false =>
    rw [cond_false, cond_false, grd_at' (by omega), grd_at' (by omega)]
theorem beqS (b : UInt8) : 0 ≤ ((b.toNat : Nat) : Int) ∧ ((b.toNat : Nat) : Int) ≤ 255 := by have := UInt8.toNat_lt b; omega
end Go.Proofs.Ytfhchendnfpbkaa
