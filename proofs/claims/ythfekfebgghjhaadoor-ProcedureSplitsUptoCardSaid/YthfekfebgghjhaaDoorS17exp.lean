/-
Seat 17's own expansion of a procedure in plain words. Conditions: each lemma's own.
-/
import Derived.Test.YthfekfebgghjhaaDoorS17own
namespace Go.Proofs.YthfekfebgghjhaaDoor
namespace W17
set_option linter.unusedVariables false
set_option linter.unusedSimpArgs false
open Go.RowKit
def dropc (a b : List Leg) : Bool := (decide (((a.length : Nat) : Int) > 0) && decide (((b.length : Nat) : Int) > 0)) && ((((b.getD 0 default).type_ == 1) && o42 (a.getD (a.length - 1) default).type_) && ((a.getD (a.length - 1) default).fix == (b.getD 0 default).fix) && ((((b.length : Nat) : Int) == 1) || o26 (a.getD (a.length - 1) default) (b.getD 1 default)))
def jn (a b : List Leg) : List Leg := a ++ cond (dropc a b) (b.drop 1) b
theorem jn_len (a b : List Leg) : (jn a b).length ≤ a.length + b.length := by
  unfold jn
  cases dropc a b <;> simp only [cond_true, cond_false, List.length_append, List.length_drop] <;> omega
theorem o21_is {a b : List Leg} (h : (a.length + b.length) * 112 ≤ 140737488355328) : o21 a b = some (jn a b) := by
  have hj := jn_len a b
  unfold o21
  rw [o41_is (by omega), bindO_some rfl]
  unfold jn dropc
  cases hc : (decide (((a.length : Nat) : Int) > 0) && decide (((b.length : Nat) : Int) > 0)) with
  | false =>
    rw [cond_false, bindO_some rfl, Bool.false_and, cond_false, grd_at' h]
  | true =>
    rw [Bool.and_eq_true, decide_eq_true_iff, decide_eq_true_iff] at hc
    have ea : (((a.length : Nat) : Int) - 1).toNat = a.length - 1 := by omega
    rw [cond_true, grd_at' (by omega), ea, Bool.true_and]
    simp only [letJ_def]
    have e : ∀ (x y z u w : Bool), cond (cond (cond x y false && z) (cond u true w) false) (List.drop 1 b) b = cond ((x && y) && z && (u || w)) (List.drop 1 b) b := by
      intro x y z u w; cases x <;> cases y <;> cases z <;> cases u <;> cases w <;> rfl
    rw [e, bindO_some rfl, grd_at']
    have hl : ∀ q : Bool, (cond q (List.drop 1 b) b).length ≤ b.length := by intro q; cases q <;> simp
    have := hl (((b.getD 0 default).type_ == 1 && o42 (a.getD (a.length - 1) default).type_) && ((a.getD (a.length - 1) default).fix == (b.getD 0 default).fix) && ((((b.length : Nat) : Int) == 1) || o26 (a.getD (a.length - 1) default) (b.getD 1 default)))
    omega
theorem jn_nil (b : List Leg) : jn [] b = b := rfl
theorem jn_end (a : List Leg) : jn a [] = a := by
  unfold jn dropc
  simp
/-! ### what may follow what -/
structure GoodL (l : List Leg) : Prop where
  ok : ∀ i, i < l.length → o25 (l.getD i default) = some 0
  pair : ∀ i, 0 < i → i < l.length → (l.getD i default).type_ = 1 ∨ o26 (l.getD (i - 1) default) (l.getD i default) = true
theorem GoodL.nil : GoodL [] := ⟨fun i h => (by cases h), fun i _ h => (by cases h)⟩
theorem getD_app (a b : List Leg) (i : Nat) : (a ++ b).getD i default = if i < a.length then a.getD i default else b.getD (i - a.length) default := by
  simp only [List.getD_eq_getElem?_getD]
  by_cases h : i < a.length
  · rw [if_pos h, List.getElem?_append_left h]
  · rw [if_neg h, List.getElem?_append_right (by omega)]
theorem getD_drop1 (b : List Leg) (i : Nat) : (b.drop 1).getD i default = b.getD (i + 1) default := by
  simp only [List.getD_eq_getElem?_getD, List.getElem?_drop]
  rw [Nat.add_comm]
theorem jn_good {a b : List Leg} (ha : GoodL a) (hb : GoodL b) (hh : a = [] ∨ b = [] ∨ (b.getD 0 default).type_ = 1) : GoodL (jn a b) := by
  unfold jn
  cases hd : dropc a b with
  | true =>
    rw [cond_true]
    unfold dropc at hd
    simp only [Bool.and_eq_true, decide_eq_true_iff, Bool.or_eq_true, beq_iff_eq] at hd
    obtain ⟨⟨ha0, hb0⟩, -, h1⟩ := hd
    constructor
    · intro i hi
      rw [List.length_append, List.length_drop] at hi
      rw [getD_app, getD_drop1]
      split
      · exact ha.ok i (by assumption)
      · exact hb.ok _ (by omega)
    · intro i hi0 hi
      rw [List.length_append, List.length_drop] at hi
      rw [getD_app, getD_drop1, getD_app, getD_drop1]
      by_cases q : i < a.length
      · rw [if_pos q, if_pos (by omega)]; exact ha.pair i hi0 q
      · rw [if_neg q]
        by_cases q2 : i = a.length
        · rw [if_pos (by omega), q2, Nat.sub_self]
          rcases h1 with h1 | h1
          · omega
          · exact .inr h1
        · rw [if_neg (by omega)]
          have := hb.pair (i - a.length + 1) (by omega) (by omega)
          rw [show i - a.length + 1 - 1 = i - 1 - a.length + 1 by omega] at this
          exact this
  | false =>
    rw [cond_false]
    constructor
    · intro i hi
      rw [List.length_append] at hi
      rw [getD_app]
      split
      · exact ha.ok i (by assumption)
      · exact hb.ok _ (by omega)
    · intro i hi0 hi
      rw [List.length_append] at hi
      rw [getD_app, getD_app]
      by_cases q : i < a.length
      · rw [if_pos q, if_pos (by omega)]; exact ha.pair i hi0 q
      · rw [if_neg q]
        by_cases q2 : i = a.length
        · rw [if_pos (by omega), q2, Nat.sub_self]
          rcases hh with hh | hh | hh
          · rw [hh] at q2; simp at q2; omega
          · rw [hh] at hi; simp at hi; omega
          · exact .inl hh
        · rw [if_neg (by omega)]
          have := hb.pair (i - a.length) (by omega) (by omega)
          rw [show i - a.length - 1 = i - 1 - a.length by omega] at this
          exact this
/-! ### the parts of a checked procedure -/
structure LegsOk (p : Proc) (k : Int) (l : List Leg) : Prop where
  few : l.length ≤ 24
  good : GoodL l
  head : l = [] ∨ o58 p k (l.getD 0 default).type_ = true
theorem LegsOk.nil {p : Proc} {k : Int} : LegsOk p k [] := ⟨by decide, .nil, .inl rfl⟩
theorem LegsOk.start {p : Proc} {k : Int} {l : List Leg} (h : LegsOk p k l) (h1 : k ≠ 4) (h2 : k = 1 → p.kind ≠ 1) : l = [] ∨ (l.getD 0 default).type_ = 1 := by
  rcases h.head with q | q
  · exact .inl q
  · refine .inr ?_
    unfold o58 at q
    have : ((k == 4) || ((k == 1) && (p.kind == 1))) = false := by
      rw [eq_f h1, Bool.false_or]
      by_cases hk : k = 1
      · rw [eq_f (h2 hk), Bool.and_false]
      · rw [eq_f hk, Bool.false_and]
    rw [this] at q
    simpa [joinI] using q
theorem part_legs {p : Proc} (hc : Chk p) (k : Int) (n : List UInt8) : LegsOk p k (partP p k n).1.legs ∧ ((partP p k n).2 = true → (partP p k n).1.legs ≠ [] ∧ (partP p k n).1.kind = k) ∧ ((partP p k n).2 = false → (partP p k n).1.legs = []) := by
  rcases partP_in p k n with ⟨h1, -⟩ | ⟨j, j1, h1, j2, -⟩
  · rw [h1]
    exact ⟨.nil, fun h => (by cases h), fun _ => rfl⟩
  · rw [h1]
    have hp := hc.parts j j1
    have h0 := hp.some
    refine ⟨⟨hp.few, ⟨fun i hi => (hp.legs i hi).1, fun i h0 hi => .inr ((hp.legs i hi).2.2 h0)⟩, .inr ?_⟩, fun _ => ⟨fun e => ?_, j2⟩, fun h => (by cases h)⟩
    · rw [← j2]; exact (hp.legs 0 hp.some).2.1 rfl
    · simp only at e; rw [e] at h0; cases h0
/-! ### the expansion -/
def hasRw (p : Proc) : Bool := decide ((((namesP p 1 p.parts.length).length : Nat) : Int) > 0)
def err1 (p : Proc) (rw_ : List UInt8) : Bool := hasRw p && !(partP p 1 rw_).2
def err2 (p : Proc) (tr : List UInt8) : Bool := (!(tr == [])) && !(partP p 3 tr).2
def l1 (p : Proc) (rw_ : List UInt8) : List Leg := cond (hasRw p) (partP p 1 rw_).1.legs []
def l2 (p : Proc) : List Leg := (partP p 2 []).1.legs
def l3 (p : Proc) (tr : List UInt8) : List Leg := cond (!(tr == [])) (partP p 3 tr).1.legs []
def exA (p : Proc) (rw_ tr : List UInt8) : List Leg := cond (p.kind == 1) (l1 p rw_) (l3 p tr)
def exC (p : Proc) (rw_ tr : List UInt8) : List Leg := cond (p.kind == 1) (l3 p tr) (cond (p.kind == 2) (l1 p rw_) [])
def exJ (p : Proc) (rw_ tr : List UInt8) : List Leg := jn (jn (exA p rw_ tr) (l2 p)) (exC p rw_ tr)
def exR (p : Proc) (rw_ tr : List UInt8) : List Leg × Int := cond (err1 p rw_) ([], 6) (cond (err2 p tr) ([], 6) (cond ((((exJ p rw_ tr).length : Nat) : Int) == 0) ([], 6) (exJ p rw_ tr, 0)))
theorem l1_ok {p : Proc} (hc : Chk p) (rw_ : List UInt8) : LegsOk p 1 (l1 p rw_) := by
  unfold l1
  cases hasRw p with
  | true => exact (part_legs hc 1 rw_).1
  | false => exact .nil
theorem l2_ok {p : Proc} (hc : Chk p) : LegsOk p 2 (l2 p) := (part_legs hc 2 []).1
theorem l3_ok {p : Proc} (hc : Chk p) (tr : List UInt8) : LegsOk p 3 (l3 p tr) := by
  unfold l3
  cases (!(tr == [])) with
  | true => exact (part_legs hc 3 tr).1
  | false => exact .nil
def map3 (b1 : Bool) (x1 : List Leg) (b3 : Bool) (x3 : List Leg) (b2 : Bool) (x2 : List Leg) : List (Int × List Leg) := cond b2 (mapPut (cond b3 (mapPut (cond b1 (mapPut [] 1 x1) []) 3 x3) (cond b1 (mapPut [] 1 x1) [])) 2 x2) (cond b3 (mapPut (cond b1 (mapPut [] 1 x1) []) 3 x3) (cond b1 (mapPut [] 1 x1) []))
theorem map3_get (b1 : Bool) (x1 : List Leg) (b3 : Bool) (x3 : List Leg) (b2 : Bool) (x2 : List Leg) : mapGet [] (map3 b1 x1 b3 x3 b2 x2) 1 = cond b1 x1 [] ∧ mapGet [] (map3 b1 x1 b3 x3 b2 x2) 2 = cond b2 x2 [] ∧ mapGet [] (map3 b1 x1 b3 x3 b2 x2) 3 = cond b3 x3 [] ∧ mapGet [] (map3 b1 x1 b3 x3 b2 x2) 4 = [] := by
  cases b1 <;> cases b2 <;> cases b3 <;> exact ⟨rfl, rfl, rfl, rfl⟩
theorem loop23 {t : List (Int × List Leg)} {a b c : UInt8} (ha : (mapGet [] t (a.toNat : Int)).length ≤ 24) (hb : (mapGet [] t (b.toNat : Int)).length ≤ 24) (hc : (mapGet [] t (c.toNat : Int)).length ≤ 24) : loopO fuelN (o23_L0 t [a, b, c]) ([], 0) = some (jn (jn (mapGet [] t (a.toNat : Int)) (mapGet [] t (b.toNat : Int))) (mapGet [] t (c.toNat : Int))) := by
  obtain ⟨N, hN⟩ : ∃ N, fuelN = N + 1 + 1 + 1 + 1 := ⟨18446744073709551612, rfl⟩
  have st : ∀ (k : Nat) (x y : List Leg), k < 3 → (([a, b, c] : List UInt8).getD k 0).toNat = (([a, b, c] : List UInt8).getD k 0).toNat → mapGet [] t ((([a, b, c] : List UInt8).getD k 0).toNat : Int) = y → x.length + y.length ≤ 1000 → o23_L0 t [a, b, c] (x, k) = some (Ctl.go (jn x y, k + 1)) := by
    intro k x y hk _ hy hl
    unfold o23_L0
    obtain ⟨M, hM, hMb⟩ : ∃ M : Int, M = 9223372036854775807 ∧ M > 1000000000000000000 := ⟨_, rfl, by decide⟩
    simp only
    rw [← hM, dt (by simp only [List.length_cons, List.length_nil]; omega), cond_true, hy, o21_is (by omega), bindO_some rfl, grd_at' (by omega)]
  have j1 := jn_len (mapGet [] t (a.toNat : Int)) (mapGet [] t (b.toNat : Int))
  rw [hN, loopO_go (st 0 [] _ (by omega) rfl rfl (by simp only [List.length_nil, List.getD_cons_zero]; omega)), loopO_go (st 1 _ _ (by omega) rfl rfl (by rw [jn_nil]; simp only [List.getD_cons_zero, List.getD_cons_succ]; omega)), loopO_go (st 2 _ _ (by omega) rfl rfl (by rw [jn_nil]; simp only [List.getD_cons_zero, List.getD_cons_succ]; omega)), loopO_done (show o23_L0 t [a, b, c] (_, 3) = some (Ctl.done _) by unfold o23_L0; exact cond_neg (df (by simp)))]
  rfl
theorem o23_is {p : Proc} (h : okProc p) (hc : Chk p) (h0 : o13 p = some 0) (rw_ tr : List UInt8) : o23 p rw_ tr = some (exR p rw_ tr) := by
  have hs := sizedP_of h
  obtain ⟨a1, a2, a3⟩ := part_legs hc 1 rw_
  obtain ⟨b1, b2, b3⟩ := part_legs hc 2 []
  obtain ⟨c1, c2, c3⟩ := part_legs hc 3 tr
  have k1 := l1_ok hc rw_
  have k2 := l2_ok hc
  have k3 := l3_ok hc tr
  unfold o23 exR
  rw [h0, bindO_some rfl, neq_f rfl, cond_false, o15_is hs, bindO_some rfl, o17_is hs, o17_is hs, o17_is hs]
  simp only [bindO_some rfl]
  have e1 : (cond (decide ((((namesP p 1 p.parts.length).length : Nat) : Int) > 0)) (cond (!(partP p 1 rw_).2) (some (Ctl.done (([] : List Leg), (6 : Int)))) (some (Ctl.go (mapPut [] (partP p 1 rw_).1.kind (partP p 1 rw_).1.legs)))) (some (Ctl.go [])) : Option (Ctl (List (Int × List Leg)) (List Leg × Int))) = some (cond (err1 p rw_) (Ctl.done ([], 6)) (Ctl.go (cond (hasRw p) (mapPut [] 1 (partP p 1 rw_).1.legs) []))) := by
    unfold err1
    show cond (hasRw p) _ _ = _
    cases hasRw p with
    | false => rfl
    | true =>
      cases hq : (partP p 1 rw_).2 with
      | false => rfl
      | true => rw [(a2 hq).2]; rfl
  rw [e1]
  cases herr1 : err1 p rw_ with
  | true => rfl
  | false =>
    rw [cond_false, cond_false, joinO_go rfl]
    have e2 : (cond (!(tr == [])) (cond (!(partP p 3 tr).2) (some (Ctl.done (([] : List Leg), (6 : Int)))) (some (Ctl.go (mapPut (cond (hasRw p) (mapPut [] 1 (partP p 1 rw_).1.legs) []) (partP p 3 tr).1.kind (partP p 3 tr).1.legs)))) (some (Ctl.go (cond (hasRw p) (mapPut [] 1 (partP p 1 rw_).1.legs) []))) : Option (Ctl (List (Int × List Leg)) (List Leg × Int))) = some (cond (err2 p tr) (Ctl.done ([], 6)) (Ctl.go (cond (!(tr == [])) (mapPut (cond (hasRw p) (mapPut [] 1 (partP p 1 rw_).1.legs) []) 3 (partP p 3 tr).1.legs) (cond (hasRw p) (mapPut [] 1 (partP p 1 rw_).1.legs) [])))) := by
      unfold err2
      cases (!(tr == [])) with
      | false => rfl
      | true =>
        cases hq : (partP p 3 tr).2 with
        | false => rfl
        | true => rw [(c2 hq).2]; rfl
    rw [e2]
    cases herr2 : err2 p tr with
    | true => rfl
    | false =>
      rw [cond_false, cond_false, joinO_go rfl, letJ_def, letJ_def]
      have e3 : (cond (partP p 2 []).2 (mapPut (cond (!(tr == [])) (mapPut (cond (hasRw p) (mapPut [] 1 (partP p 1 rw_).1.legs) []) 3 (partP p 3 tr).1.legs) (cond (hasRw p) (mapPut [] 1 (partP p 1 rw_).1.legs) [])) (partP p 2 []).1.kind (partP p 2 []).1.legs) (cond (!(tr == [])) (mapPut (cond (hasRw p) (mapPut [] 1 (partP p 1 rw_).1.legs) []) 3 (partP p 3 tr).1.legs) (cond (hasRw p) (mapPut [] 1 (partP p 1 rw_).1.legs) []))) = map3 (hasRw p) (partP p 1 rw_).1.legs (!(tr == [])) (partP p 3 tr).1.legs (partP p 2 []).2 (partP p 2 []).1.legs := by
        unfold map3
        cases hq : (partP p 2 []).2 with
        | false => rfl
        | true => rw [(b2 hq).2]
      rw [e3]
      obtain ⟨g1, g2, g3, g4⟩ := map3_get (hasRw p) (partP p 1 rw_).1.legs (!(tr == [])) (partP p 3 tr).1.legs (partP p 2 []).2 (partP p 2 []).1.legs
      have g2' : cond (partP p 2 []).2 (partP p 2 []).1.legs [] = l2 p := by
        unfold l2
        cases hq : (partP p 2 []).2 with
        | false => rw [b3 hq]; rfl
        | true => rfl
      rw [g2'] at g2
      generalize map3 (hasRw p) (partP p 1 rw_).1.legs (!(tr == [])) (partP p 3 tr).1.legs (partP p 2 []).2 (partP p 2 []).1.legs = m at g1 g2 g3 g4 ⊢
      have g1' : mapGet [] m 1 = l1 p rw_ := g1
      have g3' : mapGet [] m 3 = l3 p tr := g3
      have f1 := k1.few
      have f2 := k2.few
      have f3 := k3.few
      have hJ : loopO fuelN (o23_L0 m (o36 p.kind)) ([], 0) = some (exJ p rw_ tr) := by
        unfold exJ exA exC
        rcases o36_three hc.kind with ⟨e, eo⟩ | ⟨e, eo⟩ | ⟨e, eo⟩
        · rw [eo, loop23 (by rw [show ((1 : UInt8).toNat : Int) = 1 from rfl, g1']; exact f1) (by rw [show ((2 : UInt8).toNat : Int) = 2 from rfl, g2]; exact f2) (by rw [show ((3 : UInt8).toNat : Int) = 3 from rfl, g3']; exact f3), show ((1 : UInt8).toNat : Int) = 1 from rfl, show ((2 : UInt8).toNat : Int) = 2 from rfl, show ((3 : UInt8).toNat : Int) = 3 from rfl, g1', g2, g3', e]; rfl
        · rw [eo, loop23 (by rw [show ((3 : UInt8).toNat : Int) = 3 from rfl, g3']; exact f3) (by rw [show ((2 : UInt8).toNat : Int) = 2 from rfl, g2]; exact f2) (by rw [show ((1 : UInt8).toNat : Int) = 1 from rfl, g1']; exact f1), show ((1 : UInt8).toNat : Int) = 1 from rfl, show ((2 : UInt8).toNat : Int) = 2 from rfl, show ((3 : UInt8).toNat : Int) = 3 from rfl, g1', g2, g3', e]; rfl
        · rw [eo, loop23 (by rw [show ((3 : UInt8).toNat : Int) = 3 from rfl, g3']; exact f3) (by rw [show ((2 : UInt8).toNat : Int) = 2 from rfl, g2]; exact f2) (by rw [show ((4 : UInt8).toNat : Int) = 4 from rfl, g4]; decide), show ((4 : UInt8).toNat : Int) = 4 from rfl, show ((2 : UInt8).toNat : Int) = 2 from rfl, show ((3 : UInt8).toNat : Int) = 3 from rfl, g4, g2, g3', e]; rfl
      rw [hJ, bindO_some rfl]
      cases ((((exJ p rw_ tr).length : Nat) : Int) == 0) <;> rfl
theorem exJ_good {p : Proc} (hc : Chk p) (rw_ tr : List UInt8) : GoodL (exJ p rw_ tr) := by
  have k1 := l1_ok hc rw_
  have k2 := l2_ok hc
  have k3 := l3_ok hc tr
  unfold exJ exA exC
  rcases o36_three hc.kind with ⟨e, -⟩ | ⟨e, -⟩ | ⟨e, -⟩
  · rw [eq_t e, cond_true, cond_true]
    exact jn_good (jn_good k1.good k2.good (.inr (k2.start (by decide) (fun h => by cases h)))) k3.good (.inr (k3.start (by decide) (fun h => by cases h)))
  · rw [eq_f (show p.kind ≠ 1 by omega), eq_t e, cond_false, cond_false, cond_true]
    exact jn_good (jn_good k3.good k2.good (.inr (k2.start (by decide) (fun h => by cases h)))) k1.good (.inr (k1.start (by decide) (fun _ => by omega)))
  · rw [eq_f (show p.kind ≠ 1 by omega), eq_f (show p.kind ≠ 2 by omega), cond_false, cond_false, cond_false, jn_end]
    exact jn_good k3.good k2.good (.inr (k2.start (by decide) (fun h => by cases h)))
theorem exJ_len {p : Proc} (hc : Chk p) (rw_ tr : List UInt8) : (exJ p rw_ tr).length ≤ 1000 := by
  have f1 := (l1_ok hc rw_).few
  have f2 := (l2_ok hc).few
  have f3 := (l3_ok hc tr).few
  have j1 := jn_len (jn (exA p rw_ tr) (l2 p)) (exC p rw_ tr)
  have j2 := jn_len (exA p rw_ tr) (l2 p)
  have hA : (exA p rw_ tr).length ≤ 24 := by unfold exA; cases (p.kind == 1) <;> assumption
  have hC : (exC p rw_ tr).length ≤ 24 := by
    unfold exC
    cases (p.kind == 1) with
    | true => exact f3
    | false => cases (p.kind == 2) with
      | true => exact f1
      | false => exact Nat.zero_le _
  unfold exJ
  omega
end W17
end Go.Proofs.YthfekfebgghjhaaDoor
