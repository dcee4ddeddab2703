/-
The sender and the collector: the law's own and the program's. Conditions: each lemma's own.
-/
import Derived.Test.YtnidomdebhekiaaGreatV54a
namespace Go.Proofs.YtnidomdebhekiaaGreat
set_option linter.unusedVariables false
set_option linter.unusedSimpArgs false
open Go.RowKit
def numP (d : List UInt8) : Int := maxI ((((d.length : Nat) : Int) + 600 - 1) / 600) 1
theorem numP_is (d : List UInt8) : numP d = (if (((d.length : Nat) : Int) + 600 - 1) / 600 = 0 then 1 else (((d.length : Nat) : Int) + 600 - 1) / 600) := by
  unfold numP maxI
  split <;> split <;> omega
def pcP (base : Int) (d : List UInt8) (m : Nat) : Piece := ⟨base, (m : Int), numP d, List.take ((minI (((m : Nat) : Int) * 600 + 600) ((d.length : Nat) : Int)).toNat - m * 600) (List.drop (m * 600) d)⟩
def pcs (base : Int) (d : List UInt8) : Nat → Nat → List Piece
  | _, 0 => []
  | m, c + 1 => pcP base d m :: pcs base d (m + 1) c
theorem pcs_len (base : Int) (d : List UInt8) : ∀ c m, (pcs base d m c).length = c
  | 0, _ => rfl
  | c + 1, m => by rw [pcs, List.length_cons, pcs_len base d c (m + 1)]
theorem loop_pcs {f : List Piece × Nat → Option (Ctl (List Piece × Nat) (List Piece))} {base : Int} {d : List UInt8} (n : Nat) (h : ∀ l m, m < n → l.length ≤ 1000 → f (l, m) = some (Ctl.go (l ++ [pcP base d m], m + 1))) (hE : ∀ l, f (l, n) = some (Ctl.done l)) :
    ∀ (c m : Nat) (l : List Piece) (N : Nat), m + c = n → c < N → l.length + c ≤ 1000 → loopO N f (l, m) = some (l ++ pcs base d m c)
  | 0, m, l, N + 1, hm, hN, hl => by
    obtain rfl : m = n := by omega
    rw [loopO_done (hE l), pcs, List.append_nil]
  | c + 1, m, l, N + 1, hm, hN, hl => by
    rw [loopO_go (h l m (by omega) (by omega)), loop_pcs n h hE c (m + 1) (l ++ [pcP base d m]) N (by omega) (by omega) (by rw [List.length_append, List.length_cons, List.length_nil]; omega), pcs, List.append_assoc]
    rfl
def splitC (base : Int) (d : List UInt8) : List Piece × Int := cond (decide (base < 1) || decide (base > 2305843009213693952)) ([], 1) (cond (decide (((d.length : Nat) : Int) > 524288)) ([], 3) (pcs base d 0 (numP d).toNat, 0))
theorem numP_in {d : List UInt8} (h : d.length ≤ 524288) : 1 ≤ numP d ∧ numP d ≤ 874 := by
  rw [numP_is]
  split <;> omega
theorem num_le {d : List UInt8} {m : Nat} (h : d.length ≤ 524288) (hm : ((m : Nat) : Int) < numP d) : m * 600 ≤ d.length := by
  rw [numP_is] at hm
  split at hm <;> omega
theorem o12_is (base : Int) (d : List UInt8) : o12 base d = some (splitC base d) := by
  unfold o12 splitC
  cases (decide (base < 1) || decide (base > 2305843009213693952)) with
  | true => rfl
  | false =>
    cases h : decide (((d.length : Nat) : Int) > 524288) with
    | true => rfl
    | false =>
      have hl : d.length ≤ 524288 := by have := of_decide_eq_false h; omega
      have hn := numP_in hl
      rw [cond_false, cond_false, cond_false, cond_false, loop_pcs (f := o12_L0 base d) (base := base) (d := d) (numP d).toNat (fun l m hm hll => by
        have hml := num_le hl (show ((m : Nat) : Int) < numP d by omega)
        unfold o12_L0 pcP
        show cond (decide (((m : Nat) : Int) < numP d)) _ _ = _
        simp only
        obtain ⟨M, hM, hMb⟩ : ∃ M : Int, M = 9223372036854775807 ∧ M > 1000000000000000000 := ⟨_, rfl, by decide⟩
        have w1 : IntKind.i64.wrap (((m : Nat) : Int) * 600) = ((m : Nat) : Int) * 600 := wr64 (by omega)
        have w2 : IntKind.i64.wrap ((((m : Nat) : Int) + 1) * 600) = ((m : Nat) : Int) * 600 + 600 := (wr64 (by omega)).trans (by omega)
        have hmin : ((m : Nat) : Int) * 600 ≤ minI (((m : Nat) : Int) * 600 + 600) ((d.length : Nat) : Int) := by unfold minI; split <;> omega
        rw [← hM, dt (by omega), cond_true, w1, w2, grd_at' (by omega), grd_at' (by omega), o43_def, letJ_def, grd_at' (by simp only [List.length_cons, List.length_nil]; omega), grd_at' (by omega), show (((m : Nat) : Int) * 600).toNat = m * 600 by omega]
        rfl) (fun l => by
        have e : numP d = maxI (((((d.length : Nat) : Int) + 600) - 1) / 600) 1 := rfl
        unfold o12_L0
        rw [← e]
        exact cond_neg (df (by simp only; omega))) (numP d).toNat 0 [] fuelN (by omega) (by simp only [fuelN]; omega) (by simp only [List.length_nil]; omega), bindO_some rfl, List.nil_append]
theorem o107_is (base : Int) (d : List UInt8) : o107 base d = some (splitC base d) := by
  unfold o107 splitC
  cases (decide (base < 1) || decide (base > 2305843009213693952)) with
  | true => rfl
  | false =>
    cases h : decide (((d.length : Nat) : Int) > 524288) with
    | true => rfl
    | false =>
      have hl : d.length ≤ 524288 := by have := of_decide_eq_false h; omega
      have hn := numP_in hl
      have ht : cond ((((((d.length : Nat) : Int) + 600) - 1) / 600) == 0) 1 (((((d.length : Nat) : Int) + 600) - 1) / 600) = numP d := by
        rw [numP_is]
        split
        · rw [eq_t (by assumption)]; rfl
        · rw [eq_f (by assumption)]; rfl
      rw [cond_false, cond_false, cond_false, cond_false, letJ_def, ht, loop_pcs (f := o107_L0 base d (numP d)) (base := base) (d := d) (numP d).toNat (fun l m hm hll => by
        have hml := num_le hl (show ((m : Nat) : Int) < numP d by omega)
        unfold o107_L0 pcP
        simp only
        obtain ⟨M, hM, hMb⟩ : ∃ M : Int, M = 9223372036854775807 ∧ M > 1000000000000000000 := ⟨_, rfl, by decide⟩
        have w1 : IntKind.i64.wrap (((m : Nat) : Int) * 600) = ((m : Nat) : Int) * 600 := wr64 (by omega)
        have w2 : IntKind.i64.wrap ((((m : Nat) : Int) + 1) * 600) = ((m : Nat) : Int) * 600 + 600 := (wr64 (by omega)).trans (by omega)
        have hmin : ((m : Nat) : Int) * 600 ≤ minI (((m : Nat) : Int) * 600 + 600) ((d.length : Nat) : Int) ∧ minI (((m : Nat) : Int) * 600 + 600) ((d.length : Nat) : Int) ≤ ((d.length : Nat) : Int) := by unfold minI; split <;> omega
        have hc : cond (decide (((m : Nat) : Int) * 600 + 600 > ((d.length : Nat) : Int))) ((d.length : Nat) : Int) (((m : Nat) : Int) * 600 + 600) = minI (((m : Nat) : Int) * 600 + 600) ((d.length : Nat) : Int) := by
          unfold minI
          by_cases q : ((m : Nat) : Int) * 600 + 600 > ((d.length : Nat) : Int)
          · rw [dt q, cond_true]; split <;> omega
          · rw [df q, cond_false]; split <;> omega
        rw [← hM, dt (by omega), cond_true, w1, w2, grd_at' (by omega), hc, letJ_def, grd_at' (by omega), grd_at' (by simp only [List.length_cons, List.length_nil]; omega), grd_at' (by omega), show (((m : Nat) : Int) * 600).toNat = m * 600 by omega]
        ) (fun l => by
        unfold o107_L0
        exact cond_neg (df (by simp only; omega))) (numP d).toNat 0 [] fuelN (by omega) (by simp only [fuelN]; omega) (by simp only [List.length_nil]; omega), bindO_some rfl, List.nil_append]
theorem o105_is (p : Piece) : o105 p = p := by
  unfold o105
  rw [letJ_def, o43_def]
theorem beq_swap (a b : Int) : (a == b) = (b == a) := by
  by_cases h : a = b
  · rw [eq_t h, eq_t h.symm]
  · rw [eq_f h, eq_f (Ne.symm h)]
theorem serve_is (s : Sender) (w : Want) (steps : Int) (save : List UInt8) : ∃ r, o67 s w steps save = some r ∧ o69 s w steps save = some r ∧ (r.2.2 ≠ 0 → r.1 = s) := by
  unfold o67 o69
  rw [beq_swap w.base]
  cases (((decide ((((s.pieces).length : Nat) : Int) > 0) && ((List.getD s.pieces 0 default).base == w.base)) && decide (w.have_ ≥ 0)) && decide (w.have_ < (((s.pieces).length : Nat) : Int))) with
  | true => exact ⟨_, by rw [cond_true, letJ_def, o105_is], rfl, fun h => absurd rfl h⟩
  | false =>
    rw [cond_false, cond_false, o12_is, o107_is, bindO_some rfl, bindO_some rfl]
    cases he : ((splitC steps save).2 != 0) with
    | true => exact ⟨_, rfl, rfl, fun _ => rfl⟩
    | false =>
      have hl : 0 < (splitC steps save).1.length := by
        unfold splitC at he ⊢
        cases h1 : (decide (steps < 1) || decide (steps > 2305843009213693952)) with
        | true => rw [h1] at he; cases he
        | false =>
          cases h2 : decide (((save.length : Nat) : Int) > 524288) with
          | true => rw [h1, h2] at he; cases he
          | false =>
            have hl : save.length ≤ 524288 := by have := of_decide_eq_false h2; omega
            have hn := numP_in hl
            rw [cond_false, cond_false, pcs_len]; omega
      rw [cond_false, cond_false, grd_at' hl, grd_at' hl, letJ_def, o105_is]
      exact ⟨_, rfl, rfl, fun h => absurd rfl h⟩
def noC : Coll := ⟨0, 0, [], []⟩
structure ColOk (c : Coll) : Prop where
  few : c.parts.length ≤ 874
  cnt : c.parts.length ≠ 0 → ((c.parts.length : Nat) : Int) ≤ c.count ∧ 1 ≤ c.base ∧ c.base ≤ 2305843009213693952
  sets : c.sets.length ≤ c.parts.length
  small : ∀ j, j < c.parts.length → (c.parts.getD j []).length ≤ 600
theorem ColOk.no : ColOk noC := ⟨by decide, fun h => absurd rfl h, Nat.le_refl _, fun j h => (by cases h)⟩
theorem o90_is (c : Coll) : o90 c = noC := by unfold o90 noC; rfl
def noteC (c : Coll) (x : Sett) (came : Bool) : Coll := cond (((c.parts.length : Nat) : Int) == 0) c (cond ((((!came) || (x.steps != (IntKind.i64.wrap (c.base + (((c.sets).length : Nat) : Int))))) || x.fresh) || decide ((((c.sets).length : Nat) : Int) ≥ (((c.parts).length : Nat) : Int))) noC { c with sets := c.sets ++ [x] })
theorem o58_is {c : Coll} (h : ColOk c) (x : Sett) (came : Bool) : o58 c x came = some (noteC c x came) := by
  have h1 := h.few
  have h2 := h.sets
  unfold o58 noteC
  rw [letJ_def, letJ_def, o90_is, o43_def]
  cases (((c.parts.length : Nat) : Int) == 0) with
  | true => rfl
  | false =>
    rw [grd_at' (by simp only [List.length_cons, List.length_nil]; omega)]
    cases ((((!came) || (x.steps != (IntKind.i64.wrap (c.base + (((c.sets).length : Nat) : Int))))) || x.fresh) || decide ((((c.sets).length : Nat) : Int) ≥ (((c.parts).length : Nat) : Int))) <;> rfl
theorem o62_is {c : Coll} (h : ColOk c) (x : Sett) (came : Bool) : o62 c x came = some (noteC c x came) := by
  have h1 := h.few
  have h2 := h.sets
  unfold o62 noteC
  cases (((c.parts.length : Nat) : Int) == 0) with
  | true => rfl
  | false =>
    rw [grd_at' (by omega), grd_at' (by simp only [List.length_cons, List.length_nil]; omega)]
    cases ((((!came) || (x.steps != (IntKind.i64.wrap (c.base + (((c.sets).length : Nat) : Int))))) || x.fresh) || decide ((((c.sets).length : Nat) : Int) ≥ (((c.parts).length : Nat) : Int))) <;> rfl
theorem note_ok {c : Coll} (h : ColOk c) (x : Sett) (came : Bool) : ColOk (noteC c x came) := by
  unfold noteC
  cases (((c.parts.length : Nat) : Int) == 0) with
  | true => exact h
  | false =>
    rw [cond_false]
    cases hb : ((((!came) || (x.steps != (IntKind.i64.wrap (c.base + (((c.sets).length : Nat) : Int))))) || x.fresh) || decide ((((c.sets).length : Nat) : Int) ≥ (((c.parts).length : Nat) : Int))) with
    | true => exact .no
    | false =>
      rw [Bool.or_eq_false_iff] at hb
      have := of_decide_eq_false hb.2
      exact ⟨h.few, h.cnt, by show (c.sets ++ [x]).length ≤ c.parts.length; rw [List.length_append, List.length_cons, List.length_nil]; omega, h.small⟩
theorem note_no (c : Coll) (x y : Sett) : noteC c x false = noteC c y false := by unfold noteC; simp only [Bool.not_false, Bool.true_or, cond_true]
def takeC (c : Coll) (p : Piece) : Coll := cond (!(o106 p)) c (cond ((((decide ((((c.parts).length : Nat) : Int) > 0) && (p.base == c.base)) && (p.count == c.count)) && (p.index == (((c.parts).length : Nat) : Int)))) { c with parts := c.parts ++ [p.data] } (cond (p.index == 0) ⟨p.base, p.count, [p.data], []⟩ c))
theorem o72_is {c : Coll} (h : ColOk c) (p : Piece) : o72 c p = some (takeC c p) := by
  have h1 := h.few
  unfold o72 takeC
  rw [letJ_def, letJ_def, letJ_def, letJ_def, o43_def]
  cases o106 p with
  | false => rfl
  | true =>
    rw [grd_at' (by simp only [List.length_cons, List.length_nil]; omega)]
    cases (((decide ((((c.parts).length : Nat) : Int) > 0) && (p.base == c.base)) && (p.count == c.count)) && (p.index == (((c.parts).length : Nat) : Int))) <;> cases (p.index == 0) <;> rfl
theorem o76_is {c : Coll} (h : ColOk c) (p : Piece) : o76 c p = some (takeC c p) := by
  have h1 := h.few
  unfold o76 takeC
  rw [o70_is, bindO_some rfl]
  unfold encC
  cases o106 p with
  | false => rfl
  | true =>
    rw [grd_at' (by omega), grd_at' (by simp only [List.length_cons, List.length_nil]; omega)]
    cases (((decide ((((c.parts).length : Nat) : Int) > 0) && (p.base == c.base)) && (p.count == c.count)) && (p.index == (((c.parts).length : Nat) : Int))) <;> cases (p.index == 0) <;> rfl
theorem take_ok {c : Coll} (h : ColOk c) (p : Piece) : ColOk (takeC c p) := by
  unfold takeC
  cases hp : o106 p with
  | false => exact h
  | true =>
    have hk := o106_ok hp
    have k1 := hk.count
    have k2 := hk.index
    rw [Bool.not_true, cond_false]
    cases hb : (((decide ((((c.parts).length : Nat) : Int) > 0) && (p.base == c.base)) && (p.count == c.count)) && (p.index == (((c.parts).length : Nat) : Int))) with
    | true =>
      simp only [Bool.and_eq_true, decide_eq_true_iff, beq_iff_eq] at hb
      obtain ⟨⟨⟨b1, b2⟩, b3⟩, b4⟩ := hb
      have hl : (c.parts ++ [p.data]).length = c.parts.length + 1 := by rw [List.length_append]; rfl
      refine ⟨by show (c.parts ++ [p.data]).length ≤ 874; omega, fun _ => ⟨by show (((c.parts ++ [p.data]).length : Nat) : Int) ≤ c.count; omega, (h.cnt (by omega)).2⟩, by show c.sets.length ≤ (c.parts ++ [p.data]).length; have := h.sets; omega, fun j hj => ?_⟩
      show ((c.parts ++ [p.data]).getD j []).length ≤ 600
      by_cases q : j < c.parts.length
      · rw [List.getD_eq_getElem?_getD, List.getElem?_append_left q, ← List.getD_eq_getElem?_getD]; exact h.small j q
      · have hj' : j < (c.parts ++ [p.data]).length := hj
        obtain rfl : j = c.parts.length := by omega
        rw [List.getD_eq_getElem?_getD, List.getElem?_append_right (Nat.le_refl _), Nat.sub_self]
        exact hk.data
    | false =>
      rw [cond_false]
      cases (p.index == 0) with
      | true =>
        refine ⟨show (1 : Nat) ≤ 874 by omega, fun _ => ⟨k1.1, hk.base⟩, Nat.zero_le _, fun j hj => ?_⟩
        have hj' : j < 1 := hj
        obtain rfl : j = 0 := by omega
        exact hk.data
      | false => exact h
def catP (l : List (List UInt8)) : Nat → List UInt8
  | 0 => []
  | m + 1 => catP l m ++ l.getD m []
theorem catP_len {l : List (List UInt8)} (h : ∀ j, j < l.length → (l.getD j []).length ≤ 600) : ∀ m, m ≤ l.length → (catP l m).length ≤ 600 * m
  | 0, _ => Nat.le_refl _
  | m + 1, hm => by
    have := catP_len h m (by omega)
    have := h m (by omega)
    rw [catP, List.length_append]; omega
theorem o110_is {l : List (List UInt8)} (hl : l.length ≤ 874) (h : ∀ j, j < l.length → (l.getD j []).length ≤ 600) : o110 l = some (catP l l.length) := by
  obtain ⟨r, hr, rfl⟩ := loopO_ok (f := o110_L1 l) (fun s => s.2 ≤ l.length ∧ s.1 = (catP l s.2).length) (fun s => l.length - s.2) (fun r => r = (catP l l.length).length) (by
    rintro ⟨x, m⟩ ⟨h1, h2⟩
    simp only at h1 h2
    subst h2
    unfold o110_L1
    obtain ⟨M, hM, hMb⟩ : ∃ M : Int, M = 9223372036854775807 ∧ M > 1000000000000000000 := ⟨_, rfl, by decide⟩
    rw [← hM]
    simp only
    by_cases hlt : m < l.length
    · have e1 := catP_len h m (by omega)
      have e2 := h m hlt
      rw [dt (by omega), cond_true, grd_at' (by omega), df (by omega), cond_false, grd_at' (by omega)]
      exact .inl ⟨_, rfl, ⟨by simp only; omega, by simp only; rw [catP, List.length_append]⟩, by simp only; omega⟩
    · obtain rfl : m = l.length := by omega
      exact .inr ⟨_, cond_neg (df (by omega)), rfl⟩) fuelN (0, 0) ⟨Nat.zero_le _, rfl⟩ (by simp only [fuelN]; omega)
  have hc := catP_len h l.length (Nat.le_refl _)
  have h16 : o116k (((catP l l.length).length : Nat) : Int) = some [] := by
    unfold o116k
    have w : IntKind.i64.wrap (((0 : Nat) : Int) - 0) = 0 := rfl
    rw [w, Int.sub_zero, df (by omega), cond_false, grd_at' (by omega), grd_at' (by omega)]
    cases decide ((((catP l l.length).length : Nat) : Int) > 0) <;> rfl
  obtain ⟨r, hr2, rfl⟩ := loopO_ok (f := o110_L0 l) (fun s => s.2 ≤ l.length ∧ s.1 = catP l s.2) (fun s => l.length - s.2) (fun r => r = catP l l.length) (by
    rintro ⟨x, m⟩ ⟨h1, h2⟩
    simp only at h1 h2
    subst h2
    unfold o110_L0
    obtain ⟨M, hM, hMb⟩ : ∃ M : Int, M = 9223372036854775807 ∧ M > 1000000000000000000 := ⟨_, rfl, by decide⟩
    rw [← hM]
    simp only
    by_cases hlt : m < l.length
    · have e1 := catP_len h m (by omega)
      have e2 := h m hlt
      rw [dt (by omega), cond_true, grd_at' (by omega), grd_at' (by omega)]
      exact .inl ⟨_, rfl, ⟨by simp only; omega, rfl⟩, by simp only; omega⟩
    · obtain rfl : m = l.length := by omega
      exact .inr ⟨_, cond_neg (df (by omega)), rfl⟩) fuelN ([], 0) ⟨Nat.zero_le _, rfl⟩ (by simp only [fuelN]; omega)
  unfold o110
  rw [hr, bindO_some rfl, h16, bindO_some rfl, hr2, bindO_some rfl]
def jobC (c : Coll) : Job × Bool := cond ((((c.parts.length : Nat) : Int) == 0) || (((c.parts.length : Nat) : Int) != c.count)) (⟨0, [], []⟩, false) (⟨c.base, catP c.parts c.parts.length, c.sets⟩, true)
theorem set_sameS (l : List Sett) (i : Nat) (h : i < l.length) : List.set l i { (l.getD i default) with in_ := (l.getD i default).in_ } = l := by
  show List.set l i (l.getD i default) = l
  rw [List.getD_eq_getElem?_getD, List.getElem?_eq_getElem h]
  exact List.set_getElem_self h
theorem o73_is {c : Coll} (h : ColOk c) : o73 c = some (jobC c) := by
  have h1 := h.few
  have h2 := h.sets
  unfold o73 jobC
  cases ((((c.parts.length : Nat) : Int) == 0) || (((c.parts.length : Nat) : Int) != c.count)) with
  | true => rfl
  | false =>
    obtain ⟨r, hr, rfl⟩ := loopO_ok (f := o73_L0 c.sets) (fun s => s.2 ≤ c.sets.length ∧ s.1 = c.sets) (fun s => c.sets.length - s.2) (fun r => r = c.sets) (by
      rintro ⟨x, m⟩ ⟨g1, g2⟩
      simp only at g1 g2
      subst g2
      unfold o73_L0
      obtain ⟨M, hM, hMb⟩ : ∃ M : Int, M = 9223372036854775807 ∧ M > 1000000000000000000 := ⟨_, rfl, by decide⟩
      rw [← hM]
      simp only
      by_cases hlt : m < c.sets.length
      · rw [dt (by omega), cond_true, grd_at' hlt, letJ_def, grd_at' hlt, o43_def, set_sameS _ _ hlt, grd_at' (by omega)]
        exact .inl ⟨_, rfl, ⟨by simp only; omega, rfl⟩, by simp only; omega⟩
      · exact .inr ⟨_, cond_neg (df (by omega)), rfl⟩) fuelN (c.sets, 0) ⟨Nat.zero_le _, rfl⟩ (by simp only [fuelN]; omega)
    unfold o109
    rw [cond_false, cond_false, grd_at' (by omega), bindO_some rfl, hr, bindO_some rfl, o110_is h.few h.small, bindO_some rfl]
theorem o77_is {c : Coll} (h : ColOk c) : o77 c = some (jobC c) := by
  have h1 := h.few
  unfold o77 jobC
  have e : ((((c.parts.length : Nat) : Int) == 0) || decide (((c.parts.length : Nat) : Int) < c.count)) = ((((c.parts.length : Nat) : Int) == 0) || (((c.parts.length : Nat) : Int) != c.count)) := by
    by_cases h0 : c.parts.length = 0
    · rw [eq_t (by omega), Bool.true_or, Bool.true_or]
    · have := (h.cnt h0).1
      rw [eq_f (by omega), Bool.false_or, Bool.false_or]
      by_cases q : ((c.parts.length : Nat) : Int) = c.count
      · rw [neq_f q, df (by omega)]
      · rw [neq_t q, dt (by omega)]
  rw [e]
  cases ((((c.parts.length : Nat) : Int) == 0) || (((c.parts.length : Nat) : Int) != c.count)) with
  | true => rfl
  | false =>
    obtain ⟨r, hr, rfl⟩ := loopO_ok (f := o77_L0 c) (fun s => s.1 ≤ c.parts.length ∧ s.2 = catP c.parts s.1) (fun s => c.parts.length - s.1) (fun r => r = catP c.parts c.parts.length) (by
      rintro ⟨m, x⟩ ⟨g1, g2⟩
      simp only at g1 g2
      subst g2
      unfold o77_L0
      obtain ⟨M, hM, hMb⟩ : ∃ M : Int, M = 9223372036854775807 ∧ M > 1000000000000000000 := ⟨_, rfl, by decide⟩
      rw [← hM]
      simp only
      by_cases hlt : m < c.parts.length
      · have e1 := catP_len h.small m (by omega)
        have e2 := h.small m hlt
        rw [dt (by omega), cond_true, grd_at' (by omega), grd_at' (by omega)]
        exact .inl ⟨_, rfl, ⟨by simp only; omega, rfl⟩, by simp only; omega⟩
      · obtain rfl : m = c.parts.length := by omega
        exact .inr ⟨_, cond_neg (df (by omega)), rfl⟩) fuelN (0, []) ⟨Nat.zero_le _, rfl⟩ (by simp only [fuelN]; omega)
    rw [cond_false, cond_false, hr, bindO_some rfl]
end Go.Proofs.YtnidomdebhekiaaGreat
