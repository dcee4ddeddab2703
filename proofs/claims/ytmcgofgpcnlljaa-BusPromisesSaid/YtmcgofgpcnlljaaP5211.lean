/-
BusPromises: what a schedule promises. Conditions: each lemma's own.
-/
import Derived.Test.YtmcgofgpcnlljaaP52rx11
namespace Go.Proofs.Ytmcgofgpcnlljaa
set_option linter.unusedVariables false
set_option linter.unusedSimpArgs false
open Go.RowKit
theorem getD_setX {α : Type} (d : α) (l : List α) (i k : Nat) (v : α) : (l.set i v).getD k d = if i = k ∧ k < l.length then v else l.getD k d := by
  rw [List.getD_eq_getElem?_getD, List.getElem?_set]
  by_cases h : i = k
  · subst h
    by_cases h2 : i < l.length
    · rw [if_pos rfl, if_pos h2, if_pos ⟨rfl, h2⟩]; rfl
    · rw [if_pos rfl, if_neg h2, if_neg (fun h => h2 h.2), List.getD_eq_getElem?_getD, List.getElem?_eq_none (by omega)]
  · rw [if_neg h, if_neg (fun h' => h h'.1), ← List.getD_eq_getElem?_getD]
theorem chk_good (l : List Msg) (h0 : chkC l = 0) : ∀ j, j < l.length → goodM (l.getD j default) := fun j hj => by
  have := first_none _ _ _ (chk_none l h0) j (Nat.zero_le _) (by omega)
  unfold eM at this
  by_cases hb : ((badP (l.getD j default).period || decide ((l.getD j default).length < 1)) || decide ((l.getD j default).length > 1000)) = true
  · rw [if_pos hb] at this; cases this
  · have hb : ((badP (l.getD j default).period || decide ((l.getD j default).length < 1)) || decide ((l.getD j default).length > 1000)) = false := by simpa using hb
    rw [Bool.or_eq_false_iff, Bool.or_eq_false_iff] at hb
    obtain ⟨⟨h1, h2⟩, h3⟩ := hb
    have h2 := of_decide_eq_false h2
    have h3 := of_decide_eq_false h3
    refine ⟨?_, by omega, by omega⟩
    unfold badP at h1
    simp only [Bool.and_eq_false_iff, bne_eq_false_iff_eq] at h1
    omega
theorem first_place (l : List Msg) (cap : Int) (y12 : List Int) (s24 : (List Slot) × Nat × (List Int)) (t : Int) (h2 : y12.getD s24.2.1 0 = t) (gm : goodM (l.getD t.toNat default)) (hb : ∀ k, k < 32 → 0 ≤ s24.2.2.getD k 0 ∧ s24.2.2.getD k 0 ≤ 1000000) :
    ∃ u : Nat, loopO fuelN (o19_L2 l cap y12 s24) 0 = some u ∧ (((u : Nat) : Int) = (l.getD t.toNat default).period ∨ (((u : Nat) : Int) < (l.getD t.toNat default).period ∧ ∀ k, k < 32 → hit u (l.getD t.toNat default).period.toNat k = true → s24.2.2.getD k 0 + (l.getD t.toNat default).length ≤ cap)) := by
  have hp := gm.p
  refine loopO_ok (f := o19_L2 l cap y12 s24) (fun s => ((s : Nat) : Int) ≤ (l.getD t.toNat default).period) (fun s => 100 - s) _ ?_ fuelN 0 (by omega) (by simp only [fuelN]; omega)
  intro s hs
  unfold o19_L2
  obtain ⟨M, hM⟩ : ∃ M : Int, M = 9223372036854775807 := ⟨_, rfl⟩
  rw [← hM, h2]
  by_cases hlt : ((s : Nat) : Int) < (l.getD t.toNat default).period
  · obtain ⟨b, hb1, hb2⟩ := room_ok gm s (by omega) cap hb
    rw [dt hlt]
    simp only [cond_true]
    rw [hb1, bindO_some rfl, bindO_some rfl, grd_at' (by omega)]
    cases b with
    | true => exact .inr ⟨_, rfl, .inr ⟨hlt, hb2 rfl⟩⟩
    | false => exact .inl ⟨_, rfl, by omega, by omega⟩
  · rw [df hlt]
    exact .inr ⟨_, rfl, .inl (by omega)⟩
/-- which messages have a place already -/
def tkn (y : List Int) : Nat → Nat → Bool
  | 0, _ => false
  | k + 1, j => tkn y k j || decide (y.getD k 0 = ((j : Nat) : Int))
theorem tkn_iff (y : List Int) : ∀ (k j : Nat), tkn y k j = true ↔ ∃ q, q < k ∧ y.getD q 0 = ((j : Nat) : Int)
  | 0, j => by
    constructor
    · intro h; cases h
    · rintro ⟨q, hq, -⟩; omega
  | k + 1, j => by
    rw [tkn, Bool.or_eq_true, tkn_iff y k j, decide_eq_true_eq]
    constructor
    · rintro (⟨q, h1, h2⟩ | h)
      · exact ⟨q, by omega, h2⟩
      · exact ⟨k, by omega, h⟩
    · rintro ⟨q, h1, h2⟩
      by_cases hq : q = k
      · subst hq; exact .inr h2
      · exact .inl ⟨q, by omega, h2⟩
def offN (slots : List Slot) (j : Nat) : Nat := (slots.getD j default).offset.toNat
def placed (l : List Msg) (slots : List Slot) (j : Nat) : Prop := (slots.getD j default).label = (l.getD j default).label ∧ 0 ≤ (slots.getD j default).offset ∧ (slots.getD j default).offset < (l.getD j default).period
/-- the words of a minor frame -/
def loadOf (l : List Msg) (slots : List Slot) (t : Nat → Bool) (f : Nat) : Int := sumZ l.length (fun j => cond (t j) (adds (l.getD j default) (offN slots j) f) 0)
theorem loadOf_in {l : List Msg} (hl : l.length ≤ 32) (gm : ∀ j, j < l.length → goodM (l.getD j default)) (slots : List Slot) (t : Nat → Bool) (f : Nat) : 0 ≤ loadOf l slots t f ∧ loadOf l slots t f ≤ 32000 := by
  have := sumZ_bound (g := fun j => cond (t j) (adds (l.getD j default) (offN slots j) f) 0) (B := 1000) l.length (fun j hj => by
    have := adds_in (gm j hj) (offN slots j) f
    try simp only
    cases t j <;> simp only [cond_true, cond_false] <;> omega)
  unfold loadOf
  omega
theorem main_ok (l : List Msg) (cap : Int) (hcap : 1 ≤ cap) (y12 : List Int) (hl : l.length ≤ 32) (gm : ∀ j, j < l.length → goodM (l.getD j default)) (hlen : y12.length = l.length) (hin : ∀ k, k < l.length → inL l (y12.getD k 0)) (hinj : Inj y12) (hon : ∀ i, i < l.length → ∃ k, k < l.length ∧ y12.getD k 0 = ((i : Nat) : Int)) (slots : List Slot) (hsl : slots.length = l.length) :
    ∃ r, loopO fuelN (o19_L0 l cap y12) (slots, 0, List.replicate 32 0) = some r ∧ (r = Ctl.done ([], 18) ∨ ∃ s, r = Ctl.go s ∧ s.length = l.length ∧ (∀ j, j < l.length → placed l s j) ∧ ∀ f, f < 32 → loadOf l s (fun _ => true) f ≤ cap) := by
  refine loopO_ok (f := o19_L0 l cap y12) (fun (s : (List Slot) × Nat × (List Int)) => s.2.1 ≤ l.length ∧ s.1.length = l.length ∧ s.2.2.length = 32 ∧ (∀ j, j < l.length → tkn y12 s.2.1 j = true → placed l s.1 j) ∧ ∀ f, f < 32 → s.2.2.getD f 0 = loadOf l s.1 (tkn y12 s.2.1) f ∧ s.2.2.getD f 0 ≤ cap) (fun (s : (List Slot) × Nat × (List Int)) => l.length - s.2.1) _ ?_ fuelN _ ⟨Nat.zero_le _, hsl, List.length_replicate, fun j hj h => (by cases h), fun f hf => ?_⟩ (by simp only [fuelN]; omega)
  rotate_left
  · have e : (List.replicate 32 (0 : Int)).getD f 0 = 0 := by rw [List.getD_eq_getElem?_getD, List.getElem?_replicate, if_pos hf]; rfl
    simp only
    rw [e]
    exact ⟨(sumZ_zero l.length).symm, by omega⟩
  rintro ⟨sl, k, x⟩ ⟨h1, h2, h3, h4, h5⟩
  simp only at h1 h2 h3 h4 h5
  unfold o19_L0
  obtain ⟨M, hM⟩ : ∃ M : Int, M = 9223372036854775807 := ⟨_, rfl⟩
  rw [← hM]
  simp only
  by_cases hlt : k < l.length
  · obtain ⟨i1, i2⟩ := hin k hlt
    obtain ⟨y, hy⟩ : ∃ y : Nat, y12.getD k 0 = ((y : Nat) : Int) := ⟨(y12.getD k 0).toNat, by omega⟩
    have hyl : y < l.length := by omega
    have ey : (((y : Nat) : Int)).toNat = y := by omega
    have gy := gm y hyl
    have hpy := gy.p
    have hx : ∀ f, f < 32 → 0 ≤ x.getD f 0 ∧ x.getD f 0 ≤ 1000000 := fun f hf => by
      have := loadOf_in hl gm sl (tkn y12 k) f
      rw [(h5 f hf).1]
      omega
    obtain ⟨u, u1, u2⟩ := first_place l cap y12 (sl, k, x) ((y : Nat) : Int) hy (by rw [ey]; exact gy) hx
    rw [dt (by omega), cond_true, hy, grd_at' (by omega), u1, bindO_some rfl]
    rw [ey] at u2 ⊢
    rcases u2 with u2 | ⟨u2, u3⟩
    · rw [eq_t u2]
      exact .inr ⟨_, rfl, .inl rfl⟩
    · rw [eq_f (by omega), cond_false]
      obtain ⟨z, z1, z2, z3⟩ := add_loop (f := o19_L1 l y12 (sl, k, x)) gy (fun s => by unfold o19_L1; simp only; rw [hy, ey]) x h3 hx u (by omega)
      rw [z1, bindO_some rfl, grd_at' (by omega), joinO_go rfl, grd_at' (by omega)]
      have hnt : tkn y12 k y = false := by
        cases h : tkn y12 k y with
        | false => rfl
        | true =>
          obtain ⟨q, q1, q2⟩ := (tkn_iff y12 k y).1 h
          have := hinj q k (by omega) (by omega) (by rw [q2, hy])
          omega
      have hgs : ∀ j, (sl.set y ({ (l.getD y default) with offset := ((u : Nat) : Int) } : Slot)).getD j default = if y = j ∧ j < sl.length then ({ (l.getD y default) with offset := ((u : Nat) : Int) } : Slot) else sl.getD j default := fun j => getD_setX default sl y j _
      have hnew := hgs y
      rw [if_pos ⟨rfl, by omega⟩] at hnew
      have hold : ∀ j, j ≠ y → (sl.set y ({ (l.getD y default) with offset := ((u : Nat) : Int) } : Slot)).getD j default = sl.getD j default := fun j hj => by
        rw [hgs j, if_neg (fun h => hj h.1.symm)]
      have hstep : ∀ j, tkn y12 (k + 1) j = (tkn y12 k j || decide (j = y)) := fun j => by
        rw [tkn, hy]
        congr 1
        by_cases h : j = y
        · rw [dt h, dt (by omega)]
        · rw [df h, df (by omega)]
      refine .inl ⟨_, rfl, ⟨by simp only; omega, by simp only [List.length_set]; exact h2, z2, fun j hj ht => ?_, fun f hf => ?_⟩, by simp only; omega⟩
      · simp only at ht ⊢
        unfold placed
        by_cases hjy : j = y
        · subst hjy
          rw [hnew]
          exact ⟨rfl, by simp only; omega, by simp only; omega⟩
        · rw [hold j hjy]
          rw [hstep j, df hjy, Bool.or_false] at ht
          exact h4 j hj ht
      · simp only
        rw [z3 f hf]
        have e1 : loadOf l (sl.set y ({ (l.getD y default) with offset := ((u : Nat) : Int) } : Slot)) (tkn y12 (k + 1)) f = loadOf l sl (tkn y12 k) f + adds (l.getD y default) u f := by
          unfold loadOf
          rw [sumZ_take (g := fun j => adds (l.getD j default) (offN (sl.set y ({ (l.getD y default) with offset := ((u : Nat) : Int) } : Slot)) j) f) (tkn y12 k) (tkn y12 (k + 1)) y hnt hstep l.length, if_pos hyl]
          congr 1
          · refine sumZ_congr _ fun j hj => ?_
            cases ht : tkn y12 k j with
            | false => rfl
            | true =>
              have hjy : j ≠ y := fun e => by rw [e, hnt] at ht; cases ht
              unfold offN
              rw [hold j hjy]
          · simp only
            unfold offN
            rw [hnew]
            congr 1
        refine ⟨by rw [e1, (h5 f hf).1], ?_⟩
        cases hh : hit u (l.getD y default).period.toNat f with
        | true => have := u3 f hf hh; unfold adds; rw [hh, cond_true]; exact this
        | false => unfold adds; rw [hh, cond_false]; have := (h5 f hf).2; omega
  · obtain rfl : k = l.length := by omega
    rw [df (by omega), cond_false]
    have all : ∀ j, j < l.length → tkn y12 l.length j = true := fun j hj => (tkn_iff y12 l.length j).2 (hon j hj)
    refine .inr ⟨_, rfl, .inr ⟨sl, rfl, h2, fun j hj => h4 j hj (all j hj), fun f hf => ?_⟩⟩
    have e : loadOf l sl (fun _ => true) f = loadOf l sl (tkn y12 l.length) f := sumZ_congr _ fun j hj => by rw [all j hj]
    rw [e, ← (h5 f hf).1]
    exact (h5 f hf).2
theorem sched_ok (l : List Msg) (cap : Int) (hl : l.length ≤ 32) (ok : okL l) : ∃ r, o19 l cap = some r ∧ ((r.2 ≠ 0 ∧ r.1 = []) ∨ (r.2 = 0 ∧ 1 ≤ cap ∧ chkC l = 0 ∧ r.1.length = l.length ∧ (∀ j, j < l.length → placed l r.1 j) ∧ ∀ f, f < 32 → loadOf l r.1 (fun _ => true) f ≤ cap)) := by
  unfold o19
  rw [o37_eq l hl ok, bindO_some rfl]
  by_cases hc : chkC l = 0
  rotate_left
  · rw [neq_t hc]; exact ⟨_, rfl, .inl ⟨hc, rfl⟩⟩
  rw [neq_f hc, cond_false]
  by_cases hcap : cap < 1
  · rw [dt hcap]; exact ⟨_, rfl, .inl ⟨by decide, rfl⟩⟩
  rw [df hcap, cond_false]
  have gm := chk_good l hc
  obtain ⟨x, y, q1, q2, q3, q4, q5, q6, q7⟩ := order_ok l (by omega) (chk_dist l hc)
  rw [grd_at (by omega), q1, bindO_some rfl, q2, bindO_some rfl, grd_at (by omega)]
  obtain ⟨r, r1, r2⟩ := main_ok l cap (by omega) y hl gm q3 q4 q5 q6 (List.replicate l.length default) List.length_replicate
  rw [r1]
  rcases r2 with rfl | ⟨s, rfl, h1, h2, h3⟩
  · exact ⟨_, rfl, .inl ⟨by decide, rfl⟩⟩
  · exact ⟨_, rfl, .inr ⟨rfl, by omega, hc, h1, h2, h3⟩⟩
theorem load_ok (l : List Msg) (slots : List Slot) (hl : l.length ≤ 32) (ok : okL l) (hc : chkC l = 0) (hs : slots.length = l.length) (hp : ∀ j, j < l.length → placed l slots j) : ∃ x, o27 l slots = some (x, 0) ∧ x.length = 32 ∧ ∀ f, f < 32 → x.getD f 0 = loadOf l slots (fun _ => true) f := by
  have gm := chk_good l hc
  unfold o27
  rw [o37_eq l hl ok, bindO_some rfl, hc, neq_f rfl, cond_false, neq_f (by omega), cond_false]
  obtain ⟨r, h, rfl⟩ := loopO_ok (f := o27_L2 l slots) (fun s => s ≤ l.length) (fun s => l.length - s) (fun r => r = Ctl.go ()) (by
    intro s hs'
    unfold o27_L2
    obtain ⟨M, hM⟩ : ∃ M : Int, M = 9223372036854775807 := ⟨_, rfl⟩
    rw [← hM]
    by_cases hlt : s < l.length
    · rw [dt (by omega : ((s : Nat) : Int) < ((slots.length : Nat) : Int)), cond_true, grd_at' hlt, neq_f (hp s hlt).1, cond_false, grd_at' (by omega)]
      exact .inl ⟨s + 1, rfl, by omega, by omega⟩
    · exact .inr ⟨_, cond_neg (df (by omega)), rfl⟩) fuelN 0 (Nat.zero_le _) (by simp only [fuelN]; omega)
  rw [h, joinO_go rfl]
  obtain ⟨r, h, hr⟩ := loopO_ok (f := o27_L0 l slots) (fun s => s.2 ≤ l.length ∧ s.1.length = 32 ∧ ∀ f, f < 32 → s.1.getD f 0 = sumZ s.2 (fun j => adds (l.getD j default) (offN slots j) f)) (fun s => l.length - s.2) (fun r => ∃ x, r = Ctl.go x ∧ x.length = 32 ∧ ∀ f, f < 32 → x.getD f 0 = sumZ l.length (fun j => adds (l.getD j default) (offN slots j) f)) (by
    rintro ⟨x, k⟩ ⟨h1, h2, h3⟩
    simp only at h1 h2 h3
    unfold o27_L0
    obtain ⟨M, hM⟩ : ∃ M : Int, M = 9223372036854775807 := ⟨_, rfl⟩
    rw [← hM]
    simp only
    by_cases hlt : k < l.length
    · obtain ⟨p1, p2, p3⟩ := hp k hlt
      have gk := gm k hlt
      have hpk := gk.p
      have hx : ∀ f, f < 32 → 0 ≤ x.getD f 0 ∧ x.getD f 0 ≤ 1000000 := fun f hf => by
        have := sumZ_bound (g := fun j => adds (l.getD j default) (offN slots j) f) (B := 1000) k (fun j hj => adds_in (gm j (by omega)) _ _)
        rw [h3 f hf]
        omega
      have hof : (slots.getD k default).offset = ((offN slots k : Nat) : Int) := by unfold offN; omega
      obtain ⟨z, z1, z2, z3⟩ := add_loop (f := fun s => cond (decide (s.1 < 32)) (grd (decide (0 ≤ s.1 ∧ s.1 < 32)) (grd (decide (-9223372036854775808 ≤ s.1 + (l.getD k default).period ∧ s.1 + (l.getD k default).period ≤ 9223372036854775807)) (some (Ctl.go ((s.1 + (l.getD k default).period), ((List.set s.2 (s.1).toNat ((IntKind.i64.wrap ((List.getD s.2 (s.1).toNat 0) + (l.getD k default).length)) : Int)) : List Int)))))) (some (Ctl.done (s.2 : List Int)))) gk (fun s => rfl) x h2 hx (offN slots k) (by omega)
      have same : loopO fuelN (o27_L1 l (x, k)) (x, (slots.getD k default).offset) = some z := by
        rw [← z1]
        refine loop_map (fun (s : (List Int) × Int) (u : Int × (List Int)) => s.1 = u.2 ∧ s.2 = u.1 ∧ s.1.length = 32 ∧ 0 ≤ s.2 ∧ s.2 ≤ 64) ?_ fuelN _ _ ⟨rfl, hof, h2, by simp only; omega, by simp only; omega⟩
        rintro ⟨v, s⟩ ⟨s', v'⟩ ⟨e1, e2, e3, e4, e5⟩
        simp only at e1 e2 e3 e4 e5
        subst e1
        subst e2
        unfold o27_L1
        simp only
        rw [e3]
        by_cases hs32 : s < 32
        · rw [dt hs32, cond_true, cond_true, grd_at' (by omega), grd_at' (by omega), grd_at' (by omega), grd_at' (by omega), grd_at' (by omega)]
          exact .inr ⟨_, _, rfl, rfl, rfl, rfl, by simp only [List.length_set]; exact e3, by simp only; omega, by simp only; omega⟩
        · rw [df hs32, cond_false, cond_false]
          exact .inl ⟨_, rfl, rfl⟩
      rw [dt (by omega : ((k : Nat) : Int) < ((slots.length : Nat) : Int)), cond_true, grd_at' hlt, df (by omega : ¬ (slots.getD k default).offset < 0), df (by omega : ¬ (slots.getD k default).offset ≥ (l.getD k default).period)]
      simp only [Bool.or_false, cond_false]
      rw [same, bindO_some rfl, joinO_go rfl, grd_at' (by omega)]
      refine .inl ⟨_, rfl, ⟨by simp only; omega, z2, fun f hf => ?_⟩, by simp only; omega⟩
      simp only
      rw [z3 f hf, h3 f hf, sumZ]
    · obtain rfl : k = l.length := by omega
      exact .inr ⟨_, cond_neg (df (by omega)), x, rfl, h2, h3⟩) fuelN (List.replicate 32 0, 0) ⟨Nat.zero_le _, List.length_replicate, fun f hf => by
        simp only
        rw [List.getD_eq_getElem?_getD, List.getElem?_replicate, if_pos hf]; rfl⟩ (by simp only [fuelN]; omega)
  obtain ⟨x, rfl, x1, x2⟩ := hr
  rw [h, joinO_go rfl]
  exact ⟨x, rfl, x1, x2⟩
theorem busPromises_plain (l : List Msg) (cap : Int) (ok : okL l) : o11 l cap = some true := by
  unfold o11
  obtain ⟨p, hp, hp2⟩ : ∃ p : Nat, (minI (((l).length : Nat) : Int) 32).toNat = p ∧ p ≤ 32 := ⟨_, rfl, by unfold minI; split <;> omega⟩
  rw [o12_true, bindO_some rfl]
  simp only [Bool.not_true, cond_false]
  obtain ⟨L, hL⟩ : ∃ L, List.take (minI (((l).length : Nat) : Int) 32).toNat l = L := ⟨_, rfl⟩
  have okp : okL L := fun j hj => by
    rw [← hL, hp] at hj ⊢
    rw [List.length_take] at hj
    rw [List.getD_eq_getElem?_getD, List.getElem?_take, if_pos (by omega), ← List.getD_eq_getElem?_getD]
    exact ok j (by omega)
  have hLl : L.length ≤ 32 := by rw [← hL, hp, List.length_take]; omega
  obtain ⟨⟨slots, e⟩, h1, h2⟩ := sched_ok L cap hLl okp
  rw [hL, h1, bindO_some rfl]
  simp only at h2 ⊢
  rcases h2 with ⟨h2, h3⟩ | ⟨h2, hcap, hc, h3, h4, h5⟩
  · rw [neq_t h2, h3]; rfl
  subst h2
  obtain ⟨x, x1, x2, x3⟩ := load_ok L slots hLl okp hc h3 h4
  have gm := chk_good L hc
  rw [neq_f rfl, cond_false, x1, bindO_some rfl]
  simp only
  rw [neq_f rfl, neq_f (by omega : ((x.length : Nat) : Int) = 32)]
  simp only [Bool.or_false, cond_false]
  have hver : o30 L slots cap = some 0 := by
    unfold o30
    rw [x1, bindO_some rfl]
    simp only
    rw [neq_f rfl, cond_false, df (by omega), cond_false]
    obtain ⟨m, m1, m2⟩ := o49_told x cap x2
    rw [m1, bindO_some rfl, df (fun hm => by
      obtain ⟨j, j1, j2⟩ := m2.1 hm
      have := h5 j j1
      rw [← x3 j j1] at this
      omega)]
    rfl
  rw [hver, bindO_some rfl, neq_f rfl, bindO_some rfl, cond_false]
  have hxb : ∀ f, f < 32 → 0 ≤ x.getD f 0 ∧ x.getD f 0 ≤ 32000 := fun f hf => by rw [x3 f hf]; exact loadOf_in hLl gm slots _ f
  obtain ⟨r, hr, rfl⟩ := loopO_ok (f := o11_L1 cap (x, 0)) (fun s => s.2 ≤ 32 ∧ s.1 = sumZ s.2 (fun f => x.getD f 0)) (fun s => 32 - s.2) (fun r => r = Ctl.go (sumZ 32 (fun f => x.getD f 0))) (by
    rintro ⟨s, k⟩ ⟨k1, k2⟩
    simp only at k1 k2
    unfold o11_L1
    obtain ⟨M, hM⟩ : ∃ M : Int, M = 9223372036854775807 := ⟨_, rfl⟩
    rw [← hM]
    simp only
    by_cases hlt : k < 32
    · rw [dt (by omega), cond_true, df (by have := h5 k hlt; rw [← x3 k hlt] at this; omega), cond_false, grd_at' (by omega)]
      have := hxb k hlt
      have hs := sumZ_bound (g := fun f => x.getD f 0) (B := 32000) k (fun j hj => hxb j (by omega))
      refine .inl ⟨_, rfl, ⟨by simp only; omega, ?_⟩, by simp only; omega⟩
      simp only
      rw [k2, wr64 (by omega), sumZ]
    · obtain rfl : k = 32 := by omega
      exact .inr ⟨_, cond_neg (df (by omega)), by rw [k2]⟩) fuelN (0, 0) ⟨Nat.zero_le _, rfl⟩ (by simp only [fuelN]; omega)
  rw [hr, joinO_go rfl]
  have hT := sumZ_bound (g := fun f => x.getD f 0) (B := 32000) 32 (fun j hj => hxb j hj)
  have hval : ∀ j, j < L.length → 32 / (L.getD j default).period * (L.getD j default).length = sumZ 32 (adds (L.getD j default) (offN slots j)) := fun j hj => by
    obtain ⟨p1, p2, p3⟩ := h4 j hj
    exact (adds_sum (gm j hj) (by unfold offN; omega)).symm
  have hvb : ∀ j, j < L.length → 0 ≤ sumZ 32 (adds (L.getD j default) (offN slots j)) ∧ sumZ 32 (adds (L.getD j default) (offN slots j)) ≤ 32000 := fun j hj => by
    have := sumZ_bound (g := adds (L.getD j default) (offN slots j)) (B := 1000) 32 (fun f hf => adds_in (gm j hj) _ _)
    omega
  have htot : sumZ 32 (fun f => x.getD f 0) = sumZ L.length (fun j => sumZ 32 (adds (L.getD j default) (offN slots j))) := by
    rw [sumZ_congr 32 (fun f hf => x3 f hf)]
    exact sumZ_swap (fun f j => adds (L.getD j default) (offN slots j) f) L.length 32
  obtain ⟨T, hTe⟩ : ∃ T, sumZ 32 (fun f => x.getD f 0) = T := ⟨_, rfl⟩
  rw [hTe] at hT htot ⊢
  obtain ⟨r, hr2, rfl⟩ := loopO_ok (f := o11_L0 l (slots, 0)) (fun s => s.2 ≤ L.length ∧ s.1 = T - sumZ s.2 (fun j => sumZ 32 (adds (L.getD j default) (offN slots j)))) (fun s => L.length - s.2) (fun r => r = Ctl.go 0) (by
    rintro ⟨s, k⟩ ⟨k1, k2⟩
    simp only at k1 k2
    unfold o11_L0
    obtain ⟨M, hM⟩ : ∃ M : Int, M = 9223372036854775807 := ⟨_, rfl⟩
    rw [← hM, hL]
    simp only
    by_cases hlt : k < L.length
    · obtain ⟨p1, p2, p3⟩ := h4 k hlt
      have gp := (gm k hlt).p
      have := hvb k hlt
      have hs := sumZ_bound (g := fun j => sumZ 32 (adds (L.getD j default) (offN slots j))) (B := 32000) k (fun j hj => hvb j (by omega))
      rw [dt (by omega), cond_true, grd_at' (by omega), df (by omega : ¬ (slots.getD k default).offset < 0), cond_false, grd_at' (by omega), bindO_some rfl, df (by omega), cond_false, grd_at' (by omega), grd_at' (by omega)]
      refine .inl ⟨_, rfl, ⟨by simp only; omega, ?_⟩, by simp only; omega⟩
      simp only
      have e1 : IntKind.i64.wrap (sumZ 32 (adds (L.getD k default) (offN slots k))) = sumZ 32 (adds (L.getD k default) (offN slots k)) := wr64 (by omega)
      have e2 : sumZ (k + 1) (fun j => sumZ 32 (adds (L.getD j default) (offN slots j))) = sumZ k (fun j => sumZ 32 (adds (L.getD j default) (offN slots j))) + sumZ 32 (adds (L.getD k default) (offN slots k)) := rfl
      rw [hval k hlt, k2, e1, e2, wr64 (by omega)]
      omega
    · obtain rfl : k = L.length := by omega
      exact .inr ⟨_, cond_neg (df (by omega)), by rw [k2, ← htot]; congr 1; omega⟩) fuelN (T, 0) ⟨Nat.zero_le _, by simp only [sumZ]; omega⟩ (by simp only [fuelN]; omega)
  rw [hr2, joinO_go rfl]
  rfl
end Go.Proofs.Ytmcgofgpcnlljaa
