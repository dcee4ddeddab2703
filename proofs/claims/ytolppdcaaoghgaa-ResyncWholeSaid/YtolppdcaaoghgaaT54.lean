/-
Plain law of a snapshot that is served and collected whole. Conditions: each lemma's own.
-/
import Derived.Test.YtolppdcaaoghgaaS54
import Derived.Test.YtolppdcaaoghgaaW4
import Derived.Test.YtolppdcaaoghgaaC4
namespace Go.Proofs.Ytolppdcaaoghgaa
set_option linter.unusedVariables false
set_option linter.unusedSimpArgs false
set_option maxRecDepth 100000
open Go.RowKit
def yes (base : Int) (p in_ : List UInt8) : Bool := true
theorem pack_ok {one two : List UInt8} (h : one.length ≤ 400) : (packS one true two false).2 = 0 := by
  unfold packS
  have : decide (((one.length : Nat) : Int) > 400) = false := by simp; omega
  simp [this]
theorem maxI_comm (a b : Int) : maxI a b = maxI b a := by
  have := maxI_spec a b
  have := maxI_spec b a
  omega
structure wI (B : Int) (D : List UInt8) (s : Sender) (c : Coll) (k : Nat) : Prop where
  z : k = 0 → s = ⟨[]⟩ ∧ c = ⟨0, 0, [], []⟩
  p : 0 < k → s.pieces = piecesTo B (splitN D) D (splitN D).toNat ∧ c.base = B ∧ c.count = splitN D ∧ c.parts = (List.range k).map (chunkN D) ∧ c.sets.length + 1 = k
structure wM (B : Int) (D : List UInt8) (c : Coll) (k : Nat) : Prop where
  z : k = 0 → c = ⟨0, 0, [], []⟩
  p : 0 < k → c.base = B ∧ c.count = splitN D ∧ c.parts = (List.range k).map (chunkN D) ∧ c.sets.length = k
theorem w0 {B : Int} {D : List UInt8} : wI B D ⟨[]⟩ ⟨0, 0, [], []⟩ 0 := ⟨fun _ => ⟨rfl, rfl⟩, fun h => absurd h (by omega)⟩
theorem w_skip {B : Int} {D : List UInt8} {s : Sender} {c : Coll} {k : Nat} (h : wI B D s c k) (hk : ¬ 0 < k) : wM B D c k := ⟨fun e => (h.z e).2, fun e => absurd e hk⟩
theorem w_note {B : Int} {D : List UInt8} {s : Sender} {c : Coll} {k : Nat} {e : List UInt8} {cy : Int} (hB : 1 ≤ B ∧ B ≤ 1099511627776) (h : wI B D s c k) (hk : 0 < k ∧ k ≤ 1000) : wM B D (noteS c ⟨(B + (k : Int)) - 1, cy, false, e⟩ true) k := by
  refine ⟨fun e => absurd e (by omega), fun _ => ?_⟩
  obtain ⟨_, hb, hc, hp, hs⟩ := h.p hk.1
  have hl : c.parts.length = k := by rw [hp]; simp
  unfold noteS
  have c1 : ((((c.parts).length : Nat) : Int) == 0) = false := by rw [beq_eq_false_iff_ne]; omega
  have c2 : (((((!true) || (((⟨(B + (k : Int)) - 1, cy, false, e⟩ : Sett)).steps != (IntKind.i64.wrap (c.base + (((c.sets).length : Nat) : Int))))) || ((⟨(B + (k : Int)) - 1, cy, false, e⟩ : Sett)).fresh) || decide ((((c.sets).length : Nat) : Int) ≥ (((c.parts).length : Nat) : Int)))) = false := by
    have e1 : IntKind.i64.wrap (c.base + (((c.sets).length : Nat) : Int)) = (B + (k : Int)) - 1 := by rw [IntKind.wrap_i64, hb]; omega
    rw [e1]
    simp
    omega
  rw [c1, c2]
  exact ⟨hb, hc, hp, by show (c.sets ++ [_]).length = k; rw [List.length_append]; simpa using hs⟩
theorem w_parts {B : Int} {D : List UInt8} {c : Coll} {k : Nat} (h : wM B D c k) : c.parts.length = k := by
  rcases Nat.eq_zero_or_pos k with e | e
  · rw [h.z e, e]; rfl
  · rw [(h.p e).2.2.1]; simp
theorem w_job {B : Int} {D : List UInt8} {c : Coll} {k : Nat} (h : wM B D c k) (hk : (k : Int) < splitN D) : (jobS c).2 = false := by
  have hl := w_parts h
  unfold jobS
  have : ((((c.parts.length : Nat) : Int) == 0) || (((c.parts.length : Nat) : Int) != c.count)) = true := by
    rcases Nat.eq_zero_or_pos k with e | e
    · simp [hl, e]
    · have := (h.p e).2.1
      simp [hl, this]; omega
  rw [this]; rfl
theorem w_want {B : Int} {D : List UInt8} {c : Coll} {k : Nat} (h : wM B D c k) : (wantS c).have_ = (k : Int) := by
  have hl := w_parts h
  show (((c.parts).length : Nat) : Int) = k
  rw [hl]
theorem pieces_get {B : Int} {D : List UInt8} {k m : Nat} (h : k < m) : (piecesTo B (splitN D) D m).getD k default = ⟨B, (k : Int), splitN D, chunkN D k⟩ := by
  simp [piecesTo, List.getD_eq_getElem?_getD, h]
theorem split_pos (D : List UInt8) : 1 ≤ splitN D := by
  have := maxI_spec (((((D.length : Nat) : Int) + 600) - 1) / 600) 1
  unfold splitN; omega
theorem w_serve {B : Int} {D : List UInt8} {s : Sender} {c0 c : Coll} {k : Nat} (hB : (1 ≤ B ∧ B ≤ 1099511627776) ∧ D.length ≤ 3000) (h : wI B D s c0 k) (hM : wM B D c k) (hk : (k : Int) < splitN D) :
    serveS s (wantS c) (B + (k : Int)) D = (⟨piecesTo B (splitN D) D (splitN D).toNat⟩, ⟨B, (k : Int), splitN D, chunkN D k⟩, 0) := by
  have hn := split_pos D
  rcases Nat.eq_zero_or_pos k with e | e
  · obtain ⟨hs, _⟩ := h.z e
    subst hs; subst e
    have hsp : splitS (B + ((0 : Nat) : Int)) D = (piecesTo B (splitN D) D (splitN D).toNat, 0) := by
      unfold splitS
      have c1 : (decide (B + ((0 : Nat) : Int) < 1) || decide (B + ((0 : Nat) : Int) > 2305843009213693952)) = false := by simp; omega
      have c2 : decide (((D.length : Nat) : Int) > 524288) = false := by simp; omega
      rw [c1, c2]
      show (piecesTo (B + ((0 : Nat) : Int)) _ _ _, _) = _
      rw [show B + ((0 : Nat) : Int) = B by omega]
    unfold serveS
    rw [hsp]
    have hp := pieces_get (B := B) (D := D) (k := 0) (m := (splitN D).toNat) (by omega)
    simp only [hp]
    rfl
  · obtain ⟨hs, _⟩ := h.p e
    obtain ⟨hb, _⟩ := hM.p e
    have hw := w_want hM
    have hl : s.pieces.length = (splitN D).toNat := by rw [hs]; simp [piecesTo]
    have h0 := pieces_get (B := B) (D := D) (k := 0) (m := (splitN D).toNat) (by omega)
    have hk2 := pieces_get (B := B) (D := D) (k := k) (m := (splitN D).toNat) (by omega)
    unfold serveS
    have c1 : ((((decide ((((s.pieces).length : Nat) : Int) > 0) && ((wantS c).base == (List.getD s.pieces 0 default).base)) && decide ((wantS c).have_ ≥ 0)) && decide ((wantS c).have_ < (((s.pieces).length : Nat) : Int)))) = true := by
      rw [hw, hl, hs, h0]
      have : (wantS c).base = B := hb
      simp [this]
      omega
    rw [c1, hw, hs]
    simp only [cond_true, Int.toNat_natCast, hk2]
    have : s = ⟨piecesTo B (splitN D) D (splitN D).toNat⟩ := by cases s; simp at hs; rw [hs]
    rw [this]
    rfl
theorem w_valid {B : Int} {D : List UInt8} {k : Nat} (hB : (1 ≤ B ∧ B ≤ 1099511627776) ∧ D.length ≤ 3000) (hk : (k : Int) < splitN D) : validS ⟨B, (k : Int), splitN D, chunkN D k⟩ = true := by
  have hn := split_pos D
  have hn2 : splitN D ≤ 6 := by
    have := maxI_spec (((((D.length : Nat) : Int) + 600) - 1) / 600) 1
    unfold splitN; omega
  have hc : (chunkN D k).length ≤ 600 := by unfold chunkN; rw [List.length_take]; omega
  unfold validS
  simp only [Bool.and_eq_true, decide_eq_true_eq]
  omega
theorem w_take {B : Int} {D : List UInt8} {s : Sender} {c0 c : Coll} {k : Nat} (hB : (1 ≤ B ∧ B ≤ 1099511627776) ∧ D.length ≤ 3000) (h : wI B D s c0 k) (hM : wM B D c k) (hk : (k : Int) < splitN D) :
    wI B D (serveS s (wantS c) (B + (k : Int)) D).1 (takeS c (serveS s (wantS c) (B + (k : Int)) D).2.1) (k + 1) := by
  rw [w_serve hB h hM hk]
  refine ⟨fun e => absurd e (by omega), fun _ => ⟨rfl, ?_⟩⟩
  have hv := w_valid hB hk
  have hl := w_parts hM
  unfold takeS
  simp only [hv]
  rcases Nat.eq_zero_or_pos k with e | e
  · subst e
    have hc := hM.z rfl
    subst hc
    refine ⟨rfl, rfl, ?_, rfl⟩
    simp [idL, List.range_succ]
  · obtain ⟨h1, h2, h3, h4⟩ := hM.p e
    have c1 : ((((decide ((((c.parts).length : Nat) : Int) > 0) && (B == c.base)) && (splitN D == c.count)) && ((k : Int) == (((c.parts).length : Nat) : Int)))) = true := by
      simp [h1, h2, hl]; omega
    simp only [c1, Bool.not_true, cond_false, cond_true]
    refine ⟨h1, h2, ?_, by omega⟩
    rw [h3, List.range_succ, List.map_append]
    rfl
theorem chunks_flat (D : List UInt8) : ∀ (k : Nat), ((List.range k).map (chunkN D)).flatten = D.take (k * 600)
  | 0 => by simp
  | k + 1 => by
    rw [List.range_succ, List.map_append, List.flatten_append, chunks_flat D k]
    simp only [List.map_cons, List.map_nil, List.flatten_cons, List.flatten_nil, List.append_nil, chunkN]
    rw [Nat.succ_mul, List.take_add]
theorem w_flat {B : Int} {D : List UInt8} {c : Coll} {k : Nat} (h : c.parts = (List.range k).map (chunkN D)) : c.parts.flatten.length ≤ D.length := by
  rw [h, chunks_flat, List.length_take]; omega
theorem w_parts2 {B : Int} {D : List UInt8} {s : Sender} {c : Coll} {k : Nat} (h : wI B D s c k) : c.parts = (List.range k).map (chunkN D) ∧ c.sets.length ≤ k ∧ c.parts.length = k := by
  rcases Nat.eq_zero_or_pos k with e | e
  · rw [(h.z e).2, e]; simp
  · obtain ⟨_, _, _, h3, h4⟩ := h.p e
    exact ⟨h3, by omega, by rw [h3]; simp⟩
theorem w_partsM {B : Int} {D : List UInt8} {c : Coll} {k : Nat} (h : wM B D c k) : c.parts = (List.range k).map (chunkN D) ∧ c.sets.length ≤ k ∧ c.parts.length = k := by
  rcases Nat.eq_zero_or_pos k with e | e
  · rw [h.z e, e]; simp
  · obtain ⟨_, _, h3, h4⟩ := h.p e
    exact ⟨h3, by omega, by rw [h3]; simp⟩
theorem w_end {B : Int} {D : List UInt8} {s : Sender} {c : Coll} {k : Nat} (h : wI B D s c k) (hk : (k : Int) = splitN D) : jobS c = (⟨B, D, c.sets⟩, true) ∧ (c.sets.length : Int) = splitN D - 1 := by
  have hn := split_pos D
  obtain ⟨_, h1, h2, h3, h4⟩ := h.p (by omega)
  have hl : c.parts.length = k := by rw [h3]; simp
  have c1 : ((((c.parts.length : Nat) : Int) == 0) || (((c.parts.length : Nat) : Int) != c.count)) = false := by
    simp [hl, h2]; omega
  have hf : concatS c.parts = D := by
    unfold concatS
    rw [h3, chunks_flat, List.take_of_length_le]
    have := maxI_spec (((((D.length : Nat) : Int) + 600) - 1) / 600) 1
    unfold splitN at hk; omega
  unfold jobS
  rw [c1, hf, h1]
  exact ⟨rfl, by omega⟩
theorem split_small {D : List UInt8} (hD : D.length ≤ 3000) : splitN D ≤ 6 := by
  have := maxI_spec (((((D.length : Nat) : Int) + 600) - 1) / 600) 1
  unfold splitN; omega
theorem w_flM {B : Int} {D : List UInt8} {c : Coll} {k : Nat} (h : wM B D c k) (hD : D.length ≤ 3000) : c.parts.flatten.length ≤ 1000000000 := Nat.le_trans (w_flat (B := B) (w_partsM h).1) (by omega)
theorem w_flW {B : Int} {D : List UInt8} {s : Sender} {c : Coll} {k : Nat} (h : wI B D s c k) (hD : D.length ≤ 3000) : c.parts.flatten.length ≤ 1000000000 := Nat.le_trans (w_flat (B := B) (w_parts2 h).1) (by omega)
theorem w_seM {B : Int} {D : List UInt8} {c : Coll} {k : Nat} (h : wM B D c k) (hk : (k : Int) ≤ splitN D) (hD : D.length ≤ 3000) : c.sets.length ≤ 1000000 ∧ c.parts.length ≤ 1000000 := by
  have := w_partsM h; have := split_small hD; omega
theorem w_seW {B : Int} {D : List UInt8} {s : Sender} {c : Coll} {k : Nat} (h : wI B D s c k) (hk : (k : Int) ≤ splitN D) (hD : D.length ≤ 3000) : c.sets.length ≤ 1000000 ∧ c.parts.length ≤ 1000000 := by
  have := w_parts2 h; have := split_small hD; omega
end Go.Proofs.Ytolppdcaaoghgaa
