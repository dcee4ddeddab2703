/-
The third engine, part 14: calls. Conditions: each lemma's own.
-/
import Derived.Test.YtpleflcfaecojaaGreatH13
namespace Go.Proofs.YtpleflcfaecojaaGreat
set_option linter.unusedVariables false
set_option linter.unusedSimpArgs false
open Go.RowKit
theorem maskB_get : ∀ {l : List BV} {i j : Nat} {ids : List Nat} {bv : BV}, (maskB i ids l)[j]? = some bv → (∃ bv0, l[j]? = some bv0 ∧ ((natMem (i + j) ids = true ∧ bv = bv0) ∨ bv = .no))
  | [], _, _, _, _, h => by simp [maskB] at h
  | b :: l, i, 0, ids, bv, h => by
    simp only [maskB, List.getElem?_cons_zero, Option.some.injEq] at h
    cases hm : natMem i ids with
    | true => rw [hm] at h; exact ⟨b, rfl, .inl ⟨rfl, h.symm⟩⟩
    | false => rw [hm] at h; exact ⟨b, rfl, .inr h.symm⟩
  | b :: l, i, j + 1, ids, bv, h => by
    simp only [maskB, List.getElem?_cons_succ] at h
    obtain ⟨bv0, h1, h2⟩ := maskB_get h
    exact ⟨bv0, by simpa using h1, by rwa [show i + 1 + j = i + (j + 1) by omega] at h2⟩
theorem maskB_len : ∀ (l : List BV) (i : Nat) (ids : List Nat), (maskB i ids l).length = l.length
  | [], _, _ => rfl
  | b :: l, i, ids => by simp [maskB, maskB_len l (i + 1) ids]
def dropIds : Nat → List Nat → Own → Own
  | _, _, [] => []
  | i, ids, k :: l => cond (natMem i ids) none k :: dropIds (i + 1) ids l
theorem dropIds_get : ∀ {l : Own} {i j : Nat} {ids : List Nat} {k : Option Bk}, l[j]? = some k → (dropIds i ids l)[j]? = some (cond (natMem (i + j) ids) none k)
  | [], _, _, _, _, h => by simp at h
  | b :: l, i, 0, ids, k, h => by simp at h; subst h; rfl
  | b :: l, i, j + 1, ids, k, h => by
    have := dropIds_get (l := l) (i := i + 1) (j := j) (ids := ids) (by simpa using h)
    simp only [dropIds, List.getElem?_cons_succ, this]
    rw [show i + 1 + j = i + (j + 1) by omega]
theorem dropIds_len : ∀ (l : Own) (i : Nat) (ids : List Nat), (dropIds i ids l).length = l.length
  | [], _, _ => rfl
  | b :: l, i, ids => by simp [dropIds, dropIds_len l (i + 1) ids]
theorem nodup_of_mem {own : Own} : (∀ (i j : Nat) (k k' : Bk), own[i]? = some (some k) → own[j]? = some (some k') → k.g = k'.g → i = j) → own.ids.Nodup := by
  induction own with
  | nil => exact fun _ => List.nodup_nil
  | cons x l ih =>
    intro h
    have hl := ih fun i j k k' h1 h2 e => by
      have := h (i + 1) (j + 1) k k' (by simpa using h1) (by simpa using h2) e
      omega
    rw [Own.ids_cons]
    cases x with
    | none => simpa using hl
    | some k =>
      refine List.nodup_cons.2 ⟨fun hm => ?_, hl⟩
      obtain ⟨k', hk', e⟩ := Own.of_ids hm
      obtain ⟨j, hj⟩ := List.getElem?_of_mem hk'
      have := h 0 (j + 1) k k' rfl (by simpa using hj) e.symm
      omega
theorem pickP_at {is : List (Option Nat)} {own : Own} {i : Nat} {k : Bk} (h : (pickP is own)[i]? = some (some k)) : ∃ b, is[i]? = some (some b) ∧ own[b]? = some (some k) := by
  unfold pickP at h
  rw [List.getElem?_map] at h
  cases e : is[i]? with
  | none => rw [e] at h; cases h
  | some x =>
    rw [e] at h
    cases x with
    | none => cases h
    | some b =>
      have h : some ((own[b]?).join) = some (some k) := h
      injection h with h
      cases e2 : own[b]? with
      | none => rw [e2] at h; cases h
      | some y => rw [e2] at h; exact ⟨b, rfl, by rw [e2]; exact congrArg some h⟩
theorem filterMap_nodup_inj : ∀ {l : List (Option Nat)} {i j b : Nat}, (l.filterMap id).Nodup → l[i]? = some (some b) → l[j]? = some (some b) → i = j
  | [], _, _, _, _, h, _ => by simp at h
  | x :: l, 0, 0, _, _, _, _ => rfl
  | x :: l, 0, j + 1, b, hn, h1, h2 => by
    simp at h1; subst h1
    simp at hn h2
    exact absurd (List.mem_of_getElem? h2) hn.1
  | x :: l, i + 1, 0, b, hn, h1, h2 => by
    simp at h2; subst h2
    simp at hn h1
    exact absurd (List.mem_of_getElem? h1) hn.1
  | x :: l, i + 1, j + 1, b, hn, h1, h2 => by
    have hn' : (l.filterMap id).Nodup := by
      cases x with
      | none => simpa using hn
      | some y => simp at hn; exact hn.2
    have := filterMap_nodup_inj (i := i) (j := j) hn' (by simpa using h1) (by simpa using h2)
    omega
theorem St.part {w : World} {g : Gh} {own : Own} {is : List (Option Nat)} (h : St w g own) (hn : (is.filterMap id).Nodup) : St w g (pickP is own ++ dropIds 0 (is.filterMap id) own) := by
  have hmem : ∀ b, (∃ i, is[i]? = some (some b)) ↔ natMem b (is.filterMap id) = true := fun b => by
    rw [natMem_iff]
    simp only [List.mem_filterMap, id_eq, exists_eq_right]
    exact ⟨fun ⟨i, hi⟩ => List.mem_of_getElem? hi, fun hb => List.getElem?_of_mem hb⟩
  have hat : ∀ i k, (pickP is own ++ dropIds 0 (is.filterMap id) own)[i]? = some (some k) → ∃ b, own[b]? = some (some k) ∧ ((i < is.length ∧ is[i]? = some (some b)) ∨ (i = is.length + b ∧ natMem b (is.filterMap id) = false)) := by
    intro i k hi
    have hpl : (pickP is own).length = is.length := by simp [pickP]
    rcases Nat.lt_or_ge i is.length with hlt | hge
    · rw [List.getElem?_append_left (by omega)] at hi
      obtain ⟨b, h1, h2⟩ := pickP_at hi
      exact ⟨b, h2, .inl ⟨hlt, h1⟩⟩
    · rw [List.getElem?_append_right (by omega), hpl] at hi
      have hlt2 : i - is.length < own.length := by rw [← dropIds_len own 0 (is.filterMap id)]; exact get_lt hi
      have := dropIds_get (i := 0) (ids := is.filterMap id) (List.getElem?_eq_getElem hlt2)
      rw [hi, Nat.zero_add] at this
      injection this with this
      cases hm : natMem (i - is.length) (is.filterMap id) with
      | true => rw [hm] at this; cases this
      | false =>
        rw [hm] at this
        exact ⟨i - is.length, by rw [List.getElem?_eq_getElem hlt2, ← show some k = own[i - is.length] from this], .inr ⟨by omega, hm⟩⟩
  refine h.fewer (nodup_of_mem fun i j k k' h1 h2 e => ?_) fun k hk => ?_
  · obtain ⟨b, e1, c1⟩ := hat i k h1
    obtain ⟨b', e2, c2⟩ := hat j k' h2
    have hbb := ids_inj h.nodup e1 e2 e
    subst hbb
    rcases c1 with ⟨_, c1⟩ | ⟨c1, d1⟩ <;> rcases c2 with ⟨_, c2⟩ | ⟨c2, d2⟩
    · exact filterMap_nodup_inj hn c1 c2
    · rw [(hmem b).1 ⟨i, c1⟩] at d2; cases d2
    · rw [(hmem b).1 ⟨j, c2⟩] at d1; cases d1
    · omega
  · obtain ⟨i, hi⟩ := List.getElem?_of_mem hk
    obtain ⟨b, e1, _⟩ := hat i k hi
    exact List.mem_of_getElem? e1
theorem St.back {w : World} {g : Gh} {sel rest own' : Own} (h : St w g (sel ++ rest)) (hp : ∀ (i : Nat) (k : Bk), own'[i]? = some (some k) → (∃ j : Nat, sel[j]? = some (some k)) ∨ (∃ j : Nat, rest[j]? = some (some k)))
    (hi : ∀ (i j : Nat) (k : Bk), own'[i]? = some (some k) → own'[j]? = some (some k) → i = j) : St w g own' := by
  refine h.fewer (nodup_of_mem fun i j k k' h1 h2 e => ?_) fun k hk => ?_
  · have m1 : some k ∈ sel ++ rest := by
      rcases hp i k h1 with ⟨a, ha⟩ | ⟨a, ha⟩
      · exact List.mem_append_left _ (List.mem_of_getElem? ha)
      · exact List.mem_append_right _ (List.mem_of_getElem? ha)
    have m2 : some k' ∈ sel ++ rest := by
      rcases hp j k' h2 with ⟨a, ha⟩ | ⟨a, ha⟩
      · exact List.mem_append_left _ (List.mem_of_getElem? ha)
      · exact List.mem_append_right _ (List.mem_of_getElem? ha)
    obtain ⟨a, ha⟩ := List.getElem?_of_mem m1
    obtain ⟨b, hb⟩ := List.getElem?_of_mem m2
    have := ids_inj h.nodup ha hb e
    subst this
    rw [ha] at hb
    injection hb with hb; injection hb with hb
    subst hb
    exact hi i j k h1 h2
  · obtain ⟨i, hi'⟩ := List.getElem?_of_mem hk
    rcases hp i k hi' with ⟨a, ha⟩ | ⟨a, ha⟩
    · exact List.mem_append_left _ (List.mem_of_getElem? ha)
    · exact List.mem_append_right _ (List.mem_of_getElem? ha)
end Go.Proofs.YtpleflcfaecojaaGreat
