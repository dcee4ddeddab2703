/-
The third engine, part 16: calls, shown. Conditions: each lemma's own.
-/
import Derived.Test.YtpleflcfaecojaaGreatH15
namespace Go.Proofs.YtpleflcfaecojaaGreat
set_option linter.unusedVariables false
set_option linter.unusedSimpArgs false
open Go.RowKit
section
variable {P : Program} {n : Nat} {ty : TypeId} {sl : List (Nat × SV)} {bl bl' : List BV} {v : SV} {f : Nat} {g : Gh} {ρ : Env} {own : Own} {fr : Sl}
theorem eff_call {fn : FuncId} {op : Op} {us : List Value} {is : List (Option Nat)} {post : Value → Psi → Own → Prop} (hrun : ∀ (o : Oper) (a : Act) (w : World), o.op = op → Fr n a fr → (execOp a.eval o).run P w = .ok (.enter fn us.toArray) w)
    (hn : (is.filterMap id).Nodup) (hc : ∀ g', g.r.le g'.r → g'.b = g.b → (∀ k, some k ∈ dropIds 0 (is.filterMap id) own → g'.r.m k.g = some k.obj) → Ctr P fn us g' (pickP is own) post) :
    Eff P n g own fr op ty (fun v g' own' => ∃ sel', own' = sel' ++ dropIds 0 (is.filterMap id) own ∧ post v g'.b sel') := by
  intro o a w Q K h1 h2 hf hs h
  have hs' := hs.part hn
  obtain ⟨gl, er, eb, hst0, hl⟩ := hs'.lend
  unfold Oper.wp
  rw [hrun o a w h1 hf]
  simp only [Oper.upon]
  have hnd : (Own.ids (dropIds 0 (is.filterMap id) own)).Nodup := by
    have hn := hs'.nodup
    rw [show Own.ids (pickP is own ++ dropIds 0 (is.filterMap id) own) = Own.ids (pickP is own) ++ Own.ids (dropIds 0 (is.filterMap id) own) from List.filterMap_append] at hn
    exact (List.nodup_append.1 hn).2.1
  refine (hc gl hl eb (fun k hk => by rw [er]; exact addAll_of hnd hk) w hst0).mono fun e w' hp => ?_
  obtain ⟨v, g1, sel', rfl, hle, hst, hpost⟩ := hp
  obtain ⟨g2, e2, hle2, hst2⟩ := hs'.unlend er eb hle hst hl
  exact h v g2 _ w' hle2 hst2 ⟨sel', rfl, by rw [e2]; exact hpost⟩
theorem firstC_mem {asl : List (Nat × SV)} {blm : List BV} {c : Cand} : ∀ {l : List FS}, firstC asl blm l = some c → ∃ S ∈ l, candOf asl blm S = some c
  | [], h => by cases h
  | S :: l, h => by
    unfold firstC at h
    split at h
    · rename_i c' hc
      injection h with h; subst h
      exact ⟨S, List.mem_cons_self .., hc⟩
    · obtain ⟨S', h1, h2⟩ := firstC_mem h
      exact ⟨S', List.mem_cons_of_mem _ h1, h2⟩
theorem frzAll_told : ∀ {l : List Nat} {k : Tr} {bl : List BV}, Told f (frzAll l k) bl bl' v → ∃ bl1, FrzTo bl bl1 ∧ Told f k bl1 bl' v
  | [], k, bl, h => ⟨bl, .refl, h⟩
  | b :: l, k, bl, h => by
    obtain ⟨bv, fv, e1, e2, h⟩ := h
    cases bv <;> first | (cases e2; done) | skip
    injection e2 with e2; subst e2
    obtain ⟨bl1, h1, h2⟩ := frzAll_told h
    exact ⟨bl1, .step e1 h1, h2⟩
theorem candOf_ok {asl : List (Nat × SV)} {blm : List BV} {S : FS} {c : Cand} (h : candOf asl blm S = some c) : c.S = S ∧ c.S.ps.sl.length = asl.length ∧ absSt true c.S.ps (nones c.S.ps.bl.length) ⟨asl, blm⟩ = some c.s ∧ conSt id c.S.ps c.s.ds = some c.st0 ∧ absChk c.s c.st0.bl = true ∧ conT c.S.ps c.t = some c.st0 := by
  unfold candOf at h
  split at h
  · rename_i s h1 hs
    split at h
    · rename_i st0 hc
      split at h
      · rename_i t hk hp
        injection h with h; subst h
        simp only [Bool.and_eq_true] at h1 hk
        exact ⟨rfl, Nat.eq_of_beq_eq_true h1.1, hs, hc, hk.1, by unfold conT; rw [pack_un _ hp]; exact hc⟩
      · cases h
    · cases h
  · cases h
theorem ownIds_some {σ : List (Option Nat)} {l : List BV} {j b : Nat} (h : (ownIds σ 0 l)[j]? = some (some b)) : ∃ y, l[j]? = some y ∧ y.owned = true ∧ sigAt σ j = some b := by
  have hlt : j < l.length := by rw [← ownIds_len σ 0 l]; exact get_lt h
  have := ownIds_get σ l 0 j (List.getElem?_eq_getElem hlt)
  rw [h, Nat.zero_add] at this
  injection this with this
  cases hy : l[j].owned with
  | true => rw [hy] at this; exact ⟨_, List.getElem?_eq_getElem hlt, hy, this.symm⟩
  | false => rw [hy] at this; cases this
theorem ownIds_at {σ : List (Option Nat)} {l : List BV} {j b : Nat} {y : BV} (h : l[j]? = some y) (hy : y.owned = true) (hs : sigAt σ j = some b) : (ownIds σ 0 l)[j]? = some (some b) := by
  have := ownIds_get σ l 0 j h
  rw [Nat.zero_add, hy, hs] at this
  exact this
theorem mem_ids {is : List (Option Nat)} {b : Nat} : natMem b (is.filterMap id) = true ↔ ∃ j : Nat, is[j]? = some (some b) := by
  rw [natMem_iff]
  simp only [List.mem_filterMap, id_eq, exists_eq_right]
  exact ⟨fun hb => List.getElem?_of_mem hb, fun ⟨i, hi⟩ => List.mem_of_getElem? hi⟩
theorem updL_mem {rn : Nat → Nat} {σ : List (Option Nat)} : ∀ {l m : List BV} {k : Nat} {p : Nat × BV}, p ∈ updL rn σ k l m → ∃ j b0 b, l[j]? = some b0 ∧ m[j]? = some b ∧ b0.owned = true ∧ sigAt σ (k + j) = some p.1 ∧ p.2 = renB rn b
  | [], _, _, _, h => by cases h
  | _ :: _, [], _, _, h => by cases h
  | b0 :: l, b :: m, k, p, h => by
    unfold updL at h
    split at h
    · rename_i i ho hs
      rcases List.mem_cons.1 h with rfl | h
      · exact ⟨0, b0, b, rfl, rfl, ho, hs, rfl⟩
      · obtain ⟨j, c0, c, h1, h2, h3, h4, h5⟩ := updL_mem h
        exact ⟨j + 1, c0, c, by simpa using h1, by simpa using h2, h3, by rwa [show k + (j + 1) = k + 1 + j by omega], h5⟩
    · obtain ⟨j, c0, c, h1, h2, h3, h4, h5⟩ := updL_mem h
      exact ⟨j + 1, c0, c, by simpa using h1, by simpa using h2, h3, by rwa [show k + (j + 1) = k + 1 + j by omega], h5⟩
theorem updL_at {rn : Nat → Nat} {σ : List (Option Nat)} : ∀ {l m : List BV} {k j i : Nat} {b0 b : BV}, l[j]? = some b0 → m[j]? = some b → b0.owned = true → sigAt σ (k + j) = some i → (i, renB rn b) ∈ updL rn σ k l m
  | [], _, _, _, _, _, _, h, _, _, _ => by simp at h
  | _ :: _, [], _, _, _, _, _, _, h, _, _ => by simp at h
  | c0 :: l, c :: m, k, 0, i, b0, b, h1, h2, h3, h4 => by
    simp at h1 h2; subst h1; subst h2
    unfold updL
    rw [Nat.add_zero] at h4
    rw [h3, h4]
    exact List.mem_cons_self ..
  | c0 :: l, c :: m, k, j + 1, i, b0, b, h1, h2, h3, h4 => by
    have := updL_at (rn := rn) (σ := σ) (k := k + 1) (j := j) (by simpa using h1) (by simpa using h2) h3 (by rwa [show k + 1 + j = k + (j + 1) by omega])
    unfold updL
    split
    · exact List.mem_cons_of_mem _ this
    · exact this
theorem updL_nodup {rn : Nat → Nat} {σ : List (Option Nat)} : ∀ {l m : List BV} {k : Nat}, (∀ a b i, k ≤ a → k ≤ b → (∃ y, l[a - k]? = some y ∧ y.owned = true) → (∃ y, l[b - k]? = some y ∧ y.owned = true) → sigAt σ a = some i → sigAt σ b = some i → a = b) → ((updL rn σ k l m).map Prod.fst).Nodup
  | [], _, _, _ => List.nodup_nil
  | _ :: _, [], _, _ => List.nodup_nil
  | b0 :: l, b :: m, k, h => by
    have ih := updL_nodup (rn := rn) (σ := σ) (l := l) (m := m) (k := k + 1) fun a c i ha hc h1 h2 h3 h4 => by
      refine h a c i (by omega) (by omega) ?_ ?_ h3 h4
      · obtain ⟨y, e1, e2⟩ := h1
        exact ⟨y, by rw [show a - k = (a - (k + 1)) + 1 by omega]; simpa using e1, e2⟩
      · obtain ⟨y, e1, e2⟩ := h2
        exact ⟨y, by rw [show c - k = (c - (k + 1)) + 1 by omega]; simpa using e1, e2⟩
    unfold updL
    split
    · rename_i i ho hs
      refine List.nodup_cons.2 ⟨fun hm => ?_, ih⟩
      obtain ⟨p, hp, e⟩ := List.mem_map.1 hm
      obtain ⟨j, c0, c, h1, h2, h3, h4, _⟩ := updL_mem hp
      have e : p.1 = i := e
      rw [e] at h4
      have := h k (k + 1 + j) i (Nat.le_refl _) (by omega) ⟨b0, by rw [Nat.sub_self]; rfl, ho⟩ ⟨c0, by rw [show k + 1 + j - k = j + 1 by omega]; simpa using h1, h3⟩ hs h4
      omega
    · exact ih
theorem mask_ext {ids : List Nat} : Ext ρ bl ρ (maskB 0 ids bl) := fun b bv e h => by
  have hlt : b < (maskB 0 ids bl).length := by rw [maskB_len]; exact get_lt e
  obtain ⟨bv0, h1, h2⟩ := maskB_get (List.getElem?_eq_getElem hlt)
  rw [e] at h1; injection h1 with h1; subst h1
  refine ⟨rfl, _, List.getElem?_eq_getElem hlt, ?_, fun m hm => ?_⟩
  · rcases h2 with ⟨_, h2⟩ | h2 <;> rw [h2]
    · exact h
    · rfl
  · rcases h2 with ⟨_, h2⟩ | h2 <;> rw [h2] at hm
    · exact hm
    · cases hm
theorem mask_at {ids : List Nat} {b : Nat} {bv : BV} (h : (maskB 0 ids bl)[b]? = some bv) (hn : bv ≠ .no) : bl[b]? = some bv := by
  obtain ⟨bv0, h1, h2⟩ := maskB_get h
  rcases h2 with ⟨_, h2⟩ | h2
  · rw [h2]; exact h1
  · exact absurd h2 hn
theorem absChk_ok {s : AS} {l : List BV} (h : absChk s l = true) : ((ownIds s.σ 0 l).filterMap id).Nodup ∧ rowsB s.bl s.σ 0 l = true ∧ (∀ b, b ∈ s.lt → natMem b ((ownIds s.σ 0 l).filterMap id) = false) ∧ s.σ.length = l.length := by
  unfold absChk at h
  simp only [Bool.and_eq_true] at h
  obtain ⟨h1, h2, h3, h4⟩ := h
  refine ⟨nodupB_ok h1, h2, fun b hb => ?_, Nat.eq_of_beq_eq_true h4⟩
  cases hm : natMem b ((ownIds s.σ 0 l).filterMap id) with
  | false => rfl
  | true =>
    have := List.all_eq_true.1 h3 b (natMem_iff.1 hm)
    rw [natMem_iff.2 hb] at this
    cases this
theorem given_ok {idl : List Nat} {asl : List (Nat × SV)} {us : List Value} {sc : Sch} {m : Nat} {s : AS} {st0 : HSt} {g' : Gh} (hr : Rl g ρ ⟨sl, bl⟩ own fr) (hra : ∀ t sv, getH asl t = some sv → ∃ v, getS (argS 0 us) t = some v ∧ RealS g ρ bl sv v)
    (hab : absSt true sc (nones m) ⟨asl, maskB 0 idl bl⟩ = some s) (hsame : s.bl = maskB 0 idl bl) (hcon : conSt id sc s.ds = some st0) (hchk : absChk s st0.bl = true) (hgr : g.r.le g'.r) (hgb : g'.b = g.b)
    (hlent : ∀ k, some k ∈ dropIds 0 ((ownIds s.σ 0 st0.bl).filterMap id) own → g'.r.m k.g = some k.obj) : Rl g' (envOf s.σ ρ) st0 (pickP (ownIds s.σ 0 st0.bl) own) (argS 0 us) := by
  obtain ⟨st2, e1, _, _, hsl, hbl⟩ := absSt_ok hab
  rw [hcon] at e1; injection e1 with e1; subst e1
  rw [hsame] at hsl hbl
  obtain ⟨hnd, hrows, hlt, hlen⟩ := absChk_ok hchk
  rw [hsame] at hrows
  have hkeep : ∀ b k, b ∈ s.lt → own[b]? = some (some k) → g'.r.m k.g = some k.obj := fun b k hb hk => hlent k (by
    have := dropIds_get (i := 0) (ids := (ownIds s.σ 0 st0.bl).filterMap id) hk
    rw [Nat.zero_add, hlt b hb] at this
    exact List.mem_of_getElem? this)
  have hctx : Ctx s.lt (maskB 0 idl bl).length s.σ (maskB 0 idl bl) ρ g st0.bl (envOf s.σ ρ) g' := by
    refine ⟨hgr, by rw [hgb]; exact .refl _, fun j b e => simBs_ctx hbl hlen j b e, fun b bv hn e => absurd (get_lt e) (by omega), fun b c xs e => ?_, fun b c et xs hb e => ?_⟩
    · obtain ⟨k0, h1, h2⟩ := hr.own_at (mask_at e (by simp))
      exact h2.2
    · obtain ⟨k0, h1, h2⟩ := hr.own_at (mask_at e (by simp))
      exact arrm_of_buf h2 hgb fun b' hb' => hkeep b b' hb (by rw [h1, hb'])
  refine ⟨by simp [pickP, ownIds_len], fun i bv k0 e1 e2 => ?_, fun t sv e => ?_, by rw [hgb]; exact hr.gi⟩
  · have e3 : (pickP (ownIds s.σ 0 st0.bl) own)[i]? = some (match cond bv.owned (sigAt s.σ i) none with | none => none | some b => (own[b]?).join) := by
      unfold pickP
      rw [List.getElem?_map, ownIds_get s.σ st0.bl 0 i e1, Nat.zero_add]
      rfl
    rw [e3] at e2
    injection e2 with e2
    have hB := hbl.get e1
    rw [Nat.zero_add] at hB
    rcases hB with rfl | ⟨b, hb1, hb2⟩
    · exact e2.symm
    · have henv : envOf s.σ ρ i = ρ b := by unfold envOf; rw [hb1]
      rw [henv]
      rw [hb1] at e2
      have hcs : ∀ {l : List CV} {m : List CV} {cs : List Value}, All2 (SimC s.lt (maskB 0 idl bl).length s.σ (maskB 0 idl bl)) l m → All2 (RealC g ρ bl) l cs → All2 (RealC g' (envOf s.σ ρ) st0.bl) m cs :=
        fun h1 h2 => all2_real hctx h1 (h2.mono fun _ _ => RealC.ext (.refl g) mask_ext)
      cases hb2 with
      | no => exact e2.symm
      | cells h hs =>
        obtain ⟨k1, h1, b0, cs, rfl, h3, h4⟩ := hr.own_at (mask_at h (by simp))
        have e2 : (own[b]?).join = k0 := e2
        rw [h1] at e2
        exact ⟨b0, cs, e2.symm, h3, hcs hs h4⟩
      | @row _ c et xs h =>
        obtain ⟨b', c', et', xs', h3, h4⟩ := rowsB_get hrows e1
        rw [Nat.zero_add, hb1] at h3
        injection h3 with h3; subst h3
        obtain ⟨bv, h5, h6⟩ := h
        rw [h4] at h5; injection h5 with h5; subst h5
        rcases h6 with h6 | h6
        · rw [h6] at h4
          obtain ⟨k1, h1, h2⟩ := hr.own_at (mask_at h4 (by simp))
          have e2 : (own[b]?).join = k0 := e2
          rw [h1] at e2
          have e2 : k1 = k0 := e2
          subst e2
          show Buf g'.b c.ty et _ _ _
          rw [hgb]
          exact h2
        · cases h6
      | lent h hs =>
        obtain ⟨k1, h1, h2, ad, cs, h3, h4, h5⟩ := hr.own_at (mask_at h (by simp))
        exact ⟨e2.symm, ad, cs, h3, h4.mono hgr, hcs hs h5⟩
      | lend hl h hs =>
        obtain ⟨k1, h1, b0, cs, rfl, h3, h4⟩ := hr.own_at (mask_at h (by simp))
        exact ⟨e2.symm, _, cs, h3, cells_lent (k := ⟨b0, _, cs⟩) 0 cs (hkeep b _ hl h1) (by simp), hcs hs h4⟩
  · obtain ⟨y, h1, h2⟩ := hsl (t, sv) (getH_mem e)
    obtain ⟨v, h3, h4⟩ := hra t y h1
    exact ⟨v, h3, SimS.real hctx h2 (h4.ext (.refl g) mask_ext)⟩
end
end Go.Proofs.YtpleflcfaecojaaGreat
