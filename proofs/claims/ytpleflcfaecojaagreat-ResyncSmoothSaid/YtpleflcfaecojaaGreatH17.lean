/-
The third engine, part 17: calls, shown to the end. Conditions: each lemma's own.
-/
import Derived.Test.YtpleflcfaecojaaGreatH16
namespace Go.Proofs.YtpleflcfaecojaaGreat
set_option linter.unusedVariables false
set_option linter.unusedSimpArgs false
open Go.RowKit
section
variable {P : Program} {n : Nat} {ty : TypeId} {sl : List (Nat × SV)} {bl bl' : List BV} {v : SV} {f : Nat} {g : Gh} {ρ : Env} {own : Own} {fr : Sl}
noncomputable def ownBack (np f nn : Nat) (is : List (Option Nat)) (sel own : Own) : Own :=
  (List.range own.length).map fun i => if f ≤ i ∧ i < f + nn then (sel[np + (i - f)]?).join else @dite _ (∃ j : Nat, is[j]? = some (some i)) (Classical.propDecidable _) (fun h => (sel[Classical.choose h]?).join) (fun _ => (own[i]?).join)
theorem ownBack_len {np f nn : Nat} {is : List (Option Nat)} {sel own : Own} : (ownBack np f nn is sel own).length = own.length := by simp [ownBack]
theorem ownBack_new {np f nn : Nat} {is : List (Option Nat)} {sel own : Own} {i : Nat} (hi : i < own.length) (h : f ≤ i ∧ i < f + nn) : (ownBack np f nn is sel own)[i]? = some (sel[np + (i - f)]?).join := by
  unfold ownBack
  rw [List.getElem?_map, List.getElem?_range hi]
  simp only [Option.map_some]
  rw [if_pos h]
theorem ownBack_is {np f nn : Nat} {is : List (Option Nat)} {sel own : Own} {i j : Nat} (hi : i < own.length) (h : ¬ (f ≤ i ∧ i < f + nn)) (hnd : (is.filterMap id).Nodup) (hj : is[j]? = some (some i)) : (ownBack np f nn is sel own)[i]? = some (sel[j]?).join := by
  unfold ownBack
  rw [List.getElem?_map, List.getElem?_range hi]
  simp only [Option.map_some]
  have hex : ∃ j : Nat, is[j]? = some (some i) := ⟨j, hj⟩
  rw [if_neg h, dif_pos hex]
  have := filterMap_nodup_inj hnd (Classical.choose_spec hex) hj
  rw [this]
theorem ownBack_other {np f nn : Nat} {is : List (Option Nat)} {sel own : Own} {i : Nat} (hi : i < own.length) (h : ¬ (f ≤ i ∧ i < f + nn)) (hj : ¬ ∃ j : Nat, is[j]? = some (some i)) : (ownBack np f nn is sel own)[i]? = some (own[i]?).join := by
  unfold ownBack
  rw [List.getElem?_map, List.getElem?_range hi]
  simp only [Option.map_some]
  rw [if_neg h, dif_neg hj]
theorem join_some {α : Type} {x : Option (Option α)} {k : α} (h : x.join = some k) : x = some (some k) := by
  cases x with
  | none => cases h
  | some y => exact congrArg some h
theorem callBack {np nn : Nat} {is : List (Option Nat)} {st0 : List BV} {σ : List (Option Nat)} {str : HSt} {sel' : Own} {ρr : Env} {g2 : Gh} {w : World} {m : Nat} {v0 : Value} (hr : Rl g ρ ⟨sl, bl⟩ own fr) (hg : g.le g2) (his : is = ownIds σ 0 st0) (hnp : st0.length = np) (hnd : (is.filterMap id).Nodup)
    (hnn : np + nn = str.bl.length) (hm : nn ≤ m) (hf : ∀ (i : Nat), i < m → bl[f + i]? = some .hole) (hkn : ∀ (j b : Nat), is[j]? = some (some b) → ∃ bv : BV, bl[b]? = some bv ∧ bv.isHole = false)
    (hlen : ∀ (j b : Nat) (bv : BV) (l : Nat), j < np → is[j]? = some (some b) → str.bl[j]? = some bv → bv.len = some l → ∃ bv0 : BV, bl[b]? = some bv0 ∧ bv0.len = some l)
    (hbase : baseSt str = true) (hR : Rl (ghB g2.b) ρr str sel' [(0, v0)]) (hρ : ∀ (j : Nat), j < np → ρr j = envOf σ ρ j) (hown : ∀ (j : Nat) (bv : BV), j < np → str.bl[j]? = some bv → bv.owned = true → ∃ b : Nat, is[j]? = some (some b))
    (hs2 : St w g2 (sel' ++ dropIds 0 (is.filterMap id) own)) {s0 : SV} (hs0 : getH str.sl 0 = some s0)
    (hbl' : bl' = setNew (setUpd bl (updL (rnOf np f σ) σ 0 st0 str.bl)) f ((str.bl.drop np).map (renB (rnOf np f σ)))) :
    ∃ ρ' own', Ext ρ bl ρ' bl' ∧ St w g2 own' ∧ Rl g2 ρ' ⟨sl, bl'⟩ own' fr ∧ RealS g2 ρ' bl' (renS (rnOf np f σ) s0) v0 := by
  have hol : own.length = bl.length := hr.len
  have hsl : sel'.length = str.bl.length := hR.len
  have hbb : ∀ (j : Nat) (bv : BV), str.bl[j]? = some bv → baseB str.bl bv = true := fun j bv e => by
    simp only [baseSt, Bool.and_eq_true] at hbase
    exact allB_get hbase.2 (List.mem_of_getElem? e)
  have hbs : baseS str.bl s0 = true := by
    simp only [baseSt, Bool.and_eq_true] at hbase
    exact allB_get (p := fun p : Nat × SV => baseS str.bl p.2) hbase.1 (getH_mem hs0)
  have hnh : ∀ (j : Nat) (bv : BV), str.bl[j]? = some bv → bv.isHole = false := fun j bv e => by
    have := hbb j bv e
    cases bv <;> first | rfl | cases this
  have hbl : bl'.length = bl.length := by rw [hbl', setNew_len, setUpd_len]
  have hnl : ((str.bl.drop np).map (renB (rnOf np f σ))).length = nn := by rw [List.length_map, List.length_drop]; omega
  have hisl : is.length = np := by rw [his, ownIds_len, hnp]
  have hfl : ∀ i, i < nn → f + i < bl.length := fun i hi => get_lt (hf i (by omega))
  have hnot : ∀ (b : Nat) (bv : BV), bl[b]? = some bv → bv.isHole = false → ¬ (f ≤ b ∧ b < f + nn) := fun b bv e hh ⟨h1, h2⟩ => by
    have := hf (b - f) (by omega)
    rw [show f + (b - f) = b by omega, e] at this
    injection this with this; subst this; cases hh
  have hisj : ∀ (j b : Nat), is[j]? = some (some b) → sigAt σ j = some b ∧ j < np ∧ ∃ y, st0[j]? = some y ∧ y.owned = true := fun j b e => by
    rw [his] at e
    obtain ⟨y, h1, h2, h3⟩ := ownIds_some e
    exact ⟨h3, by rw [← hnp]; exact get_lt h1, y, h1, h2⟩
  have A2 : ∀ (i : Nat) (bv : BV), i < nn → str.bl[np + i]? = some bv → bl'[f + i]? = some (renB (rnOf np f σ) bv) := fun i bv hi e => by
    rw [hbl']
    refine setNew_in (by rw [List.getElem?_map, List.getElem?_drop, e]; rfl) ?_
    rw [hnl, setUpd_len]
    have := hfl (nn - 1) (by omega)
    omega
  have hnodup : ((updL (rnOf np f σ) σ 0 st0 str.bl).map Prod.fst).Nodup := updL_nodup fun a b i _ _ ⟨y, h1, h2⟩ ⟨z, h3, h4⟩ h5 h6 => by
    have e1 := ownIds_at h1 h2 h5
    have e2 := ownIds_at h3 h4 h6
    rw [Nat.sub_zero] at e1 e2
    rw [his] at hnd
    exact filterMap_nodup_inj hnd e1 e2
  have A3 : ∀ (j b : Nat) (bv : BV), is[j]? = some (some b) → str.bl[j]? = some bv → bl'[b]? = some (renB (rnOf np f σ) bv) := fun j b bv e1 e2 => by
    obtain ⟨h1, h2, y, h3, h4⟩ := hisj j b e1
    obtain ⟨bv0, h5, h6⟩ := hkn j b e1
    have h7 := hnot b bv0 h5 h6
    rw [hbl', setNew_out (by rw [hnl]; omega)]
    exact setUpd_in (updL_at h3 e2 h4 (by rw [Nat.zero_add]; exact h1)) hnodup (get_lt h5)
  have A4 : ∀ (i : Nat), ¬ (f ≤ i ∧ i < f + nn) → (¬ ∃ j : Nat, is[j]? = some (some i)) → bl'[i]? = bl[i]? := fun i h1 h2 => by
    rw [hbl', setNew_out (by rw [hnl]; omega)]
    refine setUpd_out fun p hp e => h2 ?_
    obtain ⟨j, b0, b, h3, _, h5, h6, _⟩ := updL_mem hp
    rw [Nat.zero_add, e] at h6
    exact ⟨j, by rw [his]; exact ownIds_at h3 h5 h6⟩
  -- the environment
  obtain ⟨ρ', hρ'⟩ : ∃ ρ' : Env, ρ' = fun i => if f ≤ i ∧ i < f + nn then ρr (np + (i - f)) else ρ i := ⟨_, rfl⟩
  have hρn : ∀ i, i < nn → ρ' (f + i) = ρr (np + i) := fun i hi => by
    rw [hρ']
    show (if f ≤ f + i ∧ f + i < f + nn then _ else _) = _
    rw [if_pos (by omega), show f + i - f = i by omega]
  have hρo : ∀ i, ¬ (f ≤ i ∧ i < f + nn) → ρ' i = ρ i := fun i h => by
    rw [hρ']
    exact if_neg h
  have hx : Ext ρ bl ρ' bl' := fun b bv h1 h2 => by
    have h3 := hnot b bv h1 h2
    refine ⟨hρo b h3, ?_⟩
    by_cases hj : ∃ j : Nat, is[j]? = some (some b)
    · obtain ⟨j, hj⟩ := hj
      obtain ⟨h4, h5, _⟩ := hisj j b hj
      have h6 : j < str.bl.length := by omega
      refine ⟨_, A3 j b _ hj (List.getElem?_eq_getElem h6), by rw [renB_hole]; exact hnh j _ (List.getElem?_eq_getElem h6), fun l hl => ?_⟩
      rw [renB_len] at hl
      obtain ⟨bv0, h7, h8⟩ := hlen j b _ l h5 hj (List.getElem?_eq_getElem h6) hl
      rw [h1] at h7; injection h7 with h7; subst h7
      exact h8
    · exact ⟨bv, by rw [A4 b h3 hj]; exact h1, h2, fun l hl => hl⟩
  have hren : RenOk (rnOf np f σ) ρr str.bl ρ' bl' := ⟨fun j bv e ho => by
    have hh := hnh j bv e
    by_cases hj : j < np
    · obtain ⟨b, hb⟩ := hown j bv hj e ho
      obtain ⟨h1, _, _⟩ := hisj j b hb
      obtain ⟨bv0, h5, h6⟩ := hkn j b hb
      have hrn : rnOf np f σ j = b := by
        unfold rnOf
        rw [show Nat.blt j np = true by simpa using hj, h1]; rfl
      rw [hrn]
      refine ⟨?_, _, A3 j b bv hb e, by rw [renB_hole]; exact hh, renB_len bv⟩
      rw [hρo b (hnot b bv0 h5 h6), hρ j hj]
      unfold envOf
      rw [h1]
    · have hlt := get_lt e
      have hrn : rnOf np f σ j = f + (j - np) := by
        unfold rnOf
        rw [show Nat.blt j np = false by cases h : Nat.blt j np with | false => rfl | true => exact absurd (by simpa using h) hj]; rfl
      rw [hrn]
      have e' : str.bl[np + (j - np)]? = some bv := by rw [show np + (j - np) = j by omega]; exact e
      refine ⟨?_, _, A2 (j - np) bv (by omega) e', by rw [renB_hole]; exact hh, renB_len bv⟩
      rw [hρn (j - np) (by omega), show np + (j - np) = j by omega]⟩
  have hle : g2.b.le g2.b := .refl _
  refine ⟨ρ', ownBack np f nn is sel' own, hx, hs2.back (fun i k e => ?_) (fun i j k e1 e2 => ?_), hr.turn hg hx (by rw [ownBack_len, hol, hbl]) (fun i bv k e1 e2 => ?_), ?_⟩
  · -- whence it is
    have hi : i < own.length := by rw [← ownBack_len (np := np) (f := f) (nn := nn) (is := is) (sel := sel') (own := own)]; exact get_lt e
    by_cases h1 : f ≤ i ∧ i < f + nn
    · rw [ownBack_new hi h1] at e
      injection e with e
      exact .inl ⟨_, join_some e⟩
    · by_cases h2 : ∃ j : Nat, is[j]? = some (some i)
      · obtain ⟨j, hj⟩ := h2
        rw [ownBack_is hi h1 hnd hj] at e
        injection e with e
        exact .inl ⟨_, join_some e⟩
      · rw [ownBack_other hi h1 h2] at e
        injection e with e
        refine .inr ⟨i, ?_⟩
        rw [dropIds_get (join_some e), Nat.zero_add]
        have : natMem i (is.filterMap id) = false := by
          cases hmm : natMem i (is.filterMap id) with
          | false => rfl
          | true => exact absurd (mem_ids.1 hmm) h2
        rw [this]; rfl
  · have hpos : ∀ (i : Nat), (ownBack np f nn is sel' own)[i]? = some (some k) → ∃ q : Nat, (sel' ++ dropIds 0 (is.filterMap id) own)[q]? = some (some k) ∧ ((f ≤ i ∧ i < f + nn ∧ q = np + (i - f) ∧ q < sel'.length) ∨ (q < np ∧ q < sel'.length ∧ is[q]? = some (some i)) ∨ (q = sel'.length + i)) := by
      intro i e
      have hi : i < own.length := by rw [← ownBack_len (np := np) (f := f) (nn := nn) (is := is) (sel := sel') (own := own)]; exact get_lt e
      by_cases h1 : f ≤ i ∧ i < f + nn
      · rw [ownBack_new hi h1] at e
        injection e with e
        have e := join_some e
        have hlt := get_lt e
        exact ⟨_, by rw [List.getElem?_append_left hlt]; exact e, .inl ⟨h1.1, h1.2, rfl, hlt⟩⟩
      · by_cases h2 : ∃ j : Nat, is[j]? = some (some i)
        · obtain ⟨j, hj⟩ := h2
          rw [ownBack_is hi h1 hnd hj] at e
          injection e with e
          have e := join_some e
          have hlt := get_lt e
          exact ⟨j, by rw [List.getElem?_append_left hlt]; exact e, .inr (.inl ⟨by rw [← hisl]; exact get_lt hj, hlt, hj⟩)⟩
        · rw [ownBack_other hi h1 h2] at e
          injection e with e
          refine ⟨sel'.length + i, ?_, .inr (.inr rfl)⟩
          rw [List.getElem?_append_right (by omega), show sel'.length + i - sel'.length = i by omega, dropIds_get (join_some e), Nat.zero_add]
          have : natMem i (is.filterMap id) = false := by
            cases hmm : natMem i (is.filterMap id) with
            | false => rfl
            | true => exact absurd (mem_ids.1 hmm) h2
          rw [this]; rfl
    obtain ⟨q1, h1, c1⟩ := hpos i e1
    obtain ⟨q2, h2, c2⟩ := hpos j e2
    have hq := ids_inj hs2.nodup h1 h2 rfl
    subst hq
    rcases c1 with ⟨a1, a2, a3, a4⟩ | ⟨a1, a2, a3⟩ | a1 <;> rcases c2 with ⟨b1, b2, b3, b4⟩ | ⟨b1, b2, b3⟩ | b1
    · omega
    · omega
    · omega
    · omega
    · rw [a3] at b3; injection b3 with b3; injection b3
    · omega
    · omega
    · omega
    · omega
  · -- blocks
    have hi : i < own.length := by rw [← ownBack_len (np := np) (f := f) (nn := nn) (is := is) (sel := sel') (own := own)]; exact get_lt e2
    by_cases h1 : f ≤ i ∧ i < f + nn
    · rw [ownBack_new hi h1] at e2
      injection e2 with e2
      have hlt : np + (i - f) < str.bl.length := by omega
      have e3 := A2 (i - f) _ (by omega) (List.getElem?_eq_getElem hlt)
      rw [show f + (i - f) = i by omega, e1] at e3
      injection e3 with e3; subst e3
      have e4 : sel'[np + (i - f)]? = some (sel'[np + (i - f)]'(by omega)) := List.getElem?_eq_getElem (by omega)
      rw [e4] at e2
      have e2 : sel'[np + (i - f)]'(by omega) = k := e2
      have := hR.blk _ _ _ (List.getElem?_eq_getElem hlt) e4
      rw [e2] at this
      have h3 := hρn (i - f) (by omega)
      rw [show f + (i - f) = i by omega] at h3
      rw [h3]
      exact renB_real hren hle (hbb _ _ (List.getElem?_eq_getElem hlt)) this
    · by_cases h2 : ∃ j : Nat, is[j]? = some (some i)
      · obtain ⟨j, hj⟩ := h2
        rw [ownBack_is hi h1 hnd hj] at e2
        injection e2 with e2
        obtain ⟨h3, h4, _⟩ := hisj j i hj
        have hlt : j < str.bl.length := by omega
        have e3 := A3 j i _ hj (List.getElem?_eq_getElem hlt)
        rw [e1] at e3
        injection e3 with e3; subst e3
        have e4 : sel'[j]? = some (sel'[j]'(by omega)) := List.getElem?_eq_getElem (by omega)
        rw [e4] at e2
        have e2 : sel'[j]'(by omega) = k := e2
        have := hR.blk _ _ _ (List.getElem?_eq_getElem hlt) e4
        rw [e2, hρ j h4] at this
        have h5 : envOf σ ρ j = ρ i := by unfold envOf; rw [h3]
        rw [h5, ← hρo i h1] at this
        exact renB_real hren hle (hbb _ _ (List.getElem?_eq_getElem hlt)) this
      · rw [ownBack_other hi h1 h2] at e2
        injection e2 with e2
        rw [A4 i h1 h2] at e1
        have e4 : own[i]? = some own[i] := List.getElem?_eq_getElem hi
        rw [e4] at e2
        have e2 : own[i] = k := e2
        have := hr.blk i bv _ e1 e4
        rw [e2] at this
        rw [hρo i h1]
        exact this.ext hg hx
  · obtain ⟨v1, h1, h2⟩ := hR.slot 0 s0 hs0
    have h1 : some v0 = some v1 := h1
    injection h1 with h1; subst h1
    exact renS_real hren hle hbs h2
theorem ownC_get : ∀ {is : List (Option Nat)} {l : List BV} {j : Nat} {x : Option Nat} {bv : BV}, ownC is l = true → is[j]? = some x → l[j]? = some bv → bv.owned = true → ∃ b, x = some b
  | [], _, _, _, _, _, h, _, _ => by simp at h
  | _ :: _, [], _, _, _, _, _, h, _ => by simp at h
  | y :: is, b :: l, 0, x, bv, h, h1, h2, h3 => by
    simp at h1 h2; subst h1; subst h2
    simp only [ownC, Bool.and_eq_true, Bool.or_eq_true, Bool.not_eq_true'] at h
    rcases h.1 with h | h
    · rw [h3] at h; cases h
    · cases y with
      | none => cases h
      | some b => exact ⟨b, rfl⟩
  | y :: is, b :: l, j + 1, x, bv, h, h1, h2, h3 => by
    simp only [ownC, Bool.and_eq_true] at h
    exact ownC_get h.2 (by simpa using h1) (by simpa using h2) h3
def EntersBy (P : Program) (n : Nat) (sl : List (Nat × SV)) (op : Op) (fn : FuncId) (uav : List SV) : Prop := ∀ (bl : List BV) (g : Gh) (ρ : Env) (own : Own) (fr : Sl), Rl g ρ ⟨sl, bl⟩ own fr → ∃ us : List Value, All2 (RealS g ρ bl) uav us ∧ ∀ (o : Oper) (a : Act) (w : World), o.op = op → Fr n a fr → (execOp a.eval o).run P w = .ok (.enter fn us.toArray) w
theorem callN_ok {tbl : FuncId → List FS} {m : Nat} {op : Op} {uav : List SV} {fn : FuncId} {c : Cand} {idl : List Nat} (hT : ∀ f S, S ∈ tbl f → FOk P f S) (hf : ∀ i, i < m → bl[f + i]? = some .hole)
    (hrun : EntersBy P n sl op fn uav) (hc : firstC (argH 0 uav) (maskB 0 idl bl) (tbl fn) = some c) (hfl : c.s.fl = [])
    (h : Told f (callN f m c) bl bl' v) : EffH P n op ty sl bl bl' v := by
  obtain ⟨S, hS, hcand⟩ := firstC_mem hc
  obtain ⟨rfl, hal, hab, hcon, hchk, hct⟩ := candOf_ok hcand
  have hsame := absSt_same hab hfl
  obtain ⟨r, hrn, h⟩ := h
  obtain ⟨str, hstr, h⟩ := altT_told h
  · split at h
    · rename_i s0 hs0 hb
      simp only [Bool.and_eq_true] at hb
      obtain ⟨hb1, hb2, hb3⟩ := hb
      have hb1 := Nat.le_of_ble_eq_true hb1
      have hb2 := Nat.le_of_ble_eq_true hb2
      obtain ⟨rfl, rfl⟩ := h
      intro o a w Q K g ρ own fr h1 h2 hr hfr hs hk
      obtain ⟨us, hus, hex⟩ := hrun bl g ρ own fr hr
      obtain ⟨hnd, hrows, hlt, hlen⟩ := absChk_ok hchk
      have hra : ∀ t sv, getH (argH 0 uav) t = some sv → ∃ v, getS (argS 0 us) t = some v ∧ RealS g ρ bl sv v := fun t sv e => argH_slot hus e
      have hisl : (ownIds c.s.σ 0 c.st0.bl).length = c.st0.bl.length := ownIds_len _ _ _
      refine eff_call (is := ownIds c.s.σ 0 c.st0.bl) hex hnd (fun g' hgr hgb hlent => hT fn c.S hS c.t r c.st0 hrn hct g' (envOf c.s.σ ρ) _ us (given_ok hr hra hab hsame hcon hchk hgr hgb hlent) (by rw [hal, argH_len, hus.len])) o a w Q K h1 h2 hfr hs
        fun v' g2 own2 w2 hg2 hs2 ⟨sel', e, str', ρr, e2, hbase, hR, hρ⟩ => ?_
      subst e
      rw [hstr] at e2; injection e2 with e2; subst e2
      obtain ⟨st2, e3, _, _, _, hbl⟩ := absSt_ok hab
      rw [hcon] at e3; injection e3 with e3; subst e3
      rw [hsame] at hbl
      have hblk : ∀ (j b : Nat), (ownIds c.s.σ 0 c.st0.bl)[j]? = some (some b) → ∃ y bv : BV, c.st0.bl[j]? = some y ∧ bl[b]? = some bv ∧ bv.isHole = false ∧ ∀ l, y.len = some l → bv.len = some l := fun j b e => by
        obtain ⟨y, h3, h4, h5⟩ := ownIds_some e
        have hB := hbl.get h3
        rw [Nat.zero_add] at hB
        rcases hB with rfl | ⟨b', h6, h7⟩
        · cases h4
        · rw [h5] at h6; injection h6 with h6; subst h6
          cases h7 with
          | no => cases h4
          | cells h hs => exact ⟨_, _, h3, mask_at h (by simp), rfl, fun l hl => by cases hl⟩
          | @row _ d et xs h =>
            obtain ⟨bv, h8, h9⟩ := h
            rcases h9 with rfl | rfl
            · exact ⟨_, _, h3, mask_at h8 (by simp), rfl, fun l hl => hl⟩
            · exact ⟨_, _, h3, mask_at h8 (by simp), rfl, fun l hl => hl⟩
          | lent h hs => cases h4
          | lend hl h hs => cases h4
      obtain ⟨ρ', own', hx, hst, hrl, hv⟩ := callBack (np := c.st0.bl.length) (nn := str.bl.length - c.st0.bl.length) (m := m) hr hg2 rfl rfl hnd (by omega) hb2 hf
        (fun j b e => by obtain ⟨y, bv, _, h4, h5, _⟩ := hblk j b e; exact ⟨bv, h4, h5⟩)
        (fun j b bv l hj e1 e2 e3 => by
          obtain ⟨y, bv0, h3, h4, _, h6⟩ := hblk j b e1
          obtain ⟨y', h7, h8⟩ := lenAt_some ((hρ j hj).2 bv l e2 e3)
          rw [h3] at h7; injection h7 with h7; subst h7
          exact ⟨bv0, h4, h6 l h8⟩)
        hbase hR (fun j hj => (hρ j hj).1)
        (fun j bv hj e1 e2 => by
          have h3 : (ownIds c.s.σ 0 c.st0.bl)[j]? = some ((ownIds c.s.σ 0 c.st0.bl)[j]'(by rw [hisl]; exact hj)) := List.getElem?_eq_getElem (by rw [hisl]; exact hj)
          obtain ⟨b, hb⟩ := ownC_get hb3 h3 e1 e2
          exact ⟨b, by rw [h3, hb]⟩)
        hs2 hs0 rfl
      exact hk v' g2 ρ' own' w2 hg2 hx hst hrl hv
    · exact h.elim
theorem callT_ok {tbl : FuncId → List FS} {m : Nat} {op : Op} {fn : FuncId} {uav : List SV} (hT : ∀ f S, S ∈ tbl f → FOk P f S) (hf : ∀ i, i < m → bl[f + i]? = some .hole) (hrun : enters P fn = true → EntersBy P n sl op fn uav) (h : Told f (callT P tbl f m fn uav) bl bl' v) :
    EffH P n op ty sl bl bl' v := by
  unfold callT at h
  obtain ⟨he, h⟩ := condT h
  obtain ⟨idl, h⟩ := h
  dsimp only at h
  split at h
  · rename_i c hc
    split at h
    · rename_i hfl
      exact callN_ok hT hf (hrun he) hc hfl h
    · obtain ⟨bl1, hfz, h⟩ := frzAll_told h
      obtain ⟨idl2, h⟩ := h
      dsimp only at h
      split at h
      · rename_i c2 hc2
        split at h
        · rename_i hfl
          exact EffH.frz hfz (callN_ok hT (fun i hi => hfz.hole (hf i hi)) (hrun he) hc2 hfl h)
        · exact h.elim
      · exact h.elim
  · exact h.elim
theorem tCall_ok {tbl : FuncId → List FS} {m : Nat} {x : Operand} {args : List Operand} {ats : Array TypeId} (hT : ∀ f S, S ∈ tbl f → FOk P f S) (hf : ∀ i, i < m → bl[f + i]? = some .hole) (h : Told f (tCall P tbl sl f m x args) bl bl' v) :
    EffH P n (.call { callee := .value x, args := args.toArray, argTypes := ats }) ty sl bl bl' v := by
  unfold tCall at h
  split at h
  · rename_i fv avs ex ea
    split at h
    · rename_i fn caps hfn
      refine callT_ok hT hf (fun he bl g ρ own fr hr => ?_) h
      obtain ⟨vx, hx1, hx2⟩ := evH_real hr ex
      obtain ⟨cs, rfl, hcs⟩ := fnOf_real hfn hx2
      obtain ⟨vs, ha1, ha2⟩ := evL_real hr ea
      refine ⟨vs ++ cs, All2.app (all2_map (f := vC) (R := RealS g ρ bl) hcs) ha2, fun o a w h1 hf => ?_⟩
      have : args.toArray.map a.eval = vs.toArray := by
        apply Array.toList_inj.1
        rw [Array.toList_map, hf.evs (xs := args.toArray.toList) (by simpa using ha1)]
      simp [execOp, h1, resolve, hf.ev hx1, Deferred.ofValue, invoke, this, run_callFunc_of he]
    · exact h.elim
  · exact h.elim
theorem run_method {t : TypeId} {name : String} {fn : FuncId} {u : Value} {args : Array Value} {w : World} (h : mthOf P t name = some fn) : (callMethod (.iface t u) name args).run P w = (callFunc fn (#[u] ++ args)).run P w := by
  unfold mthOf at h
  split at h
  · rename_i i e hi hu
    split at h
    · rename_i m hm
      split at h
      · rename_i f0 hp hf
        injection h with h; subst h
        obtain ⟨k, hk⟩ : ∃ k, P.types.size + Made.depth = k + 1 := ⟨P.types.size + (Made.depth - 1), rfl⟩
        have hti : (typeInfo t).run P w = .ok i w := by simp [typeInfo, hi]
        simp [callMethod, hk, method, hti, hm, hp, hf, follow, receiverAt, run_underlying hu, Place.get]
      · cases h
    · cases h
  · cases h
theorem tInv_ok {tbl : FuncId → List FS} {m : Nat} {x : Operand} {name : String} {args : List Operand} {ats : Array TypeId} (hT : ∀ f S, S ∈ tbl f → FOk P f S) (hf : ∀ i, i < m → bl[f + i]? = some .hole) (h : Told f (tInv P tbl sl f m x name args) bl bl' v) :
    EffH P n (.call { callee := .invoke x name, args := args.toArray, argTypes := ats }) ty sl bl bl' v := by
  unfold tInv at h
  split at h
  · rename_i t c avs ex ea
    split at h
    · rename_i fn hfn
      refine callT_ok hT hf (fun he bl g ρ own fr hr => ?_) h
      obtain ⟨vx, hx1, u, hu, rfl⟩ := evH_real hr ex
      obtain ⟨vs, ha1, ha2⟩ := evL_real hr ea
      refine ⟨u :: vs, ⟨hu, ha2⟩, fun o a w h1 hf => ?_⟩
      have : args.toArray.map a.eval = vs.toArray := by
        apply Array.toList_inj.1
        rw [Array.toList_map, hf.evs (xs := args.toArray.toList) (by simpa using ha1)]
      simp [execOp, h1, resolve, hf.ev hx1, invoke, this, run_method hfn, run_callFunc_of he]
    · exact h.elim
  · exact h.elim
end
end Go.Proofs.YtpleflcfaecojaaGreat
