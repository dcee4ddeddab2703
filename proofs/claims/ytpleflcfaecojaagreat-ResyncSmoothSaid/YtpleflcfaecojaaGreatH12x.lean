/-
The third engine, part 12x: the front of a row of one's own becomes a row of one's own. Conditions: each lemma's own.
-/
import Derived.Test.YtpleflcfaecojaaGreatH12g
namespace Go.Proofs.YtpleflcfaecojaaGreat
set_option linter.unusedVariables false
set_option linter.unusedSimpArgs false
open Go.RowKit
def cutS (t : Nat) (st : HSt) : HSt := match getH st.sl t with
  | some (.v (.c (.vw b _ l r))) => (match st.bl[b]?, Nat.beq l 0 with
    | some (.row d et xs), true => ⟨(t, vC (.own st.bl.length)) :: st.sl, st.bl.set b .no ++ [.row d et (xs.take r)]⟩
    | _, _ => st)
  | _ => st
section
variable {n : Nat} {A : An} {g0 : Gh} {K : Act → World → Prop}
theorem Fr.again {a : Act} {fr : Sl} {t : Nat} {v : Value} (hf : Fr n a fr) (h1 : getS fr t = some v) : Fr n a ((t, v) :: fr) := ⟨hf.size, hf.defers, fun s u hu => by
  have hu : cond (Nat.beq t s) (some v) (getS fr s) = some u := hu
  cases hb : Nat.beq t s with
  | true =>
    rw [hb] at hu
    have := Nat.eq_of_beq_eq_true hb
    subst this
    injection hu with hu; subst hu
    exact hf.at_ _ _ h1
  | false => rw [hb] at hu; exact hf.at_ _ _ hu⟩
theorem SW.cutS {t : Nat} {st : HSt} (k : SW K n A g0 (cutS t st)) : SW K n A g0 st := by
  unfold Go.Proofs.YtpleflcfaecojaaGreat.cutS at k
  split at k
  case h_2 => exact k
  rename_i b c l r ht
  split at k
  case h_2 => exact k
  rename_i d et xs hb hl0
  have hl0 := Nat.eq_of_beq_eq_true hl0
  subst hl0
  obtain ⟨sl, bl⟩ := st
  refine SW.holes 1 ?_
  have hb : bl[b]? = some (.row d et xs) := hb
  have hbl := get_lt hb
  intro g ρ own fr hg hA hr a w hf hs
  obtain ⟨v, h1, h2⟩ := hr.slot t _ ht
  obtain ⟨hkn, rfl, hl⟩ := (h2 : RealC g ρ (bl ++ Go.Proofs.YtpleflcfaecojaaGreat.holes 1) (.vw b c 0 r) v)
  have hb1 : (bl ++ Go.Proofs.YtpleflcfaecojaaGreat.holes 1)[b]? = some (.row d et xs) := by rw [List.getElem?_append_left hbl]; exact hb
  have hl := (hl _ _ hb1 rfl).2
  have hlr : (xs.take r).length = r := by rw [List.length_take]; omega
  obtain ⟨k0, hk0, hB⟩ := hr.own_at hb1
  have hB : Buf g.b d.ty et (.slice (ρ b).1 xs.length (ρ b).2) k0 xs := hB
  have hB := hB.cut r hl
  have hf0 : (bl ++ Go.Proofs.YtpleflcfaecojaaGreat.holes 1)[bl.length]? = some .hole := by simp [Go.Proofs.YtpleflcfaecojaaGreat.holes]
  have hbf : b ≠ bl.length := by omega
  have hno := hr.hole_none hf0
  have hst := hs.move (b := b) (f := bl.length) (k := k0) hk0 hno hbf
  have hx : Ext ρ (bl ++ Go.Proofs.YtpleflcfaecojaaGreat.holes 1) ρ ((bl ++ Go.Proofs.YtpleflcfaecojaaGreat.holes 1).set b .no) := Ext.set_at hb1 rfl fun m hm => by cases hm
  have hr1 := hr.setB (g' := g) (bv1 := .no) (k := none) (.refl g) hb1 rfl (fun m hm => by cases hm) rfl
  have hf1 : ((bl ++ Go.Proofs.YtpleflcfaecojaaGreat.holes 1).set b .no)[bl.length]? = some .hole := by rw [get_ne hbf]; exact hf0
  have hx1 : Ext ρ ((bl ++ Go.Proofs.YtpleflcfaecojaaGreat.holes 1).set b .no) (setρ ρ bl.length (ρ b)) (((bl ++ Go.Proofs.YtpleflcfaecojaaGreat.holes 1).set b .no).set bl.length (.row d et (xs.take r))) := Ext.set_hole hf1
  have hr2 := hr1.lay (g' := g) (bv := .row d et (xs.take r)) (k := k0) (e := ρ b) (.refl g) hf1 hB
  have e : ((bl ++ Go.Proofs.YtpleflcfaecojaaGreat.holes 1).set b .no).set bl.length (.row d et (xs.take r)) = bl.set b .no ++ [.row d et (xs.take r)] := by
    rw [List.set_append_left _ _ hbl, List.set_append_right _ _ (by simp)]
    simp [Go.Proofs.YtpleflcfaecojaaGreat.holes]
  rw [e] at hx1 hr2
  have hv : RealC g (setρ ρ bl.length (ρ b)) (bl.set b .no ++ [.row d et (xs.take r)]) (.own bl.length) (.slice (offA (ρ b).1 (ρ b).2 0 c.n) (r - 0) ((ρ b).2 - 0)) := by
    rw [offA_zero, Nat.sub_zero, Nat.sub_zero]
    refine ⟨⟨.row d et (xs.take r), by simp, rfl⟩, r, by rw [setρ_at], fun bv m e1 e2 => ?_⟩
    have e3 : (bl.set b .no ++ [.row d et (xs.take r)])[bl.length]? = some (.row d et (xs.take r)) := by simp
    rw [e3] at e1; injection e1 with e1; subst e1
    have e2 : some (xs.take r).length = some m := e2
    injection e2 with e2
    omega
  exact k g (setρ ρ bl.length (ρ b)) _ _ hg (hA.ext (hx.trans hx1)) (hr2.put t hv) a w (hf.again h1) hst
theorem Rl.hole {g : Gh} {ρ : Env} {own : Own} {fr : Sl} {sl : List (Nat × SV)} {bl : List BV} {w : World} (hr : Rl g ρ ⟨sl, bl⟩ own fr) (hs : St w g own) : Rl g ρ ⟨sl, bl ++ [.hole]⟩ (own ++ [none]) fr ∧ St w g (own ++ [none]) ∧ Ext ρ bl ρ (bl ++ [.hole]) := by
  have hl : own.length = bl.length := hr.len
  have hx : Ext ρ bl ρ (bl ++ [.hole]) := fun b bv e h2 => ⟨rfl, bv, by rw [List.getElem?_append_left (get_lt e)]; exact e, h2, fun m h => h⟩
  refine ⟨hr.turn (.refl g) hx (by simp [hl]) fun i bv k h1 h2 => ?_, hs.addNone, hx⟩
  rcases Nat.lt_or_ge i bl.length with hi | hi
  · rw [List.getElem?_append_left hi] at h1
    rw [List.getElem?_append_left (by omega)] at h2
    exact (hr.blk i bv k h1 h2).ext (.refl g) hx
  · have hi2 := get_lt h1
    simp at hi2
    have : i = bl.length := by omega
    subst this
    simp at h1
    subst h1
    rw [← hl] at h2
    simp at h2
    exact h2.symm
theorem Rl.cutC {g : Gh} {ρ : Env} {own : Own} {fr : Sl} {sl : List (Nat × SV)} {bl : List BV} {w : World} {b r : Nat} {c d : Cd} {et : TypeId} {xs : List d.den} {v : Value} (hr : Rl g ρ ⟨sl, bl⟩ own fr) (hs : St w g own) (hb : bl[b]? = some (.row d et xs)) (hv : RealC g ρ bl (.vw b c 0 r) v) :
    ∃ ρ' own', St w g own' ∧ Rl g ρ' ⟨sl, bl.set b .no ++ [.row d et (xs.take r)]⟩ own' fr ∧ RealC g ρ' (bl.set b .no ++ [.row d et (xs.take r)]) (.own bl.length) v ∧ Ext ρ bl ρ' (bl.set b .no ++ [.row d et (xs.take r)]) ∧ ∀ j, j < bl.length → ρ' j = ρ j := by
  obtain ⟨hkn, rfl, hl⟩ := hv
  have hbl := get_lt hb
  have hl := (hl _ _ hb rfl).2
  have hlr : (xs.take r).length = r := by rw [List.length_take]; omega
  obtain ⟨hr0, hs0, hx0⟩ := hr.hole hs
  have hb1 : (bl ++ [BV.hole])[b]? = some (.row d et xs) := by rw [List.getElem?_append_left hbl]; exact hb
  obtain ⟨k0, hk0, hB⟩ := hr0.own_at hb1
  have hB : Buf g.b d.ty et (.slice (ρ b).1 xs.length (ρ b).2) k0 xs := hB
  have hB := hB.cut r hl
  have hf0 : (bl ++ [BV.hole])[bl.length]? = some .hole := by simp
  have hbf : b ≠ bl.length := by omega
  have hno := hr0.hole_none hf0
  have hst := hs0.move (b := b) (f := bl.length) (k := k0) hk0 hno hbf
  have hx : Ext ρ (bl ++ [BV.hole]) ρ ((bl ++ [BV.hole]).set b .no) := Ext.set_at hb1 rfl fun m hm => by cases hm
  have hr1 := hr0.setB (g' := g) (bv1 := .no) (k := none) (.refl g) hb1 rfl (fun m hm => by cases hm) rfl
  have hf1 : ((bl ++ [BV.hole]).set b .no)[bl.length]? = some .hole := by rw [get_ne hbf]; exact hf0
  have hx1 : Ext ρ ((bl ++ [BV.hole]).set b .no) (setρ ρ bl.length (ρ b)) (((bl ++ [BV.hole]).set b .no).set bl.length (.row d et (xs.take r))) := Ext.set_hole hf1
  have hr2 := hr1.lay (g' := g) (bv := .row d et (xs.take r)) (k := k0) (e := ρ b) (.refl g) hf1 hB
  have e : ((bl ++ [BV.hole]).set b .no).set bl.length (.row d et (xs.take r)) = bl.set b .no ++ [.row d et (xs.take r)] := by
    rw [List.set_append_left _ _ hbl, List.set_append_right _ _ (by simp)]
    simp
  rw [e] at hx1 hr2
  refine ⟨setρ ρ bl.length (ρ b), _, hst, hr2, ?_, hx0.trans (hx.trans hx1), fun j hj => setρ_ne (by omega)⟩
  rw [offA_zero, Nat.sub_zero, Nat.sub_zero]
  refine ⟨⟨.row d et (xs.take r), by simp, rfl⟩, r, by rw [setρ_at], fun bv m e1 e2 => ?_⟩
  have e3 : (bl.set b .no ++ [.row d et (xs.take r)])[bl.length]? = some (.row d et (xs.take r)) := by simp
  rw [e3] at e1; injection e1 with e1; subst e1
  have e2 : some (xs.take r).length = some m := e2
  injection e2 with e2
  omega
end
end Go.Proofs.YtpleflcfaecojaaGreat
