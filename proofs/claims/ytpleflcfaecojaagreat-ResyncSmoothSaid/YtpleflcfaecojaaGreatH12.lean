/-
The third engine, part 12: regions of one order, and the other parts of code. Conditions: each lemma's own.
-/
import Derived.Test.YtpleflcfaecojaaGreatH11
namespace Go.Proofs.YtpleflcfaecojaaGreat
set_option linter.unusedVariables false
set_option linter.unusedSimpArgs false
open Go.RowKit
section
variable {P : Program} {n : Nat} {A : An} {g0 : Gh} {Q : Exit → Act → World → Prop} {K : Act → World → Prop} {sl : List (Nat × SV)} {bl : List BV}
theorem Rl.put {g : Gh} {ρ : Env} {own : Own} {fr : Sl} (h : Rl g ρ ⟨sl, bl⟩ own fr) (d : Nat) {s : SV} {v : Value} (hv : RealS g ρ bl s v) : Rl g ρ ⟨(d, s) :: sl, bl⟩ own ((d, v) :: fr) := by
  refine ⟨h.len, h.blk, fun t sv e => ?_, h.gi⟩
  have e : cond (Nat.beq d t) (some s) (getH sl t) = some sv := e
  show ∃ u, cond (Nat.beq d t) (some v) (getS fr t) = some u ∧ _
  cases hb : Nat.beq d t with
  | true => rw [hb] at e; injection e with e; subst e; exact ⟨v, rfl, hv⟩
  | false => rw [hb] at e; exact h.slot t sv e
theorem SW.split {t : Nat} {b : Bool} (ht : getH sl t = some (vC (.bool b))) (h1 : b = true → SW K n A g0 ⟨(t, vC (.bool true)) :: sl, bl⟩) (h0 : b = false → SW K n A g0 ⟨(t, vC (.bool false)) :: sl, bl⟩) : SW K n A g0 ⟨sl, bl⟩ := by
  intro g ρ own fr hg hA hr
  obtain ⟨v, hv1, hv2⟩ := hr.slot t _ ht
  have hv2 : v = .bool b := hv2
  subst hv2
  exact wpq_split t hv1 (fun e => h1 e g ρ own _ hg hA (hr.put t rfl)) (fun e => h0 e g ρ own _ hg hA (hr.put t rfl))
def holes : Nat → List BV
  | 0 => []
  | m + 1 => .hole :: holes m
theorem SW.holes (m : Nat) (h : SW K n A g0 ⟨sl, bl ++ holes m⟩) : SW K n A g0 ⟨sl, bl⟩ := by
  induction m generalizing bl with
  | zero => simpa [holes] using h
  | succ m ih =>
    have h : SW K n A g0 ⟨sl, (bl ++ [.hole]) ++ Go.Proofs.YtpleflcfaecojaaGreat.holes m⟩ := by simpa [Go.Proofs.YtpleflcfaecojaaGreat.holes] using h
    have h := ih h
    intro g ρ own fr hg hA hr a w hf hs
    have hl : own.length = bl.length := hr.len
    have hx : Ext ρ bl ρ (bl ++ [.hole]) := fun b bv e h2 => ⟨rfl, bv, by rw [List.getElem?_append_left (get_lt e)]; exact e, h2, fun m h => h⟩
    refine h g ρ (own ++ [none]) fr hg (hA.ext hx) (hr.turn (.refl g) hx (by simp [hl]) fun i bv k h1 h2 => ?_) a w hf hs.addNone
    rcases Nat.lt_or_ge i bl.length with hi | hi
    · rw [List.getElem?_append_left hi] at h1
      rw [List.getElem?_append_left (by omega)] at h2
      exact (hr.blk i bv k h1 h2).ext (.refl g) hx
    · have hi2 := get_lt h1
      simp at hi2
      have : i = bl.length := by omega
      subst this
      simp at h1
      subst h1
      rw [← hl] at h2
      simp at h2
      exact h2.symm
end
structure Stp (P : Program) where
  t : List (Nat × SV) → Nat → Op → TypeId → Tr
  m : List (Nat × SV) → Op → Nat
  ok : ∀ {n f : Nat} {sl : List (Nat × SV)} {op : Op} {ty : TypeId} {bl bl' : List BV} {v : SV}, (∀ i, i < m sl op → bl[f + i]? = some .hole) → Told f (t sl f op ty) bl bl' v → EffH P n op ty sl bl bl' v
theorem holes_get : ∀ {m i : Nat}, i < m → (holes m)[i]? = some .hole
  | m + 1, 0, _ => rfl
  | m + 1, i + 1, h => by simpa [holes] using holes_get (m := m) (i := i) (by omega)
theorem holes_at {bl : List BV} {m i : Nat} (h : i < m) : (bl ++ holes m)[bl.length + i]? = some .hole := by
  rw [List.getElem?_append_right (by omega), show bl.length + i - bl.length = i by omega]
  exact holes_get h
def put (n : Nat) (d : Option Nat) (v : SV) (st : HSt) : Option HSt := match d with
  | some d => cond (Nat.blt d n) (some ⟨(d, v) :: st.sl, st.bl⟩) none
  | none => some st
def doOp {P : Program} (S : Stp P) (n : Nat) {ρ : Type} (o : Oper) (st : HSt) (K : HSt → Option ρ) : Option ρ :=
  runT st.bl.length (S.t st.sl st.bl.length o.op o.type) (st.bl ++ holes (S.m st.sl o.op)) fun bl' v => match put n o.dst v ⟨st.sl, bl'⟩ with | some st' => K st' | none => none
def skOp (n : Nat) {ρ : Type} (o : Oper) (st : HSt) (K : HSt → Option ρ) : Option ρ := match o.dst with
  | some d => match Nat.blt d n with | true => K ⟨(d, .und) :: st.sl, st.bl⟩ | false => none
  | none => none
def evOps {P : Program} (S : Stp P) (n : Nat) (ops : Array Oper) {ρ : Type} : Nat → Nat → HSt → (HSt → Option ρ) → Option ρ
  | 0, i, st, K => match Nat.beq ops.size i with | true => K st | false => none
  | f + 1, i, st, K => match ops[i]? with
    | none => none
    | some o => match o.guard with
      | none => doOp S n o st (fun st' => evOps S n ops f (i + 1) st' K)
      | some (j, want) => match dstAt ops j with
        | none => none
        | some t => match getH st.sl t with
          | some (.v (.c (.bool b))) => cnd b
              (match want with | true => doOp S n o ⟨(t, vC (.bool true)) :: st.sl, st.bl⟩ (fun st' => evOps S n ops f (i + 1) st' K) | false => skOp n o ⟨(t, vC (.bool true)) :: st.sl, st.bl⟩ (fun st' => evOps S n ops f (i + 1) st' K))
              (match want with | true => skOp n o ⟨(t, vC (.bool false)) :: st.sl, st.bl⟩ (fun st' => evOps S n ops f (i + 1) st' K) | false => doOp S n o ⟨(t, vC (.bool false)) :: st.sl, st.bl⟩ (fun st' => evOps S n ops f (i + 1) st' K))
          | some .und => skOp n o st (fun st' => evOps S n ops f (i + 1) st' K)
          | _ => none
section
variable {P : Program} {S : Stp P} {n : Nat} {A : An} {g0 : Gh} {Q : Exit → Act → World → Prop} {ops : Array Oper} {ρ : Type} {r : ρ}
theorem doOp_ok {o : Oper} {i : Nat} {st : HSt} {K : HSt → Option ρ} (ho : ops[i]? = some o) (hw : ∀ g ρ own fr bl a, Rl g ρ ⟨st.sl, bl⟩ own fr → Fr n a fr → Region.wanted o (yielded ops a.tmps) = true)
    (h : doOp S n o st K = some r) (hK : ∀ st', K st' = some r → SW (wpOps P ops Q (List.range' (i + 1) (ops.size - (i + 1)))) n A g0 st') : SW (wpOps P ops Q (List.range' i (ops.size - i))) n A g0 st := by
  obtain ⟨bl', v, h1, h2⟩ := runT_told h
  have he := S.ok (n := n) (fun i hi => holes_at hi) h1
  refine SW.holes (S.m st.sl o.op) ?_
  split at h2
  · rename_i st' hp
    have hsw := hK st' h2
    intro g ρ own fr hg hA hr a w hf hs
    rw [range_step ho]
    simp only [wpOps, ho, hw g ρ own fr _ a hr hf, if_true]
    refine .inl (he o a w Q _ g ρ own fr rfl rfl hr hf hs fun v' g' ρ' own' w' hg' hx hs' hr' hv' => ?_)
    unfold put at hp
    split at hp
    · rename_i d hd
      obtain ⟨hdn, hp⟩ := condS hp
      injection hp with hp; subst hp
      have hdn : d < n := by simpa using hdn
      rw [hd]
      exact hsw g' ρ' own' ((d, v') :: fr) (hg.trans hg') (hA.ext hx) (hr'.put d hv') _ w' (hf.put hdn v') hs'
    · rename_i hd
      injection hp with hp; subst hp
      rw [hd]
      exact hsw g' ρ' own' fr (hg.trans hg') (hA.ext hx) hr' a w' hf hs'
  · cases h2
theorem skOp_ok {o : Oper} {i : Nat} {st : HSt} {K : HSt → Option ρ} (ho : ops[i]? = some o) (hw : ∀ g ρ own fr bl a, Rl g ρ ⟨st.sl, bl⟩ own fr → Fr n a fr → Region.wanted o (yielded ops a.tmps) = false)
    (h : skOp n o st K = some r) (hK : ∀ st', K st' = some r → SW (wpOps P ops Q (List.range' (i + 1) (ops.size - (i + 1)))) n A g0 st') : SW (wpOps P ops Q (List.range' i (ops.size - i))) n A g0 st := by
  unfold skOp at h
  split at h
  · rename_i d hd
    split at h
    case h_2 => cases h
    rename_i hdn
    have hdn : d < n := by simpa using hdn
    have hsw := hK _ h
    intro g ρ own fr hg hA hr a w hf hs
    rw [range_step ho]
    simp only [wpOps, ho, hw g ρ own fr _ a hr hf, Bool.false_eq_true, if_false, hd]
    exact hsw g ρ own ((d, undef) :: fr) hg hA (hr.put d rfl) _ w (hf.put hdn _) hs
  · cases h
theorem wanted_at {o : Oper} {j t : Nat} {want b : Bool} {sl : List (Nat × SV)} (hg : o.guard = some (j, want)) (hj : dstAt ops j = some t) (hb : getH sl t = some (vC (.bool b))) {g : Gh} {ρ : Env} {own : Own} {fr : Sl} {bl : List BV} {a : Act}
    (hr : Rl g ρ ⟨sl, bl⟩ own fr) (hf : Fr n a fr) : Region.wanted o (yielded ops a.tmps) = (b == want) := by
  obtain ⟨v, h1, h2⟩ := hr.slot t _ hb
  have h2 : v = .bool b := h2
  subst h2
  simp [Region.wanted, hg, yielded_of hf hj h1]
theorem getH_top {t : Nat} {v : SV} {l : List (Nat × SV)} : getH ((t, v) :: l) t = some v := by simp [getH]
theorem wanted_und {o : Oper} {j t : Nat} {want : Bool} {sl : List (Nat × SV)} (hg : o.guard = some (j, want)) (hj : dstAt ops j = some t) (hb : getH sl t = some .und) {g : Gh} {ρ : Env} {own : Own} {fr : Sl} {bl : List BV} {a : Act}
    (hr : Rl g ρ ⟨sl, bl⟩ own fr) (hf : Fr n a fr) : Region.wanted o (yielded ops a.tmps) = false := by
  obtain ⟨v, h1, h2⟩ := hr.slot t _ hb
  have h2 : v = undef := h2
  subst h2
  have h3 := hf.at_ t _ h1
  have : yielded ops a.tmps j = none := by
    unfold dstAt at hj
    unfold yielded
    rw [hj]
    simp [h3, undef]
  simp [Region.wanted, hg, this]
theorem cnd_cases {α : Type} {b : Bool} {x y : Option α} {r : α} (h : cnd b x y = some r) : (b = true ∧ x = some r) ∨ (b = false ∧ y = some r) := by
  cases b
  · exact .inr ⟨rfl, h⟩
  · exact .inl ⟨rfl, h⟩
theorem evOps_ok {K : HSt → Option ρ} (hK : ∀ st', K st' = some r → SW (Q .normal) n A g0 st') : ∀ {f i : Nat} {st : HSt}, evOps S n ops f i st K = some r → SW (wpOps P ops Q (List.range' i (ops.size - i))) n A g0 st
  | 0, i, st, h => by
    unfold evOps at h
    split at h
    case h_2 => cases h
    rename_i e
    have e := Nat.eq_of_beq_eq_true e
    have := hK st h
    rw [e, Nat.sub_self]
    exact this
  | f + 1, i, st, h => by
    unfold evOps at h
    split at h
    · cases h
    · rename_i o ho
      split at h
      · rename_i hg
        exact doOp_ok ho (fun g ρ own fr bl a hr hf => by simp [Region.wanted, hg]) h fun st' h' => evOps_ok hK h'
      · rename_i j want hg
        split at h
        · cases h
        · rename_i t hj
          split at h
          · rename_i b hb
            obtain ⟨sl, bl⟩ := st
            refine SW.split hb (fun e => ?_) (fun e => ?_)
            · subst e
              rcases cnd_cases (h : cnd true _ _ = _) with ⟨_, h⟩ | ⟨e, _⟩
              · split at h
                · exact doOp_ok ho (fun g ρ own fr bl a hr hf => by rw [wanted_at hg hj getH_top hr hf]; rfl) h fun st' h' => evOps_ok hK h'
                · exact skOp_ok ho (fun g ρ own fr bl a hr hf => by rw [wanted_at hg hj getH_top hr hf]; rfl) h fun st' h' => evOps_ok hK h'
              · cases e
            · subst e
              rcases cnd_cases (h : cnd false _ _ = _) with ⟨e, _⟩ | ⟨_, h⟩
              · cases e
              · split at h
                · exact skOp_ok ho (fun g ρ own fr bl a hr hf => by rw [wanted_at hg hj getH_top hr hf]; rfl) h fun st' h' => evOps_ok hK h'
                · exact doOp_ok ho (fun g ρ own fr bl a hr hf => by rw [wanted_at hg hj getH_top hr hf]; rfl) h fun st' h' => evOps_ok hK h'
          · rename_i hb
            exact skOp_ok ho (fun g ρ own fr bl a hr hf => wanted_und hg hj hb hr hf) h fun st' h' => evOps_ok hK h'
          · cases h
end
end Go.Proofs.YtpleflcfaecojaaGreat
