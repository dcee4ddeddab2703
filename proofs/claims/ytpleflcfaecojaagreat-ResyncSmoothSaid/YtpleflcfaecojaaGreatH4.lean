/-
The third engine, part 4: operations that read, write and make blocks. Conditions: each lemma's own.
-/
import Derived.Test.YtpleflcfaecojaaGreatH3
namespace Go.Proofs.YtpleflcfaecojaaGreat
set_option linter.unusedVariables false
set_option linter.unusedSimpArgs false
open Go.RowKit
def readL (P : Program) (t : TypeId) (l : List CV) (off : Nat) : Option SV := match flatOf P t with
  | true => match l[off]? with | some c => some (vC c) | none => none
  | false => match aggOf P t with
    | some m => cond (Nat.ble (off + m) l.length) (some (.v (.agg ((l.drop off).take m)))) none
    | none => none
def readT (P : Program) (t : TypeId) (l : List CV) (off : Nat) : Tr := match readL P t l off with | some v => retT v | none => .no
def tLoad (P : Program) (sl : List (Nat × SV)) (t : TypeId) (x : Operand) : Tr := match evH sl x with
  | some (.v (.c (.ptr b off))) => .need b fun | .cells _ l => readT P t l off | .lent l => readT P t l off | _ => .no
  | some (.v (.c (.el c x off))) => readT P t (c.cv x) off
  | some (.v (.c (.eo b c i off))) => .need b fun
    | .row c' _ xs => (match c'.same c with | some _ => readT P t (c'.cv (xs.getD i c'.dflt)) off | none => .no)
    | .fz c' xs => (match c'.same c with | some _ => readT P t (c'.cv (xs.getD i c'.dflt)) off | none => .no)
    | _ => .no
  | _ => .no
section
variable {P : Program} {n : Nat} {ty : TypeId} {sl : List (Nat × SV)} {bl bl' : List BV} {v : SV} {f : Nat} {g : Gh} {ρ : Env} {own : Own} {fr : Sl}
theorem readT_told {t : TypeId} {l : List CV} {off : Nat} (h : Told f (readT P t l off) bl bl' v) : bl' = bl ∧ readL P t l off = some v := by
  unfold readT at h
  split at h
  · rename_i u e
    obtain ⟨h1, rfl⟩ := told_ret h
    exact ⟨h1, e⟩
  · exact h.elim
theorem readL_real {t : TypeId} {l : List CV} {off : Nat} {cs : List Value} (h : readL P t l off = some v) (hl : All2 (RealC g ρ bl) l cs) :
    (flatOf P t = true ∧ ∃ u, cs[off]? = some u ∧ RealS g ρ bl v u) ∨ ∃ vs, aggOf P t = some vs.length ∧ (cs.drop off).take vs.length = vs ∧ RealS g ρ bl v (.agg vs.toArray) := by
  unfold readL at h
  split at h
  · rename_i hf
    split at h
    · rename_i c e
      injection h with h; subst h
      obtain ⟨u, h1, h2⟩ := hl.get e
      exact .inl ⟨hf, u, h1, h2⟩
    · cases h
  · split at h
    · rename_i m hm
      cases e : Nat.ble (off + m) l.length with
      | false => rw [e] at h; cases h
      | true =>
        rw [e] at h
        injection h with h; subst h
        have hle := Nat.le_of_ble_eq_true e
        rw [hl.len] at hle
        have hlen : ((cs.drop off).take m).length = m := by rw [List.length_take, List.length_drop]; omega
        exact .inr ⟨(cs.drop off).take m, by rw [hlen]; exact hm, by rw [hlen], _, rfl, (hl.drop off).take m⟩
    · cases h
theorem load_own {t : TypeId} {x : Operand} {i b off : Nat} {k : Bk} {l : List CV} (hx : evS fr x = some (.pointer (some ⟨b, off, none⟩))) (hi : own[i]? = some (some k)) (hg : k.g = b) (h : readL P t l off = some v) (hl : All2 (RealC g ρ bl) l k.cs) :
    ∃ u, RealS g ρ bl v u ∧ Yld P n g.r own fr (.load t x) ty u := by
  rcases readL_real h hl with ⟨hf, u, h1, h2⟩ | ⟨vs, h1, h2, h3⟩
  · exact ⟨u, h2, y_load1 hx hi hg hf h1⟩
  · exact ⟨_, h3, y_loadA hx hi hg h1 h2⟩
theorem load_row {t : TypeId} {x : Operand} {i b o m off : Nat} {k : Bk} {l : List CV} {cs : List Value} (hx : evS fr x = some (.pointer (some ⟨b, o + off, none⟩))) (hi : own[i]? = some (some k)) (hg : k.g = b) (h : readL P t l off = some v) (hc : (k.cs.drop o).take m = cs) (hl : All2 (RealC g ρ bl) l cs) :
    ∃ u, RealS g ρ bl v u ∧ Yld P n g.r own fr (.load t x) ty u := by
  rcases readL_real h hl with ⟨hf, u, h1, h2⟩ | ⟨vs, h1, h2, h3⟩
  · refine ⟨u, h2, y_load1 hx hi hg hf ?_⟩
    rw [← hc] at h1
    exact take_drop_get h1
  · refine ⟨_, h3, y_loadA hx hi hg h1 ?_⟩
    have hle : vs.length ≤ ((cs.drop off).take vs.length).length := by rw [h2]; exact Nat.le_refl _
    subst hc
    have e1 : ((List.take m (List.drop o k.cs)).drop off).take vs.length = (List.drop (o + off) k.cs).take (min vs.length (m - off)) := by
      rw [List.drop_take, List.take_take, List.drop_drop]
    rw [List.length_take, List.length_drop, List.length_take] at hle
    have e2 : min vs.length (m - off) = vs.length := by omega
    rw [e1, e2] at h2
    exact h2
theorem load_cells {t : TypeId} {x : Operand} {a : Addr} {off : Nat} {l : List CV} {cs : List Value} (hx : evS fr x = some (.pointer (some (a.add off)))) (hc : Cells g.r a cs) (h : readL P t l off = some v) (hl : All2 (RealC g ρ bl) l cs) :
    ∃ u, RealS g ρ bl v u ∧ Yld P n g.r own fr (.load t x) ty u := by
  rcases readL_real h hl with ⟨hf, u, h1, h2⟩ | ⟨vs, h1, h2, h3⟩
  · exact ⟨u, h2, y_loadP1 off hx hc hf h1⟩
  · exact ⟨_, h3, y_loadPA off hx hc h1 h2⟩
theorem Rl.own_at {bv : BV} {i : Nat} (h : Rl g ρ ⟨sl, bl⟩ own fr) (hi : bl[i]? = some bv) : ∃ k, own[i]? = some k ∧ BlkR g ρ bl k (ρ i) bv := by
  have hlt : i < own.length := by rw [h.len]; exact (List.getElem?_eq_some_iff.1 hi).1
  exact ⟨own[i], List.getElem?_eq_getElem hlt, h.blk i bv _ hi (List.getElem?_eq_getElem hlt)⟩
theorem tLoad_ok {t : TypeId} {x : Operand} (h : Told f (tLoad P sl t x) bl bl' v) : EffH P n (.load t x) ty sl bl bl' v := by
  unfold tLoad at h
  split at h
  · rename_i b off ex
    obtain ⟨bv, hb, h⟩ := h
    dsimp only at h
    split at h
    · rename_i t0 l
      obtain ⟨rfl, e⟩ := readT_told h
      refine .of_yld fun g ρ own fr hr => ?_
      obtain ⟨w, h1, h2⟩ := evH_real hr ex
      obtain ⟨_, a, ha, rfl⟩ := h2
      obtain ⟨k, hk, b0, cs, rfl, h4, h5⟩ := hr.own_at hb
      rw [ha] at h4; injection h4 with h4; subst h4
      rw [addr_add, Nat.zero_add] at h1
      exact load_own h1 hk rfl e h5
    · rename_i l
      obtain ⟨rfl, e⟩ := readT_told h
      refine .of_yld fun g ρ own fr hr => ?_
      obtain ⟨w, h1, h2⟩ := evH_real hr ex
      obtain ⟨_, a, ha, rfl⟩ := h2
      obtain ⟨k, hk, rfl, a', cs, h4, h5, h6⟩ := hr.own_at hb
      rw [ha] at h4; injection h4 with h4; subst h4
      exact load_cells h1 h5 e h6
    · exact h.elim
  · rename_i c x0 off ex
    obtain ⟨rfl, e⟩ := readT_told h
    refine .of_yld fun g ρ own fr hr => ?_
    obtain ⟨w, h1, a, cs, rfl, h3, h4⟩ := evH_real hr ex
    exact load_cells h1 h3 e (c.cv_real h4)
  · rename_i b c i off ex
    obtain ⟨bv, hb, h⟩ := h
    dsimp only at h
    split at h
    · rename_i c' et xs
      split at h
      · rename_i hs _
        obtain ⟨hs⟩ := hs
        subst hs
        obtain ⟨rfl, e⟩ := readT_told h
        refine .of_yld fun g ρ own fr hr => ?_
        obtain ⟨w, h1, h2⟩ := evH_real hr ex
        obtain ⟨_, a, ha, rfl, hlt⟩ := h2
        have hlt := hlt _ _ hb rfl
        obtain ⟨k, hk, hbuf⟩ := hr.own_at hb
        obtain ⟨kb, cs, h4, rfl, h5, h6⟩ := Buf.open_ hbuf hlt c'.dflt
        rw [ha] at h4; injection h4 with h4; subst h4
        rw [addr_add, Nat.zero_add] at h1
        rw [c'.ty_n] at h6
        exact load_row h1 hk rfl e h6 (c'.cv_real h5)
      · exact h.elim
    · rename_i c' xs
      split at h
      · rename_i hs _
        obtain ⟨hs⟩ := hs
        subst hs
        obtain ⟨rfl, e⟩ := readT_told h
        refine .of_yld fun g ρ own fr hr => ?_
        obtain ⟨w, h1, h2⟩ := evH_real hr ex
        obtain ⟨_, a, ha, rfl, hlt⟩ := h2
        have hlt := hlt _ _ hb rfl
        obtain ⟨k, hk, rfl, harr⟩ := hr.own_at hb
        have hx : xs[i]? = some (xs.getD i c'.dflt) := by rw [List.getD_eq_getElem?_getD, List.getElem?_eq_getElem hlt]; rfl
        obtain ⟨ad, cs, h4, h5, h6⟩ := harr.at_ hx
        rw [ha] at h4; injection h4 with h4; subst h4
        rw [← add_add] at h1
        rw [c'.ty_n] at h6
        exact load_cells h1 (h6.mono g.br) e (c'.cv_real h5)
      · exact h.elim
    · exact h.elim
  · exact h.elim
def fieldOff (P : Program) (t : TypeId) (i : Nat) : Option Nat := match P.underlying t with
  | some (.struct fs) => match fs[i]? with
    | some fd => match cellsOfT P fd.type with | some m => cond (Nat.beq m 0) none (some fd.offset) | none => none
    | none => none
  | _ => none
theorem add_off (a : Addr) (i j : Nat) : (a.add i).add j = a.add (i + j) := add_add a i j
theorem y_fieldA {t : TypeId} {x : Operand} {i o : Nat} {a : Addr} {p : Psi} (hx : evS fr x = some (.pointer (some a))) (h : fieldOff P t i = some o) : Yld P n p own fr (.fieldAddr t x i) ty (.pointer (some (a.add o))) := by
  intro op ac w h1 h2 hf hr
  unfold fieldOff at h
  split at h
  · rename_i fs hu
    split at h
    · rename_i fd hfd
      split at h
      · rename_i m hm
        cases e : Nat.beq m 0 with
        | true => rw [e] at h; cases h
        | false =>
          rw [e] at h
          injection h with h; subst h
          have hm0 : ¬ m = 0 := fun h0 => by subst h0; simp at e
          have : (Instr.fieldAt t (.pointer (some a)) i).run P w = .ok (.pointer (some (a.add fd.offset))) w := by
            simp only [Instr.fieldAt, run_underlying hu, Sem.run_bind, Sem.run_pure, Result.andThen_ok, Instr.sureAddr, hfd, fieldPlace, run_sizeOf_of hm, if_neg hm0]
          simp [execOp, h1, hf.ev hx, this]
      · cases h
    · cases h
  · cases h
def tFieldA (P : Program) (sl : List (Nat × SV)) (t : TypeId) (x : Operand) (i : Nat) : Tr := match fieldOff P t i with
  | some o => (match evH sl x with
    | some (.v (.c (.ptr b off))) => retT (vC (.ptr b (off + o)))
    | some (.v (.c (.el c x off))) => retT (vC (.el c x (off + o)))
    | some (.v (.c (.eo b c i off))) => retT (vC (.eo b c i (off + o)))
    | _ => .no)
  | none => .no
theorem tFieldA_ok {t : TypeId} {x : Operand} {i : Nat} (h : Told f (tFieldA P sl t x i) bl bl' v) : EffH P n (.fieldAddr t x i) ty sl bl bl' v := by
  unfold tFieldA at h
  split at h
  · rename_i o ho
    split at h
    · rename_i b off ex
      obtain ⟨rfl, rfl⟩ := told_ret h
      refine .of_yld fun g ρ own fr hr => ?_
      obtain ⟨w, h1, hk, a, ha, rfl⟩ := evH_real hr ex
      exact ⟨_, ⟨hk, a, ha, by rw [← add_off]⟩, y_fieldA h1 ho⟩
    · rename_i c x0 off ex
      obtain ⟨rfl, rfl⟩ := told_ret h
      refine .of_yld fun g ρ own fr hr => ?_
      obtain ⟨w, h1, a, cs, rfl, h3, h4⟩ := evH_real hr ex
      exact ⟨_, ⟨a, cs, by rw [← add_off], h3, h4⟩, y_fieldA h1 ho⟩
    · rename_i b c j off ex
      obtain ⟨rfl, rfl⟩ := told_ret h
      refine .of_yld fun g ρ own fr hr => ?_
      obtain ⟨w, h1, hk, a, ha, rfl, hl⟩ := evH_real hr ex
      exact ⟨_, ⟨hk, a, ha, by rw [add_off, Nat.add_assoc], hl⟩, y_fieldA h1 ho⟩
    · exact h.elim
  · exact h.elim
end
end Go.Proofs.YtpleflcfaecojaaGreat
