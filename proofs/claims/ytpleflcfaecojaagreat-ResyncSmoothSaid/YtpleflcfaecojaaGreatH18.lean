/-
The third engine, part 18: structures, literals, slices, texts. Conditions: each lemma's own.
-/
import Derived.Test.YtpleflcfaecojaaGreatH17
import Derived.Laws.Tables
namespace Go.Proofs.YtpleflcfaecojaaGreat
set_option linter.unusedVariables false
set_option linter.unusedSimpArgs false
open Go.RowKit
section
variable {P : Program} {n : Nat} {ty : TypeId} {sl : List (Nat × SV)} {bl bl' : List BV} {v : SV} {f : Nat} {g : Gh} {ρ : Env} {own : Own} {fr : Sl}
def tField (P : Program) (sl : List (Nat × SV)) (t : TypeId) (x : Operand) (i : Nat) : Tr := match P.underlying t, evH sl x with
  | some (.struct fs), some (.v (.agg l)) => (match fs[i]? with | some fd => readT P fd.type l fd.offset | none => .no)
  | _, _ => .no
theorem run_part1 {t : TypeId} {cs : List Value} {off : Nat} {u : Value} (hf : flatOf P t = true) (h : cs[off]? = some u) (w : World) : (part t cs.toArray off).run P w = .ok u w := by
  have h1 := run_isAgg_flat hf w
  simp [part, h1, h]
theorem run_partA {t : TypeId} {cs vs : List Value} {off : Nat} (hf : aggOf P t = some vs.length) (h : (cs.drop off).take vs.length = vs) (w : World) : (part t cs.toArray off).run P w = .ok (.agg vs.toArray) w := by
  obtain ⟨h1, h2⟩ := run_isAgg_of hf w
  have e : cs.toArray.extract off (off + vs.length) = vs.toArray := by
    rw [List.extract_toArray, List.extract_eq_take_drop, show off + vs.length - off = vs.length by omega, h]
  simp [part, h1, h2]
  simpa using h
theorem readL_part {t : TypeId} {l : List CV} {off : Nat} {cs : List Value} (h : readL P t l off = some v) (hl : All2 (RealC g ρ bl) l cs) : ∃ u, RealS g ρ bl v u ∧ ∀ w, (part t cs.toArray off).run P w = .ok u w := by
  rcases readL_real h hl with ⟨hf, u, h1, h2⟩ | ⟨vs, h1, h2, h3⟩
  · exact ⟨u, h2, run_part1 hf h1⟩
  · exact ⟨_, h3, run_partA h1 h2⟩
theorem tField_ok {t : TypeId} {x : Operand} {i : Nat} (h : Told f (tField P sl t x i) bl bl' v) : EffH P n (.field t x i) ty sl bl bl' v := by
  unfold tField at h
  split at h
  · rename_i fs l hu ex
    split at h
    · rename_i fd hfd
      obtain ⟨rfl, e⟩ := readT_told h
      refine .of_yld fun g ρ own fr hr => ?_
      obtain ⟨vx, hx1, cs, rfl, hx2⟩ := evH_real hr ex
      obtain ⟨u, h1, h2⟩ := readL_part e hx2
      refine ⟨u, h1, fun o ac w e1 e2 hf hr => ?_⟩
      have : (Instr.field t (.agg cs.toArray) i).run P w = .ok u w := by
        simp only [Instr.field, run_underlying hu, Sem.run_bind, Result.andThen_ok, hfd, asAgg, Sem.run_pure, h2]
      simp [execOp, e1, hf.ev hx1, this]
    · exact h.elim
  · exact h.elim
def fillH (place : Nat → Option (Nat × Nat)) : List CV → List (Nat × List CV) → Option (List CV)
  | cs, [] => some cs
  | cs, (i, v) :: rest => match place i with
    | some (off, size) => cond (Nat.beq v.length size && Nat.ble (off + v.length) cs.length) (fillH place (setRowC cs off v) rest) none
    | none => none
theorem fold_setRow : ∀ (vs : List Value) (k off : Nat) (cells : List Value), ((vs.zipIdx k).foldl (fun cs p => cs.setIfInBounds (off + p.2) p.1) cells.toArray).toList = setRow cells (off + k) vs
  | [], k, off, cells => rfl
  | v :: vs, k, off, cells => by
    rw [List.zipIdx_cons, List.foldl_cons]
    have := fold_setRow vs (k + 1) off (cells.set (off + k) v)
    rw [← List.setIfInBounds_toArray] at this
    rw [this]
    rfl
theorem fill_real {place : Nat → Option (Nat × Nat)} : ∀ {ps : List (Nat × List CV)} {pv : List (Nat × Value)} {l l' : List CV} {cs : List Value}, fillH place l ps = some l' → All2 (RealC g ρ bl) l cs →
    All2 (fun (p : Nat × List CV) (q : Nat × Value) => p.1 = q.1 ∧ ∃ us, q.2.cells = us.toArray ∧ All2 (RealC g ρ bl) p.2 us) ps pv → ∃ cs', Instr.fill place cs.toArray pv = some cs'.toArray ∧ All2 (RealC g ρ bl) l' cs'
  | [], [], l, l', cs, h, hl, _ => by injection h with h; subst h; exact ⟨cs, rfl, hl⟩
  | (i, m) :: ps, (j, u) :: pv, l, l', cs, h, hl, hp => by
    obtain ⟨⟨e, us, h1, h2⟩, hp⟩ := hp
    have e : i = j := e
    subst e
    unfold fillH at h
    split at h
    · rename_i off size hpl
      obtain ⟨hc, h⟩ := condS h
      simp only [Bool.and_eq_true] at hc
      have hc1 := Nat.eq_of_beq_eq_true hc.1
      have hc2 := Nat.le_of_ble_eq_true hc.2
      have h1 : u.cells = us.toArray := h1
      have hus : us.length = size := by rw [← h2.len]; exact hc1
      obtain ⟨cs', h3, h4⟩ := fill_real h (setRowC_real off h2 hl) hp
      refine ⟨cs', ?_, h4⟩
      unfold Instr.fill
      rw [hpl]
      have hn : ¬ ((decide (u.cells.size ≠ size) || decide (off + u.cells.size > cs.toArray.size)) = true) := by
        rw [h1]
        have := hl.len
        have := h2.len
        simp; omega
      simp only []
      rw [if_neg (by simpa using hn)]
      rw [← h3]
      congr 1
      rw [h1]
      have := fold_setRow us 0 off cs
      rw [Nat.add_zero] at this
      apply Array.toList_inj.1
      rw [List.toList_toArray, ← this]
      simp [← Array.foldl_toList]
    · cases h
  | [], _ :: _, _, _, _, _, _, h => h.elim
  | _ :: _, [], _, _, _, _, _, h => h.elim
def partsH (sl : List (Nat × SV)) : List (Nat × Operand) → Option (List (Nat × List CV))
  | [] => some []
  | (i, x) :: l => match evH sl x with
    | some s => (match cellsS s, partsH sl l with | some c, some m => some ((i, c) :: m) | _, _ => none)
    | none => none
theorem partsH_real (hr : Rl g ρ ⟨sl, bl⟩ own fr) : ∀ {l : List (Nat × Operand)} {ps : List (Nat × List CV)}, partsH sl l = some ps → ∃ pv : List (Nat × Value), l.map (fun q => (evS fr q.2).map fun v => (q.1, v)) = pv.map some ∧
    All2 (fun (p : Nat × List CV) (q : Nat × Value) => p.1 = q.1 ∧ ∃ us, q.2.cells = us.toArray ∧ All2 (RealC g ρ bl) p.2 us) ps pv
  | [], ps, h => by injection h with h; subst h; exact ⟨[], rfl, trivial⟩
  | (i, x) :: l, ps, h => by
    unfold partsH at h
    split at h
    · rename_i s hs
      split at h
      · rename_i c m hc hm
        injection h with h; subst h
        obtain ⟨pv, h1, h2⟩ := partsH_real hr hm
        obtain ⟨u, h3, h4⟩ := evH_real hr hs
        obtain ⟨us, h5, h6⟩ := cellsS_real hc h4
        exact ⟨(i, u) :: pv, by rw [List.map_cons, List.map_cons, h1]; simp only [h3]; rfl, ⟨rfl, us, h5, h6⟩, h2⟩
      · cases h
    · cases h
theorem ev_parts {a : Act} {n : Nat} (hf : Fr n a fr) : ∀ {l : List (Nat × Operand)} {pv : List (Nat × Value)}, l.map (fun q => (evS fr q.2).map fun v => (q.1, v)) = pv.map some → l.map (fun q => (q.1, a.eval q.2)) = pv
  | [], [], _ => rfl
  | q :: l, u :: pv, h => by
    simp only [List.map_cons, List.cons.injEq, Option.map_eq_some_iff] at h
    obtain ⟨⟨v, hv, e⟩, h3⟩ := h
    rw [List.map_cons, ev_parts hf h3, hf.ev hv, e]
  | [], _ :: _, h => by simp at h
  | _ :: _, [], h => by simp at h
def builtH (P : Program) (t : TypeId) (ps : List (Nat × List CV)) : Option (List CV) := match P.info? t, P.underlying t with
  | some it, some (.array _ e) => (match it.zero, P.info? e with
    | some z, some ie => (match constL z.cells.toList with | some l => fillH (fun i => some (i * ie.size, ie.size)) l ps | none => none)
    | _, _ => none)
  | some it, some (.struct fields) => (match it.zero, fields.toList.mapM (fun f => (P.info? f.type).map fun i => (f.offset, i.size)) with
    | some z, some places => (match constL z.cells.toList with | some l => fillH (places.toArray[·]?) l ps | none => none)
    | _, _ => none)
  | _, _ => none
theorem builtH_real {t : TypeId} {ps : List (Nat × List CV)} {l : List CV} {pv : List (Nat × Value)} (h : builtH P t ps = some l) (hp : All2 (fun (p : Nat × List CV) (q : Nat × Value) => p.1 = q.1 ∧ ∃ us, q.2.cells = us.toArray ∧ All2 (RealC g ρ bl) p.2 us) ps pv) :
    ∃ cs, P.built t pv = some cs.toArray ∧ All2 (RealC g ρ bl) l cs := by
  unfold builtH at h
  split at h
  · rename_i it k e h1 h2
    split at h
    · rename_i z ie h3 h4
      split at h
      · rename_i l0 hl0
        obtain ⟨cs', h5, h6⟩ := fill_real h (constL_real hl0) hp
        exact ⟨cs', by simp only [Program.built, h1, h2, h3, h4]; simpa using h5, h6⟩
      · cases h
    · cases h
  · rename_i it fields h1 h2
    split at h
    · rename_i z places h3 h4
      split at h
      · rename_i l0 hl0
        obtain ⟨cs', h5, h6⟩ := fill_real h (constL_real hl0) hp
        exact ⟨cs', by simp only [Program.built, h1, h2, h3, h4]; simpa using h5, h6⟩
      · cases h
    · cases h
  · cases h
def tBuild (P : Program) (sl : List (Nat × SV)) (t : TypeId) (parts : List (Nat × Operand)) : Tr := match partsH sl parts with
  | some ps => (match builtH P t ps with | some l => retT (.v (.agg l)) | none => .no)
  | none => .no
theorem tBuild_ok {t : TypeId} {parts : List (Nat × Operand)} (h : Told f (tBuild P sl t parts) bl bl' v) : EffH P n (.build t parts.toArray) ty sl bl bl' v := by
  unfold tBuild at h
  split at h
  · rename_i ps hps
    split at h
    · rename_i l hl
      obtain ⟨rfl, rfl⟩ := told_ret h
      refine .of_yld fun g ρ own fr hr => ?_
      obtain ⟨pv, h1, h2⟩ := partsH_real hr hps
      obtain ⟨cs, h3, h4⟩ := builtH_real hl h2
      refine ⟨.agg cs.toArray, ⟨cs, rfl, h4⟩, fun o ac w e1 e2 hf hr => ?_⟩
      have e3 : (parts.toArray.map fun (q : Nat × Operand) => (q.1, ac.eval q.2)) = pv.toArray := by
        apply Array.toList_inj.1
        rw [Array.toList_map, List.toList_toArray]
        exact ev_parts hf h1
      have e4 : (Instr.build t pv.toArray).run P w = .ok (.agg cs.toArray) w := run_build w t pv.toArray cs.toArray (by simpa using h3)
      simp only [execOp, e1]
      rw [show (parts.toArray.map fun x => match x with | (i, x) => (i, ac.eval x)) = pv.toArray from e3]
      simp [e4]
    · exact h.elim
  · exact h.elim
def rowH (P : Program) (t : TypeId) (len : Nat) (ps : List (Nat × List CV)) : Option (List CV) := match P.underlying t with
  | some (.slice elem) => (match P.info? elem with
    | some i => cond (Nat.ble (len * i.size) 16777216) (match (if len * i.size = 0 then some #[] else i.zero.map Value.cells) with
      | some zero => (match constL ((List.range' 0 (len * i.size)).map (zero[· % zero.size]!)) with
        | some l => fillH (fun j => some (j * i.size, i.size)) l ps
        | none => none)
      | none => none) none
    | none => none)
  | _ => none
theorem rowH_real {t et : TypeId} {len : Nat} {ps : List (Nat × List CV)} {l : List CV} {pv : List (Nat × Value)} (hu : P.underlying t = some (.slice et)) (h : rowH P t len ps = some l) (hp : All2 (fun (p : Nat × List CV) (q : Nat × Value) => p.1 = q.1 ∧ ∃ us, q.2.cells = us.toArray ∧ All2 (RealC g ρ bl) p.2 us) ps pv) :
    ∃ cs, buildRow P t len pv = some (et, cs.toArray) ∧ All2 (RealC g ρ bl) l cs := by
  unfold rowH at h
  rw [hu] at h
  dsimp only at h
  split at h
  · rename_i i h1
    obtain ⟨hb, h⟩ := condS h
    have hb := Nat.le_of_ble_eq_true hb
    split at h
    · rename_i zero hz
      split at h
      · rename_i l0 hl0
        obtain ⟨cs', h5, h6⟩ := fill_real h (constL_real hl0) hp
        refine ⟨cs', ?_, h6⟩
        unfold buildRow
        rw [hu]
        simp only [h1]
        rw [if_neg (by omega)]
        simp only [hz]
        rw [show ((Array.range (len * i.size)).map (zero[· % zero.size]!)) = ((List.range' 0 (len * i.size)).map (zero[· % zero.size]!)).toArray by rw [← Array.toArray_toList (xs := Array.map _ _), Array.toList_map, Array.toList_range, List.range_eq_range'], h5]
        rfl
      · cases h
    · cases h
  · cases h
def encN (c : Cd) : Nat → List CV → (List c.den → Tr) → Tr
  | 0, [], K => K []
  | 0, _ :: _, _ => .no
  | m + 1, l, K => encC c l fun x r => encN c m r fun xs => K (x :: xs)
def EncN (bl : List BV) (c : Cd) : List CV → List c.den → Prop
  | l, [] => l = []
  | l, x :: xs => ∃ m, EncD bl c l x m ∧ EncN bl c m xs
theorem EncN.frz {a b : List BV} (h : FrzTo a b) {c : Cd} : ∀ {xs : List c.den} {l : List CV}, EncN a c l xs → EncN b c l xs
  | [], _, e => e
  | _ :: _, _, ⟨m, h1, h2⟩ => ⟨m, h1.frz h, h2.frz h⟩
theorem encN_told {c : Cd} : ∀ {m : Nat} {l : List CV} {K : List c.den → Tr} {bl : List BV}, Told f (encN c m l K) bl bl' v → ∃ xs bl1, Told f (K xs) bl1 bl' v ∧ FrzTo bl bl1 ∧ EncN bl1 c l xs ∧ xs.length = m
  | 0, [], K, bl, h => ⟨[], bl, h, .refl, rfl, rfl⟩
  | 0, _ :: _, K, bl, h => h.elim
  | m + 1, l, K, bl, h => by
    unfold encN at h
    obtain ⟨x, r, bl1, h2, h3, h4⟩ := encC_told c h
    obtain ⟨xs, bl2, h5, h6, h7, h8⟩ := encN_told h2
    exact ⟨x :: xs, bl2, h5, h3.trans h6, ⟨r, h4.frz h6, h7⟩, by rw [List.length_cons, h8]⟩
theorem EncN.real {c : Cd} (hr : Rl g ρ ⟨sl, bl⟩ own fr) : ∀ {xs : List c.den} {l : List CV} {cs : List Value}, EncN bl c l xs → All2 (RealC g ρ bl) l cs → Reps c.ty g.b cs xs
  | [], l, cs, e, h => by
    have e : l = [] := e
    subst e
    cases cs with
    | nil => rfl
    | cons _ _ => exact h.elim
  | x :: xs, l, cs, ⟨m, h1, h2⟩, h => by
    obtain ⟨c1, c2, e, h3, h4⟩ := h1.real hr c h
    exact ⟨c1, c2, e, h3, h2.real hr h4⟩
def tLit (P : Program) (sl : List (Nat × SV)) (f : Nat) (t : TypeId) (len : Nat) (parts : List (Nat × Operand)) : Tr := match rowOf P t, partsH sl parts with
  | some (c, et, _), some ps => (match rowH P t len ps with
    | some l => encN c len l fun xs => cond (Nat.ble len 140737488355328) (.done ⟨vC (.own f), [], [.row c et xs]⟩) .no
    | none => .no)
  | _, _ => .no
theorem effH_row {op : Op} {c : Cd} {et : TypeId} {xs : List c.den} (hf : bl[f]? = some .hole)
    (h : ∀ g ρ own fr, Rl g ρ ⟨sl, bl⟩ own fr → Eff P n g own fr op ty (fun v' g' own' => ∃ A c' k, v' = .slice A xs.length c' ∧ g = g' ∧ own' = k :: own ∧ Buf g.b c.ty et (.slice A xs.length c') k xs)) :
    EffH P n op ty sl bl (bl.set f (.row c et xs)) (vC (.own f)) := by
  intro o a w Q K g ρ own fr h1 h2 hr hfr hs hk
  refine h g ρ own fr hr o a w Q K h1 h2 hfr hs fun v g' own' w' hg hs' ⟨A, c', k, e1, e2, e3, hb⟩ => ?_
  subst e1; subst e2; subst e3
  have hno := hr.hole_none hf
  have hst : St w' g (own.set f k) := by
    cases k with
    | some k => exact hs'.fill hno
    | none =>
      have : own.set f none = own := set_same hno
      rw [this]
      exact hs'.fewer (by have := hs'.nodup; rwa [Own.ids_cons] at this) fun k hk => List.mem_cons_of_mem _ hk
  have hx : Ext ρ bl (setρ ρ f (A, c')) (bl.set f (.row c et xs)) := Ext.set_hole hf
  refine hk _ g (setρ ρ f (A, c')) _ w' (.refl g) hx hst (hr.lay (bv := .row c et xs) (k := k) (e := (A, c')) (.refl g) hf hb) ⟨known_set (get_lt hf) rfl, _, by rw [setρ_at], fun bv m e1 e2 => ?_⟩
  have e3 : (bl.set f (.row c et xs))[f]? = some (.row c et xs) := by simp [List.getElem?_set, get_lt hf]
  have e1 : (bl.set f (.row c et xs))[f]? = some bv := e1
  rw [e3] at e1; injection e1 with e1
  subst e1
  exact Option.some.inj e2
theorem tLit_ok {t : TypeId} {len : Nat} {parts : List (Nat × Operand)} (hf : bl[f]? = some .hole) (h : Told f (tLit P sl f t len parts) bl bl' v) : EffH P n (.buildSlice t len parts.toArray) ty sl bl bl' v := by
  unfold tLit at h
  split at h
  · rename_i c et by_ ps hrow hps
    obtain ⟨hu, _, _, _⟩ := rowOf_ok hrow
    split at h
    · rename_i l hl
      obtain ⟨xs, bl1, h2, hfz, hen, hlen⟩ := encN_told h
      obtain ⟨hle, h2⟩ := condT h2
      have hle := Nat.le_of_ble_eq_true hle
      obtain ⟨rfl, rfl⟩ := h2
      refine EffH.frz hfz (effH_row (hfz.hole hf) fun g ρ own fr hr => ?_)
      obtain ⟨pv, h3, h4⟩ := partsH_real hr hps
      obtain ⟨cs, h5, h6⟩ := rowH_real hu hl h4
      have hreps := hen.real hr h6
      intro o a w Q K e1 e2 hfr hs hk
      refine e_buildSlice pv cs (by simpa using h3) h5 o a w Q K e1 e2 hfr hs fun v' g' own' w' hg hs' ⟨b, e3, e4, e5⟩ => ?_
      refine hk v' g' own' w' hg hs' ⟨_, _, _, by rw [e3, hlen], e4, e5, ?_⟩
      rw [hlen]
      exact buf_lit hreps hlen hle
    · exact h.elim
  · exact h.elim
end
end Go.Proofs.YtpleflcfaecojaaGreat
