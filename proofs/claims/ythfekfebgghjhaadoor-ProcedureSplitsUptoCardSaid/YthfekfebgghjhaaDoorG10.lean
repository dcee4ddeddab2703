/-
The second engine, part 10: maps of one's own whose keys are bytes and whose elements are slices. Conditions: each lemma's own.
-/
import Derived.Test.YthfekfebgghjhaaDoorG9
import Derived.MapKept
namespace Go.Proofs.YthfekfebgghjhaaDoor
set_option linter.unusedVariables false
set_option linter.unusedSimpArgs false
open Go.RowKit Go.WideShapes Go.ChangeShapes Go.Deep
def mapPut {α : Type} : List (Int × α) → Int → α → List (Int × α)
  | [], k, v => [(k, v)]
  | x :: l, k, v => cond (k == x.1) ((k, v) :: l) (x :: mapPut l k v)
def mapGet {α : Type} (d : α) : List (Int × α) → Int → α
  | [], _ => d
  | x :: l, k => cond (k == x.1) x.2 (mapGet d l k)
def mapEnts : List Value → Nat → List MapEntry
  | k :: v :: l, i => ⟨k, v, i⟩ :: mapEnts l (i + 1)
  | _, _ => []
def mapB (cs : List Value) : BkT := .mp (mapEnts cs 0).toArray (cs.length / 2)
section
variable {α : Type} {T : Ty α} {p q : Psi}
def ElS (T : Ty α) (p : Psi) (v : Value) (y : List α) : Prop := ∃ A c, v = .slice A y.length c ∧ Arr p T A c y
def MReps (T : Ty α) (p : Psi) : List Value → List (Int × List α) → Prop
  | [], [] => True
  | k :: v :: cs, x :: xs => k = .int .u8 x.1 ∧ ElS T p v x.2 ∧ MReps T p cs xs
  | _, _ => False
theorem ElS.mono {v : Value} {y : List α} (h : ElS T p v y) (hl : p.le q) : ElS T q v y := by
  obtain ⟨A, c, e, f⟩ := h
  exact ⟨A, c, e, f.mono hl⟩
theorem MReps.mono (hl : p.le q) : ∀ {cs : List Value} {xs : List (Int × List α)}, MReps T p cs xs → MReps T q cs xs
  | [], [], _ => trivial
  | [], _ :: _, h => h.elim
  | [_], _, h => h.elim
  | k :: v :: cs, [], h => h.elim
  | k :: v :: cs, x :: xs, h => ⟨h.1, h.2.1.mono hl, MReps.mono hl h.2.2⟩
/-- the entry k of one's own is the map v, which holds xs -/
def MBuf (p : Psi) (T : Ty α) (v : Value) (k : Option Bk) (xs : List (Int × List α)) : Prop := ∃ b cs, v = .map (some b) ∧ k = some ⟨b, mapB cs, []⟩ ∧ MReps T p cs xs
theorem MBuf.mono {v : Value} {k : Option Bk} {xs : List (Int × List α)} (h : MBuf p T v k xs) (hl : p.le q) : MBuf q T v k xs := by
  obtain ⟨b, cs, h1, h2, h3⟩ := h
  exact ⟨b, cs, h1, h2, h3.mono hl⟩
theorem MReps.even : ∀ {cs : List Value} {xs : List (Int × List α)}, MReps T p cs xs → cs.length = 2 * xs.length
  | [], [], _ => rfl
  | [], _ :: _, h => h.elim
  | [_], _, h => h.elim
  | k :: v :: cs, [], h => h.elim
  | k :: v :: cs, x :: xs, h => by
    have := MReps.even h.2.2
    simp only [List.length_cons]
    omega
theorem ents_app {k u : Value} : ∀ {cs : List Value} {xs : List (Int × List α)} (j : Nat), MReps T p cs xs → mapEnts (cs ++ [k, u]) j = mapEnts cs j ++ [⟨k, u, j + cs.length / 2⟩]
  | [], [], j, _ => rfl
  | [], _ :: _, _, h => h.elim
  | [_], _, _, h => h.elim
  | k' :: v :: cs, [], _, h => h.elim
  | k' :: v :: cs, x :: xs, j, h => by
    have ih := ents_app (k := k) (u := u) (j + 1) h.2.2
    show ⟨k', v, j⟩ :: mapEnts (cs ++ [k, u]) (j + 1) = ⟨k', v, j⟩ :: (mapEnts cs (j + 1) ++ _)
    rw [ih]
    have : j + 1 + cs.length / 2 = j + (k' :: v :: cs).length / 2 := by simp only [List.length_cons]; omega
    rw [this]
theorem find_ents (kk : Int) : ∀ (cs : List Value) (xs : List (Int × List α)) (j i : Nat), MReps T p cs xs →
    (∃ m v b, Instr.findNow (.int .u8) (.int .u8 kk) (mapEnts cs j) i = some (some (i + m, v)) ∧ (mapEnts cs j)[m]? = some ⟨.int .u8 kk, v, b⟩ ∧ ElS T p v (mapGet [] xs kk) ∧
      ∀ u y, ElS T p u y → ∃ cs', (mapEnts cs j).modify m (fun e => { e with key := .int .u8 kk, val := u }) = mapEnts cs' j ∧ cs'.length = cs.length ∧ MReps T p cs' (mapPut xs kk y)) ∨
    (Instr.findNow (.int .u8) (.int .u8 kk) (mapEnts cs j) i = some none ∧ mapGet [] xs kk = [] ∧ ∀ u y, ElS T p u y → MReps T p (cs ++ [.int .u8 kk, u]) (mapPut xs kk y))
  | [], [], j, i, _ => .inr ⟨rfl, rfl, fun u y h => ⟨rfl, h, trivial⟩⟩
  | [], _ :: _, _, _, h => h.elim
  | [_], _, _, _, h => h.elim
  | _ :: _ :: _, [], _, _, h => h.elim
  | k :: v :: cs, x :: xs, j, i, h => by
    obtain ⟨rfl, h2, h3⟩ := h
    by_cases he : kk = x.1
    · subst he
      have e1 : (x.1 == x.1) = true := by simp
      refine .inl ⟨0, v, j, ?_, rfl, ?_, fun u y hu => ⟨.int .u8 x.1 :: u :: cs, rfl, rfl, ?_⟩⟩
      · simp [mapEnts, Instr.findNow, Instr.sameNow]
      · show ElS T p v (cond (x.1 == x.1) x.2 _)
        rw [e1]; exact h2
      · show MReps T p _ (cond (x.1 == x.1) _ _)
        rw [e1]; exact ⟨rfl, hu, h3⟩
    · have e1 : (kk == x.1) = false := by simpa using he
      have hf : Instr.findNow (.int .u8) (.int .u8 kk) (mapEnts (.int .u8 x.1 :: v :: cs) j) i = Instr.findNow (.int .u8) (.int .u8 kk) (mapEnts cs (j + 1)) (i + 1) := by
        show (match Instr.sameNow (.int .u8) (.int .u8 kk) (.int .u8 x.1) with | some true => _ | some false => _ | none => _) = _
        have : Instr.sameNow (.int .u8) (.int .u8 kk) (.int .u8 x.1) = some false := by simp [Instr.sameNow, he]
        rw [this]
      have hg : mapGet [] (x :: xs) kk = mapGet [] xs kk := by
        show cond (kk == x.1) _ _ = _
        rw [e1]; rfl
      have hp : ∀ y, mapPut (x :: xs) kk y = x :: mapPut xs kk y := fun y => by
        show cond (kk == x.1) _ _ = _
        rw [e1]; rfl
      rw [hf, hg]
      rcases find_ents kk cs xs (j + 1) (i + 1) h3 with ⟨m, w, b, q1, q2, q3, q4⟩ | ⟨q1, q2, q3⟩
      · refine .inl ⟨m + 1, w, b, by rw [q1]; congr 3; omega, q2, q3, fun u y hu => ?_⟩
        obtain ⟨cs', c1, c2, c3⟩ := q4 u y hu
        refine ⟨.int .u8 x.1 :: v :: cs', ?_, by simp only [List.length_cons]; omega, by rw [hp]; exact ⟨rfl, h2, c3⟩⟩
        show ⟨.int .u8 x.1, v, j⟩ :: (mapEnts cs (j + 1)).modify m _ = ⟨.int .u8 x.1, v, j⟩ :: mapEnts cs' (j + 1)
        rw [c1]
      · exact .inr ⟨q1, q2, fun u y hu => by rw [hp]; exact ⟨rfl, h2, q3 u y hu⟩⟩
end
/-- what came in at a slice's type, with its size -/
theorem opens_sized {P : Program} {t e : TypeId} {α : Type} {T : Ty α} {ok : α → Prop} (m : Nat) (hm : P.bytesOf e = m) (he : Opens P e T ok) (ht : P.underlying t = some (.slice e)) (hc : P.cellsOf e = T.n) (hb : Nat.blt 0 (P.bytesOf e) = true) : Opens P t (tyArr T) (fun xs => xs.length * m ≤ 140737488351232 ∧ ∀ x ∈ xs, ok x) := by
  intro H enc w base spare held fuel cs d pl h hw
  obtain ⟨xs, hr, hk⟩ := opens_slice he ht hc hb h hw
  refine ⟨xs, hr, ?_, hk⟩
  obtain ⟨A, c, rfl, hA⟩ := hr
  rcases open_slice ht h with ⟨h1, _⟩ | ⟨a, len, cap, k, n, D, Pl, h1, hbs, hl, hmm, hmk, hx, hi⟩
  · simp only [List.cons.injEq, Value.slice.injEq, and_true] at h1
    rw [h1.2.1]; omega
  · simp only [List.cons.injEq, Value.slice.injEq, and_true] at h1
    obtain ⟨_, h2, _⟩ := h1
    have hlm : len ≤ k := by rw [hmk]; split <;> omega
    injection hx with hd _
    subst hd
    simp only [DataW.weights, ht] at hw
    have := hw _ (List.mem_cons_self ..)
    simp only [List.length_map, List.length_range, reachBytes] at this
    rw [h2, ← hm]
    have h3 : len * P.bytesOf e ≤ (len + (k - len)) * P.bytesOf e := Nat.mul_le_mul_right _ (by omega)
    omega
theorem St.allocK {w : World} {g : Gh} {own : Own} (h : St w g own) (k : Bk) (hk0 : k.g = w.heap.size) : St (w.alloc k.obj) g (some k :: own) := by
  refine ⟨⟨h.r.os, h.r.tape, h.r.out, fun b o e => ?_⟩, ?_, ?_, ?_⟩
  · have h1 := h.r.m b o e
    have hlt : b < w.heap.size := by
      rcases Nat.lt_or_ge b w.heap.size with h2 | h2
      · exact h2
      · rw [Array.getElem?_eq_none h2] at h1; cases h1
    rw [Below.heap_alloc _ _ _ hlt]; exact h1
  · simp only [Own.ids, List.filterMap_cons, Option.map_some, List.nodup_cons]
    refine ⟨fun hm => ?_, h.nodup⟩
    obtain ⟨k', hk, e⟩ := Own.of_ids hm
    have := h.has.lt hk
    omega
  · intro k' hk
    rcases List.mem_cons.1 hk with e | hk
    · injection e with e; subst e
      rw [hk0]
      show (w.heap.push _)[w.heap.size]? = _
      simp
    · rw [Below.heap_alloc _ _ _ (h.has.lt hk)]; exact h.has k' hk
  · intro k' hk
    rcases List.mem_cons.1 hk with e | hk
    · injection e with e; subst e
      rw [hk0]
      exact h.r.lt (Nat.le_refl _)
    · exact h.free k' hk
section
variable {P : Program} {n : Nat} {g : Gh} {own : Own} {sl : Sl} {ty : TypeId} {op : Op} {α : Type} {T : Ty α}
def mkMapC (op : Op) : Bool := match op with
  | .makeMap _ none => true
  | _ => false
theorem eMkMap (T : Ty α) (hc : mkMapC op = true := by kernel_rfl) : Eff P n g own sl op ty (fun v g' own' => ∃ v' k, v' = v ∧ g = g' ∧ own' = k :: own ∧ MBuf g.b T v' k []) := by
  unfold mkMapC at hc
  split at hc
  · intro o a w Q K h1 h2 hf hs h
    have hst := hs.allocK ⟨w.heap.size, mapB [], []⟩ rfl
    have : (execOp a.eval o).run P w = .ok (.value (.map (some w.heap.size))) (w.alloc (.map #[] 0)) := by
      simp [execOp, h1, Instr.makeMap, newObj, Sem.run]
    unfold Oper.wp
    rw [this]
    exact h _ _ _ _ (.refl g) hst ⟨_, _, rfl, rfl, rfl, w.heap.size, [], rfl, rfl, trivial⟩
  · cases hc
def updC (P : Program) (sl : Sl) (op : Op) : Option (Value × Int × Value) := match op with
  | .mapUpdate t m k v => match evS sl m, evS sl k, evS sl v, P.underlying t with
    | some mv, some (.int .u8 kk), some u, some (.map kt et) => match P.underlying kt with
      | some (.int .u8) => some (mv, kk, u)
      | _ => none
    | _, _, _, _ => none
  | _ => none
theorem eMapUpd (io : Nat) {m u : Value} {k : Option Bk} {xs : List (Int × List α)} {kk : Int} {y : List α} (hb : MBuf g.b T m k xs) (hu : ElS T g.b u y) (hi : own[io]? = some k := by kernel_rfl) (hc : updC P sl op = some (m, kk, u) := by kernel_rfl) :
    Eff P n g own sl op ty (fun v g' own' => ∃ k', g = g' ∧ own' = own.set io k' ∧ MBuf g.b T m k' (mapPut xs kk y)) := by
  obtain ⟨b, cs, rfl, rfl, hr⟩ := hb
  unfold updC at hc
  split at hc
  · rename_i t m' k' v'
    split at hc
    · rename_i mv kk' u' kt et e1 e2 e3 e4
      split at hc
      · rename_i e5
        simp only [Option.some.injEq, Prod.mk.injEq] at hc
        obtain ⟨rfl, rfl, rfl⟩ := hc
        intro o a w Q K h1 h2 hf hs h
        have hblk : w.heap[b]? = some (.map (mapEnts cs 0).toArray (cs.length / 2)) := hs.has _ (Own.get_mem hi)
        have hkey : MapKept.IsKey (.int .u8) (.int .u8 kk') := rfl
        rcases find_ents (T := T) (p := g.b) kk' cs xs 0 0 hr with ⟨m, v, b', q1, q2, q3, q4⟩ | ⟨q1, q2, q3⟩
        · obtain ⟨cs', c1, c2, c3⟩ := q4 u' y hu
          have hst := hs.put (w' := { w with heap := w.heap.setIfInBounds b (.map (mapEnts cs' 0).toArray (cs.length / 2)) }) (k' := ⟨b, mapB cs', []⟩) hi rfl rfl rfl rfl (fun r' hne => (MapKept.heap_set hblk).2 r' hne) (by
            rw [(MapKept.heap_set hblk).1]
            show some (Obj.map (mapEnts cs' 0).toArray (cs.length / 2)) = some (Obj.map (mapEnts cs' 0).toArray (cs'.length / 2))
            rw [c2])
          have hmod : (mapEnts cs 0).toArray.modify m (fun e => { e with key := .int .u8 kk', val := u' }) = (mapEnts cs' 0).toArray := by
            apply Array.toList_inj.1
            rw [Array.toList_modify, c1]
          have hq : ((mapEnts cs 0).toArray[m]?.map (·.key)).getD (.int .u8 kk') = .int .u8 kk' := by
            rw [List.getElem?_toArray, q2]; rfl
          have : (execOp a.eval o).run P w = .ok .skip { w with heap := w.heap.setIfInBounds b (.map (mapEnts cs' 0).toArray (cs.length / 2)) } := by
            rw [Nat.zero_add] at q1
            have hrun : (Instr.mapUpdate t (.map (some b)) (.int .u8 kk') u').run P w = .ok () { w with heap := w.heap.setIfInBounds b (.map (mapEnts cs' 0).toArray (cs.length / 2)) } := by
              simp only [Instr.mapUpdate, Sem.run_bind, run_underlying e4, MapKept.run_getObj_map hblk, MapKept.run_checkKey e5 hkey, MapKept.run_findKey e5 q1, Result.andThen, hq, MapKept.run_keyThatStays hkey, MapKept.run_setObj_map _ hblk, hmod]
            simp [execOp, h1, hf.ev e1, hf.ev e2, hf.ev e3, hrun]
          unfold Oper.wp
          rw [this]
          exact h undef g _ _ (.refl g) hst ⟨_, rfl, rfl, b, cs', rfl, rfl, c3⟩
        · have hst := hs.put (w' := { w with heap := w.heap.setIfInBounds b (.map (mapEnts (cs ++ [.int .u8 kk', u']) 0).toArray (cs.length / 2 + 1)) }) (k' := ⟨b, mapB (cs ++ [.int .u8 kk', u']), []⟩) hi rfl rfl rfl rfl (fun r' hne => (MapKept.heap_set hblk).2 r' hne) (by
            rw [(MapKept.heap_set hblk).1]
            have : (cs ++ [Value.int .u8 kk', u']).length / 2 = cs.length / 2 + 1 := by rw [List.length_append]; simp only [List.length_cons, List.length_nil]; omega
            show _ = some (Obj.map (mapEnts (cs ++ [.int .u8 kk', u']) 0).toArray ((cs ++ [Value.int .u8 kk', u']).length / 2))
            rw [this])
          have hpush : (mapEnts cs 0).toArray.push ⟨.int .u8 kk', u', cs.length / 2⟩ = (mapEnts (cs ++ [.int .u8 kk', u']) 0).toArray := by
            rw [ents_app 0 hr]
            simp
          have : (execOp a.eval o).run P w = .ok .skip { w with heap := w.heap.setIfInBounds b (.map (mapEnts (cs ++ [.int .u8 kk', u']) 0).toArray (cs.length / 2 + 1)) } := by
            have hrun : (Instr.mapUpdate t (.map (some b)) (.int .u8 kk') u').run P w = .ok () { w with heap := w.heap.setIfInBounds b (.map (mapEnts (cs ++ [.int .u8 kk', u']) 0).toArray (cs.length / 2 + 1)) } := by
              simp only [Instr.mapUpdate, Sem.run_bind, run_underlying e4, MapKept.run_getObj_map hblk, MapKept.run_checkKey e5 hkey, MapKept.run_findKey e5 q1, Result.andThen, MapKept.run_setObj_map _ hblk, hpush]
            simp [execOp, h1, hf.ev e1, hf.ev e2, hf.ev e3, hrun]
          unfold Oper.wp
          rw [this]
          exact h undef g _ _ (.refl g) hst ⟨_, rfl, rfl, b, _, rfl, rfl, q3 u' y hu⟩
      · cases hc
    · cases hc
  · cases hc
def lkpC (P : Program) (sl : Sl) (op : Op) : Option (Value × Int) := match op with
  | .lookup t m k false => match evS sl m, evS sl k, P.underlying t with
    | some mv, some (.int .u8 kk), some (.map kt et) => match P.underlying kt, (P.info? et).bind (·.zero) with
      | some (.int .u8), some (.slice none 0 0) => some (mv, kk)
      | _, _ => none
    | _, _, _ => none
  | _ => none
theorem eLkp (io : Nat) {m : Value} {k : Option Bk} {xs : List (Int × List α)} {kk : Int} (hb : MBuf g.b T m k xs) (hi : own[io]? = some k := by kernel_rfl) (hc : lkpC P sl op = some (m, kk) := by kernel_rfl) :
    Eff P n g own sl op ty (fun v g' own' => ∃ A c, v = .slice A (mapGet [] xs kk).length c ∧ g = g' ∧ own' = own ∧ Arr g.b T A c (mapGet [] xs kk)) := by
  obtain ⟨b, cs, rfl, rfl, hr⟩ := hb
  unfold lkpC at hc
  split at hc
  · rename_i t m' k'
    split at hc
    · rename_i mv kk' kt et e1 e2 e4
      split at hc
      · rename_i e5 e6
        simp only [Option.some.injEq, Prod.mk.injEq] at hc
        obtain ⟨rfl, rfl⟩ := hc
        intro o a w Q K h1 h2 hf hs h
        have hblk : w.heap[b]? = some (.map (mapEnts cs 0).toArray (cs.length / 2)) := hs.has _ (Own.get_mem hi)
        have hkey : MapKept.IsKey (.int .u8) (.int .u8 kk') := rfl
        have hz : (zeroValue et).run P w = .ok (.slice none 0 0) w := by
          cases e : P.info? et with
          | none => rw [e] at e6; cases e6
          | some i =>
            rw [e] at e6
            have e6 : i.zero = some (.slice none 0 0) := e6
            simp [zeroValue, typeInfo, program, Sem.run, bind, Sem.bind, e, e6, pure]
        rcases find_ents (T := T) (p := g.b) kk' cs xs 0 0 hr with ⟨m, v, b', q1, q2, ⟨A, c, rfl, q3⟩, q4⟩ | ⟨q1, q2, q3⟩
        · rw [Nat.zero_add] at q1
          have : (execOp a.eval o).run P w = .ok (.value (.slice A (mapGet [] xs kk').length c)) w := by
            have hrun : (Instr.lookup t (.map (some b)) (.int .u8 kk') false).run P w = .ok (.slice A (mapGet [] xs kk').length c) w := by
              simp [Instr.lookup, Sem.run_bind, run_underlying e4, MapKept.run_getObj_map hblk, MapKept.run_checkKey e5 hkey, MapKept.run_findKey e5 q1, Result.andThen]
            simp [execOp, h1, hf.ev e1, hf.ev e2, hrun]
          unfold Oper.wp
          rw [this]
          exact h _ _ _ _ (.refl g) hs ⟨A, c, rfl, rfl, rfl, q3⟩
        · have : (execOp a.eval o).run P w = .ok (.value (.slice none 0 0)) w := by
            have hrun : (Instr.lookup t (.map (some b)) (.int .u8 kk') false).run P w = .ok (.slice none 0 0) w := by
              simp [Instr.lookup, Sem.run_bind, run_underlying e4, MapKept.run_getObj_map hblk, MapKept.run_checkKey e5 hkey, MapKept.run_findKey e5 q1, Result.andThen, hz]
            simp [execOp, h1, hf.ev e1, hf.ev e2, hrun]
          unfold Oper.wp
          rw [this]
          refine h _ _ _ _ (.refl g) hs ⟨none, 0, ?_, rfl, rfl, ?_⟩
          · rw [q2]; rfl
          · rw [q2]; exact Arr.nil
      · cases hc
    · cases hc
  · cases hc
end
end Go.Proofs.YthfekfebgghjhaaDoor
