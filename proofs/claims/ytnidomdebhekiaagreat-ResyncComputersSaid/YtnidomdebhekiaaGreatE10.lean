/-
The engine, part 10: one's own entries in any order; slices of one's own that are named, lent, indexed, read and written; append of zeros. Conditions: each lemma's own.
-/
import Derived.Test.YtnidomdebhekiaaGreatE9
import Derived.Lib.AppendZeros
namespace Go.Proofs.YtnidomdebhekiaaGreat
set_option linter.unusedVariables false
set_option linter.unusedSimpArgs false
open Go.RowKit
def pickP (is : List (Option Nat)) (own : Own) : Own := is.map fun | none => none | some i => (own[i]?).join
theorem ids_inj : ∀ {own : Own} {i j : Nat} {k k' : Bk}, own.ids.Nodup → own[i]? = some (some k) → own[j]? = some (some k') → k.g = k'.g → i = j
  | [], i, j, k, k', _, h, _, _ => by simp at h
  | x :: l, 0, 0, k, k', _, _, _, _ => rfl
  | x :: l, 0, j + 1, k, k', hn, h1, h2, e => by
    simp at h1 h2
    subst h1
    rw [Own.ids_cons] at hn
    simp at hn
    exact absurd (e ▸ Own.mem_ids (List.mem_of_getElem? h2)) hn.1
  | x :: l, i + 1, 0, k, k', hn, h1, h2, e => by
    simp at h1 h2
    subst h2
    rw [Own.ids_cons] at hn
    simp at hn
    exact absurd (e ▸ Own.mem_ids (List.mem_of_getElem? h1)) hn.1
  | x :: l, i + 1, j + 1, k, k', hn, h1, h2, e => by
    rw [Own.ids_cons] at hn
    have hn2 : Own.ids l |>.Nodup := (List.nodup_append.1 hn).2.1
    have := ids_inj (i := i) (j := j) (k := k) (k' := k') hn2 (by simpa using h1) (by simpa using h2) e
    omega
theorem pickP_mem {is : List (Option Nat)} {own : Own} {k : Bk} (h : some k ∈ pickP is own) : ∃ i, some i ∈ is ∧ own[i]? = some (some k) := by
  obtain ⟨a, ha, e⟩ := List.mem_map.1 h
  cases a with
  | none => cases e
  | some i =>
    refine ⟨i, ha, ?_⟩
    have e : (own[i]?).join = some k := e
    cases h2 : own[i]? with
    | none => rw [h2] at e; cases e
    | some x => rw [h2] at e; rw [show x = some k from e]
theorem pickP_nodup {own : Own} (hn : own.ids.Nodup) : ∀ {is : List (Option Nat)}, (is.filterMap id).Nodup → (pickP is own).ids.Nodup
  | [], _ => by simp [pickP, Own.ids]
  | none :: is, h => by
    have ih := pickP_nodup hn (is := is) (by simpa using h)
    show (Own.ids (none :: pickP is own)).Nodup
    rw [Own.ids_cons]; simpa using ih
  | some i :: is, h => by
    have h2 : i ∉ is.filterMap id ∧ (is.filterMap id).Nodup := by simpa using h
    have ih := pickP_nodup hn h2.2
    show (Own.ids ((own[i]?).join :: pickP is own)).Nodup
    rw [Own.ids_cons]
    cases e : (own[i]?).join with
    | none => simpa using ih
    | some k =>
      have hk : own[i]? = some (some k) := by
        cases h3 : own[i]? with
        | none => rw [h3] at e; cases e
        | some x => rw [h3] at e; rw [show x = some k from e]
      refine List.nodup_cons.2 ⟨fun hm => ?_, ih⟩
      obtain ⟨k', hk', e2⟩ := Own.of_ids hm
      obtain ⟨j, hj, hj2⟩ := pickP_mem hk'
      have : i = j := ids_inj hn hk hj2 e2.symm
      subst this
      exact h2.1 (List.mem_filterMap.2 ⟨_, hj, rfl⟩)
theorem keepP (is : List (Option Nat)) {g : Gh} {own own' : Own} (hn : decide (is.filterMap id).Nodup = true) (e : pickP is own = own') (w : World) (h : St w g own) : St w g own' := by
  subst e
  exact h.fewer (pickP_nodup h.nodup (of_decide_eq_true hn)) fun k hk => by
    obtain ⟨i, _, h2⟩ := pickP_mem hk
    exact List.mem_of_getElem? h2
theorem wpq_sel {n : Nat} {g : Gh} {own : Own} {sl : Sl} {K : Act → World → Prop} (is : List (Option Nat)) (own' : Own) (hn : decide (is.filterMap id).Nodup = true) (e : pickP is own = own') (k : WPq K n g own' sl) : WPq K n g own sl :=
  fun a w hf hs => k a w hf (keepP is hn e w hs)
section
variable {P : Program} {n : Nat} {g : Gh} {own : Own} {sl : Sl} {ty : TypeId} {α : Type} {T : Ty α} {p : Psi}
theorem arr_of_buf {et : TypeId} {A : Option Addr} {c : Nat} {k : Option Bk} {xs : List α} {r : Psi} (h : Buf p T et (.slice A xs.length c) k xs) (hl : p.le r) (hk : ∀ b, k = some b → r.m b.g = some b.obj) : Arr r T A c xs := by
  have h := h.mono hl
  rcases h.2 with ⟨h1, rfl, _⟩ | ⟨b, cap, cs, sp, h1, h2, h3, h4, h5⟩
  · exact Arr.nil
  · injection h1 with e1 e2 e3
    subst e1; subst e3
    have hm := hk _ h2
    refine ⟨?_, h.1, cs, h3, fun _ => ⟨_, rfl, fun j v hj => ?_⟩⟩
    · rw [List.length_append, h3.len] at h4
      exact Nat.le_of_mul_le_mul_right (by omega : xs.length * T.n ≤ c * T.n) T.pos
    · rw [addr_add]
      have : (cs ++ sp)[j]? = some v := by
        have hlt : j < cs.length := (List.getElem?_eq_some_iff.1 hj).1
        rw [List.getElem?_append_left hlt]; exact hj
      simp only [Psi.cell?, hm, Bk.obj_ty]
      simpa using this
theorem lentk {rest : Own} {k : Option Bk} (i : Nat) (h : rest[i]? = some k) {r : Psi} (ln : ∀ b, some b ∈ rest → r.m b.g = some b.obj) (b : Bk) (e : k = some b) : r.m b.g = some b.obj :=
  ln b (by subst e; exact List.mem_of_getElem? h)
theorem Buf.open_ {et : TypeId} {A : Option Addr} {l c : Nat} {k : Option Bk} {xs : List α} (h : Buf p T et (.slice A l c) k xs) {i : Nat} (hi : i < xs.length) (d : α) :
    ∃ kb cs, A = some ⟨kb.g, 0, none⟩ ∧ k = some kb ∧ T.rep p cs (xs.getD i d) ∧ (kb.cs.drop (i * T.n)).take T.n = cs := by
  rcases h.2 with ⟨_, rfl, _⟩ | ⟨b, cap, cs, sp, h1, h2, h3, h4, h5⟩
  · simp at hi
  · injection h1 with e1 e2 e3
    have hx : xs[i]? = some (xs.getD i d) := by rw [List.getD_eq_getElem?_getD, List.getElem?_eq_getElem hi]; rfl
    refine ⟨_, _, e1, h2, h3.at_ hx, ?_⟩
    have hle : i * T.n + T.n ≤ cs.length := by rw [h3.len, ← Nat.succ_mul]; exact Nat.mul_le_mul_right _ hi
    show (List.drop (i * T.n) (cs ++ sp)).take T.n = (List.drop (i * T.n) cs).take T.n
    rw [List.drop_append_of_le_length (by omega), List.take_append_of_le_length (by rw [List.length_drop]; omega)]
theorem rowAt {kb : Bk} {cs : List Value} {i m off : Nat} {v : Value} (h : (kb.cs.drop (i * m)).take m = cs) (hv : cs[off]? = some v) : kb.cs[i * m + off]? = some v := by
  subst h
  exact take_drop_get hv
theorem rowAgg {kb : Bk} {cs vs : List Value} {i m off : Nat} (h : (kb.cs.drop (i * m)).take m = cs) (hv : (cs.drop off).take vs.length = vs) : (kb.cs.drop (i * m + off)).take vs.length = vs := by
  subst h
  rw [← hv]
  apply List.ext_getElem?
  intro j
  simp only [List.getElem?_take, List.getElem?_drop]
  by_cases hj : j < vs.length
  · simp only [hj, if_true]
    have hl : ((List.take m (List.drop (i * m) kb.cs)).drop off).length ≥ vs.length := by
      have := congrArg List.length hv
      rw [List.length_take] at this
      omega
    have : off + j < m := by
      simp only [List.length_drop, List.length_take] at hl
      omega
    have h2 : j < (List.take vs.length (List.drop off (List.take m (List.drop (i * m) kb.cs)))).length := by rw [hv]; exact hj
    have h3 : j < min vs.length (min m (kb.cs.length - i * m) - off) := by simpa using h2
    simp [hj, this, Nat.add_assoc]
    intro h4
    omega
  · simp only [hj, if_false]
    simp
    omega
theorem y_loadB1 {t : TypeId} {x : Operand} (i m off io : Nat) {kb : Bk} {cs : List Value} {v : Value} (hx : evS sl x = some (.pointer (some ⟨kb.g, i * m + off, none⟩))) (hi : own[io]? = some (some kb)) (hr : (kb.cs.drop (i * m)).take m = cs) (ht : flatOf P t = true) (hv : cs[off]? = some v) :
    Yld P n p own sl (.load t x) ty v := y_loadO1 hx hi rfl ht (rowAt hr hv)
theorem y_loadBA {t : TypeId} {x : Operand} (i m off io : Nat) {kb : Bk} {cs : List Value} (vs : List Value) (hx : evS sl x = some (.pointer (some ⟨kb.g, i * m + off, none⟩))) (hi : own[io]? = some (some kb)) (hr : (kb.cs.drop (i * m)).take m = cs) (ht : aggOf P t = some vs.length) (hv : (cs.drop off).take vs.length = vs) :
    Yld P n p own sl (.load t x) ty (.agg vs.toArray) := y_loadA hx hi rfl ht (rowAgg hr hv)
theorem q_indexB {t e : TypeId} {x i : Operand} (idx b : Nat) {A0 : Option Addr} {len c sz : Nat} {k : IntKind} {z : Int} (hA : A0 = some ⟨b, 0, none⟩) (hx : evS sl x = some (.slice A0 len c)) (hi : evS sl i = some (.int k z)) (hz : z = (idx : Int)) (hlt : idx < len) (ht : P.underlying t = some (.slice e)) (hs : cellsOfT P e = some sz) :
    Yld P n p own sl (.indexAddr t x i) ty (.pointer (some ⟨b, idx * sz + 0, none⟩)) := by
  subst hA; subst hz
  exact y_indexO idx hx hi hlt ht hs
theorem setRow_len : ∀ (vs cs : List Value) (o : Nat), (setRow cs o vs).length = cs.length
  | [], cs, o => rfl
  | v :: vs, cs, o => by rw [setRow, setRow_len vs]; simp
theorem setRow_app : ∀ (vs : List Value) (a b : List Value) (o : Nat), o + vs.length ≤ a.length → setRow (a ++ b) o vs = setRow a o vs ++ b
  | [], a, b, o, h => rfl
  | v :: vs, a, b, o, h => by
    rw [setRow, setRow, List.set_append_left _ _ (by simp at h; omega)]
    exact setRow_app vs _ b (o + 1) (by simp at h ⊢; omega)
theorem setRow_pre : ∀ (vs : List Value) (a b : List Value) (o : Nat), setRow (a ++ b) (a.length + o) vs = a ++ setRow b o vs
  | [], a, b, o => rfl
  | v :: vs, a, b, o => by
    rw [setRow, setRow, List.set_append_right _ _ (by omega), show a.length + o - a.length = o by omega, Nat.add_assoc]
    exact setRow_pre vs a _ (o + 1)
theorem Reps.setPart : ∀ {xs : List α} {cs : List Value} {i off : Nat} {vs : List Value} {x : α} {c : List Value}, Reps T p cs xs → (cs.drop (i * T.n)).take T.n = c → T.rep p (setRow c off vs) x → off + vs.length ≤ T.n → i < xs.length →
    Reps T p (setRow cs (i * T.n + off) vs) (xs.set i x)
  | [], cs, i, off, vs, x, c, h, hc, hx, ho, hi => by simp at hi
  | y :: xs, cs, 0, off, vs, x, c, ⟨c1, c2, e1, h1, h2⟩, hc, hx, ho, hi => by
    subst e1
    have e : c1 = c := by rw [← hc, Nat.zero_mul, List.drop_zero, ← T.len h1]; simp
    subst e
    rw [Nat.zero_mul, Nat.zero_add, setRow_app _ _ _ _ (by rw [T.len h1]; exact ho)]
    exact ⟨_, c2, rfl, hx, h2⟩
  | y :: xs, cs, i + 1, off, vs, x, c, ⟨c1, c2, e1, h1, h2⟩, hc, hx, ho, hi => by
    subst e1
    have hd : (c2.drop (i * T.n)).take T.n = c := by
      rw [← hc, Nat.succ_mul, Nat.add_comm, ← List.drop_drop]
      rw [show List.drop T.n (c1 ++ c2) = c2 by rw [← T.len h1]; simp]
    have ih := h2.setPart hd hx ho (by simpa using hi)
    rw [Nat.succ_mul, show i * T.n + T.n + off = c1.length + (i * T.n + off) by rw [T.len h1]; omega, setRow_pre]
    exact ⟨c1, _, rfl, h1, ih⟩
theorem e_storeB {t : TypeId} {x y : Operand} (i m off io : Nat) (v : Value) (vs : List Value) {et : TypeId} {A : Option Addr} {l c : Nat} {kb : Bk} {cs : List Value} (xs : List α) (u : α) (hx : evS sl x = some (.pointer (some ⟨kb.g, i * m + off, none⟩))) (hy : evS sl y = some v) (hi : own[io]? = some (some kb))
    (hv : v.cells = vs.toArray) (hz : cellsOfT P t = some vs.length) (h1 : vs.all one1 = true) (hb : Buf p T et (.slice A l c) (some kb) xs) (hm : m = T.n) (hr : (kb.cs.drop (i * m)).take m = cs) (hu : T.rep p (setRow cs off vs) u) (ho : Nat.ble (off + vs.length) T.n = true) (hlt : i < xs.length) :
    Eff P n g own sl (.store t x y) ty (fun v' g' own' => ∃ k', g = g' ∧ own' = own.set io k' ∧ Buf p T et (.slice A l c) k' (xs.set i u)) := by
  subst hm
  intro o a w Q K e1 e2 hf hs h
  have ho' : off + vs.length ≤ T.n := by simpa using ho
  rcases hb.2 with ⟨_, rfl, _⟩ | ⟨b, cap, cs0, sp, q1, q2, q3, q4, q5⟩
  · simp at hlt
  · injection q2 with q2
    have hl0 : i * T.n + T.n ≤ cs0.length := by rw [q3.len, ← Nat.succ_mul]; exact Nat.mul_le_mul_right _ hlt
    have hcs : (cs0.drop (i * T.n)).take T.n = cs := by
      rw [← hr, q2]
      show _ = (List.drop (i * T.n) (cs0 ++ sp)).take T.n
      rw [List.drop_append_of_le_length (by omega), List.take_append_of_le_length (by rw [List.length_drop]; omega)]
    have hl : i * T.n + off + vs.length ≤ kb.cs.length := by rw [q2]; simp; omega
    refine e_store (k := kb) hx hy hi rfl hv hz h1 (by simpa using hl) rfl o a w Q K e1 e2 hf hs fun v' g' own' w' hg hs' ⟨h2, h3⟩ => h v' g' own' w' hg hs' ⟨_, h2, h3, ?_⟩
    refine ⟨by rw [List.length_set]; exact hb.1, .inr ⟨b, cap, setRow cs0 (i * T.n + off) vs, sp, by rw [List.length_set]; exact q1, ?_, q3.setPart hcs hu ho' hlt, by rw [List.length_append, setRow_len, ← List.length_append]; exact q4, q5⟩⟩
    rw [q2]
    simp only [Option.some.injEq, Bk.mk.injEq, true_and]
    exact setRow_app _ _ _ _ (by omega)
theorem wide47 {m bytes : Nat} (h : m * bytes ≤ 140737488355328) : m * bytes ≤ 281474976710656 := Nat.le_trans h (by decide)
theorem e_zeros {t tn et : TypeId} {s x : Operand} {kx kn : IntKind} {bytes : Nat} (m : Nat) (ha : appT P t et = some (T.n, bytes)) (htn : P.underlying tn = some (.int kn)) (hs : evS sl s = some (.slice none 0 0)) (hx : evS sl x = some (.int kx (m : Int)))
    (h0 : 0 < m) (hm : m ≤ 140737488355328) (hbytes : m * bytes ≤ 140737488355328) :
    Eff P n g own sl (.call { callee := .builtin .append, args := #[s, x], argTypes := #[t, tn] }) ty (fun v' g' own' => ∃ b cap k, v' = .slice (some ⟨b, 0, none⟩) m cap ∧ g = g' ∧ own' = k :: own ∧ m ≤ cap ∧ Buf p T et (.slice (some ⟨b, 0, none⟩) ([] : List α).length cap) k []) := by
  intro o a w Q K h1 h2 hf hst h
  obtain ⟨inf, z, ht, hinf, hz, hsz, hby, hzs⟩ := (AppT.of ha).out
  have hrun := Lib.run_append_nil_zeros (P := P) w t tn o.type et inf z kx kn ht htn hinf hz m h0 (by rw [hsz]; exact T.pos) (by omega) (by rw [hby]; exact wide47 hbytes)
  have hge := grownCap_ge w m 0 et
  have hle : grownCap w m 0 et ≤ maxLen := grownCap_le_maxLen w m 0 et (by simp only [maxLen]; omega)
  generalize grownCap w m 0 et = cap at hrun hge hle
  have hlen : (Builtin.zeroCells z.cells m ++ Builtin.zeroCells z.cells (cap - m)).toList.length = cap * T.n := by
    simp only [Array.toList_append, List.length_append, Array.length_toList, size_zeroCells, hzs, ← Nat.add_mul]
    congr 1
    omega
  have hal := (hst.drew).alloc et (Builtin.zeroCells z.cells m ++ Builtin.zeroCells z.cells (cap - m)).toList
  rw [Array.toArray_toList] at hal
  have : (execOp a.eval o).run P w = .ok (.value (.slice (some ⟨w.heap.size, 0, none⟩) m cap)) (w.drew.alloc (.cells (Builtin.zeroCells z.cells m ++ Builtin.zeroCells z.cells (cap - m)) et)) := by
    simp [execOp, h1, resolve, invoke, builtin, hf.ev hs, hf.ev hx, hrun]
  unfold Oper.wp
  rw [this]
  exact h _ _ _ _ (.refl g) hal ⟨_, _, _, rfl, rfl, rfl, hge, ⟨by simp, .inr ⟨w.heap.size, cap, [], _, rfl, rfl, rfl, hlen, hle⟩⟩⟩
theorem y_cut0 {t e : TypeId} {x hi : Operand} {sz len c : Nat} {A : Option Addr} {k : IntKind} (hx : evS sl x = some (.slice A len c)) (ht : P.underlying t = some (.slice e)) (hs : cellsOfT P e = some sz) (hh : evS sl hi = some (.int k 0)) :
    Yld P n p own sl (.slice t x none (some hi) none) ty (.slice A 0 c) := by
  have := y_slice (P := P) (n := n) (p := p) (own := own) (ty := ty) (t := t) (lo := none) (hi := some hi) (A := A) 0 0 0 hx ht hs (.inl ⟨rfl, rfl⟩) (.inr ⟨k, hi, rfl, hh⟩) (Nat.le_refl 0) (Nat.zero_le c) rfl
  have e : offA A c 0 sz = A := by
    unfold offA
    split
    · rfl
    · cases A with
      | none => rfl
      | some a => simp [Addr.add]
  rwa [e, Nat.sub_zero] at this
theorem keepK_P {K own : Own} (is : List (Option Nat)) (h : pickP is own = K) : keepK K own := by
  subst h
  exact fun k hk => by
    obtain ⟨i, _, h2⟩ := pickP_mem hk
    exact List.mem_of_getElem? h2
theorem Psi.le_b {g g' : Gh} (e : g'.b = g.b) : g.b.le g'.r := e ▸ g'.br
theorem cells_lent {k : Bk} (off : Nat) (cs : List Value) (h : p.m k.g = some k.obj) (e : (k.cs.drop off).take cs.length = cs) : Cells p ⟨k.g, off, none⟩ cs := by
  intro j v hj
  rw [addr_add]
  simp only [Psi.cell?, h]
  rw [← e] at hj
  have := take_drop_get hj
  obtain ⟨g, t, ks⟩ := k
  cases t with
  | ty t => simpa [Bk.obj] using this
  | mp es n =>
    cases ks with
    | nil => simp at this
    | cons c l => simpa [Bk.obj] using this
theorem Buf.srcO {et : TypeId} {A : Option Addr} {c : Nat} {k : Option Bk} {xs : List α} (h : Buf p T et (.slice A xs.length c) k xs) : ∃ news, Reps T p news xs ∧ ∀ (i : Nat) w (own : Own), St w g own → own[i]? = some k → Src w A xs.length news := by
  obtain ⟨news, h1, h2⟩ := h.src
  exact ⟨news, h1, fun i w own hs hi => h2 w fun b hb => by subst hb; exact hs.has b (List.mem_of_getElem? hi)⟩
structure ArrM (r b : Psi) (T : Ty α) (A : Option Addr) (c : Nat) (xs : List α) : Prop where
  cap : xs.length ≤ c
  len : xs.length ≤ 140737488355328
  row : ∃ cs, Reps T b cs xs ∧ (0 < xs.length → ∃ ad, A = some ad ∧ Cells r ad cs)
theorem ArrM.mono {r b r' b' : Psi} {A : Option Addr} {c : Nat} {xs : List α} (h : ArrM r b T A c xs) (k : r.le r') (l : b.le b') : ArrM r' b' T A c xs := by
  obtain ⟨h1, h0, cs, h2, h3⟩ := h
  exact ⟨h1, h0, cs, h2.mono l, fun hn => by obtain ⟨ad, e, hc⟩ := h3 hn; exact ⟨ad, e, hc.mono k⟩⟩
theorem ArrM.toArr {r b : Psi} {A : Option Addr} {c : Nat} {xs : List α} (h : ArrM r b T A c xs) (l : b.le r) : Arr r T A c xs := by
  obtain ⟨h1, h0, cs, h2, h3⟩ := h
  exact ⟨h1, h0, cs, h2.mono l, h3⟩
theorem ArrM.lent {g g' : Gh} {A : Option Addr} {c : Nat} {xs : List α} (h : ArrM g.r g.b T A c xs) (k : g.r.le g'.r) (e : g'.b = g.b) : ArrM g'.r g'.b T A c xs := by rw [e]; exact h.mono k (.refl _)
theorem ArrM.nil {r b : Psi} {A : Option Addr} {c : Nat} : ArrM r b T A c [] := ⟨Nat.zero_le _, by simp, [], rfl, fun h => absurd h (by simp)⟩
theorem ArrM.nil_of {r b : Psi} {A : Option Addr} {c : Nat} {xs : List α} (h : ArrM r b T A c xs) (hA : A.isNone = true) : xs = [] := by
  obtain ⟨_, _, cs, _, hrow⟩ := h
  cases xs with
  | nil => rfl
  | cons x xs =>
    obtain ⟨ad, e, _⟩ := hrow (by simp)
    subst e
    cases hA
theorem ArrM.at_ {r b : Psi} {A : Option Addr} {c : Nat} {xs : List α} (h : ArrM r b T A c xs) {i : Nat} {x : α} (hi : xs[i]? = some x) : ∃ ad cs, A = some ad ∧ T.rep b cs x ∧ Cells r (ad.add (i * T.n)) cs := by
  obtain ⟨_, _, cs, h2, h3⟩ := h
  have hlt : i < xs.length := by
    rcases Nat.lt_or_ge i xs.length with h | h
    · exact h
    · rw [List.getElem?_eq_none h] at hi; cases hi
  obtain ⟨ad, e, hc⟩ := h3 (by omega)
  exact ⟨ad, _, e, h2.at_ hi, hc.part _ _⟩
theorem ArrM.srcM {A : Option Addr} {c : Nat} {xs : List α} (h : ArrM g.r g.b T A c xs) : ∃ news, Reps T g.b news xs ∧ ∀ w own, St w g own → Src w A xs.length news := by
  obtain ⟨_, _, cs, h2, h3⟩ := h
  refine ⟨cs, h2, fun w own hs hn => ?_⟩
  obtain ⟨ad, e, hc⟩ := h3 hn
  exact ⟨ad, e, fun j u hj => hs.r.cell (hc j u hj)⟩
theorem arrm_of_buf {et : TypeId} {A : Option Addr} {c : Nat} {k : Option Bk} {xs : List α} {g' : Gh} (h : Buf g.b T et (.slice A xs.length c) k xs) (e : g'.b = g.b) (hk : ∀ b, k = some b → g'.r.m b.g = some b.obj) : ArrM g'.r g'.b T A c xs := by
  rw [e]
  rcases h.2 with ⟨h1, rfl, _⟩ | ⟨b, cap, cs, sp, h1, h2, h3, h4, h5⟩
  · exact ArrM.nil
  · injection h1 with e1 e2 e3
    subst e1; subst e3
    have hm := hk _ h2
    refine ⟨?_, h.1, cs, h3, fun _ => ⟨_, rfl, fun j v hj => ?_⟩⟩
    · rw [List.length_append, h3.len] at h4
      exact Nat.le_of_mul_le_mul_right (by omega : xs.length * T.n ≤ c * T.n) T.pos
    · rw [addr_add]
      have : (cs ++ sp)[j]? = some v := by
        have hlt : j < cs.length := (List.getElem?_eq_some_iff.1 hj).1
        rw [List.getElem?_append_left hlt]; exact hj
      simp only [Psi.cell?, hm, Bk.obj_ty]
      simpa using this
end
section
variable {P : Program} {ops : Array Oper} {Q : Exit → Act → World → Prop} {n : Nat} {lds fin : List Nat} {p : Psi} {K : Own} {g : Gh} {own : Own} {sl : Sl} {fuel : Nat} {listed : List Bool}
theorem wpa_meet (R : Gh → Own → Sl → Prop) (fuel' : Nat) (listed' : List Bool) (k : ∀ g' own' sl', g.le g' → R g' own' sl' → WPa P ops Q lds fin p K fuel' listed' n g' own' sl')
    (h : (∀ g' own' sl', g.le g' → R g' own' sl' → WPa P ops Q lds fin p K fuel' listed' n g' own' sl') → WPa P ops Q lds fin p K fuel listed n g own sl) : WPa P ops Q lds fin p K fuel listed n g own sl := h k
end
theorem map_some_app {β : Type} : ∀ {l : List (Option β)} {caps vs : List β}, l ++ caps.map some = vs.map some → ∃ us, l = us.map some ∧ us ++ caps = vs
  | [], caps, vs, h => ⟨[], rfl, by
      have h : caps.map some = vs.map some := h
      have := congrArg (List.filterMap id) h
      simpa [List.filterMap_map] using this⟩
  | x :: l, caps, [], h => by simp at h
  | x :: l, caps, v :: vs, h => by
    simp at h
    obtain ⟨us, h1, h2⟩ := map_some_app h.2
    exact ⟨v :: us, by rw [h.1, h1]; rfl, by rw [← h2]; rfl⟩
section
variable {P : Program} {n : Nat} {g : Gh} {own : Own} {sl : Sl} {ty : TypeId}
theorem e_callC {f : FuncId} {x : Operand} {args : Array Operand} {ats : Array TypeId} (caps : Array Value) (vs : List Value) {post : Value → Psi → Own → Prop} (m : List Bool) {sel : Own} (he : enters P f = true) (hx : evS sl x = some (.func (.func f) #[] caps)) (ha : args.toList.map (evS sl) ++ caps.toList.map some = vs.map some) (hsel : pickM m own = sel)
    (hc : ∀ g', g.r.le g'.r → g'.b = g.b → (∀ k, some k ∈ restM m own → g'.r.m k.g = some k.obj) → Ctr P f vs g' sel post) :
    Eff P n g own sl (.call { callee := .value x, args := args, argTypes := ats }) ty (fun v g' own' => ∃ sel', own' = joinM m sel' (restM m own) ∧ post v g'.b sel') := by
  intro o a w Q K h1 h2 hf hs h
  have hs' : St w g (sel ++ restM m own) := by rw [← hsel]; exact hs.perm (pick_perm m own)
  obtain ⟨gl, er, eb, hst0, hl⟩ := hs'.lend
  have hrun : (execOp a.eval o).run P w = .ok (.enter f vs.toArray) w := by
    obtain ⟨us, hu, hus⟩ := map_some_app ha
    have : args.map a.eval ++ caps = vs.toArray := by
      apply Array.toList_inj.1
      rw [Array.toList_append, Array.toList_map, hf.evs hu, hus]
    simp [execOp, h1, resolve, hf.ev hx, Deferred.ofValue, invoke, this, run_callFunc_of he]
  unfold Oper.wp
  rw [hrun]
  simp only [Oper.upon]
  refine (hc gl hl eb (fun k hk => by rw [er]; refine addAll_of ?_ hk; have hn := hs'.nodup; rw [show Own.ids (sel ++ restM m own) = Own.ids sel ++ Own.ids (restM m own) from List.filterMap_append] at hn; exact (List.nodup_append.1 hn).2.1) w hst0).mono fun e w' hp => ?_
  obtain ⟨v, g1, sel', rfl, hle, hst, hpost⟩ := hp
  obtain ⟨g2, e2, hle2, hst2⟩ := hs'.unlend er eb hle hst hl
  exact h v g2 _ w' hle2 (hst2.perm (join_perm m _ _).symm) ⟨sel', rfl, by rw [e2]; exact hpost⟩
end
theorem lorU8 (a b : Int) : 0 ≤ lorK .u8 a b ∧ lorK .u8 a b ≤ 255 := by unfold lorK; exact wrapU8_rng _
end Go.Proofs.YtnidomdebhekiaaGreat
