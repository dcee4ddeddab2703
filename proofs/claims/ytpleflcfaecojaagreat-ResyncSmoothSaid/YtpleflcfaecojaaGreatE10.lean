/-
The engine, part 10: one's own entries in any order; slices of one's own that are named, lent, indexed, read and written; append of zeros. Conditions: each lemma's own.
-/
import Derived.Test.YtpleflcfaecojaaGreatE9
import Derived.Lib.AppendZeros
namespace Go.Proofs.YtpleflcfaecojaaGreat
set_option linter.unusedVariables false
set_option linter.unusedSimpArgs false
open Go.RowKit
def pickP (is : List (Option Nat)) (own : Own) : Own := is.map fun | none => none | some i => (own[i]?).join
theorem ids_inj : ∀ {own : Own} {i j : Nat} {k k' : Bk}, own.ids.Nodup → own[i]? = some (some k) → own[j]? = some (some k') → k.g = k'.g → i = j
  | [], i, j, k, k', _, h, _, _ => by simp at h
  | x :: l, 0, 0, k, k', _, _, _, _ => rfl
  | x :: l, 0, j + 1, k, k', hn, h1, h2, e => by
    simp at h1 h2
    subst h1
    rw [Own.ids_cons] at hn
    simp at hn
    exact absurd (e ▸ Own.mem_ids (List.mem_of_getElem? h2)) hn.1
  | x :: l, i + 1, 0, k, k', hn, h1, h2, e => by
    simp at h1 h2
    subst h2
    rw [Own.ids_cons] at hn
    simp at hn
    exact absurd (e ▸ Own.mem_ids (List.mem_of_getElem? h1)) hn.1
  | x :: l, i + 1, j + 1, k, k', hn, h1, h2, e => by
    rw [Own.ids_cons] at hn
    have hn2 : Own.ids l |>.Nodup := (List.nodup_append.1 hn).2.1
    have := ids_inj (i := i) (j := j) (k := k) (k' := k') hn2 (by simpa using h1) (by simpa using h2) e
    omega
theorem pickP_mem {is : List (Option Nat)} {own : Own} {k : Bk} (h : some k ∈ pickP is own) : ∃ i, some i ∈ is ∧ own[i]? = some (some k) := by
  obtain ⟨a, ha, e⟩ := List.mem_map.1 h
  cases a with
  | none => cases e
  | some i =>
    refine ⟨i, ha, ?_⟩
    have e : (own[i]?).join = some k := e
    cases h2 : own[i]? with
    | none => rw [h2] at e; cases e
    | some x => rw [h2] at e; rw [show x = some k from e]
theorem pickP_nodup {own : Own} (hn : own.ids.Nodup) : ∀ {is : List (Option Nat)}, (is.filterMap id).Nodup → (pickP is own).ids.Nodup
  | [], _ => by simp [pickP, Own.ids]
  | none :: is, h => by
    have ih := pickP_nodup hn (is := is) (by simpa using h)
    show (Own.ids (none :: pickP is own)).Nodup
    rw [Own.ids_cons]; simpa using ih
  | some i :: is, h => by
    have h2 : i ∉ is.filterMap id ∧ (is.filterMap id).Nodup := by simpa using h
    have ih := pickP_nodup hn h2.2
    show (Own.ids ((own[i]?).join :: pickP is own)).Nodup
    rw [Own.ids_cons]
    cases e : (own[i]?).join with
    | none => simpa using ih
    | some k =>
      have hk : own[i]? = some (some k) := by
        cases h3 : own[i]? with
        | none => rw [h3] at e; cases e
        | some x => rw [h3] at e; rw [show x = some k from e]
      refine List.nodup_cons.2 ⟨fun hm => ?_, ih⟩
      obtain ⟨k', hk', e2⟩ := Own.of_ids hm
      obtain ⟨j, hj, hj2⟩ := pickP_mem hk'
      have : i = j := ids_inj hn hk hj2 e2.symm
      subst this
      exact h2.1 (List.mem_filterMap.2 ⟨_, hj, rfl⟩)
theorem keepP (is : List (Option Nat)) {g : Gh} {own own' : Own} (hn : decide (is.filterMap id).Nodup = true) (e : pickP is own = own') (w : World) (h : St w g own) : St w g own' := by
  subst e
  exact h.fewer (pickP_nodup h.nodup (of_decide_eq_true hn)) fun k hk => by
    obtain ⟨i, _, h2⟩ := pickP_mem hk
    exact List.mem_of_getElem? h2
section
variable {P : Program} {n : Nat} {g : Gh} {own : Own} {sl : Sl} {ty : TypeId} {α : Type} {T : Ty α} {p : Psi}
theorem set_same {i : Nat} {k : Option Bk} (hi : own[i]? = some k) : own.set i k = own := by
  apply List.ext_getElem?
  intro j
  rw [List.getElem?_set]
  split
  · rename_i e; subst e
    split
    · exact hi.symm
    · rename_i hlt; rw [List.getElem?_eq_none (by omega)]
  · rfl
theorem arr_of_buf {et : TypeId} {A : Option Addr} {c : Nat} {k : Option Bk} {xs : List α} {r : Psi} (h : Buf p T et (.slice A xs.length c) k xs) (hl : p.le r) (hk : ∀ b, k = some b → r.m b.g = some b.obj) : Arr r T A c xs := by
  have h := h.mono hl
  rcases h.2 with ⟨h1, rfl, _⟩ | ⟨b, cap, cs, sp, h1, h2, h3, h4, h5⟩
  · exact Arr.nil
  · injection h1 with e1 e2 e3
    subst e1; subst e3
    have hm := hk _ h2
    refine ⟨?_, h.1, cs, h3, fun _ => ⟨_, rfl, fun j v hj => ?_⟩⟩
    · rw [List.length_append, h3.len] at h4
      exact Nat.le_of_mul_le_mul_right (by omega : xs.length * T.n ≤ c * T.n) T.pos
    · rw [addr_add]
      have : (cs ++ sp)[j]? = some v := by
        have hlt : j < cs.length := (List.getElem?_eq_some_iff.1 hj).1
        rw [List.getElem?_append_left hlt]; exact hj
      simp only [Psi.cell?, hm, Bk.obj_ty]
      simpa using this
theorem Buf.open_ {et : TypeId} {A : Option Addr} {l c : Nat} {k : Option Bk} {xs : List α} (h : Buf p T et (.slice A l c) k xs) {i : Nat} (hi : i < xs.length) (d : α) :
    ∃ kb cs, A = some ⟨kb.g, 0, none⟩ ∧ k = some kb ∧ T.rep p cs (xs.getD i d) ∧ (kb.cs.drop (i * T.n)).take T.n = cs := by
  rcases h.2 with ⟨_, rfl, _⟩ | ⟨b, cap, cs, sp, h1, h2, h3, h4, h5⟩
  · simp at hi
  · injection h1 with e1 e2 e3
    have hx : xs[i]? = some (xs.getD i d) := by rw [List.getD_eq_getElem?_getD, List.getElem?_eq_getElem hi]; rfl
    refine ⟨_, _, e1, h2, h3.at_ hx, ?_⟩
    have hle : i * T.n + T.n ≤ cs.length := by rw [h3.len, ← Nat.succ_mul]; exact Nat.mul_le_mul_right _ hi
    show (List.drop (i * T.n) (cs ++ sp)).take T.n = (List.drop (i * T.n) cs).take T.n
    rw [List.drop_append_of_le_length (by omega), List.take_append_of_le_length (by rw [List.length_drop]; omega)]
theorem rowAt {kb : Bk} {cs : List Value} {i m off : Nat} {v : Value} (h : (kb.cs.drop (i * m)).take m = cs) (hv : cs[off]? = some v) : kb.cs[i * m + off]? = some v := by
  subst h
  exact take_drop_get hv
theorem setRow_len : ∀ (vs cs : List Value) (o : Nat), (setRow cs o vs).length = cs.length
  | [], cs, o => rfl
  | v :: vs, cs, o => by rw [setRow, setRow_len vs]; simp
theorem setRow_app : ∀ (vs : List Value) (a b : List Value) (o : Nat), o + vs.length ≤ a.length → setRow (a ++ b) o vs = setRow a o vs ++ b
  | [], a, b, o, h => rfl
  | v :: vs, a, b, o, h => by
    rw [setRow, setRow, List.set_append_left _ _ (by simp at h; omega)]
    exact setRow_app vs _ b (o + 1) (by simp at h ⊢; omega)
theorem setRow_pre : ∀ (vs : List Value) (a b : List Value) (o : Nat), setRow (a ++ b) (a.length + o) vs = a ++ setRow b o vs
  | [], a, b, o => rfl
  | v :: vs, a, b, o => by
    rw [setRow, setRow, List.set_append_right _ _ (by omega), show a.length + o - a.length = o by omega, Nat.add_assoc]
    exact setRow_pre vs a _ (o + 1)
theorem Reps.setPart : ∀ {xs : List α} {cs : List Value} {i off : Nat} {vs : List Value} {x : α} {c : List Value}, Reps T p cs xs → (cs.drop (i * T.n)).take T.n = c → T.rep p (setRow c off vs) x → off + vs.length ≤ T.n → i < xs.length →
    Reps T p (setRow cs (i * T.n + off) vs) (xs.set i x)
  | [], cs, i, off, vs, x, c, h, hc, hx, ho, hi => by simp at hi
  | y :: xs, cs, 0, off, vs, x, c, ⟨c1, c2, e1, h1, h2⟩, hc, hx, ho, hi => by
    subst e1
    have e : c1 = c := by rw [← hc, Nat.zero_mul, List.drop_zero, ← T.len h1]; simp
    subst e
    rw [Nat.zero_mul, Nat.zero_add, setRow_app _ _ _ _ (by rw [T.len h1]; exact ho)]
    exact ⟨_, c2, rfl, hx, h2⟩
  | y :: xs, cs, i + 1, off, vs, x, c, ⟨c1, c2, e1, h1, h2⟩, hc, hx, ho, hi => by
    subst e1
    have hd : (c2.drop (i * T.n)).take T.n = c := by
      rw [← hc, Nat.succ_mul, Nat.add_comm, ← List.drop_drop]
      rw [show List.drop T.n (c1 ++ c2) = c2 by rw [← T.len h1]; simp]
    have ih := h2.setPart hd hx ho (by simpa using hi)
    rw [Nat.succ_mul, show i * T.n + T.n + off = c1.length + (i * T.n + off) by rw [T.len h1]; omega, setRow_pre]
    exact ⟨c1, _, rfl, h1, ih⟩
theorem e_storeB {t : TypeId} {x y : Operand} (i m off io : Nat) (v : Value) (vs : List Value) {et : TypeId} {A : Option Addr} {l c : Nat} {kb : Bk} {cs : List Value} (xs : List α) (u : α) (hx : evS sl x = some (.pointer (some ⟨kb.g, i * m + off, none⟩))) (hy : evS sl y = some v) (hi : own[io]? = some (some kb))
    (hv : v.cells = vs.toArray) (hz : cellsOfT P t = some vs.length) (h1 : vs.all one1 = true) (hb : Buf p T et (.slice A l c) (some kb) xs) (hm : m = T.n) (hr : (kb.cs.drop (i * m)).take m = cs) (hu : T.rep p (setRow cs off vs) u) (ho : Nat.ble (off + vs.length) T.n = true) (hlt : i < xs.length) :
    Eff P n g own sl (.store t x y) ty (fun v' g' own' => ∃ k', g = g' ∧ own' = own.set io k' ∧ Buf p T et (.slice A l c) k' (xs.set i u)) := by
  subst hm
  intro o a w Q K e1 e2 hf hs h
  have ho' : off + vs.length ≤ T.n := by simpa using ho
  rcases hb.2 with ⟨_, rfl, _⟩ | ⟨b, cap, cs0, sp, q1, q2, q3, q4, q5⟩
  · simp at hlt
  · injection q2 with q2
    have hl0 : i * T.n + T.n ≤ cs0.length := by rw [q3.len, ← Nat.succ_mul]; exact Nat.mul_le_mul_right _ hlt
    have hcs : (cs0.drop (i * T.n)).take T.n = cs := by
      rw [← hr, q2]
      show _ = (List.drop (i * T.n) (cs0 ++ sp)).take T.n
      rw [List.drop_append_of_le_length (by omega), List.take_append_of_le_length (by rw [List.length_drop]; omega)]
    have hl : i * T.n + off + vs.length ≤ kb.cs.length := by rw [q2]; simp; omega
    refine e_store (k := kb) hx hy hi rfl hv hz h1 (by simpa using hl) rfl o a w Q K e1 e2 hf hs fun v' g' own' w' hg hs' ⟨h2, h3⟩ => h v' g' own' w' hg hs' ⟨_, h2, h3, ?_⟩
    refine ⟨by rw [List.length_set]; exact hb.1, .inr ⟨b, cap, setRow cs0 (i * T.n + off) vs, sp, by rw [List.length_set]; exact q1, ?_, q3.setPart hcs hu ho' hlt, by rw [List.length_append, setRow_len, ← List.length_append]; exact q4, q5⟩⟩
    rw [q2]
    simp only [Option.some.injEq, Bk.mk.injEq, true_and]
    exact setRow_app _ _ _ _ (by omega)
theorem wide47 {m bytes : Nat} (h : m * bytes ≤ 140737488355328) : m * bytes ≤ 281474976710656 := Nat.le_trans h (by decide)
theorem cells_lent {k : Bk} (off : Nat) (cs : List Value) (h : p.m k.g = some k.obj) (e : (k.cs.drop off).take cs.length = cs) : Cells p ⟨k.g, off, none⟩ cs := by
  intro j v hj
  rw [addr_add]
  simp only [Psi.cell?, h]
  rw [← e] at hj
  have := take_drop_get hj
  obtain ⟨g, t, ks⟩ := k
  cases t with
  | ty t => simpa [Bk.obj] using this
  | mp es n =>
    cases ks with
    | nil => simp at this
    | cons c l => simpa [Bk.obj] using this
theorem Buf.srcO {et : TypeId} {A : Option Addr} {c : Nat} {k : Option Bk} {xs : List α} (h : Buf p T et (.slice A xs.length c) k xs) : ∃ news, Reps T p news xs ∧ ∀ (i : Nat) w (own : Own), St w g own → own[i]? = some k → Src w A xs.length news := by
  obtain ⟨news, h1, h2⟩ := h.src
  exact ⟨news, h1, fun i w own hs hi => h2 w fun b hb => by subst hb; exact hs.has b (List.mem_of_getElem? hi)⟩
structure ArrM (r b : Psi) (T : Ty α) (A : Option Addr) (c : Nat) (xs : List α) : Prop where
  cap : xs.length ≤ c
  len : xs.length ≤ 140737488355328
  row : ∃ cs, Reps T b cs xs ∧ (0 < xs.length → ∃ ad, A = some ad ∧ Cells r ad cs)
theorem ArrM.mono {r b r' b' : Psi} {A : Option Addr} {c : Nat} {xs : List α} (h : ArrM r b T A c xs) (k : r.le r') (l : b.le b') : ArrM r' b' T A c xs := by
  obtain ⟨h1, h0, cs, h2, h3⟩ := h
  exact ⟨h1, h0, cs, h2.mono l, fun hn => by obtain ⟨ad, e, hc⟩ := h3 hn; exact ⟨ad, e, hc.mono k⟩⟩
theorem ArrM.toArr {r b : Psi} {A : Option Addr} {c : Nat} {xs : List α} (h : ArrM r b T A c xs) (l : b.le r) : Arr r T A c xs := by
  obtain ⟨h1, h0, cs, h2, h3⟩ := h
  exact ⟨h1, h0, cs, h2.mono l, h3⟩
theorem Arr.toM {r b : Psi} {A : Option Addr} {c : Nat} {xs : List α} (h : Arr b T A c xs) (l : b.le r) : ArrM r b T A c xs := by
  obtain ⟨h1, h0, cs, h2, h3⟩ := h
  exact ⟨h1, h0, cs, h2, fun hn => by obtain ⟨ad, e, hc⟩ := h3 hn; exact ⟨ad, e, hc.mono l⟩⟩
theorem ArrM.lent {g g' : Gh} {A : Option Addr} {c : Nat} {xs : List α} (h : ArrM g.r g.b T A c xs) (k : g.r.le g'.r) (e : g'.b = g.b) : ArrM g'.r g'.b T A c xs := by rw [e]; exact h.mono k (.refl _)
theorem ArrM.nil {r b : Psi} {A : Option Addr} {c : Nat} : ArrM r b T A c [] := ⟨Nat.zero_le _, by simp, [], rfl, fun h => absurd h (by simp)⟩
theorem ArrM.at_ {r b : Psi} {A : Option Addr} {c : Nat} {xs : List α} (h : ArrM r b T A c xs) {i : Nat} {x : α} (hi : xs[i]? = some x) : ∃ ad cs, A = some ad ∧ T.rep b cs x ∧ Cells r (ad.add (i * T.n)) cs := by
  obtain ⟨_, _, cs, h2, h3⟩ := h
  have hlt : i < xs.length := by
    rcases Nat.lt_or_ge i xs.length with h | h
    · exact h
    · rw [List.getElem?_eq_none h] at hi; cases hi
  obtain ⟨ad, e, hc⟩ := h3 (by omega)
  exact ⟨ad, _, e, h2.at_ hi, hc.part _ _⟩
theorem ArrM.srcM {A : Option Addr} {c : Nat} {xs : List α} (h : ArrM g.r g.b T A c xs) : ∃ news, Reps T g.b news xs ∧ ∀ w own, St w g own → Src w A xs.length news := by
  obtain ⟨_, _, cs, h2, h3⟩ := h
  refine ⟨cs, h2, fun w own hs hn => ?_⟩
  obtain ⟨ad, e, hc⟩ := h3 hn
  exact ⟨ad, e, fun j u hj => hs.r.cell (hc j u hj)⟩
theorem arrm_of_buf {et : TypeId} {A : Option Addr} {c : Nat} {k : Option Bk} {xs : List α} {g' : Gh} (h : Buf g.b T et (.slice A xs.length c) k xs) (e : g'.b = g.b) (hk : ∀ b, k = some b → g'.r.m b.g = some b.obj) : ArrM g'.r g'.b T A c xs := by
  rw [e]
  rcases h.2 with ⟨h1, rfl, _⟩ | ⟨b, cap, cs, sp, h1, h2, h3, h4, h5⟩
  · exact ArrM.nil
  · injection h1 with e1 e2 e3
    subst e1; subst e3
    have hm := hk _ h2
    refine ⟨?_, h.1, cs, h3, fun _ => ⟨_, rfl, fun j v hj => ?_⟩⟩
    · rw [List.length_append, h3.len] at h4
      exact Nat.le_of_mul_le_mul_right (by omega : xs.length * T.n ≤ c * T.n) T.pos
    · rw [addr_add]
      have : (cs ++ sp)[j]? = some v := by
        have hlt : j < cs.length := (List.getElem?_eq_some_iff.1 hj).1
        rw [List.getElem?_append_left hlt]; exact hj
      simp only [Psi.cell?, hm, Bk.obj_ty]
      simpa using this
end
section
variable {P : Program} {ops : Array Oper} {Q : Exit → Act → World → Prop} {n : Nat} {lds fin : List Nat} {p : Psi} {K : Own} {g : Gh} {own : Own} {sl : Sl} {fuel : Nat} {listed : List Bool}
end
section
variable {P : Program} {n : Nat} {g : Gh} {own : Own} {sl : Sl} {ty : TypeId}
end
theorem land64 (a c : Int) (h : 0 ≤ c ∧ c ≤ 9223372036854775807) : 0 ≤ landK .i64 a c ∧ landK .i64 a c ≤ c := by
  unfold landK
  have h1 : (BitVec.ofInt 64 a &&& BitVec.ofInt 64 c).toNat ≤ c.toNat := by
    rw [BitVec.toNat_and]
    refine Nat.le_trans Nat.and_le_right ?_
    rw [BitVec.toNat_ofInt]
    omega
  have h2 : ((BitVec.ofInt IntKind.i64.bits a &&& BitVec.ofInt IntKind.i64.bits c).toNat : Int) ≤ c := by
    have : ((BitVec.ofInt 64 a &&& BitVec.ofInt 64 c).toNat : Int) ≤ (c.toNat : Int) := Int.ofNat_le.2 h1
    rw [Int.toNat_of_nonneg h.1] at this
    exact this
  rw [IntKind.wrap_i64]
  omega
end Go.Proofs.YtpleflcfaecojaaGreat
