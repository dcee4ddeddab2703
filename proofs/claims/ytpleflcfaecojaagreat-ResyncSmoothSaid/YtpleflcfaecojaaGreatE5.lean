/-
The engine, part 5: operations on rows: index, load, slice, convert, append, make. Conditions: each lemma's own.
-/
import Derived.Test.YtpleflcfaecojaaGreatE4
namespace Go.Proofs.YtpleflcfaecojaaGreat
set_option linter.unusedVariables false
set_option linter.unusedSimpArgs false
open Go.RowKit
section
variable {P : Program} {n : Nat} {p : Psi} {own : Own} {sl : Sl} {ty : TypeId} {α : Type} {T : Ty α}
theorem run_indexAt_of {w : World} {t e : TypeId} {sz idx len c : Nat} {A : Addr} {k : IntKind} (hlt : idx < len) (ht : P.underlying t = some (.slice e)) (hs : cellsOfT P e = some sz) :
    (Instr.indexAt t (.slice (some A) len c) (.int k (idx : Int))).run P w = .ok (.pointer (some (A.add (idx * sz)))) w := by
  have h0 : (0 : Int) ≤ (idx : Int) ∧ (idx : Int) < (len : Int) := ⟨by omega, by omega⟩
  simp only [Instr.indexAt, asIntOf, run_underlying ht, Sem.run_bind, Sem.run_pure, Result.andThen_ok]
  split <;> simp [h0, run_sizeOf_of hs, hlt]
theorem y_index {t e : TypeId} {x i : Operand} {A : Addr} {len c sz : Nat} {k : IntKind} (idx : Nat) (hx : evS sl x = some (.slice (some A) len c)) (hi : evS sl i = some (.int k (idx : Int))) (hlt : idx < len) (ht : P.underlying t = some (.slice e)) (hs : cellsOfT P e = some sz) :
    Yld P n p own sl (.indexAddr t x i) ty (.pointer (some (A.add (idx * sz)))) := by
  intro o a w h1 h2 hf hr
  simp [execOp, h1, hf.ev hx, hf.ev hi, run_indexAt_of hlt ht hs]
theorem y_indexA {t e : TypeId} {x i : Operand} {A : Addr} {m sz : Nat} {k : IntKind} (idx : Nat) (hx : evS sl x = some (.pointer (some A))) (hi : evS sl i = some (.int k (idx : Int))) (ht : P.underlying t = some (.array m e)) (hlt : idx < m) (hs : cellsOfT P e = some sz) :
    Yld P n p own sl (.indexAddr t x i) ty (.pointer (some (A.add (idx * sz)))) := by
  intro o a w h1 h2 hf hr
  have h0 : (0 : Int) ≤ (idx : Int) ∧ (idx : Int) < (m : Int) := ⟨by omega, by omega⟩
  have : (Instr.indexAt t (.pointer (some A)) (.int k (idx : Int))).run P w = .ok (.pointer (some (A.add (idx * sz)))) w := by
    simp only [Instr.indexAt, asIntOf, run_underlying ht, Sem.run_bind, Sem.run_pure, Result.andThen_ok, Instr.sureAddr]
    split <;> simp [h0, run_sizeOf_of hs, hlt]
  simp [execOp, h1, hf.ev hx, hf.ev hi, this]
theorem y_loadP1 {t : TypeId} {x : Operand} {A : Addr} {cs : List Value} (off : Nat) {v : Value} (hx : evS sl x = some (.pointer (some (A.add off)))) (hc : Cells p A cs) (ht : flatOf P t = true) (hv : cs[off]? = some v) :
    Yld P n p own sl (.load t x) ty v := by
  intro o a w h1 h2 hf hr
  simp [execOp, h1, hf.ev hx, Instr.loadAt, Instr.sureAddr, run_loadVar_flat ht (hr.r.cell (hc off v hv))]
theorem y_loadPA {t : TypeId} {x : Operand} {A : Addr} {cs vs : List Value} (off : Nat) (hx : evS sl x = some (.pointer (some (A.add off)))) (hc : Cells p A cs) (ht : aggOf P t = some vs.length) (hv : (cs.drop off).take vs.length = vs) :
    Yld P n p own sl (.load t x) ty (.agg vs.toArray) := by
  intro o a w h1 h2 hf hr
  have : (loadVar t (A.add off)).run P w = .ok (.agg vs.toArray) w := run_loadVar_agg ht fun j v hj => by
    rw [add_add]
    rw [← hv] at hj
    exact hr.r.cell (hc _ v (take_drop_get hj))
  simp [execOp, h1, hf.ev hx, Instr.loadAt, Instr.sureAddr, this]
def offA (A : Option Addr) (c l sz : Nat) : Option Addr := if c = l then A else A.map (·.add (l * sz))
theorem run_slice_of {w : World} {t e : TypeId} {sz len c l h : Nat} {A : Option Addr} {lo hi : Option Value} (ht : P.underlying t = some (.slice e)) (hs : cellsOfT P e = some sz)
    (hlo : (lo = none ∧ l = 0) ∨ ∃ k, lo = some (.int k (l : Int))) (hhi : (hi = none ∧ h = len) ∨ ∃ k, hi = some (.int k (h : Int))) (h1 : l ≤ h) (h2 : h ≤ c) :
    (Instr.sliceAt t (.slice A len c) lo hi none).run P w = .ok (.slice (offA A c l sz) (h - l) (c - l)) w := by
  have hb : (Instr.sliceBounds true len c lo hi none).run P w = .ok (l, h, c) w := by
    have e1 : (0 : Int) ≤ (l : Int) ∧ (l : Int) ≤ (h : Int) := ⟨by omega, by omega⟩
    have e2 : (0 : Int) ≤ (h : Int) ∧ (h : Int) ≤ (c : Int) := ⟨by omega, by omega⟩
    rcases hlo with ⟨rfl, rfl⟩ | ⟨k, rfl⟩ <;> rcases hhi with ⟨rfl, rfl⟩ | ⟨k2, rfl⟩ <;> simp [Instr.sliceBounds, Instr.sliceBound, asIntOf, e1, e2, h1, h2]
  simp [Instr.sliceAt, Instr.slice, run_underlying ht, hb, run_sizeOf_of hs, offA]
theorem y_slice {t e : TypeId} {x : Operand} {lo hi : Option Operand} {sz len c : Nat} (l h : Nat) {A : Option Addr} (m : Nat) (hx : evS sl x = some (.slice A len c)) (ht : P.underlying t = some (.slice e)) (hs : cellsOfT P e = some sz)
    (hlo : (lo = none ∧ l = 0) ∨ ∃ k y, lo = some y ∧ evS sl y = some (.int k (l : Int))) (hhi : (hi = none ∧ h = len) ∨ ∃ k y, hi = some y ∧ evS sl y = some (.int k (h : Int))) (h1 : l ≤ h) (h2 : h ≤ c) (hm : h - l = m) :
    Yld P n p own sl (.slice t x lo hi none) ty (.slice (offA A c l sz) m (c - l)) := by
  intro o a w e1 e2 hf hr
  subst hm
  have := run_slice_of (P := P) (w := w) (A := A) (lo := lo.map a.eval) (hi := hi.map a.eval) ht hs
    (hlo.imp (fun ⟨e, z⟩ => ⟨by rw [e]; rfl, z⟩) (fun ⟨k, y, e, hy⟩ => ⟨k, by rw [e]; simp [hf.ev hy]⟩))
    (hhi.imp (fun ⟨e, z⟩ => ⟨by rw [e]; rfl, z⟩) (fun ⟨k, y, e, hy⟩ => ⟨k, by rw [e]; simp [hf.ev hy]⟩)) h1 h2
  simp [execOp, e1, hf.ev hx, this]
theorem Arr.cut {A : Option Addr} {c : Nat} {xs : List α} (h : Arr p T A c xs) (l m : Nat) (h1 : l ≤ m) (h2 : m ≤ xs.length) : Arr p T (offA A c l T.n) (c - l) ((xs.drop l).take (m - l)) := by
  obtain ⟨hc, hl0, cs, hr, hrow⟩ := h
  refine ⟨by rw [List.length_take, List.length_drop]; omega, by rw [List.length_take, List.length_drop]; omega, (cs.drop (l * T.n)).take ((m - l) * T.n), (hr.drop l).take _, fun hn => ?_⟩
  rw [List.length_take, List.length_drop] at hn
  obtain ⟨ad, e, hcells⟩ := hrow (by omega)
  subst e
  refine ⟨ad.add (l * T.n), ?_, hcells.part _ _⟩
  unfold offA
  rw [if_neg (by omega)]
  rfl
theorem Arr.cut_from {A : Option Addr} {c : Nat} {xs : List α} (h : Arr p T A c xs) (l : Nat) (h1 : l ≤ xs.length) : Arr p T (offA A c l T.n) (c - l) (xs.drop l) := by
  have := h.cut l xs.length h1 (Nat.le_refl _)
  rwa [List.take_of_length_le (by simp)] at this
theorem mkS_toList (l : List UInt8) : (mkS l).toList = l := by
  have : ∀ (b : ByteArray) (i : Nat) (r : List UInt8), ByteArray.toList.loop b i r = r.reverse ++ b.data.toList.drop i := by
    intro b
    have key : ∀ (k i : Nat) (r : List UInt8), b.size - i = k → ByteArray.toList.loop b i r = r.reverse ++ b.data.toList.drop i := by
      intro k
      induction k with
      | zero =>
        intro i r hk
        rw [ByteArray.toList.loop.eq_1, if_neg (by omega), List.drop_of_length_le (by rw [Array.length_toList]; have : b.size = b.data.size := rfl; omega)]
        simp
      | succ k ih =>
        intro i r hk
        have hlt : i < b.size := by omega
        rw [ByteArray.toList.loop.eq_1, if_pos hlt, ih (i + 1) _ (by omega)]
        have hlt' : i < b.data.toList.length := by rw [Array.length_toList]; exact hlt
        rw [List.drop_eq_getElem_cons hlt']
        have hg : b.get! i = b.data.toList[i] := by
          simp only [ByteArray.get!]
          rw [getElem!_pos b.data i (by rw [Array.length_toList] at hlt'; exact hlt')]
          rw [Array.getElem_toList]
        rw [hg, List.reverse_cons, List.append_assoc]
        rfl
    exact fun i r => key _ i r rfl
  have := this (mkS l) 0 []
  unfold ByteArray.toList
  rw [this]
  simp [mkS]
theorem mkS_size (l : List UInt8) : (mkS l).size = l.length := by show l.toArray.size = _; simp
theorem tyU8_reps {cs : List Value} : ∀ {l : List UInt8}, Reps tyU8 p cs l → cs = l.map fun x => .int .u8 (x.toNat : Int)
  | l, h => by
    induction l generalizing cs with
    | nil => exact h
    | cons x l ih =>
      obtain ⟨c1, c2, e, h1, h2⟩ := h
      have h1 : c1 = [.int .u8 (x.toNat : Int)] := h1
      subst e; subst h1
      rw [ih h2]
      rfl
theorem run_str_of {w : World} {src dst e : TypeId} {A : Option Addr} {c : Nat} {l : List UInt8} (hr : p.In w) (h : Arr p tyU8 A c l) (hs : P.underlying src = some (.slice e)) (he : P.underlying e = some (.int .u8)) (hd : P.underlying dst = some .string) :
    (convert src dst (.slice A l.length c)).run P w = .ok (.string (mkS l)) w := by
  rw [run_convert_bytes_string w src dst e _ _ _ hs he hd]
  obtain ⟨hc, hl0, cs, hrep, hrow⟩ := h
  have hcs := tyU8_reps hrep
  subst hcs
  by_cases hn : 0 < l.length
  · obtain ⟨ad, rfl, hcells⟩ := hrow hn
    have hl : (loadCells ad l.length).run P w = .ok ((l.map fun x => (x.toNat : Int)).map (Value.int .u8)).toArray w := by
      have := run_loadCells_of (P := P) (w := w) (a := ad) (cs := l.map fun x => Value.int .u8 (x.toNat : Int)) (fun j v hj => hr.cell (hcells j v hj))
      rw [List.length_map] at this
      rw [this, List.map_map]
      rfl
    rw [run_bytesToString w ad _ c _ hl, foldl_push_bytes]
    simp [mkS, ByteArray.empty, ByteArray.emptyWithCapacity, Function.comp_def]
    rfl
  · have : l = [] := List.eq_nil_of_length_eq_zero (by omega)
    subst this
    cases A with
    | none => simp [Conv.bytesToString]; rfl
    | some ad => simp [Conv.bytesToString, loadCells, loadCellsFrom]; rfl
theorem y_str {src dst e : TypeId} {x : Operand} {A : Option Addr} {c : Nat} {l : List UInt8} (hx : evS sl x = some (.slice A l.length c)) (h : Arr p tyU8 A c l) (hs : P.underlying src = some (.slice e)) (he : P.underlying e = some (.int .u8)) (hd : P.underlying dst = some .string) :
    Yld P n p own sl (.convert src dst x) ty (.string (mkS l)) := by
  intro o a w h1 h2 hf hr
  simp [execOp, h1, hf.ev hx, run_str_of hr.r h hs he hd]
theorem y_eqS {t u : TypeId} {x y : Operand} {a b : List UInt8} (hx : evS sl x = some (.string (mkS a))) (hy : evS sl y = some (.string (mkS b))) : Yld P n p own sl (.binOp .eql t x y u) ty (.bool (a == b)) := by
  refine y_of (defd_bin hx hy) fun w _ => ?_
  simp [execOp, bareO, rhoS, hx, hy, eqGuard, binOp, Op.stringOp, mkS_toList]
theorem y_neS {t u : TypeId} {x y : Operand} {a b : List UInt8} (hx : evS sl x = some (.string (mkS a))) (hy : evS sl y = some (.string (mkS b))) : Yld P n p own sl (.binOp .neq t x y u) ty (.bool (!(a == b))) := by
  refine y_of (defd_bin hx hy) fun w _ => ?_
  simp [execOp, bareO, rhoS, hx, hy, eqGuard, binOp, Op.stringOp, mkS_toList]
end
section
variable {P : Program} {n : Nat} {g : Gh} {own : Own} {sl : Sl} {ty : TypeId} {α : Type} {T : Ty α} {p : Psi}
def Src (w : World) (A : Option Addr) (m : Nat) (news : List Value) : Prop := 0 < m → ∃ ad, A = some ad ∧ ∀ j u, news[j]? = some u → w.cell? (ad.add j) = some u
theorem Arr.src {A : Option Addr} {c : Nat} {xs : List α} (h : Arr p T A c xs) : ∃ news, Reps T p news xs ∧ ∀ w, p.In w → Src w A xs.length news := by
  obtain ⟨hc, hl0, cs, hrep, hrow⟩ := h
  exact ⟨cs, hrep, fun w hw hn => by obtain ⟨ad, e, hcells⟩ := hrow hn; exact ⟨ad, e, fun j u hu => hw.cell (hcells j u hu)⟩⟩
theorem Buf.src {et : TypeId} {A : Option Addr} {c : Nat} {k : Option Bk} {xs : List α} (h : Buf p T et (.slice A xs.length c) k xs) : ∃ news, Reps T p news xs ∧ ∀ w, (∀ b, k = some b → w.heap[b.g]? = some b.obj) → Src w A xs.length news := by
  rcases h.2 with ⟨h1, h2, h3⟩ | ⟨b, cap, cs, sp, h1, h2, h3, h4, h5⟩
  · subst h2
    exact ⟨[], rfl, fun w _ hn => absurd hn (by simp)⟩
  · refine ⟨cs, h3, fun w hw hn => ?_⟩
    injection h1 with hA _ _
    subst hA
    refine ⟨_, rfl, fun j u hu => ?_⟩
    have := hw _ h2
    rw [addr_add]
    simp [World.cell?, this, Bk.obj_ty]
    rw [List.getElem?_append_left (by rcases Nat.lt_or_ge j cs.length with h | h; exact h; rw [List.getElem?_eq_none h] at hu; cases hu)]
    exact hu
structure AppT (P : Program) (t et : TypeId) (sz bytes : Nat) : Prop where
  out : ∃ i z, P.underlying t = some (.slice et) ∧ P.info? et = some i ∧ i.zero = some z ∧ i.size = sz ∧ i.bytes = bytes ∧ z.cells.size = sz
def appT (P : Program) (t et : TypeId) : Option (Nat × Nat) :=
  match P.underlying t, P.info? et with
  | some (.slice e), some i => match i.zero with
    | some z => if e = et ∧ z.cells.size = i.size then some (i.size, i.bytes) else none
    | none => none
  | _, _ => none
theorem AppT.of {t et : TypeId} {sz bytes : Nat} (h : appT P t et = some (sz, bytes)) : AppT P t et sz bytes := by
  unfold appT at h
  split at h
  · rename_i e i h1 h2
    split at h
    · rename_i z hz
      split at h
      · rename_i hc
        simp only [Option.some.injEq, Prod.mk.injEq] at h
        exact ⟨i, z, by rw [h1, hc.1], h2, hz, h.1, h.2, hc.2.trans h.1⟩
      · cases h
    · cases h
  · cases h
theorem run_append_none {w : World} {t ty' e : TypeId} {sz : Nat} (ht : P.underlying t = some (.slice e)) (hs : cellsOfT P e = some sz) {A : Option Addr} {l c c2 : Nat} (hlc : l ≤ c) :
    (Builtin.append_ #[t, t] ty' #[.slice A l c, .slice none 0 c2]).run P w = .ok (.slice A l c) w := by
  cases A <;> simp [Builtin.append_, run_underlying ht, run_sizeOf_of hs, Builtin.lenOf, hlc, Builtin.firstCells, storeCells]
theorem run_append_of {w : World} {own : Own} {t ty' et : TypeId} {bytes : Nat} (ha : AppT P t et T.n bytes) (hs : St w g own) {i : Nat} {v : Value} {k : Option Bk} {xs : List α} (hi : own[i]? = some k) (hb : Buf p T et v k xs)
    {A : Option Addr} {m c : Nat} {news : List Value} {ys : List α} (hm : m = ys.length) (hsrc : Src w A m news) (hrep : Reps T p news ys) (hbytes : (xs.length + ys.length) * bytes ≤ 140737488355328) (hlen : xs.length + ys.length ≤ 140737488355328) :
    ∃ v' k' w', (Builtin.append_ #[t, t] ty' #[v, .slice A m c]).run P w = .ok v' w' ∧ Buf p T et v' k' (xs ++ ys) ∧ St w' g (own.set i k') := by
  obtain ⟨inf, z, ht, hinf, hz, hsz, hby, hzs⟩ := ha.out
  have hcell : cellsOfT P et = some T.n := by simp [cellsOfT, hinf, hsz]
  subst hm
  by_cases hy : ys = []
  · subst hy
    have hnews : news = [] := hrep
    obtain ⟨A1, c1, rfl, hc1⟩ := hb.val
    have same : own.set i k = own := by
      apply List.ext_getElem?
      intro j
      rw [List.getElem?_set]
      split
      · rename_i e; subst e
        split
        · exact hi.symm
        · rename_i hlt; rw [List.getElem?_eq_none (by omega)]
      · rfl
    refine ⟨.slice A1 xs.length c1, k, w, ?_, by simpa using hb, by rw [same]; exact hs⟩
    cases A with
    | none => exact run_append_none ht hcell hc1
    | some ad => cases A1 <;> simp [Builtin.append_, run_underlying ht, run_sizeOf_of hcell, Builtin.lenOf, hc1, Builtin.firstCells, loadCells, loadCellsFrom, storeCells]
  · have hpos : 0 < ys.length := List.length_pos_iff.2 hy
    obtain ⟨ad, rfl, hnews⟩ := hsrc hpos
    -- what is one's own, in the kit's word
    have hown : ∃ cs, Reps T p cs xs ∧ w.ownsRow 0 et T.n v xs.length cs ∧ (∀ b, v.ownBlock = some b → ∃ kb, k = some kb ∧ kb.g = b) := by
      rcases hb.2 with ⟨rfl, rfl, rfl⟩ | ⟨b, cap, cs, sp, rfl, rfl, h3, h4, h5⟩
      · exact ⟨[], rfl, World.ownsRow_nil w 0 et T.n, fun b hb => by simp [Value.ownBlock] at hb⟩
      · refine ⟨cs, h3, ⟨h3.len, .inr ⟨b, cap, _, rfl, Nat.zero_le _, hs.has _ (List.mem_of_getElem? hi), ?_, h5, by simpa using h4, ?_⟩⟩, fun b' hb => ⟨_, rfl, by simpa [Value.ownBlock] using hb⟩⟩
        · rw [List.length_append, h3.len] at h4
          exact Nat.le_of_mul_le_mul_right (by omega : xs.length * T.n ≤ cap * T.n) T.pos
        · simp [← h3.len]
    obtain ⟨cs, hrx, how, hblk⟩ := hown
    obtain ⟨v', w', hrun, how', hgrow, _, hat⟩ := run_append_own_at (P := P) w 0 t ty' et inf z T.n bytes ht hinf hz hsz hby hzs T.pos v xs.length cs how ad ys.length c news hrep.len hnews (all_one' hrep.one) (by simp only [maxLen]; omega) hbytes (Nat.zero_le _)
    have hlenpos : 0 < xs.length + ys.length := by omega
    rcases how'.2 with ⟨rfl, hz0⟩ | ⟨b', cap, cur, rfl, _, hheap, hnc, hcm, hcs, htake⟩
    · omega
    · refine ⟨_, some ⟨b', et, cur.toList⟩, w', hrun, ?_, ?_⟩
      · have hc2 : cur.toList = (cs ++ news) ++ cur.toList.drop ((xs.length + ys.length) * T.n) := by rw [← htake, List.take_append_drop]
        refine ⟨by rw [List.length_append]; exact hlen, .inr ⟨b', cap, cs ++ news, cur.toList.drop ((xs.length + ys.length) * T.n), by rw [List.length_append], by rw [← hc2], hrx.append hrep, ?_, hcm⟩⟩
        rw [← hc2]; simpa using hcs
      · refine hs.swap hi _ hgrow.os hgrow.tape hgrow.output (fun b hb hne => hgrow.block b hb fun e => ?_) fun k' hk' => ?_
        · obtain ⟨kb, e1, e2⟩ := hblk b e.symm
          exact hne kb e1 e2.symm
        · injection hk' with hk'
          subst hk'
          refine ⟨by simpa [Bk.obj_ty] using hheap, ?_⟩
          rcases hat with h1 | h1
          · left
            obtain ⟨kb, e1, e2⟩ := hblk b' (by rw [← h1]; rfl)
            exact ⟨kb, e1, e2⟩
          · right
            have : b' = w.heap.size := by simpa [Value.ownBlock] using h1
            exact Nat.le_of_eq this.symm
theorem e_append {t et : TypeId} {bytes : Nat} {s x : Operand} (i : Nat) {v : Value} {k : Option Bk} {xs : List α} {A : Option Addr} {m c : Nat} {ys : List α} (p : Psi) (news : List Value) (ha : appT P t et = some (T.n, bytes)) (hs : evS sl s = some v) (hx : evS sl x = some (.slice A m c)) (hi : own[i]? = some k) (hb : Buf p T et v k xs)
    (hm : m = ys.length) (hsrc : ∀ w, St w g own → Src w A m news) (hrep : Reps T p news ys) (hlen : xs.length + ys.length ≤ 140737488355328) (hbytes : (xs.length + ys.length) * bytes ≤ 140737488355328) :
    Eff P n g own sl (.call { callee := .builtin .append, args := #[s, x], argTypes := #[t, t] }) ty (fun v' g' own' => ∃ A' c' k', v' = .slice A' (xs ++ ys).length c' ∧ g = g' ∧ own' = own.set i k' ∧ Buf p T et (.slice A' (xs ++ ys).length c') k' (xs ++ ys)) := by
  intro o a w Q K h1 h2 hf hst h
  obtain ⟨v', k', w', hrun, hb', hst'⟩ := run_append_of (P := P) (ty' := o.type) (AppT.of ha) hst hi hb (c := c) hm (hsrc w hst) hrep hbytes hlen
  obtain ⟨A', c', rfl, _⟩ := hb'.val
  have : (execOp a.eval o).run P w = .ok (.value (.slice A' (xs ++ ys).length c')) w' := by
    simp [execOp, h1, resolve, invoke, builtin, hf.ev hs, hf.ev hx, hrun]
  unfold Oper.wp
  rw [this]
  exact h _ _ _ _ (.refl g) hst' ⟨A', c', k', rfl, rfl, rfl, hb'⟩
def buildRow (P : Program) (t : TypeId) (len : Nat) (pv : List (Nat × Value)) : Option (TypeId × Array Value) :=
  match P.underlying t with
  | some (.slice elem) =>
    match P.info? elem with
    | some i =>
      if len * i.size > 2 ^ 24 then none else
      match (if len * i.size = 0 then some #[] else i.zero.map Value.cells) with
      | some zero => (Instr.fill (fun j => some (j * i.size, i.size)) ((Array.range (len * i.size)).map (zero[· % zero.size]!)) pv).map fun c => (elem, c)
      | none => none
    | none => none
  | _ => none
theorem run_buildSlice_of {w : World} {t et : TypeId} {len : Nat} {pv : List (Nat × Value)} {cs : List Value} (h : buildRow P t len pv = some (et, cs.toArray)) :
    (Instr.buildSlice t len pv.toArray).run P w = .ok (.slice (some ⟨w.heap.size, 0, none⟩) len len) (w.alloc (.cells cs.toArray et)) := by
  unfold buildRow at h
  split at h
  · rename_i elem hu
    split at h
    · rename_i inf hinf
      have hsz : (sizeOf elem).run P w = .ok inf.size w := run_sizeOf_of (by simp [cellsOfT, hinf]) w
      by_cases hbig : len * inf.size > 2 ^ 24
      · rw [if_pos hbig] at h; cases h
      · rw [if_neg hbig] at h
        by_cases h0 : len * inf.size = 0
        · rw [if_pos h0] at h
          simp only [Option.map_eq_some_iff] at h
          obtain ⟨c, hc, e⟩ := h
          simp only [Prod.mk.injEq] at e
          obtain ⟨rfl, rfl⟩ := e
          unfold Instr.buildSlice
          simp only [run_underlying hu, Sem.run_bind, Result.andThen_ok, hsz, if_neg hbig, if_pos h0, Sem.run_pure, List.toList_toArray, hc]
          simp [newRow, newObj, Sem.run]
        · rw [if_neg h0] at h
          cases hz : inf.zero with
          | none => rw [hz] at h; cases h
          | some z =>
            rw [hz] at h
            simp only [Option.map_some, Option.map_eq_some_iff] at h
            obtain ⟨c, hc, e⟩ := h
            simp only [Prod.mk.injEq] at e
            obtain ⟨rfl, rfl⟩ := e
            have hzv : (zeroValue elem).run P w = .ok z w := by simp [zeroValue, typeInfo, program, Sem.run, bind, Sem.bind, hinf, hz, pure]
            unfold Instr.buildSlice
            simp only [run_underlying hu, Sem.run_bind, Result.andThen_ok, hsz, if_neg hbig, if_neg h0, Sem.run_pure, List.toList_toArray, hzv, hc]
            simp [newRow, newObj, Sem.run]
    · cases h
  · cases h
theorem e_buildSlice {t et : TypeId} {len : Nat} {parts : Array (Nat × Operand)} (pv : List (Nat × Value)) (cs : List Value) (hp : parts.toList.map (fun q => (evS sl q.2).map fun v => (q.1, v)) = pv.map some) (h : buildRow P t len pv = some (et, cs.toArray)) :
    Eff P n g own sl (.buildSlice t len parts) ty (fun v' g' own' => ∃ b, v' = .slice (some ⟨b, 0, none⟩) len len ∧ g = g' ∧ own' = some ⟨b, et, cs⟩ :: own) := by
  intro o a w Q K h1 h2 hf hs hk
  have hpv : parts.map (fun q => (q.1, a.eval q.2)) = pv.toArray := by
    apply Array.toList_inj.1
    rw [Array.toList_map, List.toList_toArray]
    have : ∀ (l : List (Nat × Operand)) (pv : List (Nat × Value)), l.map (fun q => (evS sl q.2).map fun v => (q.1, v)) = pv.map some → l.map (fun q => (q.1, a.eval q.2)) = pv := by
      intro l
      induction l with
      | nil => intro pv h; cases pv with | nil => rfl | cons _ _ => simp at h
      | cons q l ih =>
        intro pv h
        cases pv with
        | nil => simp at h
        | cons u pv =>
          simp only [List.map_cons, List.cons.injEq, Option.map_eq_some_iff] at h
          obtain ⟨⟨v, hv, e⟩, h3⟩ := h
          rw [List.map_cons, ih pv h3, hf.ev hv, e]
    exact this _ _ hp
  have : (execOp a.eval o).run P w = .ok (.value (.slice (some ⟨w.heap.size, 0, none⟩) len len)) (w.alloc (.cells cs.toArray et)) := by
    have e := run_buildSlice_of (w := w) h
    simp only [execOp, h1]
    rw [show (parts.map fun x => match x with | (i, x) => (i, a.eval x)) = pv.toArray from hpv]
    simp [e]
  unfold Oper.wp
  rw [this]
  exact hk _ _ _ _ (.refl g) (hs.alloc et cs) ⟨_, rfl, rfl, rfl⟩
theorem buf_lit {et : TypeId} {b len : Nat} {cs : List Value} {xs : List α} (h : Reps T p cs xs) (hl : xs.length = len) (hm : len ≤ 140737488355328) : Buf p T et (.slice (some ⟨b, 0, none⟩) len len) (some ⟨b, et, cs⟩) xs := by
  subst hl
  exact ⟨hm, .inr ⟨b, xs.length, cs, [], rfl, by simp, h, by simpa using h.len, by simp only [maxLen]; omega⟩⟩
theorem Buf.arr {et : TypeId} {A : Option Addr} {c : Nat} {k : Bk} {xs : List α} (h : Buf p T et (.slice A xs.length c) (some k) xs) : Arr (p.add k) T A c xs ∨ p.m k.g ≠ none := by
  rcases h.2 with ⟨_, _, h3⟩ | ⟨b, cap, cs, sp, h1, h2, h3, h4, h5⟩
  · cases h3
  · injection h2 with h2
    injection h1 with hA _ hc
    subst hA; subst hc; subst h2
    by_cases hp : p.m b = none
    · left
      refine ⟨?_, h.1, cs, h3.mono (Psi.le_add hp), fun _ => ⟨_, rfl, fun j v hj => ?_⟩⟩
      · rw [List.length_append, h3.len] at h4
        exact Nat.le_of_mul_le_mul_right (by omega : xs.length * T.n ≤ c * T.n) T.pos
      · rw [addr_add]
        have hm : (p.add ⟨b, et, cs ++ sp⟩).m b = some (.cells (cs ++ sp).toArray et (0, 0)) := if_pos rfl
        simp only [Psi.cell?, hm]
        simp
        rw [List.getElem?_append_left (by rcases Nat.lt_or_ge j cs.length with h | h; exact h; rw [List.getElem?_eq_none h] at hj; cases hj)]
        exact hj
    · exact .inr hp
theorem wpq_freeze {K : Act → World → Prop} (i : Nat) {et : TypeId} {A : Option Addr} {c : Nat} {k : Option Bk} {xs : List α} (hi : own[i]? = some k) (hb : Buf g.b T et (.slice A xs.length c) k xs)
    (h : ∀ g', g.le g' → Arr g'.b T A c xs → WPq K n g' (own.set i none) sl) : WPq K n g own sl := by
  intro a w hf hs
  cases k with
  | none =>
    rcases hb.2 with ⟨h1, rfl, _⟩ | ⟨b, cap, cs, sp, h1, h2, _⟩
    · have same : own.set i none = own := by
        apply List.ext_getElem?
        intro j
        rw [List.getElem?_set]
        split
        · rename_i e; subst e
          split
          · exact hi.symm
          · rename_i hlt; rw [List.getElem?_eq_none (by omega)]
        · rfl
      have := h g (.refl g) Arr.nil
      rw [same] at this
      exact this a w hf hs
    · cases h2
  | some kb =>
    obtain ⟨hle, hs'⟩ := hs.publish hi
    have hfree := g.br.none_ (hs.free kb (Own.get_mem hi))
    rcases hb.arr with h1 | h1
    · exact h _ hle h1 a w hf hs'
    · exact absurd hfree h1
theorem e_make {t et : TypeId} {x y : Operand} {kx ky : IntKind} {bytes : Nat} (m : Nat) {zs : List Value} {z : α} (ha : appT P t et = some (T.n, bytes)) (hx : evS sl x = some (.int kx (m : Int))) (hy : evS sl y = some (.int ky (m : Int))) (hz : zeroOf P et = some zs.toArray) (hr : T.rep p zs z) (hbytes : bytes * m ≤ 281474976710656) (hm : m ≤ 140737488355328) :
    Eff P n g own sl (.makeSlice t x y) ty (fun v' g' own' => ∃ b cs, v' = .slice (some ⟨b, 0, none⟩) m m ∧ g = g' ∧ own' = some ⟨b, et, cs⟩ :: own ∧ Reps T p cs (List.replicate m z) ∧ Buf p T et (.slice (some ⟨b, 0, none⟩) m m) (some ⟨b, et, cs⟩) (List.replicate m z)) := by
  intro o a w Q K h1 h2 hf hs h
  obtain ⟨inf, z0, ht, hinf, hz0, hsz, hby, hzs⟩ := (AppT.of ha).out
  have hzc : z0.cells = zs.toArray := by
    unfold zeroOf at hz
    rw [hinf] at hz
    simpa [hz0] using hz
  have hc : ∀ m : Nat, Reps T p (madeCells z0.cells (m * T.n)).toList (List.replicate m z) := by
    intro m
    induction m with
    | zero => simp [madeCells]; rfl
    | succ m ih =>
      have e : (madeCells z0.cells ((m + 1) * T.n)).toList = zs ++ (madeCells z0.cells (m * T.n)).toList := by
        rw [hzc]
        have hzl : zs.length = T.n := T.len hr
        apply List.ext_getElem?
        intro j
        rw [List.getElem?_append]
        simp only [madeCells, Array.toList_map, Array.toList_range, List.getElem?_map]
        by_cases hj : j < zs.length
        · rw [if_pos hj]
          have hj2 : j < (m + 1) * T.n := by rw [Nat.succ_mul]; omega
          rw [List.getElem?_range hj2]
          simp only [Option.map_some, List.size_toArray, Nat.mod_eq_of_lt hj]
          rw [List.getElem?_eq_getElem hj]
          simp [hj]
        · rw [if_neg hj]
          by_cases hj2 : j < (m + 1) * T.n
          · have hj3 : j - zs.length < m * T.n := by rw [Nat.succ_mul] at hj2; omega
            rw [List.getElem?_range hj2, List.getElem?_range hj3]
            simp only [Option.map_some, List.size_toArray]
            congr 2
            exact (Nat.mod_eq_sub_mod (by omega))
          · have hj3 : ¬ j - zs.length < m * T.n := by rw [Nat.succ_mul] at hj2; omega
            rw [List.getElem?_eq_none (by simpa using hj2), List.getElem?_eq_none (by simpa using hj3)]
      rw [e, List.replicate_succ]
      exact ⟨zs, _, rfl, hr, ih⟩
  have hrep := hc m
  have hb : Buf p T et (.slice (some ⟨w.heap.size, 0, none⟩) m m) (some ⟨w.heap.size, et, (madeCells z0.cells (m * T.n)).toList⟩) (List.replicate m z) := buf_lit hrep List.length_replicate hm
  have hrun := run_make (P := P) w t et inf z0 ht hinf hz0 kx ky (m : Int) (m : Int) (by omega) (by omega) (by rw [hby]; have h9 : ((bytes * m : Nat) : Int) ≤ 281474976710656 := Int.ofNat_le.2 hbytes; rw [Int.natCast_mul] at h9; exact h9) (by omega)
  have : (execOp a.eval o).run P w = .ok (.value (.slice (some ⟨w.heap.size, 0, none⟩) m m)) (w.alloc (.cells (madeCells z0.cells (m * T.n)) et)) := by
    simp only [Int.toNat_natCast, hsz] at hrun
    simp [execOp, h1, hf.ev hx, hf.ev hy, hrun]
  unfold Oper.wp
  rw [this]
  have hal := hs.alloc et (madeCells z0.cells (m * T.n)).toList
  rw [Array.toArray_toList] at hal
  exact h _ _ _ _ (.refl g) hal ⟨_, _, rfl, rfl, rfl, hrep, hb⟩
end
end Go.Proofs.YtpleflcfaecojaaGreat
