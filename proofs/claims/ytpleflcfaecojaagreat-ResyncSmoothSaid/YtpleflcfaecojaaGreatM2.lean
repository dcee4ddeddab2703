/-
The engine, part 5: operations on rows: index, load, slice, convert, append, make. Conditions: each lemma's own.
-/
import Derived.Test.YtpleflcfaecojaaGreatM1
import Derived.OrdersHeld
import Derived.ProofKit
import Derived.OpenShut
import Derived.Handy
import Derived.ChangeSame
import Derived.Deep.Slices
import Derived.IntWalk
import Derived.SizedLaws
import Derived.Test.YtpleflcfaecojaaGreatRows
import Derived.Lib.AppendZeros
import Derived.Laws.StructEq
import Derived.ChangeKeysEq
import Derived.LoopN
import Derived.Lib.Bytealg
import Derived.MapKept
import Derived.Test.YtpleflcfaecojaaGreatProg
namespace Go.Proofs.YtpleflcfaecojaaGreat
set_option linter.unusedVariables false
set_option linter.unusedSimpArgs false
open Go.RowKit
section
variable {P : Program} {n : Nat} {p : Psi} {own : Own} {sl : Sl} {ty : TypeId} {α : Type} {T : Ty α}
theorem run_indexAt_of {w : World} {t e : TypeId} {sz idx len c : Nat} {A : Addr} {k : IntKind} (hlt : idx < len) (ht : P.underlying t = some (.slice e)) (hs : cellsOfT P e = some sz) :
    (Instr.indexAt t (.slice (some A) len c) (.int k (idx : Int))).run P w = .ok (.pointer (some (A.add (idx * sz)))) w := by
  have h0 : (0 : Int) ≤ (idx : Int) ∧ (idx : Int) < (len : Int) := ⟨by omega, by omega⟩
  simp only [Instr.indexAt, asIntOf, run_underlying ht, Sem.run_bind, Sem.run_pure, Result.andThen_ok]
  split <;> simp [h0, run_sizeOf_of hs, hlt]
theorem y_index {t e : TypeId} {x i : Operand} {A : Addr} {len c sz : Nat} {k : IntKind} (idx : Nat) (hx : evS sl x = some (.slice (some A) len c)) (hi : evS sl i = some (.int k (idx : Int))) (hlt : idx < len) (ht : P.underlying t = some (.slice e)) (hs : cellsOfT P e = some sz) :
    Yld P n p own sl (.indexAddr t x i) ty (.pointer (some (A.add (idx * sz)))) := by
  intro o a w h1 h2 hf hr
  simp [execOp, h1, hf.ev hx, hf.ev hi, run_indexAt_of hlt ht hs]
theorem y_indexA {t e : TypeId} {x i : Operand} {A : Addr} {m sz : Nat} {k : IntKind} (idx : Nat) (hx : evS sl x = some (.pointer (some A))) (hi : evS sl i = some (.int k (idx : Int))) (ht : P.underlying t = some (.array m e)) (hlt : idx < m) (hs : cellsOfT P e = some sz) :
    Yld P n p own sl (.indexAddr t x i) ty (.pointer (some (A.add (idx * sz)))) := by
  intro o a w h1 h2 hf hr
  have h0 : (0 : Int) ≤ (idx : Int) ∧ (idx : Int) < (m : Int) := ⟨by omega, by omega⟩
  have : (Instr.indexAt t (.pointer (some A)) (.int k (idx : Int))).run P w = .ok (.pointer (some (A.add (idx * sz)))) w := by
    simp only [Instr.indexAt, asIntOf, run_underlying ht, Sem.run_bind, Sem.run_pure, Result.andThen_ok, Instr.sureAddr]
    split <;> simp [h0, run_sizeOf_of hs, hlt]
  simp [execOp, h1, hf.ev hx, hf.ev hi, this]
theorem y_loadP1 {t : TypeId} {x : Operand} {A : Addr} {cs : List Value} (off : Nat) {v : Value} (hx : evS sl x = some (.pointer (some (A.add off)))) (hc : Cells p A cs) (ht : flatOf P t = true) (hv : cs[off]? = some v) :
    Yld P n p own sl (.load t x) ty v := by
  intro o a w h1 h2 hf hr
  simp [execOp, h1, hf.ev hx, Instr.loadAt, Instr.sureAddr, run_loadVar_flat ht (hr.r.cell (hc off v hv))]
theorem y_loadPA {t : TypeId} {x : Operand} {A : Addr} {cs vs : List Value} (off : Nat) (hx : evS sl x = some (.pointer (some (A.add off)))) (hc : Cells p A cs) (ht : aggOf P t = some vs.length) (hv : (cs.drop off).take vs.length = vs) :
    Yld P n p own sl (.load t x) ty (.agg vs.toArray) := by
  intro o a w h1 h2 hf hr
  have : (loadVar t (A.add off)).run P w = .ok (.agg vs.toArray) w := run_loadVar_agg ht fun j v hj => by
    rw [add_add]
    rw [← hv] at hj
    exact hr.r.cell (hc _ v (take_drop_get hj))
  simp [execOp, h1, hf.ev hx, Instr.loadAt, Instr.sureAddr, this]
def offA (A : Option Addr) (c l sz : Nat) : Option Addr := if c = l then A else A.map (·.add (l * sz))
theorem run_slice_of {w : World} {t e : TypeId} {sz len c l h : Nat} {A : Option Addr} {lo hi : Option Value} (ht : P.underlying t = some (.slice e)) (hs : cellsOfT P e = some sz)
    (hlo : (lo = none ∧ l = 0) ∨ ∃ k, lo = some (.int k (l : Int))) (hhi : (hi = none ∧ h = len) ∨ ∃ k, hi = some (.int k (h : Int))) (h1 : l ≤ h) (h2 : h ≤ c) :
    (Instr.sliceAt t (.slice A len c) lo hi none).run P w = .ok (.slice (offA A c l sz) (h - l) (c - l)) w := by
  have hb : (Instr.sliceBounds true len c lo hi none).run P w = .ok (l, h, c) w := by
    have e1 : (0 : Int) ≤ (l : Int) ∧ (l : Int) ≤ (h : Int) := ⟨by omega, by omega⟩
    have e2 : (0 : Int) ≤ (h : Int) ∧ (h : Int) ≤ (c : Int) := ⟨by omega, by omega⟩
    rcases hlo with ⟨rfl, rfl⟩ | ⟨k, rfl⟩ <;> rcases hhi with ⟨rfl, rfl⟩ | ⟨k2, rfl⟩ <;> simp [Instr.sliceBounds, Instr.sliceBound, asIntOf, e1, e2, h1, h2]
  simp [Instr.sliceAt, Instr.slice, run_underlying ht, hb, run_sizeOf_of hs, offA]
theorem y_slice {t e : TypeId} {x : Operand} {lo hi : Option Operand} {sz len c : Nat} (l h : Nat) {A : Option Addr} (m : Nat) (hx : evS sl x = some (.slice A len c)) (ht : P.underlying t = some (.slice e)) (hs : cellsOfT P e = some sz)
    (hlo : (lo = none ∧ l = 0) ∨ ∃ k y, lo = some y ∧ evS sl y = some (.int k (l : Int))) (hhi : (hi = none ∧ h = len) ∨ ∃ k y, hi = some y ∧ evS sl y = some (.int k (h : Int))) (h1 : l ≤ h) (h2 : h ≤ c) (hm : h - l = m) :
    Yld P n p own sl (.slice t x lo hi none) ty (.slice (offA A c l sz) m (c - l)) := by
  intro o a w e1 e2 hf hr
  subst hm
  have := run_slice_of (P := P) (w := w) (A := A) (lo := lo.map a.eval) (hi := hi.map a.eval) ht hs
    (hlo.imp (fun ⟨e, z⟩ => ⟨by rw [e]; rfl, z⟩) (fun ⟨k, y, e, hy⟩ => ⟨k, by rw [e]; simp [hf.ev hy]⟩))
    (hhi.imp (fun ⟨e, z⟩ => ⟨by rw [e]; rfl, z⟩) (fun ⟨k, y, e, hy⟩ => ⟨k, by rw [e]; simp [hf.ev hy]⟩)) h1 h2
  simp [execOp, e1, hf.ev hx, this]
theorem Arr.cut {A : Option Addr} {c : Nat} {xs : List α} (h : Arr p T A c xs) (l m : Nat) (h1 : l ≤ m) (h2 : m ≤ xs.length) : Arr p T (offA A c l T.n) (c - l) ((xs.drop l).take (m - l)) := by
  obtain ⟨hc, hl0, cs, hr, hrow⟩ := h
  refine ⟨by rw [List.length_take, List.length_drop]; omega, by rw [List.length_take, List.length_drop]; omega, (cs.drop (l * T.n)).take ((m - l) * T.n), (hr.drop l).take _, fun hn => ?_⟩
  rw [List.length_take, List.length_drop] at hn
  obtain ⟨ad, e, hcells⟩ := hrow (by omega)
  subst e
  refine ⟨ad.add (l * T.n), ?_, hcells.part _ _⟩
  unfold offA
  rw [if_neg (by omega)]
  rfl
theorem Arr.cut_from {A : Option Addr} {c : Nat} {xs : List α} (h : Arr p T A c xs) (l : Nat) (h1 : l ≤ xs.length) : Arr p T (offA A c l T.n) (c - l) (xs.drop l) := by
  have := h.cut l xs.length h1 (Nat.le_refl _)
  rwa [List.take_of_length_le (by simp)] at this
theorem mkS_toList (l : List UInt8) : (mkS l).toList = l := by
  have : ∀ (b : ByteArray) (i : Nat) (r : List UInt8), ByteArray.toList.loop b i r = r.reverse ++ b.data.toList.drop i := by
    intro b
    have key : ∀ (k i : Nat) (r : List UInt8), b.size - i = k → ByteArray.toList.loop b i r = r.reverse ++ b.data.toList.drop i := by
      intro k
      induction k with
      | zero =>
        intro i r hk
        rw [ByteArray.toList.loop.eq_1, if_neg (by omega), List.drop_of_length_le (by rw [Array.length_toList]; have : b.size = b.data.size := rfl; omega)]
        simp
      | succ k ih =>
        intro i r hk
        have hlt : i < b.size := by omega
        rw [ByteArray.toList.loop.eq_1, if_pos hlt, ih (i + 1) _ (by omega)]
        have hlt' : i < b.data.toList.length := by rw [Array.length_toList]; exact hlt
        rw [List.drop_eq_getElem_cons hlt']
        have hg : b.get! i = b.data.toList[i] := by
          simp only [ByteArray.get!]
          rw [getElem!_pos b.data i (by rw [Array.length_toList] at hlt'; exact hlt')]
          rw [Array.getElem_toList]
        rw [hg, List.reverse_cons, List.append_assoc]
        rfl
    exact fun i r => key _ i r rfl
  have := this (mkS l) 0 []
  unfold ByteArray.toList
  rw [this]
  simp [mkS]
theorem mkS_size (l : List UInt8) : (mkS l).size = l.length := by show l.toArray.size = _; simp
theorem tyU8_reps {cs : List Value} : ∀ {l : List UInt8}, Reps tyU8 p cs l → cs = l.map fun x => .int .u8 (x.toNat : Int)
  | l, h => by
    induction l generalizing cs with
    | nil => exact h
    | cons x l ih =>
      obtain ⟨c1, c2, e, h1, h2⟩ := h
      have h1 : c1 = [.int .u8 (x.toNat : Int)] := h1
      subst e; subst h1
      rw [ih h2]
      rfl
theorem run_str_of {w : World} {src dst e : TypeId} {A : Option Addr} {c : Nat} {l : List UInt8} (hr : p.In w) (h : Arr p tyU8 A c l) (hs : P.underlying src = some (.slice e)) (he : P.underlying e = some (.int .u8)) (hd : P.underlying dst = some .string) :
    (convert src dst (.slice A l.length c)).run P w = .ok (.string (mkS l)) w := by
  rw [run_convert_bytes_string w src dst e _ _ _ hs he hd]
  obtain ⟨hc, hl0, cs, hrep, hrow⟩ := h
  have hcs := tyU8_reps hrep
  subst hcs
  by_cases hn : 0 < l.length
  · obtain ⟨ad, rfl, hcells⟩ := hrow hn
    have hl : (loadCells ad l.length).run P w = .ok ((l.map fun x => (x.toNat : Int)).map (Value.int .u8)).toArray w := by
      have := run_loadCells_of (P := P) (w := w) (a := ad) (cs := l.map fun x => Value.int .u8 (x.toNat : Int)) (fun j v hj => hr.cell (hcells j v hj))
      rw [List.length_map] at this
      rw [this, List.map_map]
      rfl
    rw [run_bytesToString w ad _ c _ hl, foldl_push_bytes]
    simp [mkS, ByteArray.empty, ByteArray.emptyWithCapacity, Function.comp_def]
    rfl
  · have : l = [] := List.eq_nil_of_length_eq_zero (by omega)
    subst this
    cases A with
    | none => simp [Conv.bytesToString]; rfl
    | some ad => simp [Conv.bytesToString, loadCells, loadCellsFrom]; rfl
theorem y_str {src dst e : TypeId} {x : Operand} {A : Option Addr} {c : Nat} {l : List UInt8} (hx : evS sl x = some (.slice A l.length c)) (h : Arr p tyU8 A c l) (hs : P.underlying src = some (.slice e)) (he : P.underlying e = some (.int .u8)) (hd : P.underlying dst = some .string) :
    Yld P n p own sl (.convert src dst x) ty (.string (mkS l)) := by
  intro o a w h1 h2 hf hr
  simp [execOp, h1, hf.ev hx, run_str_of hr.r h hs he hd]
theorem y_eqS {t u : TypeId} {x y : Operand} {a b : List UInt8} (hx : evS sl x = some (.string (mkS a))) (hy : evS sl y = some (.string (mkS b))) : Yld P n p own sl (.binOp .eql t x y u) ty (.bool (a == b)) := by
  refine y_of (defd_bin hx hy) fun w _ => ?_
  simp [execOp, bareO, rhoS, hx, hy, eqGuard, binOp, Op.stringOp, mkS_toList]
theorem y_neS {t u : TypeId} {x y : Operand} {a b : List UInt8} (hx : evS sl x = some (.string (mkS a))) (hy : evS sl y = some (.string (mkS b))) : Yld P n p own sl (.binOp .neq t x y u) ty (.bool (!(a == b))) := by
  refine y_of (defd_bin hx hy) fun w _ => ?_
  simp [execOp, bareO, rhoS, hx, hy, eqGuard, binOp, Op.stringOp, mkS_toList]
end
section
variable {P : Program} {n : Nat} {g : Gh} {own : Own} {sl : Sl} {ty : TypeId} {α : Type} {T : Ty α} {p : Psi}
def Src (w : World) (A : Option Addr) (m : Nat) (news : List Value) : Prop := 0 < m → ∃ ad, A = some ad ∧ ∀ j u, news[j]? = some u → w.cell? (ad.add j) = some u
theorem Arr.src {A : Option Addr} {c : Nat} {xs : List α} (h : Arr p T A c xs) : ∃ news, Reps T p news xs ∧ ∀ w, p.In w → Src w A xs.length news := by
  obtain ⟨hc, hl0, cs, hrep, hrow⟩ := h
  exact ⟨cs, hrep, fun w hw hn => by obtain ⟨ad, e, hcells⟩ := hrow hn; exact ⟨ad, e, fun j u hu => hw.cell (hcells j u hu)⟩⟩
theorem Buf.src {et : TypeId} {A : Option Addr} {c : Nat} {k : Option Bk} {xs : List α} (h : Buf p T et (.slice A xs.length c) k xs) : ∃ news, Reps T p news xs ∧ ∀ w, (∀ b, k = some b → w.heap[b.g]? = some b.obj) → Src w A xs.length news := by
  rcases h.2 with ⟨h1, h2, h3⟩ | ⟨b, cap, cs, sp, h1, h2, h3, h4, h5⟩
  · subst h2
    exact ⟨[], rfl, fun w _ hn => absurd hn (by simp)⟩
  · refine ⟨cs, h3, fun w hw hn => ?_⟩
    injection h1 with hA _ _
    subst hA
    refine ⟨_, rfl, fun j u hu => ?_⟩
    have := hw _ h2
    rw [addr_add]
    simp [World.cell?, this, Bk.obj_ty]
    rw [List.getElem?_append_left (by rcases Nat.lt_or_ge j cs.length with h | h; exact h; rw [List.getElem?_eq_none h] at hu; cases hu)]
    exact hu
structure AppT (P : Program) (t et : TypeId) (sz bytes : Nat) : Prop where
  out : ∃ i z, P.underlying t = some (.slice et) ∧ P.info? et = some i ∧ i.zero = some z ∧ i.size = sz ∧ i.bytes = bytes ∧ z.cells.size = sz
def appT (P : Program) (t et : TypeId) : Option (Nat × Nat) :=
  match P.underlying t, P.info? et with
  | some (.slice e), some i => match i.zero with
    | some z => if e = et ∧ z.cells.size = i.size then some (i.size, i.bytes) else none
    | none => none
  | _, _ => none
theorem AppT.of {t et : TypeId} {sz bytes : Nat} (h : appT P t et = some (sz, bytes)) : AppT P t et sz bytes := by
  unfold appT at h
  split at h
  · rename_i e i h1 h2
    split at h
    · rename_i z hz
      split at h
      · rename_i hc
        simp only [Option.some.injEq, Prod.mk.injEq] at h
        exact ⟨i, z, by rw [h1, hc.1], h2, hz, h.1, h.2, hc.2.trans h.1⟩
      · cases h
    · cases h
  · cases h
theorem run_append_none {w : World} {t ty' e : TypeId} {sz : Nat} (ht : P.underlying t = some (.slice e)) (hs : cellsOfT P e = some sz) {A : Option Addr} {l c c2 : Nat} (hlc : l ≤ c) :
    (Builtin.append_ #[t, t] ty' #[.slice A l c, .slice none 0 c2]).run P w = .ok (.slice A l c) w := by
  cases A <;> simp [Builtin.append_, run_underlying ht, run_sizeOf_of hs, Builtin.lenOf, hlc, Builtin.firstCells, storeCells]
theorem run_append_of {w : World} {own : Own} {t ty' et : TypeId} {bytes : Nat} (ha : AppT P t et T.n bytes) (hs : St w g own) {i : Nat} {v : Value} {k : Option Bk} {xs : List α} (hi : own[i]? = some k) (hb : Buf p T et v k xs)
    {A : Option Addr} {m c : Nat} {news : List Value} {ys : List α} (hm : m = ys.length) (hsrc : Src w A m news) (hrep : Reps T p news ys) (hbytes : (xs.length + ys.length) * bytes ≤ 140737488355328) (hlen : xs.length + ys.length ≤ 140737488355328) :
    ∃ v' k' w', (Builtin.append_ #[t, t] ty' #[v, .slice A m c]).run P w = .ok v' w' ∧ Buf p T et v' k' (xs ++ ys) ∧ St w' g (own.set i k') := by
  obtain ⟨inf, z, ht, hinf, hz, hsz, hby, hzs⟩ := ha.out
  have hcell : cellsOfT P et = some T.n := by simp [cellsOfT, hinf, hsz]
  subst hm
  by_cases hy : ys = []
  · subst hy
    have hnews : news = [] := hrep
    obtain ⟨A1, c1, rfl, hc1⟩ := hb.val
    have same : own.set i k = own := by
      apply List.ext_getElem?
      intro j
      rw [List.getElem?_set]
      split
      · rename_i e; subst e
        split
        · exact hi.symm
        · rename_i hlt; rw [List.getElem?_eq_none (by omega)]
      · rfl
    refine ⟨.slice A1 xs.length c1, k, w, ?_, by simpa using hb, by rw [same]; exact hs⟩
    cases A with
    | none => exact run_append_none ht hcell hc1
    | some ad => cases A1 <;> simp [Builtin.append_, run_underlying ht, run_sizeOf_of hcell, Builtin.lenOf, hc1, Builtin.firstCells, loadCells, loadCellsFrom, storeCells]
  · have hpos : 0 < ys.length := List.length_pos_iff.2 hy
    obtain ⟨ad, rfl, hnews⟩ := hsrc hpos
    -- what is one's own, in the kit's word
    have hown : ∃ cs, Reps T p cs xs ∧ w.ownsRow 0 et T.n v xs.length cs ∧ (∀ b, v.ownBlock = some b → ∃ kb, k = some kb ∧ kb.g = b) := by
      rcases hb.2 with ⟨rfl, rfl, rfl⟩ | ⟨b, cap, cs, sp, rfl, rfl, h3, h4, h5⟩
      · exact ⟨[], rfl, World.ownsRow_nil w 0 et T.n, fun b hb => by simp [Value.ownBlock] at hb⟩
      · refine ⟨cs, h3, ⟨h3.len, .inr ⟨b, cap, _, rfl, Nat.zero_le _, hs.has _ (List.mem_of_getElem? hi), ?_, h5, by simpa using h4, ?_⟩⟩, fun b' hb => ⟨_, rfl, by simpa [Value.ownBlock] using hb⟩⟩
        · rw [List.length_append, h3.len] at h4
          exact Nat.le_of_mul_le_mul_right (by omega : xs.length * T.n ≤ cap * T.n) T.pos
        · simp [← h3.len]
    obtain ⟨cs, hrx, how, hblk⟩ := hown
    obtain ⟨v', w', hrun, how', hgrow, _, hat⟩ := run_append_own_at (P := P) w 0 t ty' et inf z T.n bytes ht hinf hz hsz hby hzs T.pos v xs.length cs how ad ys.length c news hrep.len hnews (all_one' hrep.one) (by simp only [maxLen]; omega) hbytes (Nat.zero_le _)
    have hlenpos : 0 < xs.length + ys.length := by omega
    rcases how'.2 with ⟨rfl, hz0⟩ | ⟨b', cap, cur, rfl, _, hheap, hnc, hcm, hcs, htake⟩
    · omega
    · refine ⟨_, some ⟨b', et, cur.toList⟩, w', hrun, ?_, ?_⟩
      · have hc2 : cur.toList = (cs ++ news) ++ cur.toList.drop ((xs.length + ys.length) * T.n) := by rw [← htake, List.take_append_drop]
        refine ⟨by rw [List.length_append]; exact hlen, .inr ⟨b', cap, cs ++ news, cur.toList.drop ((xs.length + ys.length) * T.n), by rw [List.length_append], by rw [← hc2], hrx.append hrep, ?_, hcm⟩⟩
        rw [← hc2]; simpa using hcs
      · refine hs.swap hi _ hgrow.os hgrow.tape hgrow.output (fun b hb hne => hgrow.block b hb fun e => ?_) fun k' hk' => ?_
        · obtain ⟨kb, e1, e2⟩ := hblk b e.symm
          exact hne kb e1 e2.symm
        · injection hk' with hk'
          subst hk'
          refine ⟨by simpa [Bk.obj_ty] using hheap, ?_⟩
          rcases hat with h1 | h1
          · left
            obtain ⟨kb, e1, e2⟩ := hblk b' (by rw [← h1]; rfl)
            exact ⟨kb, e1, e2⟩
          · right
            have : b' = w.heap.size := by simpa [Value.ownBlock] using h1
            exact Nat.le_of_eq this.symm
theorem e_append {t et : TypeId} {bytes : Nat} {s x : Operand} (i : Nat) {v : Value} {k : Option Bk} {xs : List α} {A : Option Addr} {m c : Nat} {ys : List α} (p : Psi) (news : List Value) (ha : appT P t et = some (T.n, bytes)) (hs : evS sl s = some v) (hx : evS sl x = some (.slice A m c)) (hi : own[i]? = some k) (hb : Buf p T et v k xs)
    (hm : m = ys.length) (hsrc : ∀ w, St w g own → Src w A m news) (hrep : Reps T p news ys) (hlen : xs.length + ys.length ≤ 140737488355328) (hbytes : (xs.length + ys.length) * bytes ≤ 140737488355328) :
    Eff P n g own sl (.call { callee := .builtin .append, args := #[s, x], argTypes := #[t, t] }) ty (fun v' g' own' => ∃ A' c' k', v' = .slice A' (xs ++ ys).length c' ∧ g = g' ∧ own' = own.set i k' ∧ Buf p T et (.slice A' (xs ++ ys).length c') k' (xs ++ ys)) := by
  intro o a w Q K h1 h2 hf hst h
  obtain ⟨v', k', w', hrun, hb', hst'⟩ := run_append_of (P := P) (ty' := o.type) (AppT.of ha) hst hi hb (c := c) hm (hsrc w hst) hrep hbytes hlen
  obtain ⟨A', c', rfl, _⟩ := hb'.val
  have : (execOp a.eval o).run P w = .ok (.value (.slice A' (xs ++ ys).length c')) w' := by
    simp [execOp, h1, resolve, invoke, builtin, hf.ev hs, hf.ev hx, hrun]
  unfold Oper.wp
  rw [this]
  exact h _ _ _ _ (.refl g) hst' ⟨A', c', k', rfl, rfl, rfl, hb'⟩
def buildRow (P : Program) (t : TypeId) (len : Nat) (pv : List (Nat × Value)) : Option (TypeId × Array Value) :=
  match P.underlying t with
  | some (.slice elem) =>
    match P.info? elem with
    | some i =>
      if len * i.size > 2 ^ 24 then none else
      match (if len * i.size = 0 then some #[] else i.zero.map Value.cells) with
      | some zero => (Instr.fill (fun j => some (j * i.size, i.size)) ((Array.range (len * i.size)).map (zero[· % zero.size]!)) pv).map fun c => (elem, c)
      | none => none
    | none => none
  | _ => none
theorem run_buildSlice_of {w : World} {t et : TypeId} {len : Nat} {pv : List (Nat × Value)} {cs : List Value} (h : buildRow P t len pv = some (et, cs.toArray)) :
    (Instr.buildSlice t len pv.toArray).run P w = .ok (.slice (some ⟨w.heap.size, 0, none⟩) len len) (w.alloc (.cells cs.toArray et)) := by
  unfold buildRow at h
  split at h
  · rename_i elem hu
    split at h
    · rename_i inf hinf
      have hsz : (sizeOf elem).run P w = .ok inf.size w := run_sizeOf_of (by simp [cellsOfT, hinf]) w
      by_cases hbig : len * inf.size > 2 ^ 24
      · rw [if_pos hbig] at h; cases h
      · rw [if_neg hbig] at h
        by_cases h0 : len * inf.size = 0
        · rw [if_pos h0] at h
          simp only [Option.map_eq_some_iff] at h
          obtain ⟨c, hc, e⟩ := h
          simp only [Prod.mk.injEq] at e
          obtain ⟨rfl, rfl⟩ := e
          unfold Instr.buildSlice
          simp only [run_underlying hu, Sem.run_bind, Result.andThen_ok, hsz, if_neg hbig, if_pos h0, Sem.run_pure, List.toList_toArray, hc]
          simp [newRow, newObj, Sem.run]
        · rw [if_neg h0] at h
          cases hz : inf.zero with
          | none => rw [hz] at h; cases h
          | some z =>
            rw [hz] at h
            simp only [Option.map_some, Option.map_eq_some_iff] at h
            obtain ⟨c, hc, e⟩ := h
            simp only [Prod.mk.injEq] at e
            obtain ⟨rfl, rfl⟩ := e
            have hzv : (zeroValue elem).run P w = .ok z w := by simp [zeroValue, typeInfo, program, Sem.run, bind, Sem.bind, hinf, hz, pure]
            unfold Instr.buildSlice
            simp only [run_underlying hu, Sem.run_bind, Result.andThen_ok, hsz, if_neg hbig, if_neg h0, Sem.run_pure, List.toList_toArray, hzv, hc]
            simp [newRow, newObj, Sem.run]
    · cases h
  · cases h
theorem e_buildSlice {t et : TypeId} {len : Nat} {parts : Array (Nat × Operand)} (pv : List (Nat × Value)) (cs : List Value) (hp : parts.toList.map (fun q => (evS sl q.2).map fun v => (q.1, v)) = pv.map some) (h : buildRow P t len pv = some (et, cs.toArray)) :
    Eff P n g own sl (.buildSlice t len parts) ty (fun v' g' own' => ∃ b, v' = .slice (some ⟨b, 0, none⟩) len len ∧ g = g' ∧ own' = some ⟨b, et, cs⟩ :: own) := by
  intro o a w Q K h1 h2 hf hs hk
  have hpv : parts.map (fun q => (q.1, a.eval q.2)) = pv.toArray := by
    apply Array.toList_inj.1
    rw [Array.toList_map, List.toList_toArray]
    have : ∀ (l : List (Nat × Operand)) (pv : List (Nat × Value)), l.map (fun q => (evS sl q.2).map fun v => (q.1, v)) = pv.map some → l.map (fun q => (q.1, a.eval q.2)) = pv := by
      intro l
      induction l with
      | nil => intro pv h; cases pv with | nil => rfl | cons _ _ => simp at h
      | cons q l ih =>
        intro pv h
        cases pv with
        | nil => simp at h
        | cons u pv =>
          simp only [List.map_cons, List.cons.injEq, Option.map_eq_some_iff] at h
          obtain ⟨⟨v, hv, e⟩, h3⟩ := h
          rw [List.map_cons, ih pv h3, hf.ev hv, e]
    exact this _ _ hp
  have : (execOp a.eval o).run P w = .ok (.value (.slice (some ⟨w.heap.size, 0, none⟩) len len)) (w.alloc (.cells cs.toArray et)) := by
    have e := run_buildSlice_of (w := w) h
    simp only [execOp, h1]
    rw [show (parts.map fun x => match x with | (i, x) => (i, a.eval x)) = pv.toArray from hpv]
    simp [e]
  unfold Oper.wp
  rw [this]
  exact hk _ _ _ _ (.refl g) (hs.alloc et cs) ⟨_, rfl, rfl, rfl⟩
theorem buf_lit {et : TypeId} {b len : Nat} {cs : List Value} {xs : List α} (h : Reps T p cs xs) (hl : xs.length = len) (hm : len ≤ 140737488355328) : Buf p T et (.slice (some ⟨b, 0, none⟩) len len) (some ⟨b, et, cs⟩) xs := by
  subst hl
  exact ⟨hm, .inr ⟨b, xs.length, cs, [], rfl, by simp, h, by simpa using h.len, by simp only [maxLen]; omega⟩⟩
theorem Buf.arr {et : TypeId} {A : Option Addr} {c : Nat} {k : Bk} {xs : List α} (h : Buf p T et (.slice A xs.length c) (some k) xs) : Arr (p.add k) T A c xs ∨ p.m k.g ≠ none := by
  rcases h.2 with ⟨_, _, h3⟩ | ⟨b, cap, cs, sp, h1, h2, h3, h4, h5⟩
  · cases h3
  · injection h2 with h2
    injection h1 with hA _ hc
    subst hA; subst hc; subst h2
    by_cases hp : p.m b = none
    · left
      refine ⟨?_, h.1, cs, h3.mono (Psi.le_add hp), fun _ => ⟨_, rfl, fun j v hj => ?_⟩⟩
      · rw [List.length_append, h3.len] at h4
        exact Nat.le_of_mul_le_mul_right (by omega : xs.length * T.n ≤ c * T.n) T.pos
      · rw [addr_add]
        have hm : (p.add ⟨b, et, cs ++ sp⟩).m b = some (.cells (cs ++ sp).toArray et (0, 0)) := if_pos rfl
        simp only [Psi.cell?, hm]
        simp
        rw [List.getElem?_append_left (by rcases Nat.lt_or_ge j cs.length with h | h; exact h; rw [List.getElem?_eq_none h] at hj; cases hj)]
        exact hj
    · exact .inr hp
theorem wpq_freeze {K : Act → World → Prop} (i : Nat) {et : TypeId} {A : Option Addr} {c : Nat} {k : Option Bk} {xs : List α} (hi : own[i]? = some k) (hb : Buf g.b T et (.slice A xs.length c) k xs)
    (h : ∀ g', g.le g' → Arr g'.b T A c xs → WPq K n g' (own.set i none) sl) : WPq K n g own sl := by
  intro a w hf hs
  cases k with
  | none =>
    rcases hb.2 with ⟨h1, rfl, _⟩ | ⟨b, cap, cs, sp, h1, h2, _⟩
    · have same : own.set i none = own := by
        apply List.ext_getElem?
        intro j
        rw [List.getElem?_set]
        split
        · rename_i e; subst e
          split
          · exact hi.symm
          · rename_i hlt; rw [List.getElem?_eq_none (by omega)]
        · rfl
      have := h g (.refl g) Arr.nil
      rw [same] at this
      exact this a w hf hs
    · cases h2
  | some kb =>
    obtain ⟨hle, hs'⟩ := hs.publish hi
    have hfree := g.br.none_ (hs.free kb (Own.get_mem hi))
    rcases hb.arr with h1 | h1
    · exact h _ hle h1 a w hf hs'
    · exact absurd hfree h1
theorem e_make {t et : TypeId} {x y : Operand} {kx ky : IntKind} {bytes : Nat} (m : Nat) {zs : List Value} {z : α} (ha : appT P t et = some (T.n, bytes)) (hx : evS sl x = some (.int kx (m : Int))) (hy : evS sl y = some (.int ky (m : Int))) (hz : zeroOf P et = some zs.toArray) (hr : T.rep p zs z) (hbytes : bytes * m ≤ 281474976710656) (hm : m ≤ 140737488355328) :
    Eff P n g own sl (.makeSlice t x y) ty (fun v' g' own' => ∃ b cs, v' = .slice (some ⟨b, 0, none⟩) m m ∧ g = g' ∧ own' = some ⟨b, et, cs⟩ :: own ∧ Reps T p cs (List.replicate m z) ∧ Buf p T et (.slice (some ⟨b, 0, none⟩) m m) (some ⟨b, et, cs⟩) (List.replicate m z)) := by
  intro o a w Q K h1 h2 hf hs h
  obtain ⟨inf, z0, ht, hinf, hz0, hsz, hby, hzs⟩ := (AppT.of ha).out
  have hzc : z0.cells = zs.toArray := by
    unfold zeroOf at hz
    rw [hinf] at hz
    simpa [hz0] using hz
  have hc : ∀ m : Nat, Reps T p (madeCells z0.cells (m * T.n)).toList (List.replicate m z) := by
    intro m
    induction m with
    | zero => simp [madeCells]; rfl
    | succ m ih =>
      have e : (madeCells z0.cells ((m + 1) * T.n)).toList = zs ++ (madeCells z0.cells (m * T.n)).toList := by
        rw [hzc]
        have hzl : zs.length = T.n := T.len hr
        apply List.ext_getElem?
        intro j
        rw [List.getElem?_append]
        simp only [madeCells, Array.toList_map, Array.toList_range, List.getElem?_map]
        by_cases hj : j < zs.length
        · rw [if_pos hj]
          have hj2 : j < (m + 1) * T.n := by rw [Nat.succ_mul]; omega
          rw [List.getElem?_range hj2]
          simp only [Option.map_some, List.size_toArray, Nat.mod_eq_of_lt hj]
          rw [List.getElem?_eq_getElem hj]
          simp [hj]
        · rw [if_neg hj]
          by_cases hj2 : j < (m + 1) * T.n
          · have hj3 : j - zs.length < m * T.n := by rw [Nat.succ_mul] at hj2; omega
            rw [List.getElem?_range hj2, List.getElem?_range hj3]
            simp only [Option.map_some, List.size_toArray]
            congr 2
            exact (Nat.mod_eq_sub_mod (by omega))
          · have hj3 : ¬ j - zs.length < m * T.n := by rw [Nat.succ_mul] at hj2; omega
            rw [List.getElem?_eq_none (by simpa using hj2), List.getElem?_eq_none (by simpa using hj3)]
      rw [e, List.replicate_succ]
      exact ⟨zs, _, rfl, hr, ih⟩
  have hrep := hc m
  have hb : Buf p T et (.slice (some ⟨w.heap.size, 0, none⟩) m m) (some ⟨w.heap.size, et, (madeCells z0.cells (m * T.n)).toList⟩) (List.replicate m z) := buf_lit hrep List.length_replicate hm
  have hrun := run_make (P := P) w t et inf z0 ht hinf hz0 kx ky (m : Int) (m : Int) (by omega) (by omega) (by rw [hby]; have h9 : ((bytes * m : Nat) : Int) ≤ 281474976710656 := Int.ofNat_le.2 hbytes; rw [Int.natCast_mul] at h9; exact h9) (by omega)
  have : (execOp a.eval o).run P w = .ok (.value (.slice (some ⟨w.heap.size, 0, none⟩) m m)) (w.alloc (.cells (madeCells z0.cells (m * T.n)) et)) := by
    simp only [Int.toNat_natCast, hsz] at hrun
    simp [execOp, h1, hf.ev hx, hf.ev hy, hrun]
  unfold Oper.wp
  rw [this]
  have hal := hs.alloc et (madeCells z0.cells (m * T.n)).toList
  rw [Array.toArray_toList] at hal
  exact h _ _ _ _ (.refl g) hal ⟨_, _, rfl, rfl, rfl, hrep, hb⟩
end
end Go.Proofs.YtpleflcfaecojaaGreat
namespace Go.Proofs.YtpleflcfaecojaaGreat
set_option linter.unusedVariables false
set_option linter.unusedSimpArgs false
open Go.RowKit
def finOk (ops : Array Oper) (lds fin : List Nat) : Bool := fin.all fun k => match ops[k]? with
  | some o => lds.all fun i => o.after.any fun e => Region.binds .any e && e.on == i
  | none => true
section
variable {P : Program} {ops : Array Oper} {Q : Exit → Act → World → Prop} {S : World → Prop} {lds fin : List Nat}
end
section
variable {P : Program} {ops : Array Oper} {Q : Exit → Act → World → Prop} {n : Nat} {lds fin : List Nat} {p : Psi} {K : Own}
structure RegOk (P : Program) (ops : Array Oper) (Q : Exit → Act → World → Prop) (lds fin : List Nat) : Prop where
  fin : finOk ops lds fin = true
  sel : Region.noSelect ops = true
  panic : ∀ c (a : Act) (d : Tmp) (v : Value) w, Q (.panic c) (a.put (some d) v) w → Q (.panic c) a w
end
end Go.Proofs.YtpleflcfaecojaaGreat
namespace Go.Proofs.YtpleflcfaecojaaGreat
set_option linter.unusedVariables false
set_option linter.unusedSimpArgs false
open Go.RowKit
section
variable {P : Program} {ops : Array Oper} {Q : Exit → Act → World → Prop} {n : Nat} {g : Gh} {own : Own} {sl : Sl} {ty : TypeId} {p : Psi}
end
theorem wr64 {x : Int} (h : -9223372036854775808 ≤ x ∧ x ≤ 9223372036854775807) : IntKind.i64.wrap x = x := IntWalk.i64_in x h
theorem wr_u64 {x : Int} (h : 0 ≤ x ∧ x ≤ 18446744073709551615) : IntKind.u64.wrap x = x := by
  rw [IntKind.wrap_u64]; omega
def maxI (a b : Int) : Int := if b > a then b else a
def minI (a b : Int) : Int := if b < a then b else a
def landK (k : IntKind) (a b : Int) : Int := k.wrap (BitVec.ofInt k.bits a &&& BitVec.ofInt k.bits b).toNat
def lorK (k : IntKind) (a b : Int) : Int := k.wrap (BitVec.ofInt k.bits a ||| BitVec.ofInt k.bits b).toNat
def lxorK (k : IntKind) (a b : Int) : Int := k.wrap (BitVec.ofInt k.bits a ^^^ BitVec.ofInt k.bits b).toNat
def shlK (k : IntKind) (a b : Int) : Int := k.wrap (a * 2 ^ (min b.toNat k.bits))
def shrK (k : IntKind) (a b : Int) : Int := a.fdiv (2 ^ (min b.toNat k.bits))
section
variable {P : Program} {n : Nat} {p : Psi} {own : Own} {sl : Sl} {ty : TypeId}
theorem run_equalIn_nil {w : World} (d : Nat) {t e : TypeId} {A : Option Addr} {l c l2 c2 : Nat} (ht : P.underlying t = some (.slice e)) : (Op.equalIn (d + 1) t (.slice A l c) (.slice none l2 c2)).run P w = .ok A.isNone w := by
  cases A <;> simp [Op.equalIn, run_underlying ht]
end
section
variable {P : Program} {n : Nat} {g : Gh} {own : Own} {sl : Sl} {ty : TypeId} {α : Type} {T : Ty α} {p : Psi}
theorem Arr.srcB {A : Option Addr} {c : Nat} {xs : List α} (h : Arr g.b T A c xs) : ∃ news, Reps T g.b news xs ∧ ∀ w own, St w g own → Src w A xs.length news := by
  obtain ⟨news, h1, h2⟩ := h.src
  exact ⟨news, h1, fun w own hs => h2 w (hs.r.mono g.br)⟩
def u8 (z : Int) : UInt8 := UInt8.ofNat z.toNat
theorem u8_rep {z : Int} (h : 0 ≤ z ∧ z ≤ 255) : tyU8.rep p [.int .u8 z] (u8 z) := by
  show [Value.int .u8 z] = [Value.int .u8 ((u8 z).toNat : Int)]
  have : ((u8 z).toNat : Int) = z := by
    unfold u8
    rw [UInt8.toNat_ofNat']
    omega
  rw [this]
theorem wrapU8_rng (x : Int) : 0 ≤ IntKind.u8.wrap x ∧ IntKind.u8.wrap x ≤ 255 := by
  rw [IntKind.wrap_u8]; omega
end
section
variable {P : Program} {n : Nat} {g : Gh} {own : Own} {sl : Sl} {ty : TypeId} {α : Type} {T : Ty α} {p : Psi}
theorem lent {rest : Own} {k : Bk} (i : Nat) (h : rest[i]? = some (some k)) : some k ∈ rest := List.mem_of_getElem? h
end
end Go.Proofs.YtpleflcfaecojaaGreat
namespace Go.Proofs.YtpleflcfaecojaaGreat
set_option linter.unusedVariables false
set_option linter.unusedSimpArgs false
open Go.RowKit Go.WideShapes Go.ChangeShapes Go.Deep
def psiOf (w : World) : Psi := ⟨fun b => w.heap[b]?, w.os, w.tape, w.output⟩
def gh0 (w : World) : Gh := ⟨psiOf w, psiOf w, .refl _⟩
theorem st0 (w : World) : St w (gh0 w) [] := ⟨⟨rfl, rfl, rfl, fun b o h => h⟩, List.nodup_nil, fun k h => (by cases h), fun k h => (by cases h)⟩
theorem below_of {w w' : World} {g : Gh} (h : (gh0 w).le g) (hs : St w' g []) : Below w.heap.size w w' := by
  have hin := hs.r.mono h.r
  have hb : ∀ b, b < w.heap.size → w'.heap[b]? = w.heap[b]? := fun b hb => by
    rw [Array.getElem?_eq_getElem hb]
    exact hin.m b _ (Array.getElem?_eq_getElem hb)
  refine ⟨hin.os, hin.tape, hin.out, ?_, hb⟩
  rcases Nat.eq_zero_or_pos w.heap.size with h0 | h0
  · omega
  · have h1 := hb (w.heap.size - 1) (by omega)
    have hlt : w.heap.size - 1 < w.heap.size := by omega
    rw [Array.getElem?_eq_getElem hlt] at h1
    have := (Array.getElem?_eq_some_iff.1 h1).1
    omega
theorem law_of_ctr {P : Program} {f : FuncId} {args : List Value} {w : World} (h : Ctr0 P f args (gh0 w) (fun v ψ => v = Value.bool true)) : Calls P f args.toArray w fun e w' => e = .returned (.bool true) ∧ Below w.heap.size w w' :=
  (h w (st0 w)).mono fun e w' ⟨v, g', own', he, hle, hs, ho, hv⟩ => by
    subst ho; subst hv
    exact ⟨he, below_of hle hs⟩
def Opens {α : Type} (P : Program) (t : TypeId) (T : Ty α) (ok : α → Prop) : Prop :=
  ∀ {H : Type} {enc : TypeId × Value → H} {w : World} {base : Nat} {spare : Nat → Bool} {held : Bool} {fuel : Nat} {cs : List Value} {d : DataW H} {pl : List MemPlace},
    DataW.trod enc P w base spare held fuel t cs = some (d, pl) → (∀ m ∈ d.weights P t, m ≤ reachBytes) → ∃ x, T.rep (psiOf w) cs x ∧ ok x
section
variable {P : Program} {t e : TypeId} {α : Type} {T : Ty α} {ok : α → Prop}
theorem lit_wf {k : IntKind} {n : Int} (h : (Lit.int k n).wf = true) : inK k n := by
  simp only [Lit.wf, Bool.and_eq_true, decide_eq_true_eq] at h
  exact h
theorem opens_int {k : IntKind} (ht : P.underlying t = some (.int k)) : Opens P t (tyI k) (inK k) := fun h _ => by
  obtain ⟨n, rfl, _, hwf⟩ := DataW.trod_int ht h
  exact ⟨n, rfl, lit_wf hwf⟩
theorem opens_u8 (ht : P.underlying t = some (.int .u8)) : Opens P t tyU8 (fun _ => True) := fun h _ => by
  obtain ⟨n, rfl, _, hwf⟩ := DataW.trod_int ht h
  have := lit_wf hwf
  have h2 : 0 ≤ n ∧ n ≤ 255 := by simpa [inK, IntKind.min, IntKind.max, IntKind.signed, IntKind.bits] using this
  exact ⟨u8 n, u8_rep h2, trivial⟩
theorem opens_bool (ht : P.underlying t = some .bool) : Opens P t tyB (fun _ => True) := fun h _ => by
  obtain ⟨b, rfl, _⟩ := DataW.trod_bool ht h
  exact ⟨b, rfl, trivial⟩
theorem weightsAll_mem {H : Type} : ∀ {ds : List (DataW H)} {d : DataW H} {n : Nat}, d ∈ ds → n ∈ d.weights P e → n ∈ DataW.weightsAll P e ds
  | x :: ds, d, n, hd, hn => by
    rw [DataW.weightsAll]
    rcases List.mem_cons.1 hd with rfl | h
    · exact List.mem_append_left _ hn
    · exact List.mem_append_right _ (weightsAll_mem h hn)
theorem opens_slice (he : Opens P e T ok) (ht : P.underlying t = some (.slice e)) (hc : P.cellsOf e = T.n) (hb : Nat.blt 0 (P.bytesOf e) = true) : Opens P t (tyArr T) (fun xs => ∀ x ∈ xs, ok x) := by
  intro H enc w base spare held fuel cs d pl h hw
  rcases open_slice ht h with ⟨rfl, _⟩ | ⟨a, len, cap, m, n, D, Pl, rfl, hbs, hl, hm, hmm, hx, hi⟩
  · exact ⟨[], ⟨none, 0, rfl, Arr.nil⟩, by simp⟩
  · have hlm : len ≤ m := by rw [hmm]; split <;> omega
    injection hx with hd _
    subst hd
    simp only [DataW.weights, ht] at hw
    have hlen : len ≤ 140737488355328 := by
      have := hw _ (List.mem_cons_self ..)
      simp only [List.length_map, List.length_range, reachBytes] at this
      have h1 : len ≤ len + (m - len) := Nat.le_add_right _ _
      have hb' : 0 < P.bytesOf e := by simpa using hb
      have h2 : len + (m - len) ≤ (len + (m - len)) * P.bytesOf e := Nat.le_mul_of_pos_right _ hb'
      omega
    have key : ∀ k, k ≤ len → ∃ cs xs, xs.length = k ∧ Reps T (psiOf w) cs xs ∧ (∀ x ∈ xs, ok x) ∧ ∀ j u, cs[j]? = some u → w.cell? (a.add j) = some u := by
      intro k
      induction k with
      | zero => intro _; exact ⟨[], [], rfl, rfl, by simp, by simp⟩
      | succ k ih =>
        intro hk
        obtain ⟨cs, xs, h1, h2, h3, h4⟩ := ih (by omega)
        obtain ⟨cs', hcells, htr⟩ := hi k (by omega)
        obtain ⟨_, hlen', hat⟩ := World.cells?_some hcells
        obtain ⟨x, hx, hok⟩ := he htr fun n hn => hw n (List.mem_cons_of_mem _ (List.mem_append_left _ (weightsAll_mem (List.mem_map.2 ⟨k, by simp; omega, rfl⟩) hn)))
        refine ⟨cs ++ cs', xs ++ [x], by simp [h1], h2.append (.single hx), ?_, fun j u hu => ?_⟩
        · intro y hy
          rcases List.mem_append.1 hy with h | h
          · exact h3 y h
          · simp only [List.mem_singleton] at h; subst h; exact hok
        · rcases Nat.lt_or_ge j cs.length with hj | hj
          · rw [List.getElem?_append_left hj] at hu
            exact h4 j u hu
          · rw [List.getElem?_append_right hj] at hu
            have hcl : cs.length = k * P.cellsOf e := by rw [h2.len, h1, hc]
            have hjl : j - cs.length < P.cellsOf e := by
              have := (List.getElem?_eq_some_iff.1 hu).1
              omega
            have hge : k * P.cellsOf e ≤ j := by rw [← hcl]; exact hj
            have := hat (j - cs.length) hjl
            rw [hcl] at this hu
            rw [add_add, show k * P.cellsOf e + (j - k * P.cellsOf e) = j by omega] at this
            rw [this]
            exact hu
    obtain ⟨cs, xs, h1, h2, h3, h4⟩ := key len (Nat.le_refl _)
    refine ⟨xs, ⟨some a, cap, by rw [h1], ⟨by rw [h1]; exact hl, by rw [h1]; exact hlen, cs, h2, fun _ => ⟨a, rfl, fun j v hj => ?_⟩⟩⟩, h3⟩
    have := h4 j v hj
    unfold World.cell? at this
    unfold Psi.cell? psiOf
    exact this
theorem struct_fields {H : Type} {enc : TypeId × Value → H} {w : World} {base : Nat} {spare : Nat → Bool} {held : Bool} {fuel : Nat} {cs : List Value} {d : DataW H} {pl : List MemPlace} {fs : Array Field} (ht : P.underlying t = some (.struct fs))
    (h : DataW.trod enc P w base spare held fuel t cs = some (d, pl)) (hw : ∀ m ∈ d.weights P t, m ≤ reachBytes) :
    cs.length = P.cellsOf t ∧ ∀ (i : Nat) (f : Field), fs[i]? = some f → ∃ n d' pl', DataW.trod enc P w base spare held n f.type ((cs.drop f.offset).take (P.cellsOf f.type)) = some (d', pl') ∧ ∀ m ∈ d'.weights P f.type, m ≤ reachBytes := by
  obtain ⟨xs, n, _, hx, hlen, hxl, hf⟩ := DataW.trod_struct ht h
  injection hx with hd _
  subst hd
  simp only [DataW.weights, ht] at hw
  refine ⟨hlen, fun i f hi => ?_⟩
  have hlt : i < xs.length := by rw [hxl]; exact (Array.getElem?_eq_some_iff.1 hi).1
  refine ⟨n, (xs[i]).1, (xs[i]).2, (hf i f hi).trans (List.getElem?_eq_getElem hlt), fun m hm => hw m ?_⟩
  exact DataW.weights_mem_each (j := i) (by rw [List.getElem?_map, Array.getElem?_toList, hi]; rfl) (by rw [List.getElem?_map, List.getElem?_eq_getElem hlt]; rfl) m hm
end
section
variable {H : Type} {enc : TypeId × Value → H} {P : Program}
theorem trodAll_stays (hl : laidOutB P = true) {W W' : World} {sp' : Nat → Bool} : ∀ {ts : List TypeId} {vs : List Value} {ds : List (DataW H)} {ps : List MemPlace},
    (∀ t ∈ ts, P.readableRec t = true ∧ t < P.types.size) → DataW.TrodAll enc P W 0 (fun _ => true) true ts vs ds ps → (∀ p ∈ ps, W.sameAt W' p) → (∀ p ∈ ps, sp' p.block = true) →
    DataW.TrodAll enc P W' 0 sp' true ts vs ds ps
  | [], vs, ds, ps, _, h, _, _ => by
    obtain ⟨rfl, rfl, rfl⟩ := trodAll_nil h
    exact trodAll_mk0
  | t :: ts, vs, ds, ps, hr, h, hs, hp => by
    obtain ⟨v, vs1, d, ds1, a, b, rfl, rfl, rfl, h1, h2⟩ := trodAll_cons h
    refine ⟨a, b, WideElems.Trod_stays hl (hr t (by simp)).1 (hr t (by simp)).2 h1 (fun p hp' => hs p (by simp [hp'])) (fun p hp' => hp p (by simp [hp'])), ?_, rfl⟩
    exact trodAll_stays hl (fun t' ht' => hr t' (by simp [ht'])) h2 (fun p hp' => hs p (by simp [hp'])) (fun p hp' => hp p (by simp [hp']))

theorem post_of_below {f : Func} {s : ChangeSpec} {apart fresh handsOn again : Bool} {W W' : World} {args : Array Value} {v : Value} {ds gs : List (DataW H)} {before pa pv : List MemPlace}
    (hW : DataW.Whole enc P f.params.toList s.vars apart W args.toList ds gs before)
    (hres : ∀ (b : Nat) (sp : Nat → Bool) (hd : Bool), DataW.TrodAll enc P W' b sp hd f.resultTypes.toList (v.resultList f.resultTypes.size) (s.fn H (ds ++ gs)).results [])
    (hargs : ∀ sp : Nat → Bool, (∀ p ∈ before, sp p.block = true) → DataW.TrodAll enc P W' 0 sp true f.params.toList args.toList (s.fn H (ds ++ gs)).args pa)
    (hvars : ∀ sp : Nat → Bool, (∀ p ∈ before, sp p.block = true) → DataW.TrodVars enc P W' sp s.vars (s.fn H (ds ++ gs)).vars pv)
    (hps : before = pa ++ pv) (hb : Below W.heap.size W W')
    (hok : ∀ (j : Nat) (t : TypeId) (r : Value), f.resultTypes[j]? = some t → (v.resultList f.resultTypes.size)[j]? = some r → Value.okWide P W' .any 0 t r) :
    s.post enc P f apart fresh handsOn again W args v W' := by
  have hlt : ∀ p ∈ before, p.block < W.heap.size := fun p hp => hW.lt p hp
  have hold : ∀ p ∈ before, (fun b => decide (b < W.heap.size)) p.block = true := fun p hp => by simpa using hlt p hp
  refine ⟨ds, gs, before, [], pa, pv, hW, hres _ _ _, hargs _ hold, hvars _ hold, World.keptBut_mono (fun p hp => ⟨hp, ?_⟩) (hb.frame (· ∈ before)), fun _ => ?_⟩
  · rw [hps, List.mem_append] at hp
    exact Or.inr hp
  · obtain ⟨_, _, _, _, _, hz, hn⟩ := hW
    refine ⟨hok, _, _, ([] ++ pa) ++ pv, ⟨[] ++ pa, pv, trodAll_append (hargs _ (fun _ _ => rfl)) (hres _ _ _), hvars _ (fun _ _ => rfl), rfl, ?_, ?_⟩, ?_⟩
    · intro b off hp
      have hin : MemPlace.cell b off ∈ before := by rw [hps]; simpa using hp
      rw [hb.frozen (hlt _ hin)]
      exact hz b off hin
    · intro ha
      have := hn ha
      rw [hps] at this
      simpa using this
    · intro p hp _
      rw [hps]
      simpa using hp
theorem law_post {b : TypeId} (hl : laidOutB P = true) {f : Func} {s : ChangeSpec} {apart fresh handsOn again : Bool} {W W' : World} {args : Array Value} {ds : List (DataW H)} {before : List MemPlace}
    (hr : ∀ t ∈ f.params.toList, P.readableRec t = true ∧ t < P.types.size) (hv : s.vars = []) (hbool : f.resultTypes = #[b]) (hb4 : P.underlying b = some .bool)
    (hfn : s.fn H (ds ++ []) = { results := [.lit (.bool true)], args := ds })
    (hW : DataW.Whole enc P f.params.toList s.vars apart W args.toList ds [] before)
    (hA : DataW.TrodAll enc P W 0 (fun _ => true) true f.params.toList args.toList ds before)
    (hb : Below W.heap.size W W') : s.post enc P f apart fresh handsOn again W args (.bool true) W' := by
  have hlt : ∀ p ∈ before, p.block < W.heap.size := fun p hp => hW.lt p hp
  refine post_of_below (ds := ds) (gs := []) (pa := before) (pv := []) hW ?_ ?_ ?_ (by simp) hb ?_
  · intro b' sp hd
    rw [hfn, hbool]
    exact trodAll_mk1 (shut_bool hb4 _)
  · intro sp hsp
    rw [hfn]
    exact trodAll_stays hl hr hA (fun p hp => hb.same (hlt p hp)) hsp
  · intro sp _
    rw [hfn, hv]
    rfl
  · intro j t r hj hrj
    rw [hbool] at hj hrj
    exact ok_one (f := f) hbool rfl (okWide_bool_mk hb4 _) j t r (by rw [hbool]; exact hj) (by rw [hbool]; exact hrj)
end
end Go.Proofs.YtpleflcfaecojaaGreat
namespace Go.Proofs.YtpleflcfaecojaaGreat
open Go.RowKit
theorem Tryz.own : ownKnob Tryz.prog.godebug = none := by kernel_rfl
theorem Tryz.laidOut : laidOutB Tryz.prog = true := by kernel_rfl
end Go.Proofs.YtpleflcfaecojaaGreat
namespace Go.Proofs.YtpleflcfaecojaaGreat
set_option linter.unusedVariables false
set_option linter.unusedSimpArgs false
open Go.RowKit
def pickP (is : List (Option Nat)) (own : Own) : Own := is.map fun | none => none | some i => (own[i]?).join
theorem ids_inj : ∀ {own : Own} {i j : Nat} {k k' : Bk}, own.ids.Nodup → own[i]? = some (some k) → own[j]? = some (some k') → k.g = k'.g → i = j
  | [], i, j, k, k', _, h, _, _ => by simp at h
  | x :: l, 0, 0, k, k', _, _, _, _ => rfl
  | x :: l, 0, j + 1, k, k', hn, h1, h2, e => by
    simp at h1 h2
    subst h1
    rw [Own.ids_cons] at hn
    simp at hn
    exact absurd (e ▸ Own.mem_ids (List.mem_of_getElem? h2)) hn.1
  | x :: l, i + 1, 0, k, k', hn, h1, h2, e => by
    simp at h1 h2
    subst h2
    rw [Own.ids_cons] at hn
    simp at hn
    exact absurd (e ▸ Own.mem_ids (List.mem_of_getElem? h1)) hn.1
  | x :: l, i + 1, j + 1, k, k', hn, h1, h2, e => by
    rw [Own.ids_cons] at hn
    have hn2 : Own.ids l |>.Nodup := (List.nodup_append.1 hn).2.1
    have := ids_inj (i := i) (j := j) (k := k) (k' := k') hn2 (by simpa using h1) (by simpa using h2) e
    omega
theorem pickP_mem {is : List (Option Nat)} {own : Own} {k : Bk} (h : some k ∈ pickP is own) : ∃ i, some i ∈ is ∧ own[i]? = some (some k) := by
  obtain ⟨a, ha, e⟩ := List.mem_map.1 h
  cases a with
  | none => cases e
  | some i =>
    refine ⟨i, ha, ?_⟩
    have e : (own[i]?).join = some k := e
    cases h2 : own[i]? with
    | none => rw [h2] at e; cases e
    | some x => rw [h2] at e; rw [show x = some k from e]
theorem pickP_nodup {own : Own} (hn : own.ids.Nodup) : ∀ {is : List (Option Nat)}, (is.filterMap id).Nodup → (pickP is own).ids.Nodup
  | [], _ => by simp [pickP, Own.ids]
  | none :: is, h => by
    have ih := pickP_nodup hn (is := is) (by simpa using h)
    show (Own.ids (none :: pickP is own)).Nodup
    rw [Own.ids_cons]; simpa using ih
  | some i :: is, h => by
    have h2 : i ∉ is.filterMap id ∧ (is.filterMap id).Nodup := by simpa using h
    have ih := pickP_nodup hn h2.2
    show (Own.ids ((own[i]?).join :: pickP is own)).Nodup
    rw [Own.ids_cons]
    cases e : (own[i]?).join with
    | none => simpa using ih
    | some k =>
      have hk : own[i]? = some (some k) := by
        cases h3 : own[i]? with
        | none => rw [h3] at e; cases e
        | some x => rw [h3] at e; rw [show x = some k from e]
      refine List.nodup_cons.2 ⟨fun hm => ?_, ih⟩
      obtain ⟨k', hk', e2⟩ := Own.of_ids hm
      obtain ⟨j, hj, hj2⟩ := pickP_mem hk'
      have : i = j := ids_inj hn hk hj2 e2.symm
      subst this
      exact h2.1 (List.mem_filterMap.2 ⟨_, hj, rfl⟩)
theorem keepP (is : List (Option Nat)) {g : Gh} {own own' : Own} (hn : decide (is.filterMap id).Nodup = true) (e : pickP is own = own') (w : World) (h : St w g own) : St w g own' := by
  subst e
  exact h.fewer (pickP_nodup h.nodup (of_decide_eq_true hn)) fun k hk => by
    obtain ⟨i, _, h2⟩ := pickP_mem hk
    exact List.mem_of_getElem? h2
section
variable {P : Program} {n : Nat} {g : Gh} {own : Own} {sl : Sl} {ty : TypeId} {α : Type} {T : Ty α} {p : Psi}
theorem set_same {i : Nat} {k : Option Bk} (hi : own[i]? = some k) : own.set i k = own := by
  apply List.ext_getElem?
  intro j
  rw [List.getElem?_set]
  split
  · rename_i e; subst e
    split
    · exact hi.symm
    · rename_i hlt; rw [List.getElem?_eq_none (by omega)]
  · rfl
theorem arr_of_buf {et : TypeId} {A : Option Addr} {c : Nat} {k : Option Bk} {xs : List α} {r : Psi} (h : Buf p T et (.slice A xs.length c) k xs) (hl : p.le r) (hk : ∀ b, k = some b → r.m b.g = some b.obj) : Arr r T A c xs := by
  have h := h.mono hl
  rcases h.2 with ⟨h1, rfl, _⟩ | ⟨b, cap, cs, sp, h1, h2, h3, h4, h5⟩
  · exact Arr.nil
  · injection h1 with e1 e2 e3
    subst e1; subst e3
    have hm := hk _ h2
    refine ⟨?_, h.1, cs, h3, fun _ => ⟨_, rfl, fun j v hj => ?_⟩⟩
    · rw [List.length_append, h3.len] at h4
      exact Nat.le_of_mul_le_mul_right (by omega : xs.length * T.n ≤ c * T.n) T.pos
    · rw [addr_add]
      have : (cs ++ sp)[j]? = some v := by
        have hlt : j < cs.length := (List.getElem?_eq_some_iff.1 hj).1
        rw [List.getElem?_append_left hlt]; exact hj
      simp only [Psi.cell?, hm, Bk.obj_ty]
      simpa using this
theorem Buf.open_ {et : TypeId} {A : Option Addr} {l c : Nat} {k : Option Bk} {xs : List α} (h : Buf p T et (.slice A l c) k xs) {i : Nat} (hi : i < xs.length) (d : α) :
    ∃ kb cs, A = some ⟨kb.g, 0, none⟩ ∧ k = some kb ∧ T.rep p cs (xs.getD i d) ∧ (kb.cs.drop (i * T.n)).take T.n = cs := by
  rcases h.2 with ⟨_, rfl, _⟩ | ⟨b, cap, cs, sp, h1, h2, h3, h4, h5⟩
  · simp at hi
  · injection h1 with e1 e2 e3
    have hx : xs[i]? = some (xs.getD i d) := by rw [List.getD_eq_getElem?_getD, List.getElem?_eq_getElem hi]; rfl
    refine ⟨_, _, e1, h2, h3.at_ hx, ?_⟩
    have hle : i * T.n + T.n ≤ cs.length := by rw [h3.len, ← Nat.succ_mul]; exact Nat.mul_le_mul_right _ hi
    show (List.drop (i * T.n) (cs ++ sp)).take T.n = (List.drop (i * T.n) cs).take T.n
    rw [List.drop_append_of_le_length (by omega), List.take_append_of_le_length (by rw [List.length_drop]; omega)]
theorem rowAt {kb : Bk} {cs : List Value} {i m off : Nat} {v : Value} (h : (kb.cs.drop (i * m)).take m = cs) (hv : cs[off]? = some v) : kb.cs[i * m + off]? = some v := by
  subst h
  exact take_drop_get hv
theorem setRow_len : ∀ (vs cs : List Value) (o : Nat), (setRow cs o vs).length = cs.length
  | [], cs, o => rfl
  | v :: vs, cs, o => by rw [setRow, setRow_len vs]; simp
theorem setRow_app : ∀ (vs : List Value) (a b : List Value) (o : Nat), o + vs.length ≤ a.length → setRow (a ++ b) o vs = setRow a o vs ++ b
  | [], a, b, o, h => rfl
  | v :: vs, a, b, o, h => by
    rw [setRow, setRow, List.set_append_left _ _ (by simp at h; omega)]
    exact setRow_app vs _ b (o + 1) (by simp at h ⊢; omega)
theorem setRow_pre : ∀ (vs : List Value) (a b : List Value) (o : Nat), setRow (a ++ b) (a.length + o) vs = a ++ setRow b o vs
  | [], a, b, o => rfl
  | v :: vs, a, b, o => by
    rw [setRow, setRow, List.set_append_right _ _ (by omega), show a.length + o - a.length = o by omega, Nat.add_assoc]
    exact setRow_pre vs a _ (o + 1)
theorem Reps.setPart : ∀ {xs : List α} {cs : List Value} {i off : Nat} {vs : List Value} {x : α} {c : List Value}, Reps T p cs xs → (cs.drop (i * T.n)).take T.n = c → T.rep p (setRow c off vs) x → off + vs.length ≤ T.n → i < xs.length →
    Reps T p (setRow cs (i * T.n + off) vs) (xs.set i x)
  | [], cs, i, off, vs, x, c, h, hc, hx, ho, hi => by simp at hi
  | y :: xs, cs, 0, off, vs, x, c, ⟨c1, c2, e1, h1, h2⟩, hc, hx, ho, hi => by
    subst e1
    have e : c1 = c := by rw [← hc, Nat.zero_mul, List.drop_zero, ← T.len h1]; simp
    subst e
    rw [Nat.zero_mul, Nat.zero_add, setRow_app _ _ _ _ (by rw [T.len h1]; exact ho)]
    exact ⟨_, c2, rfl, hx, h2⟩
  | y :: xs, cs, i + 1, off, vs, x, c, ⟨c1, c2, e1, h1, h2⟩, hc, hx, ho, hi => by
    subst e1
    have hd : (c2.drop (i * T.n)).take T.n = c := by
      rw [← hc, Nat.succ_mul, Nat.add_comm, ← List.drop_drop]
      rw [show List.drop T.n (c1 ++ c2) = c2 by rw [← T.len h1]; simp]
    have ih := h2.setPart hd hx ho (by simpa using hi)
    rw [Nat.succ_mul, show i * T.n + T.n + off = c1.length + (i * T.n + off) by rw [T.len h1]; omega, setRow_pre]
    exact ⟨c1, _, rfl, h1, ih⟩
theorem e_storeB {t : TypeId} {x y : Operand} (i m off io : Nat) (v : Value) (vs : List Value) {et : TypeId} {A : Option Addr} {l c : Nat} {kb : Bk} {cs : List Value} (xs : List α) (u : α) (hx : evS sl x = some (.pointer (some ⟨kb.g, i * m + off, none⟩))) (hy : evS sl y = some v) (hi : own[io]? = some (some kb))
    (hv : v.cells = vs.toArray) (hz : cellsOfT P t = some vs.length) (h1 : vs.all one1 = true) (hb : Buf p T et (.slice A l c) (some kb) xs) (hm : m = T.n) (hr : (kb.cs.drop (i * m)).take m = cs) (hu : T.rep p (setRow cs off vs) u) (ho : Nat.ble (off + vs.length) T.n = true) (hlt : i < xs.length) :
    Eff P n g own sl (.store t x y) ty (fun v' g' own' => ∃ k', g = g' ∧ own' = own.set io k' ∧ Buf p T et (.slice A l c) k' (xs.set i u)) := by
  subst hm
  intro o a w Q K e1 e2 hf hs h
  have ho' : off + vs.length ≤ T.n := by simpa using ho
  rcases hb.2 with ⟨_, rfl, _⟩ | ⟨b, cap, cs0, sp, q1, q2, q3, q4, q5⟩
  · simp at hlt
  · injection q2 with q2
    have hl0 : i * T.n + T.n ≤ cs0.length := by rw [q3.len, ← Nat.succ_mul]; exact Nat.mul_le_mul_right _ hlt
    have hcs : (cs0.drop (i * T.n)).take T.n = cs := by
      rw [← hr, q2]
      show _ = (List.drop (i * T.n) (cs0 ++ sp)).take T.n
      rw [List.drop_append_of_le_length (by omega), List.take_append_of_le_length (by rw [List.length_drop]; omega)]
    have hl : i * T.n + off + vs.length ≤ kb.cs.length := by rw [q2]; simp; omega
    refine e_store (k := kb) hx hy hi rfl hv hz h1 (by simpa using hl) rfl o a w Q K e1 e2 hf hs fun v' g' own' w' hg hs' ⟨h2, h3⟩ => h v' g' own' w' hg hs' ⟨_, h2, h3, ?_⟩
    refine ⟨by rw [List.length_set]; exact hb.1, .inr ⟨b, cap, setRow cs0 (i * T.n + off) vs, sp, by rw [List.length_set]; exact q1, ?_, q3.setPart hcs hu ho' hlt, by rw [List.length_append, setRow_len, ← List.length_append]; exact q4, q5⟩⟩
    rw [q2]
    simp only [Option.some.injEq, Bk.mk.injEq, true_and]
    exact setRow_app _ _ _ _ (by omega)
theorem wide47 {m bytes : Nat} (h : m * bytes ≤ 140737488355328) : m * bytes ≤ 281474976710656 := Nat.le_trans h (by decide)
theorem cells_lent {k : Bk} (off : Nat) (cs : List Value) (h : p.m k.g = some k.obj) (e : (k.cs.drop off).take cs.length = cs) : Cells p ⟨k.g, off, none⟩ cs := by
  intro j v hj
  rw [addr_add]
  simp only [Psi.cell?, h]
  rw [← e] at hj
  have := take_drop_get hj
  obtain ⟨g, t, ks⟩ := k
  cases t with
  | ty t => simpa [Bk.obj] using this
  | mp es n =>
    cases ks with
    | nil => simp at this
    | cons c l => simpa [Bk.obj] using this
theorem Buf.srcO {et : TypeId} {A : Option Addr} {c : Nat} {k : Option Bk} {xs : List α} (h : Buf p T et (.slice A xs.length c) k xs) : ∃ news, Reps T p news xs ∧ ∀ (i : Nat) w (own : Own), St w g own → own[i]? = some k → Src w A xs.length news := by
  obtain ⟨news, h1, h2⟩ := h.src
  exact ⟨news, h1, fun i w own hs hi => h2 w fun b hb => by subst hb; exact hs.has b (List.mem_of_getElem? hi)⟩
structure ArrM (r b : Psi) (T : Ty α) (A : Option Addr) (c : Nat) (xs : List α) : Prop where
  cap : xs.length ≤ c
  len : xs.length ≤ 140737488355328
  row : ∃ cs, Reps T b cs xs ∧ (0 < xs.length → ∃ ad, A = some ad ∧ Cells r ad cs)
theorem ArrM.mono {r b r' b' : Psi} {A : Option Addr} {c : Nat} {xs : List α} (h : ArrM r b T A c xs) (k : r.le r') (l : b.le b') : ArrM r' b' T A c xs := by
  obtain ⟨h1, h0, cs, h2, h3⟩ := h
  exact ⟨h1, h0, cs, h2.mono l, fun hn => by obtain ⟨ad, e, hc⟩ := h3 hn; exact ⟨ad, e, hc.mono k⟩⟩
theorem ArrM.toArr {r b : Psi} {A : Option Addr} {c : Nat} {xs : List α} (h : ArrM r b T A c xs) (l : b.le r) : Arr r T A c xs := by
  obtain ⟨h1, h0, cs, h2, h3⟩ := h
  exact ⟨h1, h0, cs, h2.mono l, h3⟩
theorem Arr.toM {r b : Psi} {A : Option Addr} {c : Nat} {xs : List α} (h : Arr b T A c xs) (l : b.le r) : ArrM r b T A c xs := by
  obtain ⟨h1, h0, cs, h2, h3⟩ := h
  exact ⟨h1, h0, cs, h2, fun hn => by obtain ⟨ad, e, hc⟩ := h3 hn; exact ⟨ad, e, hc.mono l⟩⟩
theorem ArrM.lent {g g' : Gh} {A : Option Addr} {c : Nat} {xs : List α} (h : ArrM g.r g.b T A c xs) (k : g.r.le g'.r) (e : g'.b = g.b) : ArrM g'.r g'.b T A c xs := by rw [e]; exact h.mono k (.refl _)
theorem ArrM.nil {r b : Psi} {A : Option Addr} {c : Nat} : ArrM r b T A c [] := ⟨Nat.zero_le _, by simp, [], rfl, fun h => absurd h (by simp)⟩
theorem ArrM.at_ {r b : Psi} {A : Option Addr} {c : Nat} {xs : List α} (h : ArrM r b T A c xs) {i : Nat} {x : α} (hi : xs[i]? = some x) : ∃ ad cs, A = some ad ∧ T.rep b cs x ∧ Cells r (ad.add (i * T.n)) cs := by
  obtain ⟨_, _, cs, h2, h3⟩ := h
  have hlt : i < xs.length := by
    rcases Nat.lt_or_ge i xs.length with h | h
    · exact h
    · rw [List.getElem?_eq_none h] at hi; cases hi
  obtain ⟨ad, e, hc⟩ := h3 (by omega)
  exact ⟨ad, _, e, h2.at_ hi, hc.part _ _⟩
theorem ArrM.srcM {A : Option Addr} {c : Nat} {xs : List α} (h : ArrM g.r g.b T A c xs) : ∃ news, Reps T g.b news xs ∧ ∀ w own, St w g own → Src w A xs.length news := by
  obtain ⟨_, _, cs, h2, h3⟩ := h
  refine ⟨cs, h2, fun w own hs hn => ?_⟩
  obtain ⟨ad, e, hc⟩ := h3 hn
  exact ⟨ad, e, fun j u hj => hs.r.cell (hc j u hj)⟩
theorem arrm_of_buf {et : TypeId} {A : Option Addr} {c : Nat} {k : Option Bk} {xs : List α} {g' : Gh} (h : Buf g.b T et (.slice A xs.length c) k xs) (e : g'.b = g.b) (hk : ∀ b, k = some b → g'.r.m b.g = some b.obj) : ArrM g'.r g'.b T A c xs := by
  rw [e]
  rcases h.2 with ⟨h1, rfl, _⟩ | ⟨b, cap, cs, sp, h1, h2, h3, h4, h5⟩
  · exact ArrM.nil
  · injection h1 with e1 e2 e3
    subst e1; subst e3
    have hm := hk _ h2
    refine ⟨?_, h.1, cs, h3, fun _ => ⟨_, rfl, fun j v hj => ?_⟩⟩
    · rw [List.length_append, h3.len] at h4
      exact Nat.le_of_mul_le_mul_right (by omega : xs.length * T.n ≤ c * T.n) T.pos
    · rw [addr_add]
      have : (cs ++ sp)[j]? = some v := by
        have hlt : j < cs.length := (List.getElem?_eq_some_iff.1 hj).1
        rw [List.getElem?_append_left hlt]; exact hj
      simp only [Psi.cell?, hm, Bk.obj_ty]
      simpa using this
end
section
variable {P : Program} {ops : Array Oper} {Q : Exit → Act → World → Prop} {n : Nat} {lds fin : List Nat} {p : Psi} {K : Own} {g : Gh} {own : Own} {sl : Sl} {fuel : Nat} {listed : List Bool}
end
section
variable {P : Program} {n : Nat} {g : Gh} {own : Own} {sl : Sl} {ty : TypeId}
end
theorem land64 (a c : Int) (h : 0 ≤ c ∧ c ≤ 9223372036854775807) : 0 ≤ landK .i64 a c ∧ landK .i64 a c ≤ c := by
  unfold landK
  have h1 : (BitVec.ofInt 64 a &&& BitVec.ofInt 64 c).toNat ≤ c.toNat := by
    rw [BitVec.toNat_and]
    refine Nat.le_trans Nat.and_le_right ?_
    rw [BitVec.toNat_ofInt]
    omega
  have h2 : ((BitVec.ofInt IntKind.i64.bits a &&& BitVec.ofInt IntKind.i64.bits c).toNat : Int) ≤ c := by
    have : ((BitVec.ofInt 64 a &&& BitVec.ofInt 64 c).toNat : Int) ≤ (c.toNat : Int) := Int.ofNat_le.2 h1
    rw [Int.toNat_of_nonneg h.1] at this
    exact this
  rw [IntKind.wrap_i64]
  omega
end Go.Proofs.YtpleflcfaecojaaGreat
namespace Go.Proofs.YtpleflcfaecojaaGreat
set_option linter.unusedVariables false
set_option linter.unusedSimpArgs false
open Go.RowKit
section
variable {P : Program} {n : Nat} {p : Psi} {own : Own} {sl : Sl} {ty : TypeId}
def partOf (P : Program) (t : TypeId) (xs : Array Value) (off : Nat) : Option Value :=
  match aggOf P t with
  | some m => some (.agg (xs.extract off (off + m)))
  | none => if flatOf P t then xs[off]? else none
theorem run_partOf {t : TypeId} {xs : Array Value} {off : Nat} {v : Value} (h : partOf P t xs off = some v) (w : World) : (part t xs off).run P w = .ok v w := by
  unfold partOf at h
  split at h
  · rename_i m hm
    injection h with h
    obtain ⟨h1, h2⟩ := run_isAgg_of hm w
    subst h
    simp [part, h1, h2]
  · split at h
    · rename_i hf
      have h1 := run_isAgg_flat hf w
      simp [part, h1, h]
    · cases h
def joinB (c : Bool) : Option Bool → Option Bool
  | none => some c
  | some r => some (c && r)
def eqOf (P : Program) : Nat → TypeId → Value → Value → Option Bool
  | 0, _, _, _ => none
  | d + 1, t, x, y =>
    match P.underlying t, x, y with
    | some .bool, .bool a, .bool b => some (a == b)
    | some .string, .string a, .string b => some (a.toList == b.toList)
    | some (.int _), .int k a, .int k' b => if k = k' then some (a == b) else none
    | some (.struct _), .agg xs, .agg ys =>
      if P.stoodInHeld t then none else
      match (P.fieldsOf t).toList.foldr (fun f r => match r with
        | none => none
        | some r => if f.name = "_" then some r else
          match partOf P f.type xs f.offset, partOf P f.type ys f.offset with
          | some a, some b => match eqOf P d f.type a b with
            | some c => some (joinB c r)
            | none => none
          | _, _ => none) (some none) with
      | some (some b) => some b
      | _ => none
    | some (.array m e), .agg xs, .agg ys =>
      match P.info? e with
      | none => none
      | some _ => match (List.range m).foldr (fun i r => match r with
          | none => none
          | some r => match partOf P e xs (i * P.cellsOf e), partOf P e ys (i * P.cellsOf e) with
            | some a, some b => match eqOf P d e a b with
              | some c => some (joinB c r)
              | none => none
            | _, _ => none) (some none) with
        | some (some b) => some b
        | _ => none
    | _, _, _ => none
theorem run_eqIs {d D : Nat} {w : World} {e : TypeId} {k : Nat} {xs ys : Array Value} (ih : ∀ t x y b, eqOf P d t x y = some b → (Op.equalIn (d + D) t x y).run P w = .ok b w) : ∀ (is : List Nat) (r : Option Bool),
    is.foldr (fun i r => match r with
          | none => none
          | some r => match partOf P e xs (i * k), partOf P e ys (i * k) with
            | some a, some b => match eqOf P d e a b with
              | some c => some (joinB c r)
              | none => none
            | _, _ => none) (some none) = some r → (Op.eqItems (d + D) e k xs ys is).run P w = .ok (r.getD true) w
  | [], r, h => by injection h with h; subst h; simp [Op.eqItems]
  | i :: is, r, h => by
    rw [List.foldr_cons] at h
    split at h
    · cases h
    · rename_i r1 hr1
      have ih2 := run_eqIs ih is r1 hr1
      split at h
      · rename_i a b ha hb
        split at h
        · rename_i c hc
          injection h with h
          have e := ih _ _ _ _ hc
          subst h
          simp only [Op.eqItems, Sem.run_bind, run_partOf ha, run_partOf hb, Result.andThen_ok, e]
          cases c with
          | false => cases r1 <;> simp [joinB]
          | true => cases r1 <;> simp [joinB, ih2]
        · cases h
      · cases h
theorem run_eqFs {d D : Nat} {w : World} {xs ys : Array Value} (ih : ∀ t x y b, eqOf P d t x y = some b → (Op.equalIn (d + D) t x y).run P w = .ok b w) : ∀ (fs : List Field) (r : Option Bool),
    fs.foldr (fun f r => match r with
        | none => none
        | some r => if f.name = "_" then some r else
          match partOf P f.type xs f.offset, partOf P f.type ys f.offset with
          | some a, some b => match eqOf P d f.type a b with
            | some c => some (joinB c r)
            | none => none
          | _, _ => none) (some none) = some r → (Op.eqFields (d + D) xs ys fs).run P w = .ok (r.getD true) w
  | [], r, h => by injection h with h; subst h; simp [Op.eqFields]
  | f :: fs, r, h => by
    rw [List.foldr_cons] at h
    split at h
    · cases h
    · rename_i r1 hr1
      have ih2 := run_eqFs ih fs r1 hr1
      split at h
      · rename_i hn
        injection h with h; subst h
        simp [Op.eqFields, hn, ih2]
      · rename_i hn
        split at h
        · rename_i a b ha hb
          split at h
          · rename_i c hc
            injection h with h
            have e := ih _ _ _ _ hc
            subst h
            simp only [Op.eqFields, hn, ne_eq, not_false_eq_true, if_true, Sem.run_bind, run_partOf ha, run_partOf hb, Result.andThen_ok, e]
            cases c with
            | false => cases r1 <;> simp [joinB]
            | true => cases r1 <;> simp [joinB, ih2]
          · cases h
        · cases h
theorem run_eqOf {w : World} : ∀ (d D : Nat) (t : TypeId) (x y : Value) (b : Bool), eqOf P d t x y = some b → (Op.equalIn (d + D) t x y).run P w = .ok b w
  | 0, D, t, x, y, b, h => by cases h
  | d + 1, D, t, x, y, b, h => by
    rw [show d + 1 + D = (d + D) + 1 by omega]
    unfold eqOf at h
    split at h
    · rename_i a b' ht
      injection h with h; subst h
      exact run_equalIn_bool' w _ t a b' ht
    · rename_i a b' ht
      injection h with h; subst h
      exact run_equalIn_string w _ t a b' ht
    · rename_i k0 k a k' b' ht
      split at h
      · rename_i hk
        injection h with h; subst h; subst hk
        exact run_equalIn_int w _ t k k0 a b' ht
      · cases h
    · rename_i fs xs ys ht
      split at h
      · cases h
      · rename_i hst
        split at h
        · rename_i b' hf
          injection h with h; subst h
          have hfs : P.underlying t = some (.struct (P.fieldsOf t)) := by simp [Program.fieldsOf, ht]
          rw [run_equalIn_struct w _ t xs ys hfs (by simpa using hst)]
          exact run_eqFs (fun t x y b h => run_eqOf d D t x y b h) _ _ hf
        · cases h
    · rename_i m e xs ys ht
      split at h
      · cases h
      · rename_i i hi
        split at h
        · rename_i b' hf
          injection h with h; subst h
          rw [run_equalIn_array w _ xs ys ht hi]
          exact run_eqIs (fun t x y b h => run_eqOf d D t x y b h) _ _ hf
        · cases h
    · cases h
theorem y_eqA {t u : TypeId} {x y : Operand} {xs ys : Array Value} {b : Bool} (hx : evS sl x = some (.agg xs)) (hy : evS sl y = some (.agg ys)) (hg : P.eqGuardType P.depth t = false) (h : eqOf P 9 t (.agg xs) (.agg ys) = some b) : Yld P n p own sl (.binOp .eql t x y u) ty (.bool b) := by
  intro o a w h1 h2 hf hr
  have e := run_eqOf (P := P) (w := w) 9 9991 t _ _ b h
  have e2 := run_eql_struct (P := P) w t xs ys
  rw [e] at e2
  simp [execOp, h1, hf.ev hx, hf.ev hy, run_eqGuard_agg (P := P) w .eql t x y xs ys hg, e2]
theorem y_neA {t u : TypeId} {x y : Operand} {xs ys : Array Value} {b : Bool} (hx : evS sl x = some (.agg xs)) (hy : evS sl y = some (.agg ys)) (hg : P.eqGuardType P.depth t = false) (h : eqOf P 9 t (.agg xs) (.agg ys) = some b) : Yld P n p own sl (.binOp .neq t x y u) ty (.bool (!b)) := by
  intro o a w h1 h2 hf hr
  have e := run_eqOf (P := P) (w := w) 9 9991 t _ _ b h
  have e2 := run_neq_struct (P := P) w t xs ys
  rw [e] at e2
  simp [execOp, h1, hf.ev hx, hf.ev hy, run_eqGuard_agg (P := P) w .neq t x y xs ys hg, e2]
end
end Go.Proofs.YtpleflcfaecojaaGreat
namespace Go.Proofs.YtpleflcfaecojaaGreat
set_option linter.unusedVariables false
set_option linter.unusedSimpArgs false
open Go.RowKit
abbrev vy (x : Int) : Value := .int .u8 x
abbrev vb (b : Bool) : Value := .bool b
abbrev vs {α : Type} (A : Option Addr) (xs : List α) (c : Nat) : Value := .slice A xs.length c
inductive Ctl (σ ρ : Type) where
  | go (s : σ)
  | done (r : ρ)
def grd {ρ : Type} (b : Bool) (x : Option ρ) : Option ρ := cond b x none
def bindO {τ ρ : Type} (x : Option τ) (k : τ → Option ρ) : Option ρ := match x with | some t => k t | none => none
def joinO {τ ρ : Type} (x : Option (Ctl τ ρ)) (k : τ → Option ρ) : Option ρ := match x with | some (.go t) => k t | some (.done r) => some r | none => none
def loopO {σ ρ : Type} (n : Nat) (f : σ → Option (Ctl σ ρ)) (s : σ) : Option ρ := Nat.rec (motive := fun _ => σ → Option ρ) (fun _ => none) (fun _ ih s => joinO (f s) ih) n s
def fuelN : Nat := 18446744073709551616
theorem grd_T {ρ : Type} {b : Bool} {A : Option ρ} {r : ρ} (hS : grd b A = some r) : b = true ∧ A = some r := by
  cases b with
  | true => exact ⟨rfl, hS⟩
  | false => cases hS
theorem bindO_T {τ ρ : Type} {x : Option τ} {k : τ → Option ρ} {r : ρ} (hS : bindO x k = some r) : ∃ t, x = some t ∧ k t = some r := by
  cases x with
  | none => cases hS
  | some t => exact ⟨t, rfl, hS⟩
theorem joinO_T {τ ρ : Type} {x : Option (Ctl τ ρ)} {k : τ → Option ρ} {r : ρ} (hS : joinO x k = some r) : ∃ c, x = some c ∧ (∀ t, c = .go t → k t = some r) ∧ ∀ v, c = .done v → v = r := by
  cases x with
  | none => cases hS
  | some c =>
    refine ⟨c, rfl, fun t e => ?_, fun v e => ?_⟩
    · subst e; exact hS
    · subst e; exact Option.some.inj hS
theorem loopO_T {σ ρ : Type} {n : Nat} {f : σ → Option (Ctl σ ρ)} {s : σ} {r : ρ} (hS : loopO n f s = some r) : ∃ m c, n = m + 1 ∧ f s = some c ∧ (∀ t, c = .go t → loopO m f t = some r) ∧ ∀ v, c = .done v → v = r := by
  cases n with
  | zero => cases hS
  | succ m =>
    obtain ⟨c, h1, h2, h3⟩ := joinO_T (x := f s) (k := loopO m f) hS
    exact ⟨m, c, rfl, h1, h2, h3⟩
section
variable {P : Program} {Q : Exit → Act → World → Prop} {n : Nat} {g : Gh} {own : Own} {sl : Sl} {C : Code} {p : List Nat}
end
end Go.Proofs.YtpleflcfaecojaaGreat
namespace Go.Proofs.YtpleflcfaecojaaGreat
set_option linter.unusedVariables false
set_option linter.unusedSimpArgs false
open Go.RowKit
section
variable {P : Program} {ops : Array Oper} {Q : Exit → Act → World → Prop} {n : Nat} {g : Gh} {own : Own} {sl : Sl}
end
end Go.Proofs.YtpleflcfaecojaaGreat
namespace Go.Proofs.YtpleflcfaecojaaGreat
set_option linter.unusedVariables false
set_option linter.unusedSimpArgs false
open Go.RowKit
section
variable {P : Program} {ops : Array Oper} {Q : Exit → Act → World → Prop} {n : Nat} {g : Gh} {own : Own} {sl : Sl}
variable {lds fin : List Nat} {p : Psi} {K : Own}
end
end Go.Proofs.YtpleflcfaecojaaGreat
namespace Go.Proofs.YtpleflcfaecojaaGreat
set_option linter.unusedVariables false
set_option linter.unusedSimpArgs false
open Go.RowKit
section
variable {P : Program} {n : Nat} {p : Psi} {own : Own} {sl : Sl} {ty : TypeId} {op : Op}
def bnd (o : Option Int) (d : Nat) (l : Nat) : Prop := match o with | none => d = l | some z => z = (l : Int)
end
section
variable {P : Program} {n : Nat} {g : Gh} {own : Own} {sl : Sl} {ty : TypeId} {op : Op} {p : Psi} {α : Type} {T : Ty α}
def Row (p : Psi) (T : Ty α) (et : TypeId) (b : Nat) (N : Nat) (k : Option Bk) (xs : List α) : Prop := ∃ cs, k = some ⟨b, et, cs⟩ ∧ Reps T p cs xs ∧ xs.length = N
theorem Row.mono {et : TypeId} {b N : Nat} {k : Option Bk} {xs : List α} {q : Psi} (h : Row p T et b N k xs) (hl : p.le q) : Row q T et b N k xs := by
  obtain ⟨cs, h1, h2, h3⟩ := h
  exact ⟨cs, h1, h2.mono hl, h3⟩
theorem Row.open_ {et : TypeId} {b N : Nat} {k : Option Bk} {xs : List α} (h : Row p T et b N k xs) {i : Nat} (hi : i < N) (d : α) : ∃ kb cs, b = kb.g ∧ k = some kb ∧ i < xs.length ∧ T.rep p cs (xs.getD i d) ∧ (kb.cs.drop (i * T.n)).take T.n = cs := by
  obtain ⟨cs, h1, h2, h3⟩ := h
  have hx : xs[i]? = some (xs.getD i d) := by rw [List.getD_eq_getElem?_getD, List.getElem?_eq_getElem (by omega)]; rfl
  exact ⟨_, _, rfl, h1, by omega, h2.at_ hx, rfl⟩
end
section
variable {P : Program} {Q : Exit → Act → World → Prop} {n : Nat} {g g0 : Gh} {own : Own} {sl : Sl} {C : Code} {pth : List Nat}
end
section
variable {P : Program} {Q : Exit → Act → World → Prop} {n : Nat} {g : Gh} {own : Own} {sl : Sl} {C c : Code} {p : List Nat}
end
section
variable {n : Nat} {g : Gh} {own : Own} {sl : Sl} {p : Psi} {α : Type} {T : Ty α}
end
section
variable {P : Program} {n : Nat} {p : Psi} {own : Own} {sl : Sl} {ty : TypeId} {op : Op}
end
end Go.Proofs.YtpleflcfaecojaaGreat
namespace Go.Proofs.YtpleflcfaecojaaGreat
set_option linter.unusedVariables false
set_option linter.unusedSimpArgs false
open Go.RowKit
section
variable {P : Program} {n : Nat} {p : Psi} {g : Gh} {own : Own} {sl : Sl} {ty : TypeId} {op : Op} {α : Type} {T : Ty α}
end
section
variable {P : Program} {ops : Array Oper} {Q : Exit → Act → World → Prop} {n : Nat} {g : Gh} {own : Own} {sl : Sl} {lds fin : List Nat} {p : Psi} {K : Own}
end
theorem wr_u32 {x : Int} (h : 0 ≤ x ∧ x ≤ 4294967295) : IntKind.u32.wrap x = x := IntWalk.u32_in x h
section
variable {P : Program} {n : Nat} {p : Psi} {own : Own} {sl : Sl} {ty : TypeId} {op : Op}
theorem run_pnil {w : World} (d : Nat) {t e : TypeId} {A : Option Addr} (ht : P.underlying t = some (.pointer e)) : (Op.equalIn (d + 1) t (.pointer A) (.pointer none)).run P w = .ok A.isNone w := by
  cases A <;> simp [Op.equalIn, run_underlying ht]
end
theorem loopO_go {σ ρ : Type} {f : σ → Option (Ctl σ ρ)} {s s' : σ} {N : Nat} (h : f s = some (.go s')) : loopO (N + 1) f s = loopO N f s' := by
  show joinO (f s) (loopO N f) = _
  rw [h]; rfl
theorem loopO_done {σ ρ : Type} {f : σ → Option (Ctl σ ρ)} {s : σ} {r : ρ} {N : Nat} (h : f s = some (.done r)) : loopO (N + 1) f s = some r := by
  show joinO (f s) (loopO N f) = _
  rw [h]; rfl
end Go.Proofs.YtpleflcfaecojaaGreat
namespace Go.Proofs.YtpleflcfaecojaaGreat
set_option linter.unusedVariables false
set_option linter.unusedSimpArgs false
open Go.RowKit
section
variable {P : Program} {n : Nat} {g : Gh} {own : Own} {sl : Sl} {ty : TypeId} {op : Op} {α : Type} {T : Ty α}
end
end Go.Proofs.YtpleflcfaecojaaGreat
namespace Go.Proofs.YtpleflcfaecojaaGreat
open Go.RowKit
theorem array_fields {H : Type} {enc : TypeId × Value → H} {P : Program} {t e : TypeId} {k : Nat} {w : World} {base : Nat} {spare : Nat → Bool} {held : Bool} {fuel : Nat} {cs : List Value} {d : DataW H} {pl : List MemPlace} (ht : P.underlying t = some (.array k e))
    (h : DataW.trod enc P w base spare held fuel t cs = some (d, pl)) (hw : ∀ m ∈ d.weights P t, m ≤ reachBytes) :
    cs.length = P.cellsOf t ∧ ∀ i, i < k → ∃ n d' pl', DataW.trod enc P w base spare held n e ((cs.drop (i * P.cellsOf e)).take (P.cellsOf e)) = some (d', pl') ∧ ∀ m ∈ d'.weights P e, m ≤ reachBytes := by
  obtain ⟨xs, n, _, hx, hlen, hxl, hf⟩ := DataW.trod_array ht h
  injection hx with hd _
  subst hd
  simp only [DataW.weights, ht] at hw
  refine ⟨hlen, fun i hi => ?_⟩
  have hlt : i < xs.length := by rw [hxl]; exact hi
  refine ⟨n, (xs[i]).1, (xs[i]).2, (hf i hi).trans (List.getElem?_eq_getElem hlt), fun m hm => hw m ?_⟩
  exact weightsAll_mem (List.mem_map.2 ⟨xs[i], List.getElem_mem .., rfl⟩) hm
end Go.Proofs.YtpleflcfaecojaaGreat
namespace Go.Proofs.YtpleflcfaecojaaGreat
set_option linter.unusedVariables false
set_option linter.unusedSimpArgs false
open Go.RowKit
theorem i64_in_ (x : Int) : -9223372036854775808 ≤ IntKind.i64.wrap x ∧ IntKind.i64.wrap x ≤ 9223372036854775807 := by rw [IntKind.wrap_i64]; omega
def landnK (k : IntKind) (a b : Int) : Int := k.wrap (BitVec.ofInt k.bits a &&& ~~~ BitVec.ofInt k.bits b).toNat
section
variable {P : Program} {n : Nat} {g : Gh} {own : Own} {sl : Sl} {ty : TypeId} {op : Op} {p : Psi} {α : Type} {T : Ty α}
end
section
variable {P : Program} {n : Nat} {own : Own} {sl : Sl} {ty : TypeId} {op : Op} {p : Psi}
end
end Go.Proofs.YtpleflcfaecojaaGreat
namespace Go.Proofs.YtpleflcfaecojaaGreat
set_option linter.unusedVariables false
set_option linter.unusedSimpArgs false
open Go.RowKit
section
variable {P : Program} {n : Nat} {own : Own} {sl : Sl} {ty : TypeId} {op : Op} {p : Psi}
end
end Go.Proofs.YtpleflcfaecojaaGreat
namespace Go.Proofs.YtpleflcfaecojaaGreat
set_option linter.unusedVariables false
set_option linter.unusedSimpArgs false
open Go.RowKit Go.WideShapes Go.ChangeShapes Go.Deep
def mapEnts : List Value → Nat → List MapEntry
  | k :: v :: l, i => ⟨k, v, i⟩ :: mapEnts l (i + 1)
  | _, _ => []
def mapB (cs : List Value) : BkT := .mp (mapEnts cs 0).toArray (cs.length / 2)
section
variable {α : Type} {T : Ty α} {p q : Psi}
def ElS (T : Ty α) (p : Psi) (v : Value) (y : List α) : Prop := ∃ A c, v = .slice A y.length c ∧ Arr p T A c y
def MReps (T : Ty α) (p : Psi) : List Value → List (Int × List α) → Prop
  | [], [] => True
  | k :: v :: cs, x :: xs => k = .int .u8 x.1 ∧ ElS T p v x.2 ∧ MReps T p cs xs
  | _, _ => False
theorem ElS.mono {v : Value} {y : List α} (h : ElS T p v y) (hl : p.le q) : ElS T q v y := by
  obtain ⟨A, c, e, f⟩ := h
  exact ⟨A, c, e, f.mono hl⟩
theorem MReps.mono (hl : p.le q) : ∀ {cs : List Value} {xs : List (Int × List α)}, MReps T p cs xs → MReps T q cs xs
  | [], [], _ => trivial
  | [], _ :: _, h => h.elim
  | [_], _, h => h.elim
  | k :: v :: cs, [], h => h.elim
  | k :: v :: cs, x :: xs, h => ⟨h.1, h.2.1.mono hl, MReps.mono hl h.2.2⟩
def MBuf (p : Psi) (T : Ty α) (v : Value) (k : Option Bk) (xs : List (Int × List α)) : Prop := ∃ b cs, v = .map (some b) ∧ k = some ⟨b, mapB cs, []⟩ ∧ MReps T p cs xs
theorem MBuf.mono {v : Value} {k : Option Bk} {xs : List (Int × List α)} (h : MBuf p T v k xs) (hl : p.le q) : MBuf q T v k xs := by
  obtain ⟨b, cs, h1, h2, h3⟩ := h
  exact ⟨b, cs, h1, h2, h3.mono hl⟩
end
theorem opens_sized {P : Program} {t e : TypeId} {α : Type} {T : Ty α} {ok : α → Prop} (m : Nat) (hm : P.bytesOf e = m) (he : Opens P e T ok) (ht : P.underlying t = some (.slice e)) (hc : P.cellsOf e = T.n) (hb : Nat.blt 0 (P.bytesOf e) = true) : Opens P t (tyArr T) (fun xs => xs.length * m ≤ 140737488351232 ∧ ∀ x ∈ xs, ok x) := by
  intro H enc w base spare held fuel cs d pl h hw
  obtain ⟨xs, hr, hk⟩ := opens_slice he ht hc hb h hw
  refine ⟨xs, hr, ?_, hk⟩
  obtain ⟨A, c, rfl, hA⟩ := hr
  rcases open_slice ht h with ⟨h1, _⟩ | ⟨a, len, cap, k, n, D, Pl, h1, hbs, hl, hmm, hmk, hx, hi⟩
  · simp only [List.cons.injEq, Value.slice.injEq, and_true] at h1
    rw [h1.2.1]; omega
  · simp only [List.cons.injEq, Value.slice.injEq, and_true] at h1
    obtain ⟨_, h2, _⟩ := h1
    have hlm : len ≤ k := by rw [hmk]; split <;> omega
    injection hx with hd _
    subst hd
    simp only [DataW.weights, ht] at hw
    have := hw _ (List.mem_cons_self ..)
    simp only [List.length_map, List.length_range, reachBytes] at this
    rw [h2, ← hm]
    have h3 : len * P.bytesOf e ≤ (len + (k - len)) * P.bytesOf e := Nat.mul_le_mul_right _ (by omega)
    omega
section
variable {P : Program} {n : Nat} {g : Gh} {own : Own} {sl : Sl} {ty : TypeId} {op : Op} {α : Type} {T : Ty α}
end
end Go.Proofs.YtpleflcfaecojaaGreat
namespace Go.Proofs.YtpleflcfaecojaaGreat
set_option linter.unusedVariables false
def GW (w : World) : Prop := True
end Go.Proofs.YtpleflcfaecojaaGreat
