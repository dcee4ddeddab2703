/-
The engine, part 2: operations that compute, read or write one's own blocks; calls; the end of a function. Conditions: each lemma's own.
-/
import Derived.Test.YtpleflcfaecojaaGreatE1
namespace Go.Proofs.YtpleflcfaecojaaGreat
set_option linter.unusedVariables false
set_option linter.unusedSimpArgs false
open Go.RowKit
def rhoS (sl : Sl) (x : Operand) : Value := (evS sl x).getD undef
def bareO (op : Op) (ty : TypeId) : Oper := ⟨none, op, ty, "", #[], none⟩
def notSel : Op → Bool
  | .select .. => false
  | _ => true
def defd (sl : Sl) (op : Op) : Bool := notSel op && op.operands.toList.all fun x => (evS sl x).isSome
section
variable {P : Program} {n : Nat} {p : Psi} {own : Own} {sl : Sl} {ty : TypeId}
theorem exec_bare (o : Oper) {op : Op} (h1 : o.op = op) (h2 : o.type = ty) (ρ : Operand → Value) : execOp ρ o = execOp ρ (bareO op ty) := by subst h1; subst h2; rfl
theorem notSel_ne {op : Op} (h : notSel op = true) (cs : Array SelectCase) (b : Bool) : op ≠ .select cs b := by
  intro e
  subst e
  cases h
theorem defd_rho {op : Op} {a : Act} (hd : defd sl op = true) (hf : Fr n a sl) : execOp a.eval (bareO op ty) = execOp (rhoS sl) (bareO op ty) := by
  simp only [defd, Bool.and_eq_true, List.all_eq_true] at hd
  refine execOp_congr _ (notSel_ne hd.1) fun x hx => ?_
  have := hd.2 x (by simpa [bareO] using hx)
  obtain ⟨v, hv⟩ := Option.isSome_iff_exists.1 this
  rw [hf.ev hv]
  simp [rhoS, hv]
theorem y_of {op : Op} {v : Value} (hd : defd sl op = true) (h : ∀ w, Rdw w p own → (execOp (rhoS sl) (bareO op ty)).run P w = .ok (.value v) w) : Yld P n p own sl op ty v := by
  intro o a w h1 h2 hf hr
  rw [exec_bare o h1 h2, defd_rho hd hf]
  exact h w hr
theorem defd_bin {op : BinOp} {t u : TypeId} {x y : Operand} {vx vy : Value} (hx : evS sl x = some vx) (hy : evS sl y = some vy) : defd sl (.binOp op t x y u) = true := by
  simp [defd, notSel, Op.operands, hx, hy]
def inK (k : IntKind) (z : Int) : Prop := k.min ≤ z ∧ z ≤ k.max
theorem y_quo {k : IntKind} {t u : TypeId} {x y : Operand} {a b c : Int} (hx : evS sl x = some (.int k a)) (hy : evS sl y = some (.int k b)) (h0 : b ≠ 0) (h : k.wrap (a.tdiv b) = c) :
    Yld P n p own sl (.binOp .quo t x y u) ty (.int k c) := by
  refine y_of (defd_bin hx hy) fun w _ => ?_
  simp [execOp, bareO, rhoS, hx, hy, eqGuard, binOp, Op.intDiv, h0, h]
theorem y_rem {k : IntKind} {t u : TypeId} {x y : Operand} {a b c : Int} (hx : evS sl x = some (.int k a)) (hy : evS sl y = some (.int k b)) (h0 : b ≠ 0) (h : a.tmod b = c) :
    Yld P n p own sl (.binOp .rem t x y u) ty (.int k c) := by
  refine y_of (defd_bin hx hy) fun w _ => ?_
  simp [execOp, bareO, rhoS, hx, hy, eqGuard, binOp, Op.intDiv, h0, h]
theorem y_shl {k k2 : IntKind} {t u : TypeId} {x y : Operand} {a b c : Int} (hx : evS sl x = some (.int k a)) (hy : evS sl y = some (.int k2 b)) (h0 : 0 ≤ b) (h : k.wrap (a * 2 ^ (min b.toNat k.bits)) = c) :
    Yld P n p own sl (.binOp .shl t x y u) ty (.int k c) := by
  refine y_of (defd_bin hx hy) fun w _ => ?_
  have h1 : ¬ b < 0 := by omega
  simp [execOp, bareO, rhoS, hx, hy, eqGuard, binOp, Op.shift, h1, ← h]
theorem y_shr {k k2 : IntKind} {t u : TypeId} {x y : Operand} {a b c : Int} (hx : evS sl x = some (.int k a)) (hy : evS sl y = some (.int k2 b)) (h0 : 0 ≤ b) (h : a.fdiv (2 ^ (min b.toNat k.bits)) = c) :
    Yld P n p own sl (.binOp .shr t x y u) ty (.int k c) := by
  refine y_of (defd_bin hx hy) fun w _ => ?_
  have h1 : ¬ b < 0 := by omega
  simp [execOp, bareO, rhoS, hx, hy, eqGuard, binOp, Op.shift, h1, ← h]
theorem y_conv {src dst : TypeId} {k k2 : IntKind} {x : Operand} {a c : Int} (hx : evS sl x = some (.int k a)) (h1 : (P.underlying src).isSome = true) (h2 : P.underlying dst = some (.int k2)) (h : k2.wrap a = c) :
    Yld P n p own sl (.convert src dst x) ty (.int k2 c) := by
  refine y_of (by simp [defd, notSel, Op.operands, hx]) fun w _ => ?_
  obtain ⟨d, hd⟩ := Option.isSome_iff_exists.1 h1
  simp [execOp, bareO, rhoS, hx, convert, run_underlying hd, run_underlying h2, Conv.intToInt, h]
theorem y_pickT {c x y : Operand} {v : Value} (hc : evS sl c = some (.bool true)) (hx : evS sl x = some v) :
    Yld P n p own sl (.pick c x y) ty v := by
  intro o a w h1 h2 hf hr
  simp [execOp, h1, hf.ev hc, hf.ev hx, asBool]
theorem y_pickF {c x y : Operand} {v : Value} (hc : evS sl c = some (.bool false)) (hy : evS sl y = some v) :
    Yld P n p own sl (.pick c x y) ty v := by
  intro o a w h1 h2 hf hr
  simp [execOp, h1, hf.ev hc, hf.ev hy, asBool]
theorem y_move {x : Operand} {v : Value} (hx : evS sl x = some v) : Yld P n p own sl (.move x) ty v := by
  intro o a w h1 h2 hf hr
  simp [execOp, h1, hf.ev hx]
theorem y_assign {x : Operand} {v : Value} (hx : evS sl x = some v) : Yld P n p own sl (.assign x) ty v := by
  intro o a w h1 h2 hf hr
  simp [execOp, h1, hf.ev hx]
def aggOf (P : Program) (t : TypeId) : Option Nat :=
  match P.underlying t, P.info? t with
  | some (.struct _), some i => some i.size
  | some (.array _ _), some i => some i.size
  | _, _ => none
def flatOf (P : Program) (t : TypeId) : Bool :=
  match P.underlying t, P.info? t with
  | some (.struct _), _ => false
  | some (.array _ _), _ => false
  | some _, some i => i.size == 1
  | _, _ => false
theorem run_isAgg_of {t : TypeId} {m : Nat} (h : aggOf P t = some m) (w : World) : (isAgg t).run P w = .ok true w ∧ (sizeOf t).run P w = .ok m w := by
  unfold aggOf at h
  split at h <;> (try cases h)
  · rename_i fs i h1 h2
    have h3 := run_underlying (w := w) h1
    constructor
    · simp [isAgg, h3]
    · simp [sizeOf, typeInfo, program, Sem.run, bind, Sem.bind, h2, pure]
  · rename_i fs e i h1 h2
    have h3 := run_underlying (w := w) h1
    constructor
    · simp [isAgg, h3]
    · simp [sizeOf, typeInfo, program, Sem.run, bind, Sem.bind, h2, pure]
theorem run_isAgg_flat {t : TypeId} (h : flatOf P t = true) (w : World) : (isAgg t).run P w = .ok false w ∧ (sizeOf t).run P w = .ok 1 w := by
  unfold flatOf at h
  split at h <;> (try cases h)
  rename_i d i hs ha h1 h2
  have h3 := run_underlying (w := w) h1
  constructor
  · cases d <;> first | (exact absurd rfl (ha _ _)) | (exact absurd rfl (hs _)) | simp [isAgg, h3]
  · have h : i.size = 1 := by simpa using h
    simp [sizeOf, typeInfo, program, Sem.run, bind, Sem.bind, h2, pure, h]
theorem run_loadFrom {w : World} {a : Addr} : ∀ {cs : List Value} (i : Nat) (acc : Array Value), (∀ j v, cs[j]? = some v → w.cell? (a.add (i + j)) = some v) →
    (loadCellsFrom a i cs.length acc).run P w = .ok (acc ++ cs.toArray) w
  | [], i, acc, _ => by simp [loadCellsFrom]
  | c :: cs, i, acc, h => by
    have h0 := h 0 c rfl
    rw [Nat.add_zero] at h0
    have ih := run_loadFrom (w := w) (a := a) (cs := cs) (i + 1) (acc.push c) (fun j v hj => by
      have := h (j + 1) v (by simpa using hj)
      rwa [show i + (j + 1) = i + 1 + j by omega] at this)
    simp only [List.length_cons, loadCellsFrom, load]
    simp only [bind, Sem.bind, Sem.run, h0, pure]
    refine ih.trans ?_
    simp
theorem run_loadCells_of {w : World} {a : Addr} {cs : List Value} (h : ∀ j v, cs[j]? = some v → w.cell? (a.add j) = some v) : (loadCells a cs.length).run P w = .ok cs.toArray w := by
  have := run_loadFrom (P := P) (w := w) (a := a) (cs := cs) 0 #[] (fun j v hj => by rw [Nat.zero_add]; exact h j v hj)
  simpa [loadCells] using this
theorem run_loadVar_agg {w : World} {a : Addr} {cs : List Value} {t : TypeId} (ht : aggOf P t = some cs.length) (h : ∀ j v, cs[j]? = some v → w.cell? (a.add j) = some v) : (loadVar t a).run P w = .ok (.agg cs.toArray) w := by
  obtain ⟨h1, h2⟩ := run_isAgg_of ht w
  simp [loadVar, h1, h2, run_loadCells_of h]
theorem run_loadVar_flat {w : World} {a : Addr} {v : Value} {t : TypeId} (ht : flatOf P t = true) (h : w.cell? a = some v) : (loadVar t a).run P w = .ok v w := by
  obtain ⟨h1, h2⟩ := run_isAgg_flat ht w
  simp [loadVar, h1, load, Sem.run, h]
theorem addr_add (g off j : Nat) : (⟨g, off, none⟩ : Addr).add j = ⟨g, off + j, none⟩ := by
  unfold Addr.add
  split
  · rename_i h; subst h; rfl
  · rfl
theorem take_drop_get {α : Type} {l : List α} {off m j : Nat} {v : α} (h : ((l.drop off).take m)[j]? = some v) : l[off + j]? = some v := by
  rw [List.getElem?_take] at h
  split at h
  · rwa [List.getElem?_drop] at h
  · cases h
theorem y_load1 {t : TypeId} {x : Operand} {g off : Nat} {i : Nat} {k : Bk} {v : Value} (hx : evS sl x = some (.pointer (some ⟨g, off, none⟩))) (hi : own[i]? = some (some k)) (hg : k.g = g) (ht : flatOf P t = true) (hv : k.cs[off]? = some v) :
    Yld P n p own sl (.load t x) ty v := by
  intro o a w h1 h2 hf hr
  subst hg
  simp [execOp, h1, hf.ev hx, Instr.loadAt, Instr.sureAddr, run_loadVar_flat ht ((hr.has.cell (Own.get_mem hi) off).trans hv)]
theorem y_loadA {t : TypeId} {x : Operand} {g off : Nat} {i : Nat} {k : Bk} {cs : List Value} (hx : evS sl x = some (.pointer (some ⟨g, off, none⟩))) (hi : own[i]? = some (some k)) (hg : k.g = g) (ht : aggOf P t = some cs.length) (hv : (k.cs.drop off).take cs.length = cs) :
    Yld P n p own sl (.load t x) ty (.agg cs.toArray) := by
  intro o a w h1 h2 hf hr
  subst hg
  have : (loadVar t ⟨k.g, off, none⟩).run P w = .ok (.agg cs.toArray) w := run_loadVar_agg ht fun j v hj => by
    rw [addr_add, hr.has.cell (Own.get_mem hi)]
    rw [← hv] at hj
    exact take_drop_get hj
  simp [execOp, h1, hf.ev hx, Instr.loadAt, Instr.sureAddr, this]
end
section
variable {P : Program} {n : Nat} {g : Gh} {own : Own} {sl : Sl} {ty : TypeId}
theorem e_box {t : TypeId} {x : Operand} {v : Value} {cs : List Value} (hx : evS sl x = some v) (hc : v.cells = cs.toArray) :
    Eff P n g own sl (.box t x) ty (fun v' g' own' => ∃ b, v' = .pointer (some ⟨b, 0, none⟩) ∧ g = g' ∧ own' = some ⟨b, t, cs⟩ :: own) := by
  intro o a w Q K h1 h2 hf hs h
  have : (execOp a.eval o).run P w = .ok (.value (.pointer (some ⟨w.heap.size, 0, none⟩))) (w.alloc (.cells cs.toArray t)) := by
    simp [execOp, h1, hf.ev hx, Instr.box, newVar, newRow, newObj, hc, Sem.run]
  unfold Oper.wp
  rw [this]
  exact h _ _ _ _ (.refl g) (hs.alloc t cs) ⟨_, rfl, rfl, rfl⟩
def zeroOf (P : Program) (t : TypeId) : Option (Array Value) := ((P.info? t).bind (·.zero)).map Value.cells
theorem e_alloc {t : TypeId} {cs : List Value} (hz : zeroOf P t = some cs.toArray) :
    Eff P n g own sl (.alloc t) ty (fun v' g' own' => ∃ b, v' = .pointer (some ⟨b, 0, none⟩) ∧ g = g' ∧ own' = some ⟨b, t, cs⟩ :: own) := by
  intro o a w Q K h1 h2 hf hs h
  unfold zeroOf at hz
  cases e : P.info? t with
  | none => rw [e] at hz; cases hz
  | some i =>
    rw [e] at hz
    cases e2 : i.zero with
    | none => simp [e2] at hz
    | some z =>
      have hz : z.cells = cs.toArray := by simpa [e2] using hz
      have hzv : (zeroValue t).run P w = .ok z w := by simp [zeroValue, typeInfo, program, Sem.run, bind, Sem.bind, e, e2, pure]
      have : (execOp a.eval o).run P w = .ok (.value (.pointer (some ⟨w.heap.size, 0, none⟩))) (w.alloc (.cells cs.toArray t)) := by
        simp [execOp, h1, Instr.alloc, hzv, newVar, newRow, newObj, hz, Sem.run]
      unfold Oper.wp
      rw [this]
      exact h _ _ _ _ (.refl g) (hs.alloc t cs) ⟨_, rfl, rfl, rfl⟩
def one1 : Value → Bool
  | .agg _ => false
  | .tuple _ => false
  | _ => true
def setRow (cs : List Value) (off : Nat) : List Value → List Value
  | [] => cs
  | v :: vs => setRow (cs.set off v) (off + 1) vs
theorem setRow_length (vs : List Value) : ∀ (cs : List Value) (off : Nat), (setRow cs off vs).length = cs.length := by
  induction vs with
  | nil => intro cs off; rfl
  | cons v vs ih => intro cs off; simp [setRow, ih]
theorem run_store1 {w : World} {a : Addr} {v c : Value} (h1 : one1 v = true) (hc : w.cell? a = some c) (hz : w.frozen? a = false) : (store a v).run P w = .ok () (w.setCell a v) := by
  cases v <;> first | (cases h1; done) | simp [store, Sem.run, hc, hz]
theorem run_storeCells_own {i : Nat} {k : Bk} : ∀ {vs : List Value} {w : World} {own : Own} {off : Nat} (cs : List Value) (s : Nat), St w g own → own[i]? = some (some ⟨k.g, k.t, cs⟩) → (∀ v ∈ vs, one1 v = true) → off + s + vs.length ≤ cs.length →
    ∃ w', (storeCells ⟨k.g, off, none⟩ vs s).run P w = .ok () w' ∧ St w' g (own.set i (some ⟨k.g, k.t, setRow cs (off + s) vs⟩))
  | [], w, own, off, cs, s, hs, hi, _, _ => by
    refine ⟨w, by simp [storeCells], ?_⟩
    have : own.set i (some ⟨k.g, k.t, setRow cs (off + s) []⟩) = own := by
      apply List.ext_getElem?
      intro j
      rw [List.getElem?_set]
      split
      · rename_i e; subst e
        split
        · exact hi.symm
        · rename_i hlt; rw [List.getElem?_eq_none (by omega)]
      · rfl
    rw [this]; exact hs
  | v :: vs, w, own, off, cs, s, hs, hi, h1, hl => by
    simp only [List.length_cons] at hl
    have hm := Own.get_mem hi
    have hcell := hs.has.cell hm (off + s)
    have hlt : off + s < cs.length := by omega
    obtain ⟨c, hc⟩ : ∃ c, cs[off + s]? = some c := ⟨_, List.getElem?_eq_getElem hlt⟩
    have hst := run_store1 (P := P) (w := w) (a := ⟨k.g, off + s, none⟩) (v := v) (h1 v (List.mem_cons_self ..)) (hcell.trans hc) (hs.has.frozen hm _)
    have hs1 := hs.store hi (off + s) v
    have hil : i < own.length := by
      rcases Nat.lt_or_ge i own.length with h2 | h2
      · exact h2
      · rw [List.getElem?_eq_none h2] at hi; cases hi
    obtain ⟨w', e, hs'⟩ := run_storeCells_own (i := i) (k := k) (vs := vs) (own := own.set i (some ⟨k.g, k.t, cs.set (off + s) v⟩)) (off := off) (cs.set (off + s) v) (s + 1) hs1 (by simp [List.getElem?_set, hil])
      (fun u hu => h1 u (List.mem_cons_of_mem _ hu)) (by simp; omega)
    refine ⟨w', ?_, ?_⟩
    · simp [storeCells, addr_add, hst, e]
    · rw [List.set_set] at hs'
      rw [show off + (s + 1) = off + s + 1 by omega] at hs'
      exact hs'
theorem run_storeVar_own {w : World} {i : Nat} {k : Bk} {off : Nat} {t : TypeId} {v : Value} {vs : List Value} (hs : St w g own) (hi : own[i]? = some (some k)) (hz : (sizeOf t).run P w = .ok vs.length w) (hv : v.cells = vs.toArray) (h1 : vs.all one1 = true) (hl : off + vs.length ≤ k.cs.length) :
    ∃ w', (storeVar t ⟨k.g, off, none⟩ v).run P w = .ok () w' ∧ St w' g (own.set i (some ⟨k.g, k.t, setRow k.cs off vs⟩)) := by
  obtain ⟨w', e, hs'⟩ := run_storeCells_own (P := P) (g := g) (i := i) (k := k) (vs := vs) (own := own) (off := off) k.cs 0 hs hi (by simpa using h1) (by omega)
  refine ⟨w', ?_, hs'⟩
  simp [storeVar, hz, hv, e]
def cellsOfT (P : Program) (t : TypeId) : Option Nat := (P.info? t).map (·.size)
theorem run_sizeOf_of {t : TypeId} {m : Nat} (h : cellsOfT P t = some m) (w : World) : (sizeOf t).run P w = .ok m w := by
  unfold cellsOfT at h
  cases e : P.info? t with
  | none => rw [e] at h; cases h
  | some i =>
    rw [e] at h
    have h : i.size = m := by simpa using h
    simp [sizeOf, typeInfo, program, Sem.run, bind, Sem.bind, e, pure, h]
theorem e_store {t : TypeId} {x y : Operand} {b off : Nat} {i : Nat} {k : Bk} {v : Value} {vs cs' : List Value} (hx : evS sl x = some (.pointer (some ⟨b, off, none⟩))) (hy : evS sl y = some v) (hi : own[i]? = some (some k)) (hg : k.g = b)
    (hv : v.cells = vs.toArray) (hz : cellsOfT P t = some vs.length) (h1 : vs.all one1 = true) (hl : Nat.ble (off + vs.length) k.cs.length = true) (hc : setRow k.cs off vs = cs') :
    Eff P n g own sl (.store t x y) ty (fun v' g' own' => g = g' ∧ own' = own.set i (some ⟨b, k.t, cs'⟩)) := by
  intro o a w Q K e1 e2 hf hs h
  subst hg
  subst hc
  obtain ⟨w', e, hs'⟩ := run_storeVar_own (P := P) (t := t) (off := off) (v := v) hs hi (run_sizeOf_of hz w) hv h1 (by simpa using hl)
  have : (execOp a.eval o).run P w = .ok .skip w' := by
    simp [execOp, e1, hf.ev hx, hf.ev hy, Instr.storeAt, Instr.sureAddr, e]
  unfold Oper.wp
  rw [this]
  exact h undef g _ _ (.refl g) hs' ⟨rfl, rfl⟩
end
end Go.Proofs.YtpleflcfaecojaaGreat
