/-
The engine, part 1: what a world holds (a ghost), the blocks of one's own, the frame as a short list of slots, and the rules of code. Conditions: none.
-/
import Derived.WalkKit
import Derived.Orders
import Derived.Deep.LoopGhost
namespace Go.Proofs.YtpleflcfaecojaaGreat
set_option linter.unusedVariables false
set_option linter.unusedSimpArgs false
open Go.RowKit
structure Psi where
  m : Nat → Option Obj
  os : Os
  tape : Nat → Question → Nat
  out : Array (Nat × ByteArray)
structure Psi.le (p q : Psi) : Prop where
  os : q.os = p.os
  tape : q.tape = p.tape
  out : q.out = p.out
  m : ∀ b o, p.m b = some o → q.m b = some o
structure Psi.In (p : Psi) (w : World) : Prop where
  os : w.os = p.os
  tape : w.tape = p.tape
  out : w.output = p.out
  m : ∀ b o, p.m b = some o → w.heap[b]? = some o
theorem Psi.le.refl (p : Psi) : p.le p := ⟨rfl, rfl, rfl, fun _ _ h => h⟩
theorem Psi.le.trans {p q r : Psi} (h : p.le q) (k : q.le r) : p.le r := ⟨k.os.trans h.os, k.tape.trans h.tape, k.out.trans h.out, fun b o e => k.m b o (h.m b o e)⟩
theorem Psi.In.mono {p q : Psi} {w : World} (h : q.In w) (k : p.le q) : p.In w := ⟨h.os.trans k.os, h.tape.trans k.tape, h.out.trans k.out, fun b o e => h.m b o (k.m b o e)⟩
structure Gh where
  r : Psi
  b : Psi
  br : b.le r
structure Gh.le (g h : Gh) : Prop where
  r : g.r.le h.r
  b : g.b.le h.b
  apart : ∀ k, h.b.m k ≠ none → g.b.m k ≠ none ∨ g.r.m k = none
theorem Gh.le.refl (g : Gh) : g.le g := ⟨.refl _, .refl _, fun _ h => .inl h⟩
theorem Psi.le.none_ {p q : Psi} (h : p.le q) {k : Nat} (hk : q.m k = none) : p.m k = none := by
  cases e : p.m k with
  | none => rfl
  | some o => rw [h.m k o e] at hk; cases hk
theorem Gh.le.trans {f g h : Gh} (p : f.le g) (q : g.le h) : f.le h :=
  ⟨p.r.trans q.r, p.b.trans q.b, fun k hk => (q.apart k hk).elim (fun h1 => p.apart k h1) fun h1 => .inr (p.r.none_ h1)⟩
inductive BkT where
  | ty (t : TypeId)
  | mp (es : Array MapEntry) (clock : Nat)
instance instOfNatBkT (n : Nat) : OfNat BkT n := ⟨.ty n⟩
instance instCoeBkT : Coe Nat BkT := ⟨.ty⟩
structure Bk where
  g : Nat
  t : BkT
  cs : List Value
def Bk.obj (k : Bk) : Obj := match k.t, k.cs with
  | .ty t, cs => .cells cs.toArray t (0, 0)
  | .mp es n, [] => .map es n
  | .mp _ _, v :: l => .cells (v :: l).toArray 0 (0, 0)
theorem Bk.obj_ty (g : Nat) (t : TypeId) (cs : List Value) : (Bk.mk g (.ty t) cs).obj = .cells cs.toArray t (0, 0) := rfl
abbrev Own := List (Option Bk)
def Own.ids (o : Own) : List Nat := o.filterMap (·.map (·.g))
theorem Own.mem_ids {o : Own} {k : Bk} (h : some k ∈ o) : k.g ∈ o.ids := List.mem_filterMap.2 ⟨_, h, rfl⟩
theorem Own.of_ids {o : Own} {i : Nat} (h : i ∈ o.ids) : ∃ k, some k ∈ o ∧ k.g = i := by
  obtain ⟨a, ha, e⟩ := List.mem_filterMap.1 h
  cases a with
  | none => cases e
  | some k => exact ⟨k, ha, by simpa using e⟩
def Has (w : World) (own : Own) : Prop := ∀ k, some k ∈ own → w.heap[k.g]? = some k.obj
structure St (w : World) (g : Gh) (own : Own) : Prop where
  r : g.r.In w
  nodup : own.ids.Nodup
  has : Has w own
  free : ∀ k, some k ∈ own → g.r.m k.g = none
theorem Psi.In.lt {p : Psi} {w : World} (h : p.In w) {b : Nat} (hb : w.heap.size ≤ b) : p.m b = none := by
  cases e : p.m b with
  | none => rfl
  | some o =>
    have := h.m b o e
    rw [Array.getElem?_eq_none hb] at this
    cases this
theorem Has.lt {w : World} {own : Own} (h : Has w own) {k : Bk} (hk : some k ∈ own) : k.g < w.heap.size := by
  rcases Nat.lt_or_ge k.g w.heap.size with h1 | h1
  · exact h1
  · have := h k hk
    rw [Array.getElem?_eq_none h1] at this
    cases this
theorem Has.cell {w : World} {own : Own} (h : Has w own) {k : Bk} (hk : some k ∈ own) (off : Nat) : w.cell? ⟨k.g, off, none⟩ = k.cs[off]? := by
  obtain ⟨g, t, cs⟩ := k
  have := h _ hk
  cases t with
  | ty t => simp [World.cell?, this, Bk.obj]
  | mp es n => cases cs <;> simp [World.cell?, this, Bk.obj]
theorem Has.frozen {w : World} {own : Own} (h : Has w own) {k : Bk} (hk : some k ∈ own) (off : Nat) : w.frozen? ⟨k.g, off, none⟩ = false := by
  obtain ⟨g, t, cs⟩ := k
  have := h _ hk
  cases t with
  | ty t => simp [World.frozen?, this, Bk.obj]
  | mp es n => cases cs <;> simp [World.frozen?, this, Bk.obj]
theorem St.drew {w : World} {g : Gh} {own : Own} (h : St w g own) : St w.drew g own := ⟨⟨h.r.os, h.r.tape, h.r.out, h.r.m⟩, h.nodup, h.has, h.free⟩
theorem St.alloc {w : World} {g : Gh} {own : Own} (h : St w g own) (t : TypeId) (cs : List Value) : St (w.alloc (.cells cs.toArray t)) g (some ⟨w.heap.size, t, cs⟩ :: own) := by
  refine ⟨⟨h.r.os, h.r.tape, h.r.out, fun b o e => ?_⟩, ?_, ?_, ?_⟩
  · have h1 := h.r.m b o e
    have hlt : b < w.heap.size := by
      rcases Nat.lt_or_ge b w.heap.size with h2 | h2
      · exact h2
      · rw [Array.getElem?_eq_none h2] at h1; cases h1
    rw [Below.heap_alloc _ _ _ hlt]; exact h1
  · simp only [Own.ids, List.filterMap_cons, Option.map_some, List.nodup_cons]
    refine ⟨fun hm => ?_, h.nodup⟩
    obtain ⟨k, hk, e⟩ := Own.of_ids hm
    have := h.has.lt hk
    omega
  · intro k hk
    rcases List.mem_cons.1 hk with e | hk
    · injection e with e; subst e
      show (w.heap.push _)[w.heap.size]? = _
      simp [Bk.obj]
    · rw [Below.heap_alloc _ _ _ (h.has.lt hk)]; exact h.has k hk
  · intro k hk
    rcases List.mem_cons.1 hk with e | hk
    · injection e with e; subst e
      exact h.r.lt (Nat.le_refl _)
    · exact h.free k hk
theorem Own.get_mem {own : Own} {i : Nat} {k : Bk} (h : own[i]? = some (some k)) : some k ∈ own := List.mem_of_getElem? h
theorem Own.ids_cons (x : Option Bk) (l : Own) : Own.ids (x :: l) = (match x with | some k => [k.g] | none => []) ++ Own.ids l := by
  cases x <;> simp [Own.ids, List.filterMap_cons]
theorem Own.set_ids {own : Own} {i : Nat} {k k' : Bk} (h : own[i]? = some (some k)) (hg : k'.g = k.g) : Own.ids (own.set i (some k')) = own.ids := by
  induction own generalizing i with
  | nil => simp at h
  | cons x l ih =>
    cases i with
    | zero => simp at h; subst h; simp [Own.ids_cons, hg]
    | succ i => simp at h; simp [Own.ids_cons, ih h]
theorem Own.other {own : Own} {i : Nat} {k k' : Bk} (hn : own.ids.Nodup) (h : own[i]? = some (some k)) {v : Option Bk} (hk : some k' ∈ own.set i v) : (v = some k') ∨ (some k' ∈ own ∧ k'.g ≠ k.g) := by
  induction own generalizing i with
  | nil => simp at h
  | cons x l ih =>
    cases i with
    | zero =>
      simp at h; subst h
      simp only [List.set_cons_zero] at hk
      rcases List.mem_cons.1 hk with e | e
      · exact .inl e.symm
      · refine .inr ⟨List.mem_cons_of_mem _ e, fun eq => ?_⟩
        rw [Own.ids_cons] at hn
        simp at hn
        exact hn.1 (eq ▸ Own.mem_ids e)
    | succ i =>
      simp at h
      simp only [List.set_cons_succ] at hk
      rw [Own.ids_cons] at hn
      rcases List.mem_cons.1 hk with e | e
      · refine .inr ⟨e ▸ List.mem_cons_self .., fun eq => ?_⟩
        subst e
        simp at hn
        exact hn.1 (eq ▸ Own.mem_ids (List.mem_of_getElem? h))
      · have hn' : (Own.ids l).Nodup := (List.nodup_append.1 hn).2.1
        rcases ih hn' h e with e | ⟨e, e2⟩
        · exact .inl e
        · exact .inr ⟨List.mem_cons_of_mem _ e, e2⟩
theorem St.put {w w' : World} {g : Gh} {own : Own} (h : St w g own) {i : Nat} {k k' : Bk} (hi : own[i]? = some (some k)) (hg : k'.g = k.g)
    (hos : w'.os = w.os) (htape : w'.tape = w.tape) (hout : w'.output = w.output) (hb : ∀ b, b ≠ k.g → w'.heap[b]? = w.heap[b]?) (hk : w'.heap[k.g]? = some k'.obj) :
    St w' g (own.set i (some k')) := by
  have hm := Own.get_mem hi
  have hf := h.free k hm
  refine ⟨⟨hos.trans h.r.os, htape.trans h.r.tape, hout.trans h.r.out, fun b o e => ?_⟩, by rw [Own.set_ids hi hg]; exact h.nodup, ?_, ?_⟩
  · rw [hb b (fun eq => by rw [eq, hf] at e; cases e)]
    exact h.r.m b o e
  · intro j hj
    rcases Own.other h.nodup hi hj with e | ⟨e, e2⟩
    · injection e with e; subst e
      rw [hg]; exact hk
    · rw [hb _ e2]; exact h.has j e
  · intro j hj
    rcases Own.other h.nodup hi hj with e | ⟨e, e2⟩
    · injection e with e; subst e
      rw [hg]; exact hf
    · exact h.free j e
theorem St.store {w : World} {g : Gh} {own : Own} (h : St w g own) {i : Nat} {k : Bk} (hi : own[i]? = some (some k)) (off : Nat) (v : Value) :
    St (w.setCell ⟨k.g, off, none⟩ v) g (own.set i (some ⟨k.g, k.t, k.cs.set off v⟩)) := by
  refine h.put hi rfl rfl rfl rfl (fun b hb => Below.heap_setCell _ _ _ _ hb) ?_
  have := h.has k (Own.get_mem hi)
  show (w.heap.modify k.g _)[k.g]? = _
  obtain ⟨g, t, cs⟩ := k
  cases t with
  | ty t => simp [Array.getElem?_modify, this, Bk.obj]
  | mp es n => cases cs <;> cases off <;> simp [Array.getElem?_modify, this, Bk.obj]
def Psi.add (p : Psi) (k : Bk) : Psi := { p with m := fun b => if b = k.g then some k.obj else p.m b }
theorem Psi.le_add {p : Psi} {k : Bk} (h : p.m k.g = none) : p.le (p.add k) := ⟨rfl, rfl, rfl, fun b o e => by
  show (if b = k.g then _ else _) = _
  rw [if_neg (fun eq => by rw [eq, h] at e; cases e)]; exact e⟩
def Gh.add (g : Gh) (k : Bk) : Gh := ⟨g.r.add k, g.b.add k, ⟨g.br.os, g.br.tape, g.br.out, fun b o e => by
  by_cases eq : b = k.g
  · have h1 : (g.b.add k).m b = some k.obj := if_pos eq
    have h2 : (g.r.add k).m b = some k.obj := if_pos eq
    rw [h2, ← e, h1]
  · have h1 : (g.b.add k).m b = g.b.m b := if_neg eq
    have h2 : (g.r.add k).m b = g.r.m b := if_neg eq
    rw [h1] at e
    rw [h2]; exact g.br.m b o e⟩⟩
theorem St.publish {w : World} {g : Gh} {own : Own} (h : St w g own) {i : Nat} {k : Bk} (hi : own[i]? = some (some k)) : g.le (g.add k) ∧ St w (g.add k) (own.set i none) := by
  have hm := Own.get_mem hi
  have hf := h.free k hm
  have hfb := g.br.none_ hf
  refine ⟨⟨Psi.le_add hf, Psi.le_add hfb, fun b hb => ?_⟩, ⟨⟨h.r.os, h.r.tape, h.r.out, fun b o e => ?_⟩, ?_, ?_, ?_⟩⟩
  · by_cases e : b = k.g
    · subst e; exact .inr hf
    · refine .inl ?_
      have : (g.add k).b.m b = g.b.m b := if_neg e
      rwa [this] at hb
  · by_cases eq : b = k.g
    · subst eq
      have h1 : (g.add k).r.m k.g = some k.obj := if_pos rfl
      rw [h1] at e
      rw [← e]; exact h.has k hm
    · have h1 : (g.add k).r.m b = g.r.m b := if_neg eq
      rw [h1] at e
      exact h.r.m b o e
  · have hs : List.Sublist (Own.ids (own.set i none)) own.ids := by
      clear hm hf hfb
      have hi' := hi
      clear hi h
      induction own generalizing i with
      | nil => simp at hi'
      | cons x l ih =>
        cases i with
        | zero => simp [Own.ids_cons]
        | succ i => simp at hi'; simp only [List.set_cons_succ, Own.ids_cons]; exact (List.append_sublist_append_left _).2 (ih hi')
    exact h.nodup.sublist hs
  · intro j hj
    rcases Own.other h.nodup hi hj with e | ⟨e, e2⟩
    · cases e
    · exact h.has j e
  · intro j hj
    rcases Own.other h.nodup hi hj with e | ⟨e, e2⟩
    · cases e
    · show (if j.g = k.g then _ else _) = _
      rw [if_neg e2]; exact h.free j e
theorem St.fewer {w : World} {g : Gh} {own own' : Own} (h : St w g own) (hn : own'.ids.Nodup) (hs : ∀ k, some k ∈ own' → some k ∈ own) : St w g own' :=
  ⟨h.r, hn, fun k hk => h.has k (hs k hk), fun k hk => h.free k (hs k hk)⟩
abbrev Sl := List (Nat × Value)
def getS : Sl → Nat → Option Value
  | [], _ => none
  | (k, v) :: l, t => cond (Nat.beq k t) (some v) (getS l t)
structure Fr (n : Nat) (a : Act) (sl : Sl) : Prop where
  size : a.tmps.size = n
  defers : a.defers = []
  at_ : ∀ t v, getS sl t = some v → a.tmps[t]? = some v
theorem Fr.put {n : Nat} {a : Act} {sl : Sl} (h : Fr n a sl) {d : Nat} (hd : d < n) (v : Value) : Fr n (a.put (some d) v) ((d, v) :: sl) := by
  refine ⟨by simp [Act.put, h.size], h.defers, fun t u hu => ?_⟩
  simp only [getS] at hu
  simp only [Act.put]
  cases hb : Nat.beq d t with
  | true =>
    rw [hb] at hu
    have e := Nat.eq_of_beq_eq_true hb
    subst e
    have hu : v = u := by simpa using hu
    subst hu
    simp [h.size, hd]
  | false =>
    rw [hb] at hu
    have hne : d ≠ t := fun e => by subst e; simp at hb
    rw [Array.getElem?_setIfInBounds_ne hne]
    exact h.at_ t u (by simpa using hu)
def evS (sl : Sl) : Operand → Option Value
  | .tmp t => getS sl t
  | .const v => some v
  | .global g => some (.pointer (some ⟨g, 0, none⟩))
  | .func f => some (.func (.func f) #[] #[])
theorem Fr.ev {n : Nat} {a : Act} {sl : Sl} (h : Fr n a sl) {x : Operand} {v : Value} (hx : evS sl x = some v) : a.eval x = v := by
  cases x with
  | tmp t => simp only [evS] at hx; simp [Act.eval, Array.getD_eq_getD_getElem?, h.at_ t v hx]
  | const c => simpa [evS, Act.eval] using hx
  | global c => simpa [evS, Act.eval] using hx
  | func c => simpa [evS, Act.eval] using hx
theorem Fr.evs {n : Nat} {a : Act} {sl : Sl} (h : Fr n a sl) : ∀ {xs : List Operand} {vs : List Value}, xs.map (evS sl) = vs.map some → xs.map a.eval = vs
  | [], [], _ => rfl
  | x :: xs, v :: vs, e => by
    simp only [List.map_cons, List.cons.injEq] at e
    rw [List.map_cons, h.ev e.1, h.evs e.2]
  | [], _ :: _, e => by simp at e
  | _ :: _, [], e => by simp at e
theorem Fr.sub {n : Nat} {a : Act} {sl sl' : Sl} (h : Fr n a sl) (hs : sl'.map (fun p => getS sl p.1) = sl'.map (fun p => some p.2)) : Fr n a sl' := by
  refine ⟨h.size, h.defers, fun t v hv => ?_⟩
  have : ∀ l : Sl, l.map (fun p => getS sl p.1) = l.map (fun p => some p.2) → ∀ t v, getS l t = some v → getS sl t = some v := by
    intro l
    induction l with
    | nil => intro _ t v h; cases h
    | cons p l ih =>
      intro e t v h
      simp only [List.map_cons, List.cons.injEq] at e
      obtain ⟨k, u⟩ := p
      simp only [getS] at h
      cases hb : Nat.beq k t with
      | true =>
        rw [hb] at h
        have e' := Nat.eq_of_beq_eq_true hb
        subst e'
        have : u = v := by simpa using h
        subst this
        exact e.1
      | false => rw [hb] at h; exact ih e.2 t v (by simpa using h)
  exact h.at_ t v (this sl' hs t v hv)
def sub : Code → List Nat → Code
  | c, [] => c
  | .seq a _, 0 :: p => sub a p
  | .seq _ b, _ :: p => sub b p
  | .cond _ a _, 0 :: p => sub a p
  | .cond _ _ b, _ :: p => sub b p
  | .block _ c, _ :: p => sub c p
  | .loop c, _ :: p => sub c p
  | .scope c, _ :: p => sub c p
  | _, _ => .skip
def opAt (ops : Array Oper) (i : Nat) : Option (Option Tmp × Op × TypeId × Option (Nat × Bool)) := ops[i]?.map fun o => (o.dst, o.op, o.type, o.guard)
structure Runs (ops : Array Oper) (i : Nat) (sl : Sl) (dst : Option Tmp) (op : Op) (ty : TypeId) : Prop where
  out : ∃ o, ops[i]? = some o ∧ o.dst = dst ∧ o.op = op ∧ o.type = ty ∧ ∀ n a, Fr n a sl → Region.wanted o (yielded ops a.tmps) = true
theorem opAt_some {ops : Array Oper} {i : Nat} {x : Option Tmp × Op × TypeId × Option (Nat × Bool)} (h : opAt ops i = some x) : ∃ o, ops[i]? = some o ∧ o.dst = x.1 ∧ o.op = x.2.1 ∧ o.type = x.2.2.1 ∧ o.guard = x.2.2.2 := by
  unfold opAt at h
  cases e : ops[i]? with
  | none => rw [e] at h; cases h
  | some o => rw [e] at h; simp at h; subst h; exact ⟨o, rfl, rfl, rfl, rfl, rfl⟩
theorem Runs.plain {ops : Array Oper} {i : Nat} {sl : Sl} {dst : Option Tmp} {op : Op} {ty : TypeId} (h : opAt ops i = some (dst, op, ty, none)) : Runs ops i sl dst op ty := by
  obtain ⟨o, h1, h2, h3, h4, h5⟩ := opAt_some h
  exact ⟨o, h1, h2, h3, h4, fun n a _ => by simp only at h5; simp [Region.wanted, h5]⟩
def dstAt (ops : Array Oper) (j : Nat) : Option Tmp := (ops[j]?).bind (·.dst)
theorem yielded_of {ops : Array Oper} {n : Nat} {a : Act} {sl : Sl} (h : Fr n a sl) {j t : Nat} {b : Bool} (hj : dstAt ops j = some t) (hb : getS sl t = some (.bool b)) : yielded ops a.tmps j = some b := by
  have h1 := h.at_ t _ hb
  unfold dstAt at hj
  cases e : ops[j]? with
  | none => rw [e] at hj; cases hj
  | some o =>
    rw [e] at hj
    have hj : o.dst = some t := hj
    simp [yielded, e, hj, h1]
structure Skips (ops : Array Oper) (i : Nat) (sl : Sl) (dst : Option Tmp) : Prop where
  out : ∃ o, ops[i]? = some o ∧ o.dst = dst ∧ ∀ n a, Fr n a sl → Region.wanted o (yielded ops a.tmps) = false
section
variable {P : Program} {ops : Array Oper} {Q : Exit → Act → World → Prop} {n : Nat}
def WPq (K : Act → World → Prop) (n : Nat) (g : Gh) (own : Own) (sl : Sl) : Prop := ∀ a w, Fr n a sl → St w g own → K a w
abbrev WPr (P : Program) (ops : Array Oper) (Q : Exit → Act → World → Prop) (n i : Nat) (g : Gh) (own : Own) (sl : Sl) : Prop := WPq (wpOps P ops Q (List.range' i (ops.size - i))) n g own sl
abbrev WPc (P : Program) (c : Code) (Q : Exit → Act → World → Prop) (n : Nat) (g : Gh) (own : Own) (sl : Sl) : Prop := WPq (Code.wp P c Q) n g own sl
theorem range_step {i : Nat} {o : Oper} (h : ops[i]? = some o) : List.range' i (ops.size - i) = i :: List.range' (i + 1) (ops.size - (i + 1)) := by
  have hlt : i < ops.size := (Array.getElem?_eq_some_iff.1 h).1
  rw [show ops.size - i = (ops.size - (i + 1)) + 1 by omega, List.range'_succ]
structure Rdw (w : World) (p : Psi) (own : Own) : Prop where
  r : p.In w
  has : Has w own
theorem St.rdw {w : World} {g : Gh} {own : Own} (h : St w g own) : Rdw w g.r own := ⟨h.r, h.has⟩
def Yld (P : Program) (n : Nat) (p : Psi) (own : Own) (sl : Sl) (op : Op) (ty : TypeId) (v : Value) : Prop :=
  ∀ (o : Oper) a w, o.op = op → o.type = ty → Fr n a sl → Rdw w p own → (execOp a.eval o).run P w = .ok (.value v) w
def Eff (P : Program) (n : Nat) (g : Gh) (own : Own) (sl : Sl) (op : Op) (ty : TypeId) (R : Value → Gh → Own → Prop) : Prop :=
  ∀ (o : Oper) a w (Q : Exit → Act → World → Prop) (K : Act → World → Prop), o.op = op → o.type = ty → Fr n a sl → St w g own →
    (∀ v g' own' w', g.le g' → St w' g' own' → R v g' own' → K (a.put o.dst v) w') → Oper.wp P o a w K Q
theorem wpq_re {K : Act → World → Prop} {g : Gh} {own : Own} {sl : Sl} (t : Nat) {v : Value} (v' : Value) (ht : getS sl t = some v) (e : v = v') (k : WPq K n g own ((t, v') :: sl)) : WPq K n g own sl := by
  subst e
  refine fun a w hf hs => k a w ⟨hf.size, hf.defers, fun s u hu => ?_⟩ hs
  simp only [getS] at hu
  cases hb : Nat.beq t s with
  | true =>
    rw [hb] at hu
    have e := Nat.eq_of_beq_eq_true hb
    subst e
    exact hf.at_ _ _ (by rw [ht]; simpa using hu)
  | false => rw [hb] at hu; exact hf.at_ _ _ (by simpa using hu)
theorem wpq_split {K : Act → World → Prop} {g : Gh} {own : Own} {sl : Sl} (t : Nat) {b : Bool} (ht : getS sl t = some (.bool b)) (h1 : b = true → WPq K n g own ((t, .bool true) :: sl)) (h0 : b = false → WPq K n g own ((t, .bool false) :: sl)) : WPq K n g own sl := by
  cases hb : b with
  | true => exact wpq_re t (.bool true) (by rw [ht, hb]) rfl (h1 hb)
  | false => exact wpq_re t (.bool false) (by rw [ht, hb]) rfl (h0 hb)
theorem wpc_region {c : Code} {id : Nat} {g : Gh} {own : Own} {sl : Sl} (h : c = .region id ops false) (k : WPr P ops Q n 0 g own sl) : WPc P c Q n g own sl := by
  subst h
  intro a w hf hs
  refine wp_region ?_
  have := k a w hf hs
  rwa [Nat.sub_zero, ← List.range_eq_range'] at this
theorem wpc_seq {c x y : Code} {g : Gh} {own : Own} {sl : Sl} (h : c = .seq x y) (k : WPc P x (Exit.then (fun a w => y.wp P Q a w) Q) n g own sl) : WPc P c Q n g own sl := by
  subst h
  exact fun a w hf hs => wp_seq (k a w hf hs)
theorem wpc_skip {c : Code} {g : Gh} {own : Own} {sl : Sl} (h : c = .skip) (k : WPq (Q .normal) n g own sl) : WPc P c Q n g own sl := by
  subst h
  exact fun a w hf hs => wp_skip (k a w hf hs)
theorem wpc_exit {c : Code} {id : Nat} {g : Gh} {own : Own} {sl : Sl} (h : c = .exit id) (k : WPq (Q (.exit id)) n g own sl) : WPc P c Q n g own sl := by
  subst h
  exact fun a w hf hs => wp_exit (k a w hf hs)
theorem wpc_block {c x : Code} {id : Nat} {g : Gh} {own : Own} {sl : Sl} (h : c = .block id x) (k : WPc P x (Exit.inBlock id Q) n g own sl) : WPc P c Q n g own sl := by
  subst h
  exact fun a w hf hs => wp_block (k a w hf hs)
theorem wpc_cond {c x y : Code} {o : Operand} {b : Bool} {g : Gh} {own : Own} {sl : Sl} (h : c = .cond o x y) (hb : evS sl o = some (.bool b)) (k1 : b = true → WPc P x Q n g own sl) (k0 : b = false → WPc P y Q n g own sl) : WPc P c Q n g own sl := by
  subst h
  exact fun a w hf hs => wp_cond_split (hf.ev hb) (fun e => k1 e a w hf hs) (fun e => k0 e a w hf hs)
theorem wpq_blockE {id : Nat} {g : Gh} {own : Own} {sl : Sl} (k : WPq (Q .normal) n g own sl) : WPq (Exit.inBlock id Q (.exit id)) n g own sl := by
  intro a w hf hs
  show if id = id then _ else _
  rw [if_pos rfl]; exact k a w hf hs
theorem wpq_blockX {id id' : Nat} {g : Gh} {own : Own} {sl : Sl} (hne : Nat.beq id' id = false) (k : WPq (Q (.exit id')) n g own sl) : WPq (Exit.inBlock id Q (.exit id')) n g own sl := by
  intro a w hf hs
  have : id' ≠ id := fun e => by subst e; simp at hne
  show if id' = id then _ else _
  rw [if_neg this]; exact k a w hf hs
theorem wpc_loop {c x : Code} {g : Gh} {own : Own} {sl : Sl} (h : c = .loop x) (I : Gh → Own → Sl → Nat → Prop) (m0 : Nat) (h0 : I g own sl m0)
    (round : ∀ g1 own1 sl1 m, g.le g1 → I g1 own1 sl1 m → ∀ Qr : Act → World → Prop, (∀ g2 own2 sl2 m', g1.le g2 → m' < m → I g2 own2 sl2 m' → WPq Qr n g2 own2 sl2) → WPc P x (Exit.then Qr Q) n g1 own1 sl1) : WPc P c Q n g own sl := by
  subst h
  intro a w hf hs
  refine wp_loop_ghost (fun m a w => ∃ g2 own2 sl2, g.le g2 ∧ I g2 own2 sl2 m ∧ Fr n a sl2 ∧ St w g2 own2) m0 ⟨g, own, sl, .refl g, h0, hf, hs⟩ ?_
  rintro m a w ⟨g1, own1, sl1, hle, hI, hf, hs⟩
  exact round g1 own1 sl1 m hle hI _ (fun g2 own2 sl2 m' hle' hlt hI' a w hf hs => ⟨m', hlt, g2, own2, sl2, hle.trans hle', hI', hf, hs⟩) a w hf hs
end
end Go.Proofs.YtpleflcfaecojaaGreat
