/-
The engine, part 1: what a world holds (a ghost), the blocks of one's own, the frame as a short list of slots, and the rules of code. Conditions: none.
-/
import Derived.WalkKit
import Derived.Orders
import Derived.Deep.LoopGhost
import Derived.Maps.AppendAt
import Derived.Laws.BytesArg
import Derived.ArgAppend
import Derived.OrdersHeld
import Derived.ProofKit
import Derived.OpenShut
import Derived.Handy
import Derived.ChangeSame
import Derived.Deep.Slices
import Derived.IntWalk
import Derived.SizedLaws
import Derived.Test.YtpglaekodahcoaaGreatDoorRows
import Derived.Lib.AppendZeros
import Derived.Laws.StructEq
import Derived.ChangeKeysEq
import Derived.LoopN
import Derived.Lib.Bytealg
import Derived.MapKept
namespace Go.Proofs.YtpglaekodahcoaaGreatDoor
set_option linter.unusedVariables false
set_option linter.unusedSimpArgs false
open Go.RowKit
structure Psi where
  m : Nat → Option Obj
  os : Os
  tape : Nat → Question → Nat
  out : Array (Nat × ByteArray)
structure Psi.le (p q : Psi) : Prop where
  os : q.os = p.os
  tape : q.tape = p.tape
  out : q.out = p.out
  m : ∀ b o, p.m b = some o → q.m b = some o
structure Psi.In (p : Psi) (w : World) : Prop where
  os : w.os = p.os
  tape : w.tape = p.tape
  out : w.output = p.out
  m : ∀ b o, p.m b = some o → w.heap[b]? = some o
theorem Psi.le.refl (p : Psi) : p.le p := ⟨rfl, rfl, rfl, fun _ _ h => h⟩
theorem Psi.le.trans {p q r : Psi} (h : p.le q) (k : q.le r) : p.le r := ⟨k.os.trans h.os, k.tape.trans h.tape, k.out.trans h.out, fun b o e => k.m b o (h.m b o e)⟩
theorem Psi.In.mono {p q : Psi} {w : World} (h : q.In w) (k : p.le q) : p.In w := ⟨h.os.trans k.os, h.tape.trans k.tape, h.out.trans k.out, fun b o e => h.m b o (k.m b o e)⟩
structure Gh where
  r : Psi
  b : Psi
  br : b.le r
structure Gh.le (g h : Gh) : Prop where
  r : g.r.le h.r
  b : g.b.le h.b
  apart : ∀ k, h.b.m k ≠ none → g.b.m k ≠ none ∨ g.r.m k = none
theorem Gh.le.refl (g : Gh) : g.le g := ⟨.refl _, .refl _, fun _ h => .inl h⟩
theorem Psi.le.none_ {p q : Psi} (h : p.le q) {k : Nat} (hk : q.m k = none) : p.m k = none := by
  cases e : p.m k with
  | none => rfl
  | some o => rw [h.m k o e] at hk; cases hk
theorem Gh.le.trans {f g h : Gh} (p : f.le g) (q : g.le h) : f.le h :=
  ⟨p.r.trans q.r, p.b.trans q.b, fun k hk => (q.apart k hk).elim (fun h1 => p.apart k h1) fun h1 => .inr (p.r.none_ h1)⟩
inductive BkT where
  | ty (t : TypeId)
  | mp (es : Array MapEntry) (clock : Nat)
  | ms (t : TypeId)
instance instOfNatBkT (n : Nat) : OfNat BkT n := ⟨.ty n⟩
instance instCoeBkT : Coe Nat BkT := ⟨.ty⟩
structure Bk where
  g : Nat
  t : BkT
  cs : List Value
def Bk.obj (k : Bk) : Obj := match k.t, k.cs with
  | .ty t, cs => .cells cs.toArray t (0, 0)
  | .mp es n, [] => .map es n
  | .mp _ _, v :: l => .cells (v :: l).toArray 0 (0, 0)
  | .ms t, cs => .cells cs.toArray t (cs.length, cs.length + 1)
theorem Bk.obj_ty (g : Nat) (t : TypeId) (cs : List Value) : (Bk.mk g (.ty t) cs).obj = .cells cs.toArray t (0, 0) := rfl
abbrev Own := List (Option Bk)
def Own.ids (o : Own) : List Nat := o.filterMap (·.map (·.g))
theorem Own.mem_ids {o : Own} {k : Bk} (h : some k ∈ o) : k.g ∈ o.ids := List.mem_filterMap.2 ⟨_, h, rfl⟩
theorem Own.of_ids {o : Own} {i : Nat} (h : i ∈ o.ids) : ∃ k, some k ∈ o ∧ k.g = i := by
  obtain ⟨a, ha, e⟩ := List.mem_filterMap.1 h
  cases a with
  | none => cases e
  | some k => exact ⟨k, ha, by simpa using e⟩
def Has (w : World) (own : Own) : Prop := ∀ k, some k ∈ own → w.heap[k.g]? = some k.obj
structure St (w : World) (g : Gh) (own : Own) : Prop where
  r : g.r.In w
  nodup : own.ids.Nodup
  has : Has w own
  free : ∀ k, some k ∈ own → g.r.m k.g = none
theorem Psi.In.lt {p : Psi} {w : World} (h : p.In w) {b : Nat} (hb : w.heap.size ≤ b) : p.m b = none := by
  cases e : p.m b with
  | none => rfl
  | some o =>
    have := h.m b o e
    rw [Array.getElem?_eq_none hb] at this
    cases this
theorem Has.lt {w : World} {own : Own} (h : Has w own) {k : Bk} (hk : some k ∈ own) : k.g < w.heap.size := by
  rcases Nat.lt_or_ge k.g w.heap.size with h1 | h1
  · exact h1
  · have := h k hk
    rw [Array.getElem?_eq_none h1] at this
    cases this
theorem Has.cell {w : World} {own : Own} (h : Has w own) {k : Bk} (hk : some k ∈ own) (off : Nat) : w.cell? ⟨k.g, off, none⟩ = k.cs[off]? := by
  obtain ⟨g, t, cs⟩ := k
  have := h _ hk
  cases t with
  | ty t => simp [World.cell?, this, Bk.obj]
  | ms t => simp [World.cell?, this, Bk.obj]
  | mp es n => cases cs <;> simp [World.cell?, this, Bk.obj]
theorem Has.frozen {w : World} {own : Own} (h : Has w own) {k : Bk} (hk : some k ∈ own) (off : Nat) (ho : off < k.cs.length) : w.frozen? ⟨k.g, off, none⟩ = false := by
  obtain ⟨g, t, cs⟩ := k
  have := h _ hk
  cases t with
  | ty t => simp [World.frozen?, this, Bk.obj]
  | ms t =>
    have ho : off < cs.length := ho
    simp [World.frozen?, this, Bk.obj]; omega
  | mp es n => cases cs <;> simp [World.frozen?, this, Bk.obj]
theorem St.drew {w : World} {g : Gh} {own : Own} (h : St w g own) : St w.drew g own := ⟨⟨h.r.os, h.r.tape, h.r.out, h.r.m⟩, h.nodup, h.has, h.free⟩
theorem St.alloc {w : World} {g : Gh} {own : Own} (h : St w g own) (t : TypeId) (cs : List Value) : St (w.alloc (.cells cs.toArray t)) g (some ⟨w.heap.size, t, cs⟩ :: own) := by
  refine ⟨⟨h.r.os, h.r.tape, h.r.out, fun b o e => ?_⟩, ?_, ?_, ?_⟩
  · have h1 := h.r.m b o e
    have hlt : b < w.heap.size := by
      rcases Nat.lt_or_ge b w.heap.size with h2 | h2
      · exact h2
      · rw [Array.getElem?_eq_none h2] at h1; cases h1
    rw [Below.heap_alloc _ _ _ hlt]; exact h1
  · simp only [Own.ids, List.filterMap_cons, Option.map_some, List.nodup_cons]
    refine ⟨fun hm => ?_, h.nodup⟩
    obtain ⟨k, hk, e⟩ := Own.of_ids hm
    have := h.has.lt hk
    omega
  · intro k hk
    rcases List.mem_cons.1 hk with e | hk
    · injection e with e; subst e
      show (w.heap.push _)[w.heap.size]? = _
      simp [Bk.obj]
    · rw [Below.heap_alloc _ _ _ (h.has.lt hk)]; exact h.has k hk
  · intro k hk
    rcases List.mem_cons.1 hk with e | hk
    · injection e with e; subst e
      exact h.r.lt (Nat.le_refl _)
    · exact h.free k hk
theorem Own.get_mem {own : Own} {i : Nat} {k : Bk} (h : own[i]? = some (some k)) : some k ∈ own := List.mem_of_getElem? h
theorem Own.ids_cons (x : Option Bk) (l : Own) : Own.ids (x :: l) = (match x with | some k => [k.g] | none => []) ++ Own.ids l := by
  cases x <;> simp [Own.ids, List.filterMap_cons]
theorem Own.set_ids {own : Own} {i : Nat} {k k' : Bk} (h : own[i]? = some (some k)) (hg : k'.g = k.g) : Own.ids (own.set i (some k')) = own.ids := by
  induction own generalizing i with
  | nil => simp at h
  | cons x l ih =>
    cases i with
    | zero => simp at h; subst h; simp [Own.ids_cons, hg]
    | succ i => simp at h; simp [Own.ids_cons, ih h]
theorem Own.other {own : Own} {i : Nat} {k k' : Bk} (hn : own.ids.Nodup) (h : own[i]? = some (some k)) {v : Option Bk} (hk : some k' ∈ own.set i v) : (v = some k') ∨ (some k' ∈ own ∧ k'.g ≠ k.g) := by
  induction own generalizing i with
  | nil => simp at h
  | cons x l ih =>
    cases i with
    | zero =>
      simp at h; subst h
      simp only [List.set_cons_zero] at hk
      rcases List.mem_cons.1 hk with e | e
      · exact .inl e.symm
      · refine .inr ⟨List.mem_cons_of_mem _ e, fun eq => ?_⟩
        rw [Own.ids_cons] at hn
        simp at hn
        exact hn.1 (eq ▸ Own.mem_ids e)
    | succ i =>
      simp at h
      simp only [List.set_cons_succ] at hk
      rw [Own.ids_cons] at hn
      rcases List.mem_cons.1 hk with e | e
      · refine .inr ⟨e ▸ List.mem_cons_self .., fun eq => ?_⟩
        subst e
        simp at hn
        exact hn.1 (eq ▸ Own.mem_ids (List.mem_of_getElem? h))
      · have hn' : (Own.ids l).Nodup := (List.nodup_append.1 hn).2.1
        rcases ih hn' h e with e | ⟨e, e2⟩
        · exact .inl e
        · exact .inr ⟨List.mem_cons_of_mem _ e, e2⟩
theorem St.put {w w' : World} {g : Gh} {own : Own} (h : St w g own) {i : Nat} {k k' : Bk} (hi : own[i]? = some (some k)) (hg : k'.g = k.g)
    (hos : w'.os = w.os) (htape : w'.tape = w.tape) (hout : w'.output = w.output) (hb : ∀ b, b ≠ k.g → w'.heap[b]? = w.heap[b]?) (hk : w'.heap[k.g]? = some k'.obj) :
    St w' g (own.set i (some k')) := by
  have hm := Own.get_mem hi
  have hf := h.free k hm
  refine ⟨⟨hos.trans h.r.os, htape.trans h.r.tape, hout.trans h.r.out, fun b o e => ?_⟩, by rw [Own.set_ids hi hg]; exact h.nodup, ?_, ?_⟩
  · rw [hb b (fun eq => by rw [eq, hf] at e; cases e)]
    exact h.r.m b o e
  · intro j hj
    rcases Own.other h.nodup hi hj with e | ⟨e, e2⟩
    · injection e with e; subst e
      rw [hg]; exact hk
    · rw [hb _ e2]; exact h.has j e
  · intro j hj
    rcases Own.other h.nodup hi hj with e | ⟨e, e2⟩
    · injection e with e; subst e
      rw [hg]; exact hf
    · exact h.free j e
theorem St.store {w : World} {g : Gh} {own : Own} (h : St w g own) {i : Nat} {k : Bk} (hi : own[i]? = some (some k)) (off : Nat) (v : Value) :
    St (w.setCell ⟨k.g, off, none⟩ v) g (own.set i (some ⟨k.g, k.t, k.cs.set off v⟩)) := by
  refine h.put hi rfl rfl rfl rfl (fun b hb => Below.heap_setCell _ _ _ _ hb) ?_
  have := h.has k (Own.get_mem hi)
  show (w.heap.modify k.g _)[k.g]? = _
  obtain ⟨g, t, cs⟩ := k
  cases t with
  | ty t => simp [Array.getElem?_modify, this, Bk.obj]
  | ms t => simp [Array.getElem?_modify, this, Bk.obj]
  | mp es n => cases cs <;> cases off <;> simp [Array.getElem?_modify, this, Bk.obj]
def Psi.add (p : Psi) (k : Bk) : Psi := { p with m := fun b => if b = k.g then some k.obj else p.m b }
theorem Psi.le_add {p : Psi} {k : Bk} (h : p.m k.g = none) : p.le (p.add k) := ⟨rfl, rfl, rfl, fun b o e => by
  show (if b = k.g then _ else _) = _
  rw [if_neg (fun eq => by rw [eq, h] at e; cases e)]; exact e⟩
def Gh.add (g : Gh) (k : Bk) : Gh := ⟨g.r.add k, g.b.add k, ⟨g.br.os, g.br.tape, g.br.out, fun b o e => by
  by_cases eq : b = k.g
  · have h1 : (g.b.add k).m b = some k.obj := if_pos eq
    have h2 : (g.r.add k).m b = some k.obj := if_pos eq
    rw [h2, ← e, h1]
  · have h1 : (g.b.add k).m b = g.b.m b := if_neg eq
    have h2 : (g.r.add k).m b = g.r.m b := if_neg eq
    rw [h1] at e
    rw [h2]; exact g.br.m b o e⟩⟩
theorem St.publish {w : World} {g : Gh} {own : Own} (h : St w g own) {i : Nat} {k : Bk} (hi : own[i]? = some (some k)) : g.le (g.add k) ∧ St w (g.add k) (own.set i none) := by
  have hm := Own.get_mem hi
  have hf := h.free k hm
  have hfb := g.br.none_ hf
  refine ⟨⟨Psi.le_add hf, Psi.le_add hfb, fun b hb => ?_⟩, ⟨⟨h.r.os, h.r.tape, h.r.out, fun b o e => ?_⟩, ?_, ?_, ?_⟩⟩
  · by_cases e : b = k.g
    · subst e; exact .inr hf
    · refine .inl ?_
      have : (g.add k).b.m b = g.b.m b := if_neg e
      rwa [this] at hb
  · by_cases eq : b = k.g
    · subst eq
      have h1 : (g.add k).r.m k.g = some k.obj := if_pos rfl
      rw [h1] at e
      rw [← e]; exact h.has k hm
    · have h1 : (g.add k).r.m b = g.r.m b := if_neg eq
      rw [h1] at e
      exact h.r.m b o e
  · have hs : List.Sublist (Own.ids (own.set i none)) own.ids := by
      clear hm hf hfb
      have hi' := hi
      clear hi h
      induction own generalizing i with
      | nil => simp at hi'
      | cons x l ih =>
        cases i with
        | zero => simp [Own.ids_cons]
        | succ i => simp at hi'; simp only [List.set_cons_succ, Own.ids_cons]; exact (List.append_sublist_append_left _).2 (ih hi')
    exact h.nodup.sublist hs
  · intro j hj
    rcases Own.other h.nodup hi hj with e | ⟨e, e2⟩
    · cases e
    · exact h.has j e
  · intro j hj
    rcases Own.other h.nodup hi hj with e | ⟨e, e2⟩
    · cases e
    · show (if j.g = k.g then _ else _) = _
      rw [if_neg e2]; exact h.free j e
theorem St.fewer {w : World} {g : Gh} {own own' : Own} (h : St w g own) (hn : own'.ids.Nodup) (hs : ∀ k, some k ∈ own' → some k ∈ own) : St w g own' :=
  ⟨h.r, hn, fun k hk => h.has k (hs k hk), fun k hk => h.free k (hs k hk)⟩
abbrev Sl := List (Nat × Value)
def getS : Sl → Nat → Option Value
  | [], _ => none
  | (k, v) :: l, t => cond (Nat.beq k t) (some v) (getS l t)
structure Fr (n : Nat) (a : Act) (sl : Sl) : Prop where
  size : a.tmps.size = n
  defers : a.defers = []
  at_ : ∀ t v, getS sl t = some v → a.tmps[t]? = some v
theorem Fr.put {n : Nat} {a : Act} {sl : Sl} (h : Fr n a sl) {d : Nat} (hd : d < n) (v : Value) : Fr n (a.put (some d) v) ((d, v) :: sl) := by
  refine ⟨by simp [Act.put, h.size], h.defers, fun t u hu => ?_⟩
  simp only [getS] at hu
  simp only [Act.put]
  cases hb : Nat.beq d t with
  | true =>
    rw [hb] at hu
    have e := Nat.eq_of_beq_eq_true hb
    subst e
    have hu : v = u := by simpa using hu
    subst hu
    simp [h.size, hd]
  | false =>
    rw [hb] at hu
    have hne : d ≠ t := fun e => by subst e; simp at hb
    rw [Array.getElem?_setIfInBounds_ne hne]
    exact h.at_ t u (by simpa using hu)
def evS (sl : Sl) : Operand → Option Value
  | .tmp t => getS sl t
  | .const v => some v
  | .global g => some (.pointer (some ⟨g, 0, none⟩))
  | .func f => some (.func (.func f) #[] #[])
theorem Fr.ev {n : Nat} {a : Act} {sl : Sl} (h : Fr n a sl) {x : Operand} {v : Value} (hx : evS sl x = some v) : a.eval x = v := by
  cases x with
  | tmp t => simp only [evS] at hx; simp [Act.eval, Array.getD_eq_getD_getElem?, h.at_ t v hx]
  | const c => simpa [evS, Act.eval] using hx
  | global c => simpa [evS, Act.eval] using hx
  | func c => simpa [evS, Act.eval] using hx
theorem Fr.evs {n : Nat} {a : Act} {sl : Sl} (h : Fr n a sl) : ∀ {xs : List Operand} {vs : List Value}, xs.map (evS sl) = vs.map some → xs.map a.eval = vs
  | [], [], _ => rfl
  | x :: xs, v :: vs, e => by
    simp only [List.map_cons, List.cons.injEq] at e
    rw [List.map_cons, h.ev e.1, h.evs e.2]
  | [], _ :: _, e => by simp at e
  | _ :: _, [], e => by simp at e
theorem Fr.sub {n : Nat} {a : Act} {sl sl' : Sl} (h : Fr n a sl) (hs : sl'.map (fun p => getS sl p.1) = sl'.map (fun p => some p.2)) : Fr n a sl' := by
  refine ⟨h.size, h.defers, fun t v hv => ?_⟩
  have : ∀ l : Sl, l.map (fun p => getS sl p.1) = l.map (fun p => some p.2) → ∀ t v, getS l t = some v → getS sl t = some v := by
    intro l
    induction l with
    | nil => intro _ t v h; cases h
    | cons p l ih =>
      intro e t v h
      simp only [List.map_cons, List.cons.injEq] at e
      obtain ⟨k, u⟩ := p
      simp only [getS] at h
      cases hb : Nat.beq k t with
      | true =>
        rw [hb] at h
        have e' := Nat.eq_of_beq_eq_true hb
        subst e'
        have : u = v := by simpa using h
        subst this
        exact e.1
      | false => rw [hb] at h; exact ih e.2 t v (by simpa using h)
  exact h.at_ t v (this sl' hs t v hv)
def sub : Code → List Nat → Code
  | c, [] => c
  | .seq a _, 0 :: p => sub a p
  | .seq _ b, _ :: p => sub b p
  | .cond _ a _, 0 :: p => sub a p
  | .cond _ _ b, _ :: p => sub b p
  | .block _ c, _ :: p => sub c p
  | .loop c, _ :: p => sub c p
  | .scope c, _ :: p => sub c p
  | _, _ => .skip
def opAt (ops : Array Oper) (i : Nat) : Option (Option Tmp × Op × TypeId × Option (Nat × Bool)) := ops[i]?.map fun o => (o.dst, o.op, o.type, o.guard)
structure Runs (ops : Array Oper) (i : Nat) (sl : Sl) (dst : Option Tmp) (op : Op) (ty : TypeId) : Prop where
  out : ∃ o, ops[i]? = some o ∧ o.dst = dst ∧ o.op = op ∧ o.type = ty ∧ ∀ n a, Fr n a sl → Region.wanted o (yielded ops a.tmps) = true
theorem opAt_some {ops : Array Oper} {i : Nat} {x : Option Tmp × Op × TypeId × Option (Nat × Bool)} (h : opAt ops i = some x) : ∃ o, ops[i]? = some o ∧ o.dst = x.1 ∧ o.op = x.2.1 ∧ o.type = x.2.2.1 ∧ o.guard = x.2.2.2 := by
  unfold opAt at h
  cases e : ops[i]? with
  | none => rw [e] at h; cases h
  | some o => rw [e] at h; simp at h; subst h; exact ⟨o, rfl, rfl, rfl, rfl, rfl⟩
theorem Runs.plain {ops : Array Oper} {i : Nat} {sl : Sl} {dst : Option Tmp} {op : Op} {ty : TypeId} (h : opAt ops i = some (dst, op, ty, none)) : Runs ops i sl dst op ty := by
  obtain ⟨o, h1, h2, h3, h4, h5⟩ := opAt_some h
  exact ⟨o, h1, h2, h3, h4, fun n a _ => by simp only at h5; simp [Region.wanted, h5]⟩
def dstAt (ops : Array Oper) (j : Nat) : Option Tmp := (ops[j]?).bind (·.dst)
theorem yielded_of {ops : Array Oper} {n : Nat} {a : Act} {sl : Sl} (h : Fr n a sl) {j t : Nat} {b : Bool} (hj : dstAt ops j = some t) (hb : getS sl t = some (.bool b)) : yielded ops a.tmps j = some b := by
  have h1 := h.at_ t _ hb
  unfold dstAt at hj
  cases e : ops[j]? with
  | none => rw [e] at hj; cases hj
  | some o =>
    rw [e] at hj
    have hj : o.dst = some t := hj
    simp [yielded, e, hj, h1]
structure Skips (ops : Array Oper) (i : Nat) (sl : Sl) (dst : Option Tmp) : Prop where
  out : ∃ o, ops[i]? = some o ∧ o.dst = dst ∧ ∀ n a, Fr n a sl → Region.wanted o (yielded ops a.tmps) = false
section
variable {P : Program} {ops : Array Oper} {Q : Exit → Act → World → Prop} {n : Nat}
def WPq (K : Act → World → Prop) (n : Nat) (g : Gh) (own : Own) (sl : Sl) : Prop := ∀ a w, Fr n a sl → St w g own → K a w
abbrev WPr (P : Program) (ops : Array Oper) (Q : Exit → Act → World → Prop) (n i : Nat) (g : Gh) (own : Own) (sl : Sl) : Prop := WPq (wpOps P ops Q (List.range' i (ops.size - i))) n g own sl
abbrev WPc (P : Program) (c : Code) (Q : Exit → Act → World → Prop) (n : Nat) (g : Gh) (own : Own) (sl : Sl) : Prop := WPq (Code.wp P c Q) n g own sl
theorem range_step {i : Nat} {o : Oper} (h : ops[i]? = some o) : List.range' i (ops.size - i) = i :: List.range' (i + 1) (ops.size - (i + 1)) := by
  have hlt : i < ops.size := (Array.getElem?_eq_some_iff.1 h).1
  rw [show ops.size - i = (ops.size - (i + 1)) + 1 by omega, List.range'_succ]
structure Rdw (w : World) (p : Psi) (own : Own) : Prop where
  r : p.In w
  has : Has w own
theorem St.rdw {w : World} {g : Gh} {own : Own} (h : St w g own) : Rdw w g.r own := ⟨h.r, h.has⟩
def Yld (P : Program) (n : Nat) (p : Psi) (own : Own) (sl : Sl) (op : Op) (ty : TypeId) (v : Value) : Prop :=
  ∀ (o : Oper) a w, o.op = op → o.type = ty → Fr n a sl → Rdw w p own → (execOp a.eval o).run P w = .ok (.value v) w
def Eff (P : Program) (n : Nat) (g : Gh) (own : Own) (sl : Sl) (op : Op) (ty : TypeId) (R : Value → Gh → Own → Prop) : Prop :=
  ∀ (o : Oper) a w (Q : Exit → Act → World → Prop) (K : Act → World → Prop), o.op = op → o.type = ty → Fr n a sl → St w g own →
    (∀ v g' own' w', g.le g' → St w' g' own' → R v g' own' → K (a.put o.dst v) w') → Oper.wp P o a w K Q
theorem wpq_re {K : Act → World → Prop} {g : Gh} {own : Own} {sl : Sl} (t : Nat) {v : Value} (v' : Value) (ht : getS sl t = some v) (e : v = v') (k : WPq K n g own ((t, v') :: sl)) : WPq K n g own sl := by
  subst e
  refine fun a w hf hs => k a w ⟨hf.size, hf.defers, fun s u hu => ?_⟩ hs
  simp only [getS] at hu
  cases hb : Nat.beq t s with
  | true =>
    rw [hb] at hu
    have e := Nat.eq_of_beq_eq_true hb
    subst e
    exact hf.at_ _ _ (by rw [ht]; simpa using hu)
  | false => rw [hb] at hu; exact hf.at_ _ _ (by simpa using hu)
theorem wpq_split {K : Act → World → Prop} {g : Gh} {own : Own} {sl : Sl} (t : Nat) {b : Bool} (ht : getS sl t = some (.bool b)) (h1 : b = true → WPq K n g own ((t, .bool true) :: sl)) (h0 : b = false → WPq K n g own ((t, .bool false) :: sl)) : WPq K n g own sl := by
  cases hb : b with
  | true => exact wpq_re t (.bool true) (by rw [ht, hb]) rfl (h1 hb)
  | false => exact wpq_re t (.bool false) (by rw [ht, hb]) rfl (h0 hb)
theorem wpc_region {c : Code} {id : Nat} {g : Gh} {own : Own} {sl : Sl} (h : c = .region id ops false) (k : WPr P ops Q n 0 g own sl) : WPc P c Q n g own sl := by
  subst h
  intro a w hf hs
  refine wp_region ?_
  have := k a w hf hs
  rwa [Nat.sub_zero, ← List.range_eq_range'] at this
theorem wpc_seq {c x y : Code} {g : Gh} {own : Own} {sl : Sl} (h : c = .seq x y) (k : WPc P x (Exit.then (fun a w => y.wp P Q a w) Q) n g own sl) : WPc P c Q n g own sl := by
  subst h
  exact fun a w hf hs => wp_seq (k a w hf hs)
theorem wpc_skip {c : Code} {g : Gh} {own : Own} {sl : Sl} (h : c = .skip) (k : WPq (Q .normal) n g own sl) : WPc P c Q n g own sl := by
  subst h
  exact fun a w hf hs => wp_skip (k a w hf hs)
theorem wpc_exit {c : Code} {id : Nat} {g : Gh} {own : Own} {sl : Sl} (h : c = .exit id) (k : WPq (Q (.exit id)) n g own sl) : WPc P c Q n g own sl := by
  subst h
  exact fun a w hf hs => wp_exit (k a w hf hs)
theorem wpc_block {c x : Code} {id : Nat} {g : Gh} {own : Own} {sl : Sl} (h : c = .block id x) (k : WPc P x (Exit.inBlock id Q) n g own sl) : WPc P c Q n g own sl := by
  subst h
  exact fun a w hf hs => wp_block (k a w hf hs)
theorem wpc_cond {c x y : Code} {o : Operand} {b : Bool} {g : Gh} {own : Own} {sl : Sl} (h : c = .cond o x y) (hb : evS sl o = some (.bool b)) (k1 : b = true → WPc P x Q n g own sl) (k0 : b = false → WPc P y Q n g own sl) : WPc P c Q n g own sl := by
  subst h
  exact fun a w hf hs => wp_cond_split (hf.ev hb) (fun e => k1 e a w hf hs) (fun e => k0 e a w hf hs)
theorem wpq_blockE {id : Nat} {g : Gh} {own : Own} {sl : Sl} (k : WPq (Q .normal) n g own sl) : WPq (Exit.inBlock id Q (.exit id)) n g own sl := by
  intro a w hf hs
  show if id = id then _ else _
  rw [if_pos rfl]; exact k a w hf hs
theorem wpq_blockX {id id' : Nat} {g : Gh} {own : Own} {sl : Sl} (hne : Nat.beq id' id = false) (k : WPq (Q (.exit id')) n g own sl) : WPq (Exit.inBlock id Q (.exit id')) n g own sl := by
  intro a w hf hs
  have : id' ≠ id := fun e => by subst e; simp at hne
  show if id' = id then _ else _
  rw [if_neg this]; exact k a w hf hs
theorem wpc_loop {c x : Code} {g : Gh} {own : Own} {sl : Sl} (h : c = .loop x) (I : Gh → Own → Sl → Nat → Prop) (m0 : Nat) (h0 : I g own sl m0)
    (round : ∀ g1 own1 sl1 m, g.le g1 → I g1 own1 sl1 m → ∀ Qr : Act → World → Prop, (∀ g2 own2 sl2 m', g1.le g2 → m' < m → I g2 own2 sl2 m' → WPq Qr n g2 own2 sl2) → WPc P x (Exit.then Qr Q) n g1 own1 sl1) : WPc P c Q n g own sl := by
  subst h
  intro a w hf hs
  refine wp_loop_ghost (fun m a w => ∃ g2 own2 sl2, g.le g2 ∧ I g2 own2 sl2 m ∧ Fr n a sl2 ∧ St w g2 own2) m0 ⟨g, own, sl, .refl g, h0, hf, hs⟩ ?_
  rintro m a w ⟨g1, own1, sl1, hle, hI, hf, hs⟩
  exact round g1 own1 sl1 m hle hI _ (fun g2 own2 sl2 m' hle' hlt hI' a w hf hs => ⟨m', hlt, g2, own2, sl2, hle.trans hle', hI', hf, hs⟩) a w hf hs
end
def rhoS (sl : Sl) (x : Operand) : Value := (evS sl x).getD undef
def bareO (op : Op) (ty : TypeId) : Oper := ⟨none, op, ty, "", #[], none⟩
def notSel : Op → Bool
  | .select .. => false
  | _ => true
def defd (sl : Sl) (op : Op) : Bool := notSel op && op.operands.toList.all fun x => (evS sl x).isSome
section
variable {P : Program} {n : Nat} {p : Psi} {own : Own} {sl : Sl} {ty : TypeId}
theorem exec_bare (o : Oper) {op : Op} (h1 : o.op = op) (h2 : o.type = ty) (ρ : Operand → Value) : execOp ρ o = execOp ρ (bareO op ty) := by subst h1; subst h2; rfl
theorem notSel_ne {op : Op} (h : notSel op = true) (cs : Array SelectCase) (b : Bool) : op ≠ .select cs b := by
  intro e
  subst e
  cases h
theorem defd_rho {op : Op} {a : Act} (hd : defd sl op = true) (hf : Fr n a sl) : execOp a.eval (bareO op ty) = execOp (rhoS sl) (bareO op ty) := by
  simp only [defd, Bool.and_eq_true, List.all_eq_true] at hd
  refine execOp_congr _ (notSel_ne hd.1) fun x hx => ?_
  have := hd.2 x (by simpa [bareO] using hx)
  obtain ⟨v, hv⟩ := Option.isSome_iff_exists.1 this
  rw [hf.ev hv]
  simp [rhoS, hv]
theorem y_of {op : Op} {v : Value} (hd : defd sl op = true) (h : ∀ w, Rdw w p own → (execOp (rhoS sl) (bareO op ty)).run P w = .ok (.value v) w) : Yld P n p own sl op ty v := by
  intro o a w h1 h2 hf hr
  rw [exec_bare o h1 h2, defd_rho hd hf]
  exact h w hr
theorem defd_bin {op : BinOp} {t u : TypeId} {x y : Operand} {vx vy : Value} (hx : evS sl x = some vx) (hy : evS sl y = some vy) : defd sl (.binOp op t x y u) = true := by
  simp [defd, notSel, Op.operands, hx, hy]
def inK (k : IntKind) (z : Int) : Prop := k.min ≤ z ∧ z ≤ k.max
theorem y_quo {k : IntKind} {t u : TypeId} {x y : Operand} {a b c : Int} (hx : evS sl x = some (.int k a)) (hy : evS sl y = some (.int k b)) (h0 : b ≠ 0) (h : k.wrap (a.tdiv b) = c) :
    Yld P n p own sl (.binOp .quo t x y u) ty (.int k c) := by
  refine y_of (defd_bin hx hy) fun w _ => ?_
  simp [execOp, bareO, rhoS, hx, hy, eqGuard, binOp, Op.intDiv, h0, h]
theorem y_rem {k : IntKind} {t u : TypeId} {x y : Operand} {a b c : Int} (hx : evS sl x = some (.int k a)) (hy : evS sl y = some (.int k b)) (h0 : b ≠ 0) (h : a.tmod b = c) :
    Yld P n p own sl (.binOp .rem t x y u) ty (.int k c) := by
  refine y_of (defd_bin hx hy) fun w _ => ?_
  simp [execOp, bareO, rhoS, hx, hy, eqGuard, binOp, Op.intDiv, h0, h]
theorem y_shl {k k2 : IntKind} {t u : TypeId} {x y : Operand} {a b c : Int} (hx : evS sl x = some (.int k a)) (hy : evS sl y = some (.int k2 b)) (h0 : 0 ≤ b) (h : k.wrap (a * 2 ^ (min b.toNat k.bits)) = c) :
    Yld P n p own sl (.binOp .shl t x y u) ty (.int k c) := by
  refine y_of (defd_bin hx hy) fun w _ => ?_
  have h1 : ¬ b < 0 := by omega
  simp [execOp, bareO, rhoS, hx, hy, eqGuard, binOp, Op.shift, h1, ← h]
theorem y_shr {k k2 : IntKind} {t u : TypeId} {x y : Operand} {a b c : Int} (hx : evS sl x = some (.int k a)) (hy : evS sl y = some (.int k2 b)) (h0 : 0 ≤ b) (h : a.fdiv (2 ^ (min b.toNat k.bits)) = c) :
    Yld P n p own sl (.binOp .shr t x y u) ty (.int k c) := by
  refine y_of (defd_bin hx hy) fun w _ => ?_
  have h1 : ¬ b < 0 := by omega
  simp [execOp, bareO, rhoS, hx, hy, eqGuard, binOp, Op.shift, h1, ← h]
theorem y_conv {src dst : TypeId} {k k2 : IntKind} {x : Operand} {a c : Int} (hx : evS sl x = some (.int k a)) (h1 : (P.underlying src).isSome = true) (h2 : P.underlying dst = some (.int k2)) (h : k2.wrap a = c) :
    Yld P n p own sl (.convert src dst x) ty (.int k2 c) := by
  refine y_of (by simp [defd, notSel, Op.operands, hx]) fun w _ => ?_
  obtain ⟨d, hd⟩ := Option.isSome_iff_exists.1 h1
  simp [execOp, bareO, rhoS, hx, convert, run_underlying hd, run_underlying h2, Conv.intToInt, h]
theorem y_pickT {c x y : Operand} {v : Value} (hc : evS sl c = some (.bool true)) (hx : evS sl x = some v) :
    Yld P n p own sl (.pick c x y) ty v := by
  intro o a w h1 h2 hf hr
  simp [execOp, h1, hf.ev hc, hf.ev hx, asBool]
theorem y_pickF {c x y : Operand} {v : Value} (hc : evS sl c = some (.bool false)) (hy : evS sl y = some v) :
    Yld P n p own sl (.pick c x y) ty v := by
  intro o a w h1 h2 hf hr
  simp [execOp, h1, hf.ev hc, hf.ev hy, asBool]
theorem y_move {x : Operand} {v : Value} (hx : evS sl x = some v) : Yld P n p own sl (.move x) ty v := by
  intro o a w h1 h2 hf hr
  simp [execOp, h1, hf.ev hx]
theorem y_assign {x : Operand} {v : Value} (hx : evS sl x = some v) : Yld P n p own sl (.assign x) ty v := by
  intro o a w h1 h2 hf hr
  simp [execOp, h1, hf.ev hx]
def aggOf (P : Program) (t : TypeId) : Option Nat :=
  match P.underlying t, P.info? t with
  | some (.struct _), some i => some i.size
  | some (.array _ _), some i => some i.size
  | _, _ => none
def flatOf (P : Program) (t : TypeId) : Bool :=
  match P.underlying t, P.info? t with
  | some (.struct _), _ => false
  | some (.array _ _), _ => false
  | some _, some i => i.size == 1
  | _, _ => false
theorem run_isAgg_of {t : TypeId} {m : Nat} (h : aggOf P t = some m) (w : World) : (isAgg t).run P w = .ok true w ∧ (sizeOf t).run P w = .ok m w := by
  unfold aggOf at h
  split at h <;> (try cases h)
  · rename_i fs i h1 h2
    have h3 := run_underlying (w := w) h1
    constructor
    · simp [isAgg, h3]
    · simp [sizeOf, typeInfo, program, Sem.run, bind, Sem.bind, h2, pure]
  · rename_i fs e i h1 h2
    have h3 := run_underlying (w := w) h1
    constructor
    · simp [isAgg, h3]
    · simp [sizeOf, typeInfo, program, Sem.run, bind, Sem.bind, h2, pure]
theorem run_isAgg_flat {t : TypeId} (h : flatOf P t = true) (w : World) : (isAgg t).run P w = .ok false w ∧ (sizeOf t).run P w = .ok 1 w := by
  unfold flatOf at h
  split at h <;> (try cases h)
  rename_i d i hs ha h1 h2
  have h3 := run_underlying (w := w) h1
  constructor
  · cases d <;> first | (exact absurd rfl (ha _ _)) | (exact absurd rfl (hs _)) | simp [isAgg, h3]
  · have h : i.size = 1 := by simpa using h
    simp [sizeOf, typeInfo, program, Sem.run, bind, Sem.bind, h2, pure, h]
theorem run_loadFrom {w : World} {a : Addr} : ∀ {cs : List Value} (i : Nat) (acc : Array Value), (∀ j v, cs[j]? = some v → w.cell? (a.add (i + j)) = some v) →
    (loadCellsFrom a i cs.length acc).run P w = .ok (acc ++ cs.toArray) w
  | [], i, acc, _ => by simp [loadCellsFrom]
  | c :: cs, i, acc, h => by
    have h0 := h 0 c rfl
    rw [Nat.add_zero] at h0
    have ih := run_loadFrom (w := w) (a := a) (cs := cs) (i + 1) (acc.push c) (fun j v hj => by
      have := h (j + 1) v (by simpa using hj)
      rwa [show i + (j + 1) = i + 1 + j by omega] at this)
    simp only [List.length_cons, loadCellsFrom, load]
    simp only [bind, Sem.bind, Sem.run, h0, pure]
    refine ih.trans ?_
    simp
theorem run_loadCells_of {w : World} {a : Addr} {cs : List Value} (h : ∀ j v, cs[j]? = some v → w.cell? (a.add j) = some v) : (loadCells a cs.length).run P w = .ok cs.toArray w := by
  have := run_loadFrom (P := P) (w := w) (a := a) (cs := cs) 0 #[] (fun j v hj => by rw [Nat.zero_add]; exact h j v hj)
  simpa [loadCells] using this
theorem run_loadVar_agg {w : World} {a : Addr} {cs : List Value} {t : TypeId} (ht : aggOf P t = some cs.length) (h : ∀ j v, cs[j]? = some v → w.cell? (a.add j) = some v) : (loadVar t a).run P w = .ok (.agg cs.toArray) w := by
  obtain ⟨h1, h2⟩ := run_isAgg_of ht w
  simp [loadVar, h1, h2, run_loadCells_of h]
theorem run_loadVar_flat {w : World} {a : Addr} {v : Value} {t : TypeId} (ht : flatOf P t = true) (h : w.cell? a = some v) : (loadVar t a).run P w = .ok v w := by
  obtain ⟨h1, h2⟩ := run_isAgg_flat ht w
  simp [loadVar, h1, load, Sem.run, h]
theorem addr_add (g off j : Nat) : (⟨g, off, none⟩ : Addr).add j = ⟨g, off + j, none⟩ := by
  unfold Addr.add
  split
  · rename_i h; subst h; rfl
  · rfl
theorem take_drop_get {α : Type} {l : List α} {off m j : Nat} {v : α} (h : ((l.drop off).take m)[j]? = some v) : l[off + j]? = some v := by
  rw [List.getElem?_take] at h
  split at h
  · rwa [List.getElem?_drop] at h
  · cases h
theorem y_load1 {t : TypeId} {x : Operand} {g off : Nat} {i : Nat} {k : Bk} {v : Value} (hx : evS sl x = some (.pointer (some ⟨g, off, none⟩))) (hi : own[i]? = some (some k)) (hg : k.g = g) (ht : flatOf P t = true) (hv : k.cs[off]? = some v) :
    Yld P n p own sl (.load t x) ty v := by
  intro o a w h1 h2 hf hr
  subst hg
  simp [execOp, h1, hf.ev hx, Instr.loadAt, Instr.sureAddr, run_loadVar_flat ht ((hr.has.cell (Own.get_mem hi) off).trans hv)]
theorem y_loadA {t : TypeId} {x : Operand} {g off : Nat} {i : Nat} {k : Bk} {cs : List Value} (hx : evS sl x = some (.pointer (some ⟨g, off, none⟩))) (hi : own[i]? = some (some k)) (hg : k.g = g) (ht : aggOf P t = some cs.length) (hv : (k.cs.drop off).take cs.length = cs) :
    Yld P n p own sl (.load t x) ty (.agg cs.toArray) := by
  intro o a w h1 h2 hf hr
  subst hg
  have : (loadVar t ⟨k.g, off, none⟩).run P w = .ok (.agg cs.toArray) w := run_loadVar_agg ht fun j v hj => by
    rw [addr_add, hr.has.cell (Own.get_mem hi)]
    rw [← hv] at hj
    exact take_drop_get hj
  simp [execOp, h1, hf.ev hx, Instr.loadAt, Instr.sureAddr, this]
end
section
variable {P : Program} {n : Nat} {g : Gh} {own : Own} {sl : Sl} {ty : TypeId}
theorem e_box {t : TypeId} {x : Operand} {v : Value} {cs : List Value} (hx : evS sl x = some v) (hc : v.cells = cs.toArray) :
    Eff P n g own sl (.box t x) ty (fun v' g' own' => ∃ b, v' = .pointer (some ⟨b, 0, none⟩) ∧ g = g' ∧ own' = some ⟨b, t, cs⟩ :: own) := by
  intro o a w Q K h1 h2 hf hs h
  have : (execOp a.eval o).run P w = .ok (.value (.pointer (some ⟨w.heap.size, 0, none⟩))) (w.alloc (.cells cs.toArray t)) := by
    simp [execOp, h1, hf.ev hx, Instr.box, newVar, newRow, newObj, hc, Sem.run]
  unfold Oper.wp
  rw [this]
  exact h _ _ _ _ (.refl g) (hs.alloc t cs) ⟨_, rfl, rfl, rfl⟩
def zeroOf (P : Program) (t : TypeId) : Option (Array Value) := ((P.info? t).bind (·.zero)).map Value.cells
theorem e_alloc {t : TypeId} {cs : List Value} (hz : zeroOf P t = some cs.toArray) :
    Eff P n g own sl (.alloc t) ty (fun v' g' own' => ∃ b, v' = .pointer (some ⟨b, 0, none⟩) ∧ g = g' ∧ own' = some ⟨b, t, cs⟩ :: own) := by
  intro o a w Q K h1 h2 hf hs h
  unfold zeroOf at hz
  cases e : P.info? t with
  | none => rw [e] at hz; cases hz
  | some i =>
    rw [e] at hz
    cases e2 : i.zero with
    | none => simp [e2] at hz
    | some z =>
      have hz : z.cells = cs.toArray := by simpa [e2] using hz
      have hzv : (zeroValue t).run P w = .ok z w := by simp [zeroValue, typeInfo, program, Sem.run, bind, Sem.bind, e, e2, pure]
      have : (execOp a.eval o).run P w = .ok (.value (.pointer (some ⟨w.heap.size, 0, none⟩))) (w.alloc (.cells cs.toArray t)) := by
        simp [execOp, h1, Instr.alloc, hzv, newVar, newRow, newObj, hz, Sem.run]
      unfold Oper.wp
      rw [this]
      exact h _ _ _ _ (.refl g) (hs.alloc t cs) ⟨_, rfl, rfl, rfl⟩
def one1 : Value → Bool
  | .agg _ => false
  | .tuple _ => false
  | _ => true
def setRow (cs : List Value) (off : Nat) : List Value → List Value
  | [] => cs
  | v :: vs => setRow (cs.set off v) (off + 1) vs
theorem setRow_length (vs : List Value) : ∀ (cs : List Value) (off : Nat), (setRow cs off vs).length = cs.length := by
  induction vs with
  | nil => intro cs off; rfl
  | cons v vs ih => intro cs off; simp [setRow, ih]
theorem run_store1 {w : World} {a : Addr} {v c : Value} (h1 : one1 v = true) (hc : w.cell? a = some c) (hz : w.frozen? a = false) : (store a v).run P w = .ok () (w.setCell a v) := by
  cases v <;> first | (cases h1; done) | simp [store, Sem.run, hc, hz]
theorem run_storeCells_own {i : Nat} {k : Bk} : ∀ {vs : List Value} {w : World} {own : Own} {off : Nat} (cs : List Value) (s : Nat), St w g own → own[i]? = some (some ⟨k.g, k.t, cs⟩) → (∀ v ∈ vs, one1 v = true) → off + s + vs.length ≤ cs.length →
    ∃ w', (storeCells ⟨k.g, off, none⟩ vs s).run P w = .ok () w' ∧ St w' g (own.set i (some ⟨k.g, k.t, setRow cs (off + s) vs⟩))
  | [], w, own, off, cs, s, hs, hi, _, _ => by
    refine ⟨w, by simp [storeCells], ?_⟩
    have : own.set i (some ⟨k.g, k.t, setRow cs (off + s) []⟩) = own := by
      apply List.ext_getElem?
      intro j
      rw [List.getElem?_set]
      split
      · rename_i e; subst e
        split
        · exact hi.symm
        · rename_i hlt; rw [List.getElem?_eq_none (by omega)]
      · rfl
    rw [this]; exact hs
  | v :: vs, w, own, off, cs, s, hs, hi, h1, hl => by
    simp only [List.length_cons] at hl
    have hm := Own.get_mem hi
    have hcell := hs.has.cell hm (off + s)
    have hlt : off + s < cs.length := by omega
    obtain ⟨c, hc⟩ : ∃ c, cs[off + s]? = some c := ⟨_, List.getElem?_eq_getElem hlt⟩
    have hst := run_store1 (P := P) (w := w) (a := ⟨k.g, off + s, none⟩) (v := v) (h1 v (List.mem_cons_self ..)) (hcell.trans hc) (hs.has.frozen hm _ hlt)
    have hs1 := hs.store hi (off + s) v
    have hil : i < own.length := by
      rcases Nat.lt_or_ge i own.length with h2 | h2
      · exact h2
      · rw [List.getElem?_eq_none h2] at hi; cases hi
    obtain ⟨w', e, hs'⟩ := run_storeCells_own (i := i) (k := k) (vs := vs) (own := own.set i (some ⟨k.g, k.t, cs.set (off + s) v⟩)) (off := off) (cs.set (off + s) v) (s + 1) hs1 (by simp [List.getElem?_set, hil])
      (fun u hu => h1 u (List.mem_cons_of_mem _ hu)) (by simp; omega)
    refine ⟨w', ?_, ?_⟩
    · simp [storeCells, addr_add, hst, e]
    · rw [List.set_set] at hs'
      rw [show off + (s + 1) = off + s + 1 by omega] at hs'
      exact hs'
theorem run_storeVar_own {w : World} {i : Nat} {k : Bk} {off : Nat} {t : TypeId} {v : Value} {vs : List Value} (hs : St w g own) (hi : own[i]? = some (some k)) (hz : (sizeOf t).run P w = .ok vs.length w) (hv : v.cells = vs.toArray) (h1 : vs.all one1 = true) (hl : off + vs.length ≤ k.cs.length) :
    ∃ w', (storeVar t ⟨k.g, off, none⟩ v).run P w = .ok () w' ∧ St w' g (own.set i (some ⟨k.g, k.t, setRow k.cs off vs⟩)) := by
  obtain ⟨w', e, hs'⟩ := run_storeCells_own (P := P) (g := g) (i := i) (k := k) (vs := vs) (own := own) (off := off) k.cs 0 hs hi (by simpa using h1) (by omega)
  refine ⟨w', ?_, hs'⟩
  simp [storeVar, hz, hv, e]
def cellsOfT (P : Program) (t : TypeId) : Option Nat := (P.info? t).map (·.size)
theorem run_sizeOf_of {t : TypeId} {m : Nat} (h : cellsOfT P t = some m) (w : World) : (sizeOf t).run P w = .ok m w := by
  unfold cellsOfT at h
  cases e : P.info? t with
  | none => rw [e] at h; cases h
  | some i =>
    rw [e] at h
    have h : i.size = m := by simpa using h
    simp [sizeOf, typeInfo, program, Sem.run, bind, Sem.bind, e, pure, h]
theorem e_store {t : TypeId} {x y : Operand} {b off : Nat} {i : Nat} {k : Bk} {v : Value} {vs cs' : List Value} (hx : evS sl x = some (.pointer (some ⟨b, off, none⟩))) (hy : evS sl y = some v) (hi : own[i]? = some (some k)) (hg : k.g = b)
    (hv : v.cells = vs.toArray) (hz : cellsOfT P t = some vs.length) (h1 : vs.all one1 = true) (hl : Nat.ble (off + vs.length) k.cs.length = true) (hc : setRow k.cs off vs = cs') :
    Eff P n g own sl (.store t x y) ty (fun v' g' own' => g = g' ∧ own' = own.set i (some ⟨b, k.t, cs'⟩)) := by
  intro o a w Q K e1 e2 hf hs h
  subst hg
  subst hc
  obtain ⟨w', e, hs'⟩ := run_storeVar_own (P := P) (t := t) (off := off) (v := v) hs hi (run_sizeOf_of hz w) hv h1 (by simpa using hl)
  have : (execOp a.eval o).run P w = .ok .skip w' := by
    simp [execOp, e1, hf.ev hx, hf.ev hy, Instr.storeAt, Instr.sureAddr, e]
  unfold Oper.wp
  rw [this]
  exact h undef g _ _ (.refl g) hs' ⟨rfl, rfl⟩
end
def Ctr (P : Program) (f : FuncId) (args : List Value) (g : Gh) (own : Own) (post : Value → Psi → Own → Prop) : Prop :=
  ∀ w, St w g own → Calls P f args.toArray w fun e w' => ∃ v g' own', e = .returned v ∧ g.le g' ∧ St w' g' own' ∧ post v g'.b own'
theorem Ctr.mono {P : Program} {f : FuncId} {args : List Value} {g : Gh} {own : Own} {post post' : Value → Psi → Own → Prop} (h : Ctr P f args g own post) (hp : ∀ v p o, g.b.le p → post v p o → post' v p o) : Ctr P f args g own post' :=
  fun w hs => (h w hs).mono fun e w' ⟨v, g', own', he, hle, hs', h1⟩ => ⟨v, g', own', he, hle, hs', hp _ _ _ hle.b h1⟩
theorem Own.ids_perm {a b : Own} (h : a.Perm b) : (Own.ids a).Perm (Own.ids b) := h.filterMap _
def Psi.addAll (p : Psi) (rest : Own) : Psi := { p with m := fun b => match rest.find? (fun x => match x with | some k => k.g == b | none => false) with | some (some k) => some k.obj | _ => p.m b }
theorem addAll_of {p : Psi} {rest : Own} (hn : rest.ids.Nodup) {k : Bk} (hk : some k ∈ rest) : (p.addAll rest).m k.g = some k.obj := by
  have : rest.find? (fun x => match x with | some j => j.g == k.g | none => false) = some (some k) := by
    induction rest with
    | nil => cases hk
    | cons x l ih =>
      rw [Own.ids_cons] at hn
      cases x with
      | none =>
        simp only [List.find?_cons]
        rcases List.mem_cons.1 hk with e | e
        · cases e
        · exact ih (by simpa using hn) e
      | some j =>
        simp only [List.find?_cons]
        rcases List.mem_cons.1 hk with e | e
        · injection e with e; subst e; simp
        · have hne : j.g ≠ k.g := fun eq => by
            simp at hn
            exact hn.1 (eq ▸ Own.mem_ids e)
          have : (j.g == k.g) = false := by simpa using hne
          rw [this]
          exact ih (by simp at hn; exact hn.2) e
  simp [Psi.addAll, this]
theorem addAll_not {p : Psi} {rest : Own} {b : Nat} (h : ∀ k, some k ∈ rest → k.g ≠ b) : (p.addAll rest).m b = p.m b := by
  have : rest.find? (fun x => match x with | some j => j.g == b | none => false) = none := by
    rw [List.find?_eq_none]
    intro x hx
    cases x with
    | none => simp
    | some k => simpa using h k hx
  simp [Psi.addAll, this]
theorem St.lend {w : World} {g : Gh} {sel rest : Own} (h : St w g (sel ++ rest)) : ∃ gl : Gh, gl.r = g.r.addAll rest ∧ gl.b = g.b ∧ St w gl sel ∧ g.r.le gl.r := by
  have hids : Own.ids (sel ++ rest) = Own.ids sel ++ Own.ids rest := List.filterMap_append
  have hn := h.nodup
  rw [hids, List.nodup_append] at hn
  obtain ⟨n1, n2, n3⟩ := hn
  have hle : g.r.le (g.r.addAll rest) := ⟨rfl, rfl, rfl, fun b o e => by
    rw [addAll_not fun k hk eq => by have := h.free k (List.mem_append_right _ hk); rw [eq, e] at this; cases this]
    exact e⟩
  refine ⟨⟨g.r.addAll rest, g.b, g.br.trans hle⟩, rfl, rfl, ⟨⟨h.r.os, h.r.tape, h.r.out, fun b o e => ?_⟩, n1, fun k hk => h.has k (List.mem_append_left _ hk), fun k hk => ?_⟩, hle⟩
  · by_cases hb : ∃ k, some k ∈ rest ∧ k.g = b
    · obtain ⟨k, hk, rfl⟩ := hb
      have e : (g.r.addAll rest).m k.g = some o := e
      rw [addAll_of n2 hk] at e
      rw [← e]; exact h.has k (List.mem_append_right _ hk)
    · have e : (g.r.addAll rest).m b = some o := e
      rw [addAll_not fun k hk eq => hb ⟨k, hk, eq⟩] at e
      exact h.r.m b o e
  · show (g.r.addAll rest).m k.g = none
    rw [addAll_not fun j hj eq => n3 _ (Own.mem_ids hk) _ (Own.mem_ids hj) eq.symm]
    exact h.free k (List.mem_append_left _ hk)
def Psi.merge (p q : Psi) : Psi := { p with m := fun b => match q.m b with | some o => some o | none => p.m b }
theorem St.unlend {w w' : World} {g gl g1 : Gh} {sel rest sel' : Own} (h : St w g (sel ++ rest)) (er : gl.r = g.r.addAll rest) (eb : gl.b = g.b) (hle : gl.le g1) (h' : St w' g1 sel') (hl : g.r.le gl.r) :
    ∃ g2 : Gh, g2.b = g1.b ∧ g.le g2 ∧ St w' g2 (sel' ++ rest) := by
  have hids : Own.ids (sel ++ rest) = Own.ids sel ++ Own.ids rest := List.filterMap_append
  have hids' : Own.ids (sel' ++ rest) = Own.ids sel' ++ Own.ids rest := List.filterMap_append
  have hn := h.nodup
  rw [hids, List.nodup_append] at hn
  obtain ⟨n1, n2, n3⟩ := hn
  have hin : g.r.In w' := (h'.r.mono hle.r).mono hl
  have hinb : g1.b.In w' := h'.r.mono g1.br
  have hrest : ∀ k, some k ∈ rest → g1.r.m k.g = some k.obj := fun k hk => hle.r.m _ _ (by rw [er]; exact addAll_of n2 hk)
  have hfree : ∀ k, some k ∈ rest → g1.b.m k.g = none := fun k hk => by
    cases e : g1.b.m k.g with
    | none => rfl
    | some o =>
      exfalso
      rcases hle.apart k.g (by rw [e]; simp) with h1 | h1
      · rw [eb] at h1
        exact h1 (g.br.none_ (h.free k (List.mem_append_right _ hk)))
      · rw [er, addAll_of n2 hk] at h1
        cases h1
  have hbr : g1.b.le (g.r.merge g1.b) := ⟨hin.os.symm.trans hinb.os, hin.tape.symm.trans hinb.tape, hin.out.symm.trans hinb.out, fun b o e => by
    show (match g1.b.m b with | some o => some o | none => g.r.m b) = some o
    rw [e]⟩
  have hle' : g.le ⟨g.r.merge g1.b, g1.b, hbr⟩ := by
    refine ⟨⟨rfl, rfl, rfl, fun b o e => ?_⟩, eb ▸ hle.b, fun k hk => ?_⟩
    · show (match g1.b.m b with | some o => some o | none => g.r.m b) = some o
      cases e2 : g1.b.m b with
      | none => exact e
      | some o2 => rw [← hinb.m b o2 e2, hin.m b o e]
    · rcases hle.apart k hk with h1 | h1
      · exact .inl (eb ▸ h1)
      · exact .inr (hl.none_ h1)
  refine ⟨⟨g.r.merge g1.b, g1.b, hbr⟩, rfl, hle', ⟨⟨hin.os, hin.tape, hin.out, fun b o e => ?_⟩, ?_, fun k hk => ?_, fun k hk => ?_⟩⟩
  · have e : (match g1.b.m b with | some o => some o | none => g.r.m b) = some o := e
    cases e2 : g1.b.m b with
    | none => rw [e2] at e; exact hin.m b o e
    | some o2 => rw [e2] at e; rw [← e]; exact hinb.m b o2 e2
  · rw [hids', List.nodup_append]
    refine ⟨h'.nodup, n2, fun a ha b hb eq => ?_⟩
    obtain ⟨k, hk, rfl⟩ := Own.of_ids ha
    obtain ⟨j, hj, rfl⟩ := Own.of_ids hb
    have := h'.free k hk
    rw [eq, hrest j hj] at this
    cases this
  · rcases List.mem_append.1 hk with e | e
    · exact h'.has k e
    · exact h'.r.m _ _ (hrest k e)
  · show (match g1.b.m k.g with | some o => some o | none => g.r.m k.g) = none
    rcases List.mem_append.1 hk with e | e
    · have h1 := h'.free k e
      rw [g1.br.none_ h1]
      exact (hl.trans hle.r).none_ h1
    · rw [hfree k e]
      exact h.free k (List.mem_append_right _ e)
section
variable {P : Program} {ops : Array Oper} {Q : Exit → Act → World → Prop} {n : Nat} {g : Gh} {own : Own} {sl : Sl} {ty : TypeId}
def enters (P : Program) (f : FuncId) : Bool :=
  match P.funcs[f]? with
  | some fn => fn.body.isSome && !(fn.name == "runtime.NumGoroutine")
  | none => false
theorem run_callFunc_of {f : FuncId} (h : enters P f = true) (args : Array Value) (w : World) : (callFunc f args).run P w = .ok (.enter f args) w := by
  unfold enters at h
  cases e : P.funcs[f]? with
  | none => rw [e] at h; cases h
  | some fn =>
    rw [e] at h
    simp only [Bool.and_eq_true, Bool.not_eq_true'] at h
    have hb : fn.body.isNone = false := by cases hb : fn.body <;> simp_all
    have h3 : fn.name ≠ "runtime.NumGoroutine" := by simpa using h.2
    have h4 : fn.body ≠ none := by cases hb2 : fn.body <;> simp_all
    simp [callFunc, program, bind, Sem.bind, Sem.run, e, pure]
    rw [if_neg h3, if_neg h4]
def Ctr0 (P : Program) (f : FuncId) (args : List Value) (g : Gh) (post : Value → Psi → Prop) : Prop := Ctr P f args g [] (fun v p o => o = [] ∧ post v p)
theorem Ctr0.mono {f : FuncId} {args : List Value} {post post' : Value → Psi → Prop} (h : Ctr0 P f args g post) (hp : ∀ v p, g.b.le p → post v p → post' v p) : Ctr0 P f args g post' :=
  Ctr.mono h fun v p o hl ⟨h1, h2⟩ => ⟨h1, hp v p hl h2⟩
def RetR (g : Gh) (post : Value → Psi → Own → Prop) (e : Ending) (w' : World) : Prop := ∃ v g' own', e = .returned v ∧ g.le g' ∧ St w' g' own' ∧ post v g'.b own'
def Fin (P : Program) (fn : Func) (g : Gh) (post : Value → Psi → Own → Prop) : Exit → Act → World → Prop := bodyPost P fn (RetR g post)
def argS : Nat → List Value → Sl
  | _, [] => []
  | i, v :: vs => (i, v) :: argS (i + 1) vs
theorem argS_get {vs : List Value} : ∀ {i t : Nat} {v : Value}, getS (argS i vs) t = some v → i ≤ t ∧ vs[t - i]? = some v := by
  induction vs with
  | nil => intro i t v h; cases h
  | cons u vs ih =>
    intro i t v h
    simp only [argS, getS] at h
    cases hb : Nat.beq i t with
    | true =>
      rw [hb] at h
      have e := Nat.eq_of_beq_eq_true hb
      subst e
      simpa using h
    | false =>
      rw [hb] at h
      have hne : i ≠ t := fun e => by subst e; simp at hb
      obtain ⟨h1, h2⟩ := ih (i := i + 1) (t := t) (v := v) (by simpa using h)
      refine ⟨by omega, ?_⟩
      rw [show t - i = (t - (i + 1)) + 1 by omega]
      simpa using h2
theorem ctr_of {f : FuncId} (fn : Func) (c : Code) (n : Nat) (vs : List Value) {post : Value → Psi → Own → Prop} (hf : P.funcs[f]? = some fn) (hb : fn.body = some c) (hn : fn.ntmps = n) (hl : Nat.ble vs.length n = true)
    (h : WPc P c (Fin P fn g post) n g own (argS 0 vs)) : Ctr P f vs g own post := by
  intro w hs
  refine calls_of_wp hf hb ?_
  refine h _ w ⟨?_, rfl, fun t v hv => ?_⟩ hs
  · have : vs.length ≤ n := by simpa using hl
    simp [hn]; omega
  · obtain ⟨_, h2⟩ := argS_get hv
    have hlt : t < vs.length := by
      rcases Nat.lt_or_ge t vs.length with h3 | h3
      · exact h3
      · rw [Nat.sub_zero, List.getElem?_eq_none h3] at h2; cases h2
    rw [Array.getElem?_append_left (by simpa using hlt)]
    simpa using h2
def resRun (tmps : Array Value) : ResultVar → Sem Value
  | .tmp t => pure (tmps.getD t undef)
  | .cell x t => do loadVar t (← asAddr (tmps.getD x undef))
def ResOk (P : Program) (own : Own) (sl : Sl) (rs : List ResultVar) (vs : List Value) : Prop :=
  ∀ n a w, Fr n a sl → Has w own → (rs.mapM (resRun a.tmps)).run P w = .ok vs w
theorem res_nil : ResOk P own sl [] [] := fun n a w hf hh => by simp
theorem res_cons {r : ResultVar} {v : Value} {rs : List ResultVar} {vs : List Value} (h : ∀ n a w, Fr n a sl → Has w own → (resRun a.tmps r).run P w = .ok v w) (k : ResOk P own sl rs vs) : ResOk P own sl (r :: rs) (v :: vs) := by
  intro n a w hf hh
  simp only [List.mapM_cons]
  simp [h n a w hf hh, k n a w hf hh]
theorem res_tmp {t : Tmp} {v : Value} {rs : List ResultVar} {vs : List Value} (h : getS sl t = some v) (k : ResOk P own sl rs vs) : ResOk P own sl (.tmp t :: rs) (v :: vs) :=
  res_cons (fun n a w hf hh => by simp [resRun, Array.getD_eq_getD_getElem?, hf.at_ _ _ h]) k
theorem res_cell1 {x : Tmp} {t : TypeId} {b off i : Nat} {kb : Bk} {v : Value} {rs : List ResultVar} {vs : List Value} (h : getS sl x = some (.pointer (some ⟨b, off, none⟩))) (hi : own[i]? = some (some kb)) (hg : kb.g = b) (ht : flatOf P t = true) (hv : kb.cs[off]? = some v) (k : ResOk P own sl rs vs) : ResOk P own sl (.cell x t :: rs) (v :: vs) :=
  res_cons (fun n a w hf hh => by
    subst hg
    simp [resRun, Array.getD_eq_getD_getElem?, hf.at_ _ _ h, asAddr, run_loadVar_flat ht ((hh.cell (Own.get_mem hi) off).trans hv)]) k
theorem res_cellA {x : Tmp} {t : TypeId} {b off i : Nat} {kb : Bk} {cs : List Value} {rs : List ResultVar} {vs : List Value} (h : getS sl x = some (.pointer (some ⟨b, off, none⟩))) (hi : own[i]? = some (some kb)) (hg : kb.g = b) (ht : aggOf P t = some cs.length) (hv : (kb.cs.drop off).take cs.length = cs) (k : ResOk P own sl rs vs) : ResOk P own sl (.cell x t :: rs) (.agg cs.toArray :: vs) :=
  res_cons (fun n a w hf hh => by
    subst hg
    have e : (loadVar t ⟨kb.g, off, none⟩).run P w = .ok (.agg cs.toArray) w := run_loadVar_agg ht fun j v hj => by
      rw [addr_add, hh.cell (Own.get_mem hi)]
      rw [← hv] at hj
      exact take_drop_get hj
    simp [resRun, Array.getD_eq_getD_getElem?, hf.at_ _ _ h, asAddr, e]) k
def tupled : List Value → Value
  | [v] => v
  | vs => .tuple vs.toArray
theorem run_results {fn : Func} {rs : List ResultVar} {vs : List Value} (hr : fn.results = rs.toArray) (h : ResOk P own sl rs vs) {a : Act} {w : World} (hf : Fr n a sl) (hh : Has w own) : (results fn a.tmps).run P w = .ok (tupled vs) w := by
  have := h n a w hf hh
  have e : results fn a.tmps = (do let vs ← fn.results.mapM (resRun a.tmps); pure (if h : vs.size = 1 then vs[0] else .tuple vs)) := rfl
  rw [e, hr, List.mapM_toArray]
  simp [this]
  match vs with
  | [] => rfl
  | [v] => rfl
  | _ :: _ :: _ => simp [tupled]
end
def Psi.cell? (p : Psi) (a : Addr) : Option Value :=
  match p.m a.block with
  | some (.cells c _ _) => if a.spot.isSome then none else c[a.off]?
  | _ => none
theorem Psi.In.cell {p : Psi} {w : World} (h : p.In w) {a : Addr} {v : Value} (e : p.cell? a = some v) : w.cell? a = some v := by
  unfold Psi.cell? at e
  split at e
  · rename_i c t f hm
    simp [World.cell?, h.m _ _ hm]
    simpa using e
  · cases e
theorem Psi.le.cell {p q : Psi} (h : p.le q) {a : Addr} {v : Value} (e : p.cell? a = some v) : q.cell? a = some v := by
  unfold Psi.cell? at e ⊢
  split at e
  · rename_i c t f hm
    rw [h.m _ _ hm]
    exact e
  · cases e
def Cells (p : Psi) (a : Addr) (cs : List Value) : Prop := ∀ j v, cs[j]? = some v → p.cell? (a.add j) = some v
theorem Cells.mono {p q : Psi} {a : Addr} {cs : List Value} (h : Cells p a cs) (k : p.le q) : Cells q a cs := fun j v e => k.cell (h j v e)
theorem add_add (a : Addr) (i j : Nat) : (a.add i).add j = a.add (i + j) := by
  unfold Addr.add
  by_cases hi : i = 0
  · subst hi; simp
  · by_cases hj : j = 0
    · subst hj; simp [hi]
    · rw [if_neg hj, if_neg hi, if_neg (by omega)]; simp [Nat.add_assoc]
theorem Cells.part {p : Psi} {a : Addr} {cs : List Value} (h : Cells p a cs) (off m : Nat) : Cells p (a.add off) ((cs.drop off).take m) := by
  intro j v e
  rw [add_add]
  exact h _ _ (take_drop_get e)
structure Ty (α : Type) where
  n : Nat
  pos : 0 < n
  rep : Psi → List Value → α → Prop
  len : ∀ {p cs x}, rep p cs x → cs.length = n
  one : ∀ {p cs x}, rep p cs x → cs.all one1 = true
  mono : ∀ {p q cs x}, p.le q → rep p cs x → rep q cs x
def tyI (k : IntKind) : Ty Int := ⟨1, by decide, fun _ cs x => cs = [.int k x], fun h => by subst h; rfl, fun h => by subst h; rfl, fun _ h => h⟩
def tyU8 : Ty UInt8 := ⟨1, by decide, fun _ cs x => cs = [.int .u8 (x.toNat : Int)], fun h => by subst h; rfl, fun h => by subst h; rfl, fun _ h => h⟩
def tyB : Ty Bool := ⟨1, by decide, fun _ cs x => cs = [.bool x], fun h => by subst h; rfl, fun h => by subst h; rfl, fun _ h => h⟩
def mkS (l : List UInt8) : ByteArray := ⟨l.toArray⟩
def tyS : Ty (List UInt8) := ⟨1, by decide, fun _ cs x => cs = [.string (mkS x)], fun h => by subst h; rfl, fun h => by subst h; rfl, fun _ h => h⟩
def Reps {α : Type} (T : Ty α) (p : Psi) : List Value → List α → Prop
  | cs, [] => cs = []
  | cs, x :: xs => ∃ c1 c2, cs = c1 ++ c2 ∧ T.rep p c1 x ∧ Reps T p c2 xs
section
variable {α : Type} {T : Ty α} {p q : Psi}
theorem Reps.len : ∀ {xs : List α} {cs : List Value}, Reps T p cs xs → cs.length = xs.length * T.n
  | [], cs, h => by cases h; simp
  | x :: xs, cs, ⟨c1, c2, e, h1, h2⟩ => by subst e; rw [List.length_append, T.len h1, h2.len, List.length_cons, Nat.succ_mul, Nat.add_comm]
theorem Reps.mono (hl : p.le q) : ∀ {xs : List α} {cs : List Value}, Reps T p cs xs → Reps T q cs xs
  | [], cs, h => h
  | x :: xs, cs, ⟨c1, c2, e, h1, h2⟩ => ⟨c1, c2, e, T.mono hl h1, h2.mono hl⟩
theorem Reps.one : ∀ {xs : List α} {cs : List Value}, Reps T p cs xs → cs.all one1 = true
  | [], cs, h => by cases h; rfl
  | x :: xs, cs, ⟨c1, c2, e, h1, h2⟩ => by subst e; rw [List.all_append, T.one h1, h2.one]; rfl
theorem Reps.append {ys : List α} {ds : List Value} : ∀ {xs : List α} {cs : List Value}, Reps T p cs xs → Reps T p ds ys → Reps T p (cs ++ ds) (xs ++ ys)
  | [], cs, h, hd => by cases h; simpa using hd
  | x :: xs, cs, ⟨c1, c2, e, h1, h2⟩, hd => by subst e; exact ⟨c1, c2 ++ ds, by simp, h1, Reps.append h2 hd⟩
theorem Reps.single {cs : List Value} {x : α} (h : T.rep p cs x) : Reps T p cs [x] := ⟨cs, [], by simp, h, rfl⟩
theorem Reps.drop : ∀ {xs : List α} {cs : List Value} (i : Nat), Reps T p cs xs → Reps T p (cs.drop (i * T.n)) (xs.drop i)
  | xs, cs, 0, h => by simpa using h
  | [], cs, i + 1, h => by cases h; simp; rfl
  | x :: xs, cs, i + 1, ⟨c1, c2, e, h1, h2⟩ => by
    subst e
    have := h2.drop i
    rw [List.drop_succ_cons, Nat.succ_mul, Nat.add_comm, ← List.drop_drop]
    rw [show List.drop T.n (c1 ++ c2) = c2 by rw [← T.len h1]; simp]
    exact this
theorem Reps.take : ∀ {xs : List α} {cs : List Value} (i : Nat), Reps T p cs xs → Reps T p (cs.take (i * T.n)) (xs.take i)
  | xs, cs, 0, h => by simp; rfl
  | [], cs, i + 1, h => by cases h; simp; rfl
  | x :: xs, cs, i + 1, ⟨c1, c2, e, h1, h2⟩ => by
    subst e
    have := h2.take i
    refine ⟨c1, c2.take (i * T.n), ?_, h1, this⟩
    rw [Nat.succ_mul, Nat.add_comm, ← T.len h1, List.take_length_add_append]
theorem Reps.at_ : ∀ {xs : List α} {cs : List Value} {i : Nat} {x : α}, Reps T p cs xs → xs[i]? = some x → T.rep p ((cs.drop (i * T.n)).take T.n) x
  | [], cs, i, x, h, e => by simp at e
  | y :: xs, cs, 0, x, ⟨c1, c2, e1, h1, h2⟩, e => by
    subst e1
    have e : y = x := by simpa using e
    subst e
    have : (List.drop (0 * T.n) (c1 ++ c2)).take T.n = c1 := by rw [Nat.zero_mul, List.drop_zero, ← T.len h1]; simp
    rw [this]; exact h1
  | y :: xs, cs, i + 1, x, ⟨c1, c2, e1, h1, h2⟩, e => by
    subst e1
    have := h2.at_ (i := i) (x := x) (by simpa using e)
    rw [Nat.succ_mul, Nat.add_comm, ← List.drop_drop]
    rw [show List.drop T.n (c1 ++ c2) = c2 by rw [← T.len h1]; simp]
    exact this
theorem Reps.set : ∀ {xs : List α} {cs : List Value} {i : Nat} {c : List Value} {x : α}, Reps T p cs xs → T.rep p c x → i < xs.length → Reps T p (setRow cs (i * T.n) c) (xs.set i x)
  | [], cs, i, c, x, h, hx, hi => by simp at hi
  | y :: xs, cs, 0, c, x, ⟨c1, c2, e1, h1, h2⟩, hx, hi => by
    subst e1
    have key : ∀ (c c1 : List Value) (off : Nat) (pre : List Value), c.length = c1.length → pre.length = off → setRow (pre ++ (c1 ++ c2)) off c = pre ++ (c ++ c2) := by
      intro c
      induction c with
      | nil => intro c1 off pre hl hp; cases c1 with | nil => rfl | cons _ _ => simp at hl
      | cons u c ih =>
        intro c1 off pre hl hp
        cases c1 with
        | nil => simp at hl
        | cons v c1 =>
          simp only [setRow]
          rw [show (pre ++ (v :: c1 ++ c2)).set off u = (pre ++ [u]) ++ (c1 ++ c2) by subst hp; simp]
          rw [ih c1 (off + 1) (pre ++ [u]) (by simpa using hl) (by simp [hp])]
          simp
    have := key c c1 0 [] (by rw [T.len hx, T.len h1]) rfl
    simp only [List.nil_append, Nat.zero_mul] at this ⊢
    rw [this]
    exact ⟨c, c2, rfl, hx, h2⟩
  | y :: xs, cs, i + 1, c, x, ⟨c1, c2, e1, h1, h2⟩, hx, hi => by
    subst e1
    have ih := h2.set (i := i) (c := c) hx (by simpa using hi)
    have key : ∀ (c : List Value) (c2 : List Value) (off : Nat), setRow (c1 ++ c2) (c1.length + off) c = c1 ++ setRow c2 off c := by
      intro c
      induction c with
      | nil => intro c2 off; rfl
      | cons u c ih =>
        intro c2 off
        simp only [setRow]
        rw [show (c1 ++ c2).set (c1.length + off) u = c1 ++ c2.set off u by rw [List.set_append_right _ _ (by omega)]; simp]
        rw [Nat.add_assoc, ih]
    rw [Nat.succ_mul, Nat.add_comm, ← T.len h1, key]
    rw [T.len h1]
    exact ⟨c1, _, rfl, h1, ih⟩
structure Arr (p : Psi) (T : Ty α) (A : Option Addr) (c : Nat) (xs : List α) : Prop where
  cap : xs.length ≤ c
  len : xs.length ≤ 140737488355328
  row : ∃ cs, Reps T p cs xs ∧ (0 < xs.length → ∃ ad, A = some ad ∧ Cells p ad cs)
theorem Arr.mono {A : Option Addr} {c : Nat} {xs : List α} (h : Arr p T A c xs) (k : p.le q) : Arr q T A c xs := by
  obtain ⟨h1, h0, cs, h2, h3⟩ := h
  exact ⟨h1, h0, cs, h2.mono k, fun hn => by obtain ⟨ad, e, hc⟩ := h3 hn; exact ⟨ad, e, hc.mono k⟩⟩
theorem Arr.nil {A : Option Addr} {c : Nat} : Arr p T A c [] := ⟨Nat.zero_le _, by simp, [], rfl, fun h => absurd h (by simp)⟩
theorem Arr.at_ {A : Option Addr} {c : Nat} {xs : List α} (h : Arr p T A c xs) {i : Nat} {x : α} (hi : xs[i]? = some x) : ∃ ad cs, A = some ad ∧ T.rep p cs x ∧ Cells p (ad.add (i * T.n)) cs := by
  obtain ⟨_, _, cs, h2, h3⟩ := h
  have hlt : i < xs.length := by
    rcases Nat.lt_or_ge i xs.length with h | h
    · exact h
    · rw [List.getElem?_eq_none h] at hi; cases hi
  obtain ⟨ad, e, hc⟩ := h3 (by omega)
  exact ⟨ad, _, e, h2.at_ hi, hc.part _ _⟩
def tyArr (T : Ty α) : Ty (List α) := ⟨1, by decide, fun p cs xs => ∃ A c, cs = [.slice A xs.length c] ∧ Arr p T A c xs,
  fun ⟨_, _, e, _⟩ => by subst e; rfl, fun ⟨_, _, e, _⟩ => by subst e; rfl, fun k ⟨A, c, e, h⟩ => ⟨A, c, e, h.mono k⟩⟩
def RowK (k : Option Bk) (g : Nat) (et : TypeId) (cs : List Value) : Prop := k = some ⟨g, .ty et, cs⟩ ∨ k = some ⟨g, .ms et, cs⟩
theorem RowK.obj {k : Bk} {g : Nat} {et : TypeId} {cs : List Value} (h : RowK (some k) g et cs) : k.g = g ∧ k.cs = cs ∧ ∃ fz, k.obj = .cells cs.toArray et fz := by
  rcases h with h | h <;> injection h with h <;> subst h
  · exact ⟨rfl, rfl, _, rfl⟩
  · exact ⟨rfl, rfl, _, rfl⟩
theorem RowK.some_ {k : Option Bk} {g : Nat} {et : TypeId} {cs : List Value} (h : RowK k g et cs) : ∃ kb, k = some kb ∧ kb.g = g ∧ kb.cs = cs ∧ RowK (some kb) g et cs ∧ ∃ fz, kb.obj = .cells cs.toArray et fz := by
  rcases h with rfl | rfl
  · exact ⟨_, rfl, rfl, rfl, .inl rfl, _, rfl⟩
  · exact ⟨_, rfl, rfl, rfl, .inr rfl, _, rfl⟩
def Buf (p : Psi) (T : Ty α) (et : TypeId) (v : Value) (k : Option Bk) (xs : List α) : Prop :=
  xs.length ≤ 140737488355328 ∧ ((v = .slice none 0 0 ∧ xs = [] ∧ k = none) ∨
  ∃ g cap cs sp, v = .slice (some ⟨g, 0, none⟩) xs.length cap ∧ RowK k g et (cs ++ sp) ∧ Reps T p cs xs ∧ (cs ++ sp).length = cap * T.n ∧ cap ≤ maxLen)
theorem Buf.mono {et : TypeId} {v : Value} {k : Option Bk} {xs : List α} (h : Buf p T et v k xs) (hl : p.le q) : Buf q T et v k xs := by
  rcases h with ⟨h0, h | ⟨g, cap, cs, sp, h1, h2, h3, h4, h5⟩⟩
  · exact ⟨h0, .inl h⟩
  · exact ⟨h0, .inr ⟨g, cap, cs, sp, h1, h2, h3.mono hl, h4, h5⟩⟩
theorem Buf.nil {et : TypeId} : Buf p T et (.slice none 0 0) none ([] : List α) := ⟨by simp, .inl ⟨rfl, rfl, rfl⟩⟩
theorem Buf.len {et : TypeId} {v : Value} {k : Option Bk} {xs : List α} (h : Buf p T et v k xs) : xs.length ≤ 140737488355328 := h.1
theorem Buf.val {et : TypeId} {v : Value} {k : Option Bk} {xs : List α} (h : Buf p T et v k xs) : ∃ A c, v = .slice A xs.length c ∧ xs.length ≤ c := by
  rcases h.2 with ⟨rfl, rfl, _⟩ | ⟨g, cap, cs, sp, h1, h2, h3, h4, h5⟩
  · exact ⟨none, 0, rfl, Nat.le_refl _⟩
  · refine ⟨_, cap, h1, ?_⟩
    rw [List.length_append, h3.len] at h4
    have : xs.length * T.n ≤ cap * T.n := by omega
    exact Nat.le_of_mul_le_mul_right this T.pos
theorem one_cell' {v : Value} (h : one1 v = true) : v.oneCell' = true := by cases v <;> first | (cases h; done) | rfl
theorem all_one' {cs : List Value} (h : cs.all one1 = true) : ∀ u ∈ cs, u.oneCell' = true := fun u hu => one_cell' (List.all_eq_true.1 h u hu)
theorem perm_erase {β : Type} : ∀ {l : List β} {i : Nat} {x : β}, l[i]? = some x → l.Perm (x :: l.eraseIdx i)
  | [], i, x, h => by simp at h
  | y :: l, 0, x, h => by have h : y = x := by simpa using h
                          subst h; exact List.Perm.refl _
  | y :: l, i + 1, x, h => by
    have h1 := perm_erase (l := l) (i := i) (x := x) (by simpa using h)
    rw [List.eraseIdx_cons_succ]
    exact (h1.cons y).trans (List.Perm.swap x y _)
theorem St.swap {w w' : World} {g : Gh} {own : Own} (h : St w g own) {i : Nat} {x : Option Bk} (hi : own[i]? = some x) (k' : Option Bk)
    (hos : w'.os = w.os) (htape : w'.tape = w.tape) (hout : w'.output = w.output) (hb : ∀ b, b < w.heap.size → (∀ k, x = some k → b ≠ k.g) → w'.heap[b]? = w.heap[b]?)
    (hk : ∀ k, k' = some k → w'.heap[k.g]? = some k.obj ∧ ((∃ k0, x = some k0 ∧ k0.g = k.g) ∨ w.heap.size ≤ k.g)) : St w' g (own.set i k') := by
  have hx : ∀ k0, x = some k0 → some k0 ∈ own := fun k0 e => List.mem_of_getElem? (e ▸ hi)
  have hother : ∀ k, some k ∈ own.set i k' → k' = some k ∨ (some k ∈ own ∧ ∀ k0, x = some k0 → k.g ≠ k0.g) := by
    intro k hk1
    cases x with
    | some k0 =>
      rcases Own.other h.nodup hi hk1 with e | ⟨e, e2⟩
      · exact .inl e
      · exact .inr ⟨e, fun k1 hk1 => by injection hk1 with hk1; subst hk1; exact e2⟩
    | none =>
      rcases List.mem_or_eq_of_mem_set hk1 with e | e
      · exact .inr ⟨e, fun k0 hk0 => by cases hk0⟩
      · exact .inl e.symm
  refine ⟨⟨hos.trans h.r.os, htape.trans h.r.tape, hout.trans h.r.out, fun b o e => ?_⟩, ?_, ?_, ?_⟩
  · have h1 := h.r.m b o e
    have hlt : b < w.heap.size := by
      rcases Nat.lt_or_ge b w.heap.size with h2 | h2
      · exact h2
      · rw [Array.getElem?_eq_none h2] at h1; cases h1
    rw [hb b hlt fun k0 e0 eq => by rw [eq, h.free k0 (hx k0 e0)] at e; cases e]
    exact h1
  ·
    have hlt : i < own.length := (List.getElem?_eq_some_iff.1 hi).1
    have hperm : (own.set i k').Perm (k' :: own.eraseIdx i) := by
      have h2 := perm_erase (l := own.set i k') (i := i) (x := k') (by simp [List.getElem?_set, hlt])
      rwa [List.eraseIdx_set_eq] at h2
    have hperm0 : own.Perm (x :: own.eraseIdx i) := perm_erase hi
    have hn0 := (Own.ids_perm hperm0).nodup_iff.1 h.nodup
    refine (Own.ids_perm hperm).nodup_iff.2 ?_
    cases k' with
    | none =>
      rw [Own.ids_cons] at hn0 ⊢
      cases x <;> simp_all
    | some k =>
      have hn1 : (Own.ids (own.eraseIdx i)).Nodup := by rw [Own.ids_cons] at hn0; exact (List.nodup_append.1 hn0).2.1
      rw [Own.ids_cons]
      simp only [List.cons_append, List.nil_append, List.nodup_cons]
      refine ⟨fun hm => ?_, hn1⟩
      obtain ⟨j, hj, e⟩ := Own.of_ids hm
      have hjo : some j ∈ own := hperm0.mem_iff.2 (List.mem_cons_of_mem _ hj)
      rcases (hk k rfl).2 with ⟨k0, e0, e1⟩ | hge
      · subst e0
        rw [Own.ids_cons] at hn0
        simp at hn0
        exact hn0.1 (by rw [e1, ← e]; exact Own.mem_ids hj)
      · have := h.has.lt hjo
        omega
  · intro k hk1
    rcases hother k hk1 with e | ⟨e, e2⟩
    · exact (hk k e).1
    · rw [hb k.g (h.has.lt e) (fun k0 e0 => e2 k0 e0)]
      exact h.has k e
  · intro k hk1
    rcases hother k hk1 with e | ⟨e, e2⟩
    · rcases (hk k e).2 with ⟨k0, e0, e1⟩ | hge
      · rw [← e1]; exact h.free k0 (hx k0 e0)
      · exact h.r.lt hge
    · exact h.free k e
end
section
variable {P : Program} {n : Nat} {p : Psi} {own : Own} {sl : Sl} {ty : TypeId} {α : Type} {T : Ty α}
theorem run_indexAt_of {w : World} {t e : TypeId} {sz idx len c : Nat} {A : Addr} {k : IntKind} (hlt : idx < len) (ht : P.underlying t = some (.slice e)) (hs : cellsOfT P e = some sz) :
    (Instr.indexAt t (.slice (some A) len c) (.int k (idx : Int))).run P w = .ok (.pointer (some (A.add (idx * sz)))) w := by
  have h0 : (0 : Int) ≤ (idx : Int) ∧ (idx : Int) < (len : Int) := ⟨by omega, by omega⟩
  simp only [Instr.indexAt, asIntOf, run_underlying ht, Sem.run_bind, Sem.run_pure, Result.andThen_ok]
  split <;> simp [h0, run_sizeOf_of hs, hlt]
theorem y_index {t e : TypeId} {x i : Operand} {A : Addr} {len c sz : Nat} {k : IntKind} (idx : Nat) (hx : evS sl x = some (.slice (some A) len c)) (hi : evS sl i = some (.int k (idx : Int))) (hlt : idx < len) (ht : P.underlying t = some (.slice e)) (hs : cellsOfT P e = some sz) :
    Yld P n p own sl (.indexAddr t x i) ty (.pointer (some (A.add (idx * sz)))) := by
  intro o a w h1 h2 hf hr
  simp [execOp, h1, hf.ev hx, hf.ev hi, run_indexAt_of hlt ht hs]
theorem y_indexA {t e : TypeId} {x i : Operand} {A : Addr} {m sz : Nat} {k : IntKind} (idx : Nat) (hx : evS sl x = some (.pointer (some A))) (hi : evS sl i = some (.int k (idx : Int))) (ht : P.underlying t = some (.array m e)) (hlt : idx < m) (hs : cellsOfT P e = some sz) :
    Yld P n p own sl (.indexAddr t x i) ty (.pointer (some (A.add (idx * sz)))) := by
  intro o a w h1 h2 hf hr
  have h0 : (0 : Int) ≤ (idx : Int) ∧ (idx : Int) < (m : Int) := ⟨by omega, by omega⟩
  have : (Instr.indexAt t (.pointer (some A)) (.int k (idx : Int))).run P w = .ok (.pointer (some (A.add (idx * sz)))) w := by
    simp only [Instr.indexAt, asIntOf, run_underlying ht, Sem.run_bind, Sem.run_pure, Result.andThen_ok, Instr.sureAddr]
    split <;> simp [h0, run_sizeOf_of hs, hlt]
  simp [execOp, h1, hf.ev hx, hf.ev hi, this]
theorem y_loadP1 {t : TypeId} {x : Operand} {A : Addr} {cs : List Value} (off : Nat) {v : Value} (hx : evS sl x = some (.pointer (some (A.add off)))) (hc : Cells p A cs) (ht : flatOf P t = true) (hv : cs[off]? = some v) :
    Yld P n p own sl (.load t x) ty v := by
  intro o a w h1 h2 hf hr
  simp [execOp, h1, hf.ev hx, Instr.loadAt, Instr.sureAddr, run_loadVar_flat ht (hr.r.cell (hc off v hv))]
theorem y_loadPA {t : TypeId} {x : Operand} {A : Addr} {cs vs : List Value} (off : Nat) (hx : evS sl x = some (.pointer (some (A.add off)))) (hc : Cells p A cs) (ht : aggOf P t = some vs.length) (hv : (cs.drop off).take vs.length = vs) :
    Yld P n p own sl (.load t x) ty (.agg vs.toArray) := by
  intro o a w h1 h2 hf hr
  have : (loadVar t (A.add off)).run P w = .ok (.agg vs.toArray) w := run_loadVar_agg ht fun j v hj => by
    rw [add_add]
    rw [← hv] at hj
    exact hr.r.cell (hc _ v (take_drop_get hj))
  simp [execOp, h1, hf.ev hx, Instr.loadAt, Instr.sureAddr, this]
def offA (A : Option Addr) (c l sz : Nat) : Option Addr := if c = l then A else A.map (·.add (l * sz))
theorem run_slice_of {w : World} {t e : TypeId} {sz len c l h : Nat} {A : Option Addr} {lo hi : Option Value} (ht : P.underlying t = some (.slice e)) (hs : cellsOfT P e = some sz)
    (hlo : (lo = none ∧ l = 0) ∨ ∃ k, lo = some (.int k (l : Int))) (hhi : (hi = none ∧ h = len) ∨ ∃ k, hi = some (.int k (h : Int))) (h1 : l ≤ h) (h2 : h ≤ c) :
    (Instr.sliceAt t (.slice A len c) lo hi none).run P w = .ok (.slice (offA A c l sz) (h - l) (c - l)) w := by
  have hb : (Instr.sliceBounds true len c lo hi none).run P w = .ok (l, h, c) w := by
    have e1 : (0 : Int) ≤ (l : Int) ∧ (l : Int) ≤ (h : Int) := ⟨by omega, by omega⟩
    have e2 : (0 : Int) ≤ (h : Int) ∧ (h : Int) ≤ (c : Int) := ⟨by omega, by omega⟩
    rcases hlo with ⟨rfl, rfl⟩ | ⟨k, rfl⟩ <;> rcases hhi with ⟨rfl, rfl⟩ | ⟨k2, rfl⟩ <;> simp [Instr.sliceBounds, Instr.sliceBound, asIntOf, e1, e2, h1, h2]
  simp [Instr.sliceAt, Instr.slice, run_underlying ht, hb, run_sizeOf_of hs, offA]
theorem y_slice {t e : TypeId} {x : Operand} {lo hi : Option Operand} {sz len c : Nat} (l h : Nat) {A : Option Addr} (m : Nat) (hx : evS sl x = some (.slice A len c)) (ht : P.underlying t = some (.slice e)) (hs : cellsOfT P e = some sz)
    (hlo : (lo = none ∧ l = 0) ∨ ∃ k y, lo = some y ∧ evS sl y = some (.int k (l : Int))) (hhi : (hi = none ∧ h = len) ∨ ∃ k y, hi = some y ∧ evS sl y = some (.int k (h : Int))) (h1 : l ≤ h) (h2 : h ≤ c) (hm : h - l = m) :
    Yld P n p own sl (.slice t x lo hi none) ty (.slice (offA A c l sz) m (c - l)) := by
  intro o a w e1 e2 hf hr
  subst hm
  have := run_slice_of (P := P) (w := w) (A := A) (lo := lo.map a.eval) (hi := hi.map a.eval) ht hs
    (hlo.imp (fun ⟨e, z⟩ => ⟨by rw [e]; rfl, z⟩) (fun ⟨k, y, e, hy⟩ => ⟨k, by rw [e]; simp [hf.ev hy]⟩))
    (hhi.imp (fun ⟨e, z⟩ => ⟨by rw [e]; rfl, z⟩) (fun ⟨k, y, e, hy⟩ => ⟨k, by rw [e]; simp [hf.ev hy]⟩)) h1 h2
  simp [execOp, e1, hf.ev hx, this]
theorem Arr.cut {A : Option Addr} {c : Nat} {xs : List α} (h : Arr p T A c xs) (l m : Nat) (h1 : l ≤ m) (h2 : m ≤ xs.length) : Arr p T (offA A c l T.n) (c - l) ((xs.drop l).take (m - l)) := by
  obtain ⟨hc, hl0, cs, hr, hrow⟩ := h
  refine ⟨by rw [List.length_take, List.length_drop]; omega, by rw [List.length_take, List.length_drop]; omega, (cs.drop (l * T.n)).take ((m - l) * T.n), (hr.drop l).take _, fun hn => ?_⟩
  rw [List.length_take, List.length_drop] at hn
  obtain ⟨ad, e, hcells⟩ := hrow (by omega)
  subst e
  refine ⟨ad.add (l * T.n), ?_, hcells.part _ _⟩
  unfold offA
  rw [if_neg (by omega)]
  rfl
theorem Arr.cut_from {A : Option Addr} {c : Nat} {xs : List α} (h : Arr p T A c xs) (l : Nat) (h1 : l ≤ xs.length) : Arr p T (offA A c l T.n) (c - l) (xs.drop l) := by
  have := h.cut l xs.length h1 (Nat.le_refl _)
  rwa [List.take_of_length_le (by simp)] at this
theorem mkS_toList (l : List UInt8) : (mkS l).toList = l := by
  have : ∀ (b : ByteArray) (i : Nat) (r : List UInt8), ByteArray.toList.loop b i r = r.reverse ++ b.data.toList.drop i := by
    intro b
    have key : ∀ (k i : Nat) (r : List UInt8), b.size - i = k → ByteArray.toList.loop b i r = r.reverse ++ b.data.toList.drop i := by
      intro k
      induction k with
      | zero =>
        intro i r hk
        rw [ByteArray.toList.loop.eq_1, if_neg (by omega), List.drop_of_length_le (by rw [Array.length_toList]; have : b.size = b.data.size := rfl; omega)]
        simp
      | succ k ih =>
        intro i r hk
        have hlt : i < b.size := by omega
        rw [ByteArray.toList.loop.eq_1, if_pos hlt, ih (i + 1) _ (by omega)]
        have hlt' : i < b.data.toList.length := by rw [Array.length_toList]; exact hlt
        rw [List.drop_eq_getElem_cons hlt']
        have hg : b.get! i = b.data.toList[i] := by
          simp only [ByteArray.get!]
          rw [getElem!_pos b.data i (by rw [Array.length_toList] at hlt'; exact hlt')]
          rw [Array.getElem_toList]
        rw [hg, List.reverse_cons, List.append_assoc]
        rfl
    exact fun i r => key _ i r rfl
  have := this (mkS l) 0 []
  unfold ByteArray.toList
  rw [this]
  simp [mkS]
theorem mkS_size (l : List UInt8) : (mkS l).size = l.length := by show l.toArray.size = _; simp
theorem tyU8_reps {cs : List Value} : ∀ {l : List UInt8}, Reps tyU8 p cs l → cs = l.map fun x => .int .u8 (x.toNat : Int)
  | l, h => by
    induction l generalizing cs with
    | nil => exact h
    | cons x l ih =>
      obtain ⟨c1, c2, e, h1, h2⟩ := h
      have h1 : c1 = [.int .u8 (x.toNat : Int)] := h1
      subst e; subst h1
      rw [ih h2]
      rfl
theorem reps_tyU8 : ∀ {l : List UInt8}, Reps tyU8 p (l.map fun x => .int .u8 (x.toNat : Int)) l
  | [] => rfl
  | x :: l => ⟨[.int .u8 (x.toNat : Int)], _, rfl, rfl, reps_tyU8⟩
theorem run_str_of {w : World} {src dst e : TypeId} {A : Option Addr} {c : Nat} {l : List UInt8} (hr : p.In w) (h : Arr p tyU8 A c l) (hs : P.underlying src = some (.slice e)) (he : P.underlying e = some (.int .u8)) (hd : P.underlying dst = some .string) :
    (convert src dst (.slice A l.length c)).run P w = .ok (.string (mkS l)) w := by
  rw [run_convert_bytes_string w src dst e _ _ _ hs he hd]
  obtain ⟨hc, hl0, cs, hrep, hrow⟩ := h
  have hcs := tyU8_reps hrep
  subst hcs
  by_cases hn : 0 < l.length
  · obtain ⟨ad, rfl, hcells⟩ := hrow hn
    have hl : (loadCells ad l.length).run P w = .ok ((l.map fun x => (x.toNat : Int)).map (Value.int .u8)).toArray w := by
      have := run_loadCells_of (P := P) (w := w) (a := ad) (cs := l.map fun x => Value.int .u8 (x.toNat : Int)) (fun j v hj => hr.cell (hcells j v hj))
      rw [List.length_map] at this
      rw [this, List.map_map]
      rfl
    rw [run_bytesToString w ad _ c _ hl, foldl_push_bytes]
    simp [mkS, ByteArray.empty, ByteArray.emptyWithCapacity, Function.comp_def]
    rfl
  · have : l = [] := List.eq_nil_of_length_eq_zero (by omega)
    subst this
    cases A with
    | none => simp [Conv.bytesToString]; rfl
    | some ad => simp [Conv.bytesToString, loadCells, loadCellsFrom]; rfl
theorem y_str {src dst e : TypeId} {x : Operand} {A : Option Addr} {c : Nat} {l : List UInt8} (hx : evS sl x = some (.slice A l.length c)) (h : Arr p tyU8 A c l) (hs : P.underlying src = some (.slice e)) (he : P.underlying e = some (.int .u8)) (hd : P.underlying dst = some .string) :
    Yld P n p own sl (.convert src dst x) ty (.string (mkS l)) := by
  intro o a w h1 h2 hf hr
  simp [execOp, h1, hf.ev hx, run_str_of hr.r h hs he hd]
theorem y_eqS {t u : TypeId} {x y : Operand} {a b : List UInt8} (hx : evS sl x = some (.string (mkS a))) (hy : evS sl y = some (.string (mkS b))) : Yld P n p own sl (.binOp .eql t x y u) ty (.bool (a == b)) := by
  refine y_of (defd_bin hx hy) fun w _ => ?_
  simp [execOp, bareO, rhoS, hx, hy, eqGuard, binOp, Op.stringOp, mkS_toList]
theorem y_neS {t u : TypeId} {x y : Operand} {a b : List UInt8} (hx : evS sl x = some (.string (mkS a))) (hy : evS sl y = some (.string (mkS b))) : Yld P n p own sl (.binOp .neq t x y u) ty (.bool (!(a == b))) := by
  refine y_of (defd_bin hx hy) fun w _ => ?_
  simp [execOp, bareO, rhoS, hx, hy, eqGuard, binOp, Op.stringOp, mkS_toList]
end
section
variable {P : Program} {n : Nat} {g : Gh} {own : Own} {sl : Sl} {ty : TypeId} {α : Type} {T : Ty α} {p : Psi}
def Src (w : World) (A : Option Addr) (m : Nat) (news : List Value) : Prop := 0 < m → ∃ ad, A = some ad ∧ ∀ j u, news[j]? = some u → w.cell? (ad.add j) = some u
theorem Arr.src {A : Option Addr} {c : Nat} {xs : List α} (h : Arr p T A c xs) : ∃ news, Reps T p news xs ∧ ∀ w, p.In w → Src w A xs.length news := by
  obtain ⟨hc, hl0, cs, hrep, hrow⟩ := h
  exact ⟨cs, hrep, fun w hw hn => by obtain ⟨ad, e, hcells⟩ := hrow hn; exact ⟨ad, e, fun j u hu => hw.cell (hcells j u hu)⟩⟩
theorem Buf.src {et : TypeId} {A : Option Addr} {c : Nat} {k : Option Bk} {xs : List α} (h : Buf p T et (.slice A xs.length c) k xs) : ∃ news, Reps T p news xs ∧ ∀ w, (∀ b, k = some b → w.heap[b.g]? = some b.obj) → Src w A xs.length news := by
  rcases h.2 with ⟨h1, h2, h3⟩ | ⟨b, cap, cs, sp, h1, h2, h3, h4, h5⟩
  · subst h2
    exact ⟨[], rfl, fun w _ hn => absurd hn (by simp)⟩
  · refine ⟨cs, h3, fun w hw hn => ?_⟩
    injection h1 with hA _ _
    subst hA
    refine ⟨_, rfl, fun j u hu => ?_⟩
    rw [addr_add]
    have hcell : w.cell? ⟨b, 0 + j, none⟩ = (cs ++ sp)[j]? := by
      rcases h2 with h2 | h2
      · have := hw _ h2; simp [World.cell?, this, Bk.obj]
      · have := hw _ h2; simp [World.cell?, this, Bk.obj]
    rw [hcell, List.getElem?_append_left (by rcases Nat.lt_or_ge j cs.length with h | h; exact h; rw [List.getElem?_eq_none h] at hu; cases hu)]
    exact hu
structure AppT (P : Program) (t et : TypeId) (sz bytes : Nat) : Prop where
  out : ∃ i z, P.underlying t = some (.slice et) ∧ P.info? et = some i ∧ i.zero = some z ∧ i.size = sz ∧ i.bytes = bytes ∧ z.cells.size = sz
def appT (P : Program) (t et : TypeId) : Option (Nat × Nat) :=
  match P.underlying t, P.info? et with
  | some (.slice e), some i => match i.zero with
    | some z => if e = et ∧ z.cells.size = i.size then some (i.size, i.bytes) else none
    | none => none
  | _, _ => none
theorem AppT.of {t et : TypeId} {sz bytes : Nat} (h : appT P t et = some (sz, bytes)) : AppT P t et sz bytes := by
  unfold appT at h
  split at h
  · rename_i e i h1 h2
    split at h
    · rename_i z hz
      split at h
      · rename_i hc
        simp only [Option.some.injEq, Prod.mk.injEq] at h
        exact ⟨i, z, by rw [h1, hc.1], h2, hz, h.1, h.2, hc.2.trans h.1⟩
      · cases h
    · cases h
  · cases h
theorem run_append_none {w : World} {t ty' e : TypeId} {sz : Nat} (ht : P.underlying t = some (.slice e)) (hs : cellsOfT P e = some sz) {A : Option Addr} {l c c2 : Nat} (hlc : l ≤ c) :
    (Builtin.append_ #[t, t] ty' #[.slice A l c, .slice none 0 c2]).run P w = .ok (.slice A l c) w := by
  cases A <;> simp [Builtin.append_, run_underlying ht, run_sizeOf_of hs, Builtin.lenOf, hlc, Builtin.firstCells, storeCells]
def Buf0 (p : Psi) (T : Ty α) (et : TypeId) (v : Value) (k : Option Bk) (xs : List α) : Prop :=
  xs.length ≤ 140737488355328 ∧ ((v = .slice none 0 0 ∧ xs = [] ∧ k = none) ∨
  ∃ g cap cs sp, v = .slice (some ⟨g, 0, none⟩) xs.length cap ∧ k = some ⟨g, et, cs ++ sp⟩ ∧ Reps T p cs xs ∧ (cs ++ sp).length = cap * T.n ∧ cap ≤ maxLen)
theorem Buf0.toBuf {et : TypeId} {v : Value} {k : Option Bk} {xs : List α} (h : Buf0 p T et v k xs) : Buf p T et v k xs := by
  rcases h with ⟨h0, h | ⟨g, cap, cs, sp, h1, h2, h3⟩⟩
  · exact ⟨h0, .inl h⟩
  · exact ⟨h0, .inr ⟨g, cap, cs, sp, h1, .inl h2, h3⟩⟩
theorem Buf0.val {et : TypeId} {v : Value} {k : Option Bk} {xs : List α} (h : Buf0 p T et v k xs) : ∃ A c, v = .slice A xs.length c ∧ xs.length ≤ c := h.toBuf.val
theorem setRow_take : ∀ (vs l : List Value) (o : Nat), o + vs.length ≤ l.length → setRow l o vs = l.take o ++ vs ++ l.drop (o + vs.length)
  | [], l, o, _ => by simp [setRow]
  | v :: vs, l, o, h => by
    simp only [List.length_cons] at h
    have ih := setRow_take vs (l.set o v) (o + 1) (by rw [List.length_set]; omega)
    show setRow (l.set o v) (o + 1) vs = _
    rw [ih]
    have e1 : (l.set o v).take (o + 1) = l.take o ++ [v] := by
      rw [List.take_succ_eq_append_getElem (by rw [List.length_set]; omega)]
      simp [List.take_set_of_le]
    have e2 : (l.set o v).drop (o + 1 + vs.length) = l.drop (o + (v :: vs).length) := by
      rw [List.drop_set_of_lt (by omega), List.length_cons]
      congr 1; omega
    rw [e1, e2]
    simp
theorem run_append_of0 {w : World} {own : Own} {t ty' et : TypeId} {bytes : Nat} (ha : AppT P t et T.n bytes) (hs : St w g own) {i : Nat} {v : Value} {k : Option Bk} {xs : List α} (hi : own[i]? = some k) (hb : Buf0 p T et v k xs)
    {A : Option Addr} {m c : Nat} {news : List Value} {ys : List α} (hm : m = ys.length) (hsrc : Src w A m news) (hrep : Reps T p news ys) (hbytes : (xs.length + ys.length) * bytes ≤ 140737488355328) (hlen : xs.length + ys.length ≤ 140737488355328) :
    ∃ v' k' w', (Builtin.append_ #[t, t] ty' #[v, .slice A m c]).run P w = .ok v' w' ∧ Buf p T et v' k' (xs ++ ys) ∧ St w' g (own.set i k') := by
  obtain ⟨inf, z, ht, hinf, hz, hsz, hby, hzs⟩ := ha.out
  have hcell : cellsOfT P et = some T.n := by simp [cellsOfT, hinf, hsz]
  subst hm
  by_cases hy : ys = []
  · subst hy
    have hnews : news = [] := hrep
    obtain ⟨A1, c1, rfl, hc1⟩ := hb.val
    have same : own.set i k = own := by
      apply List.ext_getElem?
      intro j
      rw [List.getElem?_set]
      split
      · rename_i e; subst e
        split
        · exact hi.symm
        · rename_i hlt; rw [List.getElem?_eq_none (by omega)]
      · rfl
    refine ⟨.slice A1 xs.length c1, k, w, ?_, by simpa using hb.toBuf, by rw [same]; exact hs⟩
    cases A with
    | none => exact run_append_none ht hcell hc1
    | some ad => cases A1 <;> simp [Builtin.append_, run_underlying ht, run_sizeOf_of hcell, Builtin.lenOf, hc1, Builtin.firstCells, loadCells, loadCellsFrom, storeCells]
  · have hpos : 0 < ys.length := List.length_pos_iff.2 hy
    obtain ⟨ad, rfl, hnews⟩ := hsrc hpos
    -- what is one's own, in the kit's word
    have hown : ∃ cs, Reps T p cs xs ∧ w.ownsRow 0 et T.n v xs.length cs ∧ (∀ b, v.ownBlock = some b → ∃ kb, k = some kb ∧ kb.g = b) := by
      rcases hb.2 with ⟨rfl, rfl, rfl⟩ | ⟨b, cap, cs, sp, rfl, rfl, h3, h4, h5⟩
      · exact ⟨[], rfl, World.ownsRow_nil w 0 et T.n, fun b hb => by simp [Value.ownBlock] at hb⟩
      · refine ⟨cs, h3, ⟨h3.len, .inr ⟨b, cap, _, rfl, Nat.zero_le _, hs.has _ (List.mem_of_getElem? hi), ?_, h5, by simpa using h4, ?_⟩⟩, fun b' hb => ⟨_, rfl, by simpa [Value.ownBlock] using hb⟩⟩
        · rw [List.length_append, h3.len] at h4
          exact Nat.le_of_mul_le_mul_right (by omega : xs.length * T.n ≤ cap * T.n) T.pos
        · simp [← h3.len]
    obtain ⟨cs, hrx, how, hblk⟩ := hown
    obtain ⟨v', w', hrun, how', hgrow, _, hat⟩ := run_append_own_at (P := P) w 0 t ty' et inf z T.n bytes ht hinf hz hsz hby hzs T.pos v xs.length cs how ad ys.length c news hrep.len hnews (all_one' hrep.one) (by simp only [maxLen]; omega) hbytes (Nat.zero_le _)
    have hlenpos : 0 < xs.length + ys.length := by omega
    rcases how'.2 with ⟨rfl, hz0⟩ | ⟨b', cap, cur, rfl, _, hheap, hnc, hcm, hcs, htake⟩
    · omega
    · refine ⟨_, some ⟨b', et, cur.toList⟩, w', hrun, ?_, ?_⟩
      · have hc2 : cur.toList = (cs ++ news) ++ cur.toList.drop ((xs.length + ys.length) * T.n) := by rw [← htake, List.take_append_drop]
        refine ⟨by rw [List.length_append]; exact hlen, .inr ⟨b', cap, cs ++ news, cur.toList.drop ((xs.length + ys.length) * T.n), by rw [List.length_append], by exact .inl (by rw [← hc2]), hrx.append hrep, ?_, hcm⟩⟩
        rw [← hc2]; simpa using hcs
      · refine hs.swap hi _ hgrow.os hgrow.tape hgrow.output (fun b hb hne => hgrow.block b hb fun e => ?_) fun k' hk' => ?_
        · obtain ⟨kb, e1, e2⟩ := hblk b e.symm
          exact hne kb e1 e2.symm
        · injection hk' with hk'
          subst hk'
          refine ⟨by simpa [Bk.obj_ty] using hheap, ?_⟩
          rcases hat with h1 | h1
          · left
            obtain ⟨kb, e1, e2⟩ := hblk b' (by rw [← h1]; rfl)
            exact ⟨kb, e1, e2⟩
          · right
            have : b' = w.heap.size := by simpa [Value.ownBlock] using h1
            exact Nat.le_of_eq this.symm
theorem run_append_ms {w : World} {own : Own} {t ty' et : TypeId} {bytes : Nat} (ha : AppT P t et T.n bytes) (hs : St w g own) {i : Nat} {b cap : Nat} {cs sp : List Value} {xs : List α} (hi : own[i]? = some (some ⟨b, .ms et, cs ++ sp⟩)) (h3 : Reps T p cs xs) (h4 : (cs ++ sp).length = cap * T.n) (h5 : cap ≤ maxLen) (h0 : xs.length ≤ 140737488355328)
    {A : Option Addr} {m c : Nat} {news : List Value} {ys : List α} (hm : m = ys.length) (hsrc : Src w A m news) (hrep : Reps T p news ys) (hbytes : (xs.length + ys.length) * bytes ≤ 140737488355328) (hlen : xs.length + ys.length ≤ 140737488355328) :
    ∃ v' k' w', (Builtin.append_ #[t, t] ty' #[.slice (some ⟨b, 0, none⟩) xs.length cap, .slice A m c]).run P w = .ok v' w' ∧ Buf p T et v' k' (xs ++ ys) ∧ St w' g (own.set i k') := by
  obtain ⟨inf, z, ht, hinf, hz, hsz, hby, hzs⟩ := ha.out
  have hcell : cellsOfT P et = some T.n := by simp [cellsOfT, hinf, hsz]
  subst hm
  have hcx : cs.length = xs.length * T.n := h3.len
  have hle : xs.length ≤ cap := by
    have : xs.length * T.n ≤ cap * T.n := by rw [← h4, ← hcx, List.length_append]; omega
    exact Nat.le_of_mul_le_mul_right this T.pos
  by_cases hy : ys = []
  · subst hy
    have hnews : news = [] := hrep
    have same : own.set i (some ⟨b, .ms et, cs ++ sp⟩) = own := by
      apply List.ext_getElem?
      intro j
      rw [List.getElem?_set]
      split
      · rename_i e; subst e
        split
        · exact hi.symm
        · rename_i hlt; rw [List.getElem?_eq_none (by omega)]
      · rfl
    refine ⟨.slice (some ⟨b, 0, none⟩) xs.length cap, some ⟨b, .ms et, cs ++ sp⟩, w, ?_, by rw [List.append_nil]; exact ⟨h0, .inr ⟨b, cap, cs, sp, rfl, .inr rfl, h3, h4, h5⟩⟩, by rw [same]; exact hs⟩
    cases A with
    | none => exact run_append_none ht hcell hle
    | some ad => simp [Builtin.append_, run_underlying ht, run_sizeOf_of hcell, Builtin.lenOf, hle, Builtin.firstCells, loadCells, loadCellsFrom, storeCells]
  · have hpos : 0 < ys.length := List.length_pos_iff.2 hy
    obtain ⟨ad, rfl, hnews⟩ := hsrc hpos
    have hnl : news.length = ys.length * T.n := hrep.len
    by_cases hroom : xs.length + ys.length ≤ cap
    · have hfit : xs.length * T.n + news.length ≤ (cs ++ sp).length := by rw [hnl, h4, ← Nat.add_mul]; exact Nat.mul_le_mul_right _ hroom
      obtain ⟨w', hst, hs'⟩ := run_storeCells_own (P := P) (g := g) (i := i) (k := ⟨b, .ms et, cs ++ sp⟩) (vs := news) (own := own) (off := xs.length * T.n) (cs ++ sp) 0 hs hi (fun v hv => List.all_eq_true.1 hrep.one v hv) (by simpa using hfit)
      have hf := run_firstCells_some (P := P) w T.n ys.length ad ys.length c news hnl hnews
      refine ⟨.slice (some ⟨b, 0, none⟩) (xs.length + ys.length) cap, some ⟨b, .ms et, setRow (cs ++ sp) (xs.length * T.n + 0) news⟩, w', ?_, ?_, hs'⟩
      · have hst : (storeCells ⟨b, xs.length * T.n, none⟩ news).run P w = .ok () w' := hst
        simp [Builtin.append_, run_underlying ht, run_sizeOf_of hcell, Builtin.lenOf, hroom, hf, Addr.add_lit, hst]
      · rw [Nat.add_zero, setRow_take _ _ _ hfit, ← hcx, List.take_left, List.drop_append, ← List.length_append]
        refine ⟨by rw [List.length_append]; exact hlen, .inr ⟨b, cap, cs ++ news, _, by rw [List.length_append], .inr rfl, h3.append hrep, ?_, h5⟩⟩
        have e := congrArg List.length (setRow_take news (cs ++ sp) (xs.length * T.n) hfit)
        rw [setRow_length, h4, ← hcx, List.take_left, List.drop_append] at e
        rw [e]
    · have holds : ∀ j u, cs[j]? = some u → w.cell? ((⟨b, 0, none⟩ : Addr).add j) = some u := fun j u hu => by
        have hk := hs.has _ (List.mem_of_getElem? hi)
        rw [addr_add]
        simp [World.cell?, hk, Bk.obj]
        rw [List.getElem?_append_left (by rcases Nat.lt_or_ge j cs.length with h | h; exact h; rw [List.getElem?_eq_none h] at hu; cases hu)]
        exact hu
      obtain ⟨v', w', hrun, how', hgrow⟩ := run_append_arg_grows (P := P) w t ty' et inf z T.n bytes ht hinf hz hsz hby hzs T.pos ⟨b, 0, none⟩ xs.length cap cs hcx holds ad ys.length c news hnl hnews (by omega) (by simp only [maxLen]; omega) hbytes
      rcases how'.2 with ⟨rfl, hz0⟩ | ⟨b', cap', cur, rfl, hge, hheap, hnc, hcm, hcs, htake⟩
      · omega
      · refine ⟨_, some ⟨b', et, cur.toList⟩, w', hrun, ?_, ?_⟩
        · have hc2 : cur.toList = (cs ++ news) ++ cur.toList.drop ((xs.length + ys.length) * T.n) := by rw [← htake, List.take_append_drop]
          refine ⟨by rw [List.length_append]; exact hlen, .inr ⟨b', cap', cs ++ news, cur.toList.drop ((xs.length + ys.length) * T.n), by rw [List.length_append], .inl (by rw [← hc2]), h3.append hrep, ?_, hcm⟩⟩
          rw [← hc2]; simpa using hcs
        · refine hs.swap hi _ hgrow.os hgrow.tape hgrow.output (fun b hb hne => hgrow.block b hb fun e => by cases e) fun k' hk' => ?_
          injection hk' with hk'
          subst hk'
          exact ⟨by simpa [Bk.obj_ty] using hheap, .inr hge⟩
theorem run_append_of {w : World} {own : Own} {t ty' et : TypeId} {bytes : Nat} (ha : AppT P t et T.n bytes) (hs : St w g own) {i : Nat} {v : Value} {k : Option Bk} {xs : List α} (hi : own[i]? = some k) (hb : Buf p T et v k xs)
    {A : Option Addr} {m c : Nat} {news : List Value} {ys : List α} (hm : m = ys.length) (hsrc : Src w A m news) (hrep : Reps T p news ys) (hbytes : (xs.length + ys.length) * bytes ≤ 140737488355328) (hlen : xs.length + ys.length ≤ 140737488355328) :
    ∃ v' k' w', (Builtin.append_ #[t, t] ty' #[v, .slice A m c]).run P w = .ok v' w' ∧ Buf p T et v' k' (xs ++ ys) ∧ St w' g (own.set i k') := by
  rcases hb with ⟨h0, h | ⟨b, cap, cs, sp, rfl, h2 | rfl, h3, h4, h5⟩⟩
  · exact run_append_of0 ha hs hi ⟨h0, .inl h⟩ hm hsrc hrep hbytes hlen
  · exact run_append_of0 ha hs hi ⟨h0, .inr ⟨b, cap, cs, sp, rfl, h2, h3, h4, h5⟩⟩ hm hsrc hrep hbytes hlen
  · exact run_append_ms ha hs hi h3 h4 h5 h0 hm hsrc hrep hbytes hlen
theorem e_append {t et : TypeId} {bytes : Nat} {s x : Operand} (i : Nat) {v : Value} {k : Option Bk} {xs : List α} {A : Option Addr} {m c : Nat} {ys : List α} (p : Psi) (news : List Value) (ha : appT P t et = some (T.n, bytes)) (hs : evS sl s = some v) (hx : evS sl x = some (.slice A m c)) (hi : own[i]? = some k) (hb : Buf p T et v k xs)
    (hm : m = ys.length) (hsrc : ∀ w, St w g own → Src w A m news) (hrep : Reps T p news ys) (hlen : xs.length + ys.length ≤ 140737488355328) (hbytes : (xs.length + ys.length) * bytes ≤ 140737488355328) :
    Eff P n g own sl (.call { callee := .builtin .append, args := #[s, x], argTypes := #[t, t] }) ty (fun v' g' own' => ∃ A' c' k', v' = .slice A' (xs ++ ys).length c' ∧ g = g' ∧ own' = own.set i k' ∧ Buf p T et (.slice A' (xs ++ ys).length c') k' (xs ++ ys)) := by
  intro o a w Q K h1 h2 hf hst h
  obtain ⟨v', k', w', hrun, hb', hst'⟩ := run_append_of (P := P) (ty' := o.type) (AppT.of ha) hst hi hb (c := c) hm (hsrc w hst) hrep hbytes hlen
  obtain ⟨A', c', rfl, _⟩ := hb'.val
  have : (execOp a.eval o).run P w = .ok (.value (.slice A' (xs ++ ys).length c')) w' := by
    simp [execOp, h1, resolve, invoke, builtin, hf.ev hs, hf.ev hx, hrun]
  unfold Oper.wp
  rw [this]
  exact h _ _ _ _ (.refl g) hst' ⟨A', c', k', rfl, rfl, rfl, hb'⟩
def buildRow (P : Program) (t : TypeId) (len : Nat) (pv : List (Nat × Value)) : Option (TypeId × Array Value) :=
  match P.underlying t with
  | some (.slice elem) =>
    match P.info? elem with
    | some i =>
      if len * i.size > 2 ^ 24 then none else
      match (if len * i.size = 0 then some #[] else i.zero.map Value.cells) with
      | some zero => (Instr.fill (fun j => some (j * i.size, i.size)) ((Array.range (len * i.size)).map (zero[· % zero.size]!)) pv).map fun c => (elem, c)
      | none => none
    | none => none
  | _ => none
theorem run_buildSlice_of {w : World} {t et : TypeId} {len : Nat} {pv : List (Nat × Value)} {cs : List Value} (h : buildRow P t len pv = some (et, cs.toArray)) :
    (Instr.buildSlice t len pv.toArray).run P w = .ok (.slice (some ⟨w.heap.size, 0, none⟩) len len) (w.alloc (.cells cs.toArray et)) := by
  unfold buildRow at h
  split at h
  · rename_i elem hu
    split at h
    · rename_i inf hinf
      have hsz : (sizeOf elem).run P w = .ok inf.size w := run_sizeOf_of (by simp [cellsOfT, hinf]) w
      by_cases hbig : len * inf.size > 2 ^ 24
      · rw [if_pos hbig] at h; cases h
      · rw [if_neg hbig] at h
        by_cases h0 : len * inf.size = 0
        · rw [if_pos h0] at h
          simp only [Option.map_eq_some_iff] at h
          obtain ⟨c, hc, e⟩ := h
          simp only [Prod.mk.injEq] at e
          obtain ⟨rfl, rfl⟩ := e
          unfold Instr.buildSlice
          simp only [run_underlying hu, Sem.run_bind, Result.andThen_ok, hsz, if_neg hbig, if_pos h0, Sem.run_pure, List.toList_toArray, hc]
          simp [newRow, newObj, Sem.run]
        · rw [if_neg h0] at h
          cases hz : inf.zero with
          | none => rw [hz] at h; cases h
          | some z =>
            rw [hz] at h
            simp only [Option.map_some, Option.map_eq_some_iff] at h
            obtain ⟨c, hc, e⟩ := h
            simp only [Prod.mk.injEq] at e
            obtain ⟨rfl, rfl⟩ := e
            have hzv : (zeroValue elem).run P w = .ok z w := by simp [zeroValue, typeInfo, program, Sem.run, bind, Sem.bind, hinf, hz, pure]
            unfold Instr.buildSlice
            simp only [run_underlying hu, Sem.run_bind, Result.andThen_ok, hsz, if_neg hbig, if_neg h0, Sem.run_pure, List.toList_toArray, hzv, hc]
            simp [newRow, newObj, Sem.run]
    · cases h
  · cases h
theorem e_buildSlice {t et : TypeId} {len : Nat} {parts : Array (Nat × Operand)} (pv : List (Nat × Value)) (cs : List Value) (hp : parts.toList.map (fun q => (evS sl q.2).map fun v => (q.1, v)) = pv.map some) (h : buildRow P t len pv = some (et, cs.toArray)) :
    Eff P n g own sl (.buildSlice t len parts) ty (fun v' g' own' => ∃ b, v' = .slice (some ⟨b, 0, none⟩) len len ∧ g = g' ∧ own' = some ⟨b, et, cs⟩ :: own) := by
  intro o a w Q K h1 h2 hf hs hk
  have hpv : parts.map (fun q => (q.1, a.eval q.2)) = pv.toArray := by
    apply Array.toList_inj.1
    rw [Array.toList_map, List.toList_toArray]
    have : ∀ (l : List (Nat × Operand)) (pv : List (Nat × Value)), l.map (fun q => (evS sl q.2).map fun v => (q.1, v)) = pv.map some → l.map (fun q => (q.1, a.eval q.2)) = pv := by
      intro l
      induction l with
      | nil => intro pv h; cases pv with | nil => rfl | cons _ _ => simp at h
      | cons q l ih =>
        intro pv h
        cases pv with
        | nil => simp at h
        | cons u pv =>
          simp only [List.map_cons, List.cons.injEq, Option.map_eq_some_iff] at h
          obtain ⟨⟨v, hv, e⟩, h3⟩ := h
          rw [List.map_cons, ih pv h3, hf.ev hv, e]
    exact this _ _ hp
  have : (execOp a.eval o).run P w = .ok (.value (.slice (some ⟨w.heap.size, 0, none⟩) len len)) (w.alloc (.cells cs.toArray et)) := by
    have e := run_buildSlice_of (w := w) h
    simp only [execOp, h1]
    rw [show (parts.map fun x => match x with | (i, x) => (i, a.eval x)) = pv.toArray from hpv]
    simp [e]
  unfold Oper.wp
  rw [this]
  exact hk _ _ _ _ (.refl g) (hs.alloc et cs) ⟨_, rfl, rfl, rfl⟩
theorem buf_lit {et : TypeId} {b len : Nat} {cs : List Value} {xs : List α} (h : Reps T p cs xs) (hl : xs.length = len) (hm : len ≤ 140737488355328) : Buf p T et (.slice (some ⟨b, 0, none⟩) len len) (some ⟨b, et, cs⟩) xs := by
  subst hl
  exact ⟨hm, .inr ⟨b, xs.length, cs, [], rfl, .inl (by simp), h, by simpa using h.len, by simp only [maxLen]; omega⟩⟩
theorem Buf.arr {et : TypeId} {A : Option Addr} {c : Nat} {k : Bk} {xs : List α} (h : Buf p T et (.slice A xs.length c) (some k) xs) : Arr (p.add k) T A c xs ∨ p.m k.g ≠ none := by
  rcases h.2 with ⟨_, _, h3⟩ | ⟨b, cap, cs, sp, h1, h2, h3, h4, h5⟩
  · cases h3
  · obtain ⟨hg, hcs, fz, ho⟩ := h2.obj
    injection h1 with hA _ hc
    subst hA; subst hc; subst hg
    by_cases hp : p.m k.g = none
    · left
      refine ⟨?_, h.1, cs, h3.mono (Psi.le_add hp), fun _ => ⟨_, rfl, fun j v hj => ?_⟩⟩
      · rw [List.length_append, h3.len] at h4
        exact Nat.le_of_mul_le_mul_right (by omega : xs.length * T.n ≤ c * T.n) T.pos
      · rw [addr_add]
        have hm : (p.add k).m k.g = some (.cells (cs ++ sp).toArray et fz) := (if_pos rfl).trans (by rw [ho])
        simp only [Psi.cell?, hm]
        simp
        rw [List.getElem?_append_left (by rcases Nat.lt_or_ge j cs.length with h | h; exact h; rw [List.getElem?_eq_none h] at hj; cases hj)]
        exact hj
    · exact .inr hp
theorem wpq_freeze {K : Act → World → Prop} (i : Nat) {et : TypeId} {A : Option Addr} {c : Nat} {k : Option Bk} {xs : List α} (hi : own[i]? = some k) (hb : Buf g.b T et (.slice A xs.length c) k xs)
    (h : ∀ g', g.le g' → Arr g'.b T A c xs → WPq K n g' (own.set i none) sl) : WPq K n g own sl := by
  intro a w hf hs
  cases k with
  | none =>
    rcases hb.2 with ⟨h1, rfl, _⟩ | ⟨b, cap, cs, sp, h1, h2, _⟩
    · have same : own.set i none = own := by
        apply List.ext_getElem?
        intro j
        rw [List.getElem?_set]
        split
        · rename_i e; subst e
          split
          · exact hi.symm
          · rename_i hlt; rw [List.getElem?_eq_none (by omega)]
        · rfl
      have := h g (.refl g) Arr.nil
      rw [same] at this
      exact this a w hf hs
    · rcases h2 with h2 | h2 <;> cases h2
  | some kb =>
    obtain ⟨hle, hs'⟩ := hs.publish hi
    have hfree := g.br.none_ (hs.free kb (Own.get_mem hi))
    rcases hb.arr with h1 | h1
    · exact h _ hle h1 a w hf hs'
    · exact absurd hfree h1
theorem e_make {t et : TypeId} {x y : Operand} {kx ky : IntKind} {bytes : Nat} (m : Nat) {zs : List Value} {z : α} (ha : appT P t et = some (T.n, bytes)) (hx : evS sl x = some (.int kx (m : Int))) (hy : evS sl y = some (.int ky (m : Int))) (hz : zeroOf P et = some zs.toArray) (hr : T.rep p zs z) (hbytes : bytes * m ≤ 281474976710656) (hm : m ≤ 140737488355328) :
    Eff P n g own sl (.makeSlice t x y) ty (fun v' g' own' => ∃ b cs, v' = .slice (some ⟨b, 0, none⟩) m m ∧ g = g' ∧ own' = some ⟨b, et, cs⟩ :: own ∧ Reps T p cs (List.replicate m z) ∧ Buf p T et (.slice (some ⟨b, 0, none⟩) m m) (some ⟨b, et, cs⟩) (List.replicate m z)) := by
  intro o a w Q K h1 h2 hf hs h
  obtain ⟨inf, z0, ht, hinf, hz0, hsz, hby, hzs⟩ := (AppT.of ha).out
  have hzc : z0.cells = zs.toArray := by
    unfold zeroOf at hz
    rw [hinf] at hz
    simpa [hz0] using hz
  have hc : ∀ m : Nat, Reps T p (madeCells z0.cells (m * T.n)).toList (List.replicate m z) := by
    intro m
    induction m with
    | zero => simp [madeCells]; rfl
    | succ m ih =>
      have e : (madeCells z0.cells ((m + 1) * T.n)).toList = zs ++ (madeCells z0.cells (m * T.n)).toList := by
        rw [hzc]
        have hzl : zs.length = T.n := T.len hr
        apply List.ext_getElem?
        intro j
        rw [List.getElem?_append]
        simp only [madeCells, Array.toList_map, Array.toList_range, List.getElem?_map]
        by_cases hj : j < zs.length
        · rw [if_pos hj]
          have hj2 : j < (m + 1) * T.n := by rw [Nat.succ_mul]; omega
          rw [List.getElem?_range hj2]
          simp only [Option.map_some, List.size_toArray, Nat.mod_eq_of_lt hj]
          rw [List.getElem?_eq_getElem hj]
          simp [hj]
        · rw [if_neg hj]
          by_cases hj2 : j < (m + 1) * T.n
          · have hj3 : j - zs.length < m * T.n := by rw [Nat.succ_mul] at hj2; omega
            rw [List.getElem?_range hj2, List.getElem?_range hj3]
            simp only [Option.map_some, List.size_toArray]
            congr 2
            exact (Nat.mod_eq_sub_mod (by omega))
          · have hj3 : ¬ j - zs.length < m * T.n := by rw [Nat.succ_mul] at hj2; omega
            rw [List.getElem?_eq_none (by simpa using hj2), List.getElem?_eq_none (by simpa using hj3)]
      rw [e, List.replicate_succ]
      exact ⟨zs, _, rfl, hr, ih⟩
  have hrep := hc m
  have hb : Buf p T et (.slice (some ⟨w.heap.size, 0, none⟩) m m) (some ⟨w.heap.size, et, (madeCells z0.cells (m * T.n)).toList⟩) (List.replicate m z) := buf_lit hrep List.length_replicate hm
  have hrun := run_make (P := P) w t et inf z0 ht hinf hz0 kx ky (m : Int) (m : Int) (by omega) (by omega) (by rw [hby]; have h9 : ((bytes * m : Nat) : Int) ≤ 281474976710656 := Int.ofNat_le.2 hbytes; rw [Int.natCast_mul] at h9; exact h9) (by omega)
  have : (execOp a.eval o).run P w = .ok (.value (.slice (some ⟨w.heap.size, 0, none⟩) m m)) (w.alloc (.cells (madeCells z0.cells (m * T.n)) et)) := by
    simp only [Int.toNat_natCast, hsz] at hrun
    simp [execOp, h1, hf.ev hx, hf.ev hy, hrun]
  unfold Oper.wp
  rw [this]
  have hal := hs.alloc et (madeCells z0.cells (m * T.n)).toList
  rw [Array.toArray_toList] at hal
  exact h _ _ _ _ (.refl g) hal ⟨_, _, rfl, rfl, rfl, hrep, hb⟩
end
def finOk (ops : Array Oper) (lds fin : List Nat) : Bool := fin.all fun k => match ops[k]? with
  | some o => lds.all fun i => o.after.any fun e => Region.binds .any e && e.on == i
  | none => true
section
variable {P : Program} {ops : Array Oper} {Q : Exit → Act → World → Prop} {S : World → Prop} {lds fin : List Nat}
end
section
variable {P : Program} {ops : Array Oper} {Q : Exit → Act → World → Prop} {n : Nat} {lds fin : List Nat} {p : Psi} {K : Own}
structure RegOk (P : Program) (ops : Array Oper) (Q : Exit → Act → World → Prop) (lds fin : List Nat) : Prop where
  fin : finOk ops lds fin = true
  sel : Region.noSelect ops = true
  panic : ∀ c (a : Act) (d : Tmp) (v : Value) w, Q (.panic c) (a.put (some d) v) w → Q (.panic c) a w
def keepK (K own : Own) : Prop := ∀ k, some k ∈ K → some k ∈ own
end
section
variable {P : Program} {ops : Array Oper} {Q : Exit → Act → World → Prop} {n : Nat} {g : Gh} {own : Own} {sl : Sl} {ty : TypeId} {p : Psi}
end
theorem wr64 {x : Int} (h : -9223372036854775808 ≤ x ∧ x ≤ 9223372036854775807) : IntKind.i64.wrap x = x := IntWalk.i64_in x h
theorem wr_u8 {x : Int} (h : 0 ≤ x ∧ x ≤ 255) : IntKind.u8.wrap x = x := IntWalk.u8_in x h
theorem wr_u64 {x : Int} (h : 0 ≤ x ∧ x ≤ 18446744073709551615) : IntKind.u64.wrap x = x := by
  rw [IntKind.wrap_u64]; omega
def maxI (a b : Int) : Int := if b > a then b else a
def minI (a b : Int) : Int := if b < a then b else a
def landK (k : IntKind) (a b : Int) : Int := k.wrap (BitVec.ofInt k.bits a &&& BitVec.ofInt k.bits b).toNat
def lorK (k : IntKind) (a b : Int) : Int := k.wrap (BitVec.ofInt k.bits a ||| BitVec.ofInt k.bits b).toNat
def lxorK (k : IntKind) (a b : Int) : Int := k.wrap (BitVec.ofInt k.bits a ^^^ BitVec.ofInt k.bits b).toNat
def shlK (k : IntKind) (a b : Int) : Int := k.wrap (a * 2 ^ (min b.toNat k.bits))
def shrK (k : IntKind) (a b : Int) : Int := a.fdiv (2 ^ (min b.toNat k.bits))
section
variable {P : Program} {n : Nat} {p : Psi} {own : Own} {sl : Sl} {ty : TypeId}
theorem run_equalIn_nil {w : World} (d : Nat) {t e : TypeId} {A : Option Addr} {l c l2 c2 : Nat} (ht : P.underlying t = some (.slice e)) : (Op.equalIn (d + 1) t (.slice A l c) (.slice none l2 c2)).run P w = .ok A.isNone w := by
  cases A <;> simp [Op.equalIn, run_underlying ht]
end
section
variable {P : Program} {n : Nat} {g : Gh} {own : Own} {sl : Sl} {ty : TypeId} {α : Type} {T : Ty α} {p : Psi}
theorem Arr.srcB {A : Option Addr} {c : Nat} {xs : List α} (h : Arr g.b T A c xs) : ∃ news, Reps T g.b news xs ∧ ∀ w own, St w g own → Src w A xs.length news := by
  obtain ⟨news, h1, h2⟩ := h.src
  exact ⟨news, h1, fun w own hs => h2 w (hs.r.mono g.br)⟩
def u8 (z : Int) : UInt8 := UInt8.ofNat z.toNat
theorem u8_rep {z : Int} (h : 0 ≤ z ∧ z ≤ 255) : tyU8.rep p [.int .u8 z] (u8 z) := by
  show [Value.int .u8 z] = [Value.int .u8 ((u8 z).toNat : Int)]
  have : ((u8 z).toNat : Int) = z := by
    unfold u8
    rw [UInt8.toNat_ofNat']
    omega
  rw [this]
theorem wrapU8_rng (x : Int) : 0 ≤ IntKind.u8.wrap x ∧ IntKind.u8.wrap x ≤ 255 := by
  rw [IntKind.wrap_u8]; omega
end
section
variable {P : Program} {n : Nat} {g : Gh} {own : Own} {sl : Sl} {ty : TypeId} {α : Type} {T : Ty α} {p : Psi}
theorem lent {rest : Own} {k : Bk} (i : Nat) (h : rest[i]? = some (some k)) : some k ∈ rest := List.mem_of_getElem? h
end
open Go.RowKit Go.WideShapes Go.ChangeShapes Go.Deep
def psiOf (w : World) : Psi := ⟨fun b => w.heap[b]?, w.os, w.tape, w.output⟩
def gh0 (w : World) : Gh := ⟨psiOf w, psiOf w, .refl _⟩
theorem st0 (w : World) : St w (gh0 w) [] := ⟨⟨rfl, rfl, rfl, fun b o h => h⟩, List.nodup_nil, fun k h => (by cases h), fun k h => (by cases h)⟩
theorem below_of {w w' : World} {g : Gh} (h : (gh0 w).le g) (hs : St w' g []) : Below w.heap.size w w' := by
  have hin := hs.r.mono h.r
  have hb : ∀ b, b < w.heap.size → w'.heap[b]? = w.heap[b]? := fun b hb => by
    rw [Array.getElem?_eq_getElem hb]
    exact hin.m b _ (Array.getElem?_eq_getElem hb)
  refine ⟨hin.os, hin.tape, hin.out, ?_, hb⟩
  rcases Nat.eq_zero_or_pos w.heap.size with h0 | h0
  · omega
  · have h1 := hb (w.heap.size - 1) (by omega)
    have hlt : w.heap.size - 1 < w.heap.size := by omega
    rw [Array.getElem?_eq_getElem hlt] at h1
    have := (Array.getElem?_eq_some_iff.1 h1).1
    omega
theorem law_of_ctr {P : Program} {f : FuncId} {args : List Value} {w : World} (h : Ctr0 P f args (gh0 w) (fun v ψ => v = Value.bool true)) : Calls P f args.toArray w fun e w' => e = .returned (.bool true) ∧ Below w.heap.size w w' :=
  (h w (st0 w)).mono fun e w' ⟨v, g', own', he, hle, hs, ho, hv⟩ => by
    subst ho; subst hv
    exact ⟨he, below_of hle hs⟩
def Opens {α : Type} (P : Program) (t : TypeId) (T : Ty α) (ok : α → Prop) : Prop :=
  ∀ {H : Type} {enc : TypeId × Value → H} {w : World} {base : Nat} {spare : Nat → Bool} {held : Bool} {fuel : Nat} {cs : List Value} {d : DataW H} {pl : List MemPlace},
    DataW.trod enc P w base spare held fuel t cs = some (d, pl) → (∀ m ∈ d.weights P t, m ≤ reachBytes) → ∃ x, T.rep (psiOf w) cs x ∧ ok x
section
variable {P : Program} {t e : TypeId} {α : Type} {T : Ty α} {ok : α → Prop}
theorem lit_wf {k : IntKind} {n : Int} (h : (Lit.int k n).wf = true) : inK k n := by
  simp only [Lit.wf, Bool.and_eq_true, decide_eq_true_eq] at h
  exact h
theorem opens_int {k : IntKind} (ht : P.underlying t = some (.int k)) : Opens P t (tyI k) (inK k) := fun h _ => by
  obtain ⟨n, rfl, _, hwf⟩ := DataW.trod_int ht h
  exact ⟨n, rfl, lit_wf hwf⟩
theorem opens_bool (ht : P.underlying t = some .bool) : Opens P t tyB (fun _ => True) := fun h _ => by
  obtain ⟨b, rfl, _⟩ := DataW.trod_bool ht h
  exact ⟨b, rfl, trivial⟩
theorem opens_str (ht : P.underlying t = some .string) : Opens P t tyS (fun l => l.length ≤ 140737488355328) := fun h hw => by
  obtain ⟨s, rfl, hx, _⟩ := DataW.trod_string ht h
  injection hx with hd _
  subst hd
  have := hw s.data.toList.length (by simp [DataW.weights])
  simp only [reachBytes] at this
  exact ⟨s.data.toList, (by show [Value.string s] = [Value.string (mkS s.data.toList)]; simp [mkS]), by omega⟩
theorem weightsAll_mem {H : Type} : ∀ {ds : List (DataW H)} {d : DataW H} {n : Nat}, d ∈ ds → n ∈ d.weights P e → n ∈ DataW.weightsAll P e ds
  | x :: ds, d, n, hd, hn => by
    rw [DataW.weightsAll]
    rcases List.mem_cons.1 hd with rfl | h
    · exact List.mem_append_left _ hn
    · exact List.mem_append_right _ (weightsAll_mem h hn)
theorem opens_slice (he : Opens P e T ok) (ht : P.underlying t = some (.slice e)) (hc : P.cellsOf e = T.n) (hb : Nat.blt 0 (P.bytesOf e) = true) : Opens P t (tyArr T) (fun xs => ∀ x ∈ xs, ok x) := by
  intro H enc w base spare held fuel cs d pl h hw
  rcases open_slice ht h with ⟨rfl, _⟩ | ⟨a, len, cap, m, n, D, Pl, rfl, hbs, hl, hm, hmm, hx, hi⟩
  · exact ⟨[], ⟨none, 0, rfl, Arr.nil⟩, by simp⟩
  · have hlm : len ≤ m := by rw [hmm]; split <;> omega
    injection hx with hd _
    subst hd
    simp only [DataW.weights, ht] at hw
    have hlen : len ≤ 140737488355328 := by
      have := hw _ (List.mem_cons_self ..)
      simp only [List.length_map, List.length_range, reachBytes] at this
      have h1 : len ≤ len + (m - len) := Nat.le_add_right _ _
      have hb' : 0 < P.bytesOf e := by simpa using hb
      have h2 : len + (m - len) ≤ (len + (m - len)) * P.bytesOf e := Nat.le_mul_of_pos_right _ hb'
      omega
    have key : ∀ k, k ≤ len → ∃ cs xs, xs.length = k ∧ Reps T (psiOf w) cs xs ∧ (∀ x ∈ xs, ok x) ∧ ∀ j u, cs[j]? = some u → w.cell? (a.add j) = some u := by
      intro k
      induction k with
      | zero => intro _; exact ⟨[], [], rfl, rfl, by simp, by simp⟩
      | succ k ih =>
        intro hk
        obtain ⟨cs, xs, h1, h2, h3, h4⟩ := ih (by omega)
        obtain ⟨cs', hcells, htr⟩ := hi k (by omega)
        obtain ⟨_, hlen', hat⟩ := World.cells?_some hcells
        obtain ⟨x, hx, hok⟩ := he htr fun n hn => hw n (List.mem_cons_of_mem _ (List.mem_append_left _ (weightsAll_mem (List.mem_map.2 ⟨k, by simp; omega, rfl⟩) hn)))
        refine ⟨cs ++ cs', xs ++ [x], by simp [h1], h2.append (.single hx), ?_, fun j u hu => ?_⟩
        · intro y hy
          rcases List.mem_append.1 hy with h | h
          · exact h3 y h
          · simp only [List.mem_singleton] at h; subst h; exact hok
        · rcases Nat.lt_or_ge j cs.length with hj | hj
          · rw [List.getElem?_append_left hj] at hu
            exact h4 j u hu
          · rw [List.getElem?_append_right hj] at hu
            have hcl : cs.length = k * P.cellsOf e := by rw [h2.len, h1, hc]
            have hjl : j - cs.length < P.cellsOf e := by
              have := (List.getElem?_eq_some_iff.1 hu).1
              omega
            have hge : k * P.cellsOf e ≤ j := by rw [← hcl]; exact hj
            have := hat (j - cs.length) hjl
            rw [hcl] at this hu
            rw [add_add, show k * P.cellsOf e + (j - k * P.cellsOf e) = j by omega] at this
            rw [this]
            exact hu
    obtain ⟨cs, xs, h1, h2, h3, h4⟩ := key len (Nat.le_refl _)
    refine ⟨xs, ⟨some a, cap, by rw [h1], ⟨by rw [h1]; exact hl, by rw [h1]; exact hlen, cs, h2, fun _ => ⟨a, rfl, fun j v hj => ?_⟩⟩⟩, h3⟩
    have := h4 j v hj
    unfold World.cell? at this
    unfold Psi.cell? psiOf
    exact this
theorem struct_fields {H : Type} {enc : TypeId × Value → H} {w : World} {base : Nat} {spare : Nat → Bool} {held : Bool} {fuel : Nat} {cs : List Value} {d : DataW H} {pl : List MemPlace} {fs : Array Field} (ht : P.underlying t = some (.struct fs))
    (h : DataW.trod enc P w base spare held fuel t cs = some (d, pl)) (hw : ∀ m ∈ d.weights P t, m ≤ reachBytes) :
    cs.length = P.cellsOf t ∧ ∀ (i : Nat) (f : Field), fs[i]? = some f → ∃ n d' pl', DataW.trod enc P w base spare held n f.type ((cs.drop f.offset).take (P.cellsOf f.type)) = some (d', pl') ∧ ∀ m ∈ d'.weights P f.type, m ≤ reachBytes := by
  obtain ⟨xs, n, _, hx, hlen, hxl, hf⟩ := DataW.trod_struct ht h
  injection hx with hd _
  subst hd
  simp only [DataW.weights, ht] at hw
  refine ⟨hlen, fun i f hi => ?_⟩
  have hlt : i < xs.length := by rw [hxl]; exact (Array.getElem?_eq_some_iff.1 hi).1
  refine ⟨n, (xs[i]).1, (xs[i]).2, (hf i f hi).trans (List.getElem?_eq_getElem hlt), fun m hm => hw m ?_⟩
  exact DataW.weights_mem_each (j := i) (by rw [List.getElem?_map, Array.getElem?_toList, hi]; rfl) (by rw [List.getElem?_map, List.getElem?_eq_getElem hlt]; rfl) m hm
end
section
variable {H : Type} {enc : TypeId × Value → H} {P : Program}
theorem trodAll_stays (hl : laidOutB P = true) {W W' : World} {sp' : Nat → Bool} : ∀ {ts : List TypeId} {vs : List Value} {ds : List (DataW H)} {ps : List MemPlace},
    (∀ t ∈ ts, P.readableRec t = true ∧ t < P.types.size) → DataW.TrodAll enc P W 0 (fun _ => true) true ts vs ds ps → (∀ p ∈ ps, W.sameAt W' p) → (∀ p ∈ ps, sp' p.block = true) →
    DataW.TrodAll enc P W' 0 sp' true ts vs ds ps
  | [], vs, ds, ps, _, h, _, _ => by
    obtain ⟨rfl, rfl, rfl⟩ := trodAll_nil h
    exact trodAll_mk0
  | t :: ts, vs, ds, ps, hr, h, hs, hp => by
    obtain ⟨v, vs1, d, ds1, a, b, rfl, rfl, rfl, h1, h2⟩ := trodAll_cons h
    refine ⟨a, b, WideElems.Trod_stays hl (hr t (by simp)).1 (hr t (by simp)).2 h1 (fun p hp' => hs p (by simp [hp'])) (fun p hp' => hp p (by simp [hp'])), ?_, rfl⟩
    exact trodAll_stays hl (fun t' ht' => hr t' (by simp [ht'])) h2 (fun p hp' => hs p (by simp [hp'])) (fun p hp' => hp p (by simp [hp']))

theorem post_of_below {f : Func} {s : ChangeSpec} {apart fresh handsOn again : Bool} {W W' : World} {args : Array Value} {v : Value} {ds gs : List (DataW H)} {before pa pv : List MemPlace}
    (hW : DataW.Whole enc P f.params.toList s.vars apart W args.toList ds gs before)
    (hres : ∀ (b : Nat) (sp : Nat → Bool) (hd : Bool), DataW.TrodAll enc P W' b sp hd f.resultTypes.toList (v.resultList f.resultTypes.size) (s.fn H (ds ++ gs)).results [])
    (hargs : ∀ sp : Nat → Bool, (∀ p ∈ before, sp p.block = true) → DataW.TrodAll enc P W' 0 sp true f.params.toList args.toList (s.fn H (ds ++ gs)).args pa)
    (hvars : ∀ sp : Nat → Bool, (∀ p ∈ before, sp p.block = true) → DataW.TrodVars enc P W' sp s.vars (s.fn H (ds ++ gs)).vars pv)
    (hps : before = pa ++ pv) (hb : Below W.heap.size W W')
    (hok : ∀ (j : Nat) (t : TypeId) (r : Value), f.resultTypes[j]? = some t → (v.resultList f.resultTypes.size)[j]? = some r → Value.okWide P W' .any 0 t r) :
    s.post enc P f apart fresh handsOn again W args v W' := by
  have hlt : ∀ p ∈ before, p.block < W.heap.size := fun p hp => hW.lt p hp
  have hold : ∀ p ∈ before, (fun b => decide (b < W.heap.size)) p.block = true := fun p hp => by simpa using hlt p hp
  refine ⟨ds, gs, before, [], pa, pv, hW, hres _ _ _, hargs _ hold, hvars _ hold, World.keptBut_mono (fun p hp => ⟨hp, ?_⟩) (hb.frame (· ∈ before)), fun _ => ?_⟩
  · rw [hps, List.mem_append] at hp
    exact Or.inr hp
  · obtain ⟨_, _, _, _, _, hz, hn⟩ := hW
    refine ⟨hok, _, _, ([] ++ pa) ++ pv, ⟨[] ++ pa, pv, trodAll_append (hargs _ (fun _ _ => rfl)) (hres _ _ _), hvars _ (fun _ _ => rfl), rfl, ?_, ?_⟩, ?_⟩
    · intro b off hp
      have hin : MemPlace.cell b off ∈ before := by rw [hps]; simpa using hp
      rw [hb.frozen (hlt _ hin)]
      exact hz b off hin
    · intro ha
      have := hn ha
      rw [hps] at this
      simpa using this
    · intro p hp _
      rw [hps]
      simpa using hp
theorem law_post {b : TypeId} (hl : laidOutB P = true) {f : Func} {s : ChangeSpec} {apart fresh handsOn again : Bool} {W W' : World} {args : Array Value} {ds : List (DataW H)} {before : List MemPlace}
    (hr : ∀ t ∈ f.params.toList, P.readableRec t = true ∧ t < P.types.size) (hv : s.vars = []) (hbool : f.resultTypes = #[b]) (hb4 : P.underlying b = some .bool)
    (hfn : s.fn H (ds ++ []) = { results := [.lit (.bool true)], args := ds })
    (hW : DataW.Whole enc P f.params.toList s.vars apart W args.toList ds [] before)
    (hA : DataW.TrodAll enc P W 0 (fun _ => true) true f.params.toList args.toList ds before)
    (hb : Below W.heap.size W W') : s.post enc P f apart fresh handsOn again W args (.bool true) W' := by
  have hlt : ∀ p ∈ before, p.block < W.heap.size := fun p hp => hW.lt p hp
  refine post_of_below (ds := ds) (gs := []) (pa := before) (pv := []) hW ?_ ?_ ?_ (by simp) hb ?_
  · intro b' sp hd
    rw [hfn, hbool]
    exact trodAll_mk1 (shut_bool hb4 _)
  · intro sp hsp
    rw [hfn]
    exact trodAll_stays hl hr hA (fun p hp => hb.same (hlt p hp)) hsp
  · intro sp _
    rw [hfn, hv]
    rfl
  · intro j t r hj hrj
    rw [hbool] at hj hrj
    exact ok_one (f := f) hbool rfl (okWide_bool_mk hb4 _) j t r (by rw [hbool]; exact hj) (by rw [hbool]; exact hrj)
end
theorem Tryz.own : ownKnob Tryz.prog.godebug = none := by kernel_rfl
theorem Tryz.laidOut : laidOutB Tryz.prog = true := by kernel_rfl
def pickP (is : List (Option Nat)) (own : Own) : Own := is.map fun | none => none | some i => (own[i]?).join
theorem ids_inj : ∀ {own : Own} {i j : Nat} {k k' : Bk}, own.ids.Nodup → own[i]? = some (some k) → own[j]? = some (some k') → k.g = k'.g → i = j
  | [], i, j, k, k', _, h, _, _ => by simp at h
  | x :: l, 0, 0, k, k', _, _, _, _ => rfl
  | x :: l, 0, j + 1, k, k', hn, h1, h2, e => by
    simp at h1 h2
    subst h1
    rw [Own.ids_cons] at hn
    simp at hn
    exact absurd (e ▸ Own.mem_ids (List.mem_of_getElem? h2)) hn.1
  | x :: l, i + 1, 0, k, k', hn, h1, h2, e => by
    simp at h1 h2
    subst h2
    rw [Own.ids_cons] at hn
    simp at hn
    exact absurd (e ▸ Own.mem_ids (List.mem_of_getElem? h1)) hn.1
  | x :: l, i + 1, j + 1, k, k', hn, h1, h2, e => by
    rw [Own.ids_cons] at hn
    have hn2 : Own.ids l |>.Nodup := (List.nodup_append.1 hn).2.1
    have := ids_inj (i := i) (j := j) (k := k) (k' := k') hn2 (by simpa using h1) (by simpa using h2) e
    omega
theorem pickP_mem {is : List (Option Nat)} {own : Own} {k : Bk} (h : some k ∈ pickP is own) : ∃ i, some i ∈ is ∧ own[i]? = some (some k) := by
  obtain ⟨a, ha, e⟩ := List.mem_map.1 h
  cases a with
  | none => cases e
  | some i =>
    refine ⟨i, ha, ?_⟩
    have e : (own[i]?).join = some k := e
    cases h2 : own[i]? with
    | none => rw [h2] at e; cases e
    | some x => rw [h2] at e; rw [show x = some k from e]
theorem pickP_nodup {own : Own} (hn : own.ids.Nodup) : ∀ {is : List (Option Nat)}, (is.filterMap id).Nodup → (pickP is own).ids.Nodup
  | [], _ => by simp [pickP, Own.ids]
  | none :: is, h => by
    have ih := pickP_nodup hn (is := is) (by simpa using h)
    show (Own.ids (none :: pickP is own)).Nodup
    rw [Own.ids_cons]; simpa using ih
  | some i :: is, h => by
    have h2 : i ∉ is.filterMap id ∧ (is.filterMap id).Nodup := by simpa using h
    have ih := pickP_nodup hn h2.2
    show (Own.ids ((own[i]?).join :: pickP is own)).Nodup
    rw [Own.ids_cons]
    cases e : (own[i]?).join with
    | none => simpa using ih
    | some k =>
      have hk : own[i]? = some (some k) := by
        cases h3 : own[i]? with
        | none => rw [h3] at e; cases e
        | some x => rw [h3] at e; rw [show x = some k from e]
      refine List.nodup_cons.2 ⟨fun hm => ?_, ih⟩
      obtain ⟨k', hk', e2⟩ := Own.of_ids hm
      obtain ⟨j, hj, hj2⟩ := pickP_mem hk'
      have : i = j := ids_inj hn hk hj2 e2.symm
      subst this
      exact h2.1 (List.mem_filterMap.2 ⟨_, hj, rfl⟩)
theorem keepP (is : List (Option Nat)) {g : Gh} {own own' : Own} (hn : decide (is.filterMap id).Nodup = true) (e : pickP is own = own') (w : World) (h : St w g own) : St w g own' := by
  subst e
  exact h.fewer (pickP_nodup h.nodup (of_decide_eq_true hn)) fun k hk => by
    obtain ⟨i, _, h2⟩ := pickP_mem hk
    exact List.mem_of_getElem? h2
section
variable {P : Program} {n : Nat} {g : Gh} {own : Own} {sl : Sl} {ty : TypeId} {α : Type} {T : Ty α} {p : Psi}
theorem set_same {i : Nat} {k : Option Bk} (hi : own[i]? = some k) : own.set i k = own := by
  apply List.ext_getElem?
  intro j
  rw [List.getElem?_set]
  split
  · rename_i e; subst e
    split
    · exact hi.symm
    · rename_i hlt; rw [List.getElem?_eq_none (by omega)]
  · rfl
theorem arr_of_buf {et : TypeId} {A : Option Addr} {c : Nat} {k : Option Bk} {xs : List α} {r : Psi} (h : Buf p T et (.slice A xs.length c) k xs) (hl : p.le r) (hk : ∀ b, k = some b → r.m b.g = some b.obj) : Arr r T A c xs := by
  have h := h.mono hl
  rcases h.2 with ⟨h1, rfl, _⟩ | ⟨b, cap, cs, sp, h1, h2, h3, h4, h5⟩
  · exact Arr.nil
  · injection h1 with e1 e2 e3
    subst e1; subst e3
    obtain ⟨kb, hkb, rfl, _, _, fz, hob⟩ := h2.some_
    have hm := hk _ hkb
    refine ⟨?_, h.1, cs, h3, fun _ => ⟨_, rfl, fun j v hj => ?_⟩⟩
    · rw [List.length_append, h3.len] at h4
      exact Nat.le_of_mul_le_mul_right (by omega : xs.length * T.n ≤ c * T.n) T.pos
    · rw [addr_add]
      have : (cs ++ sp)[j]? = some v := by
        have hlt : j < cs.length := (List.getElem?_eq_some_iff.1 hj).1
        rw [List.getElem?_append_left hlt]; exact hj
      simp only [Psi.cell?, hm, hob]
      simpa using this
theorem Buf.open_ {et : TypeId} {A : Option Addr} {l c : Nat} {k : Option Bk} {xs : List α} (h : Buf p T et (.slice A l c) k xs) {i : Nat} (hi : i < xs.length) (d : α) :
    ∃ kb cs, A = some ⟨kb.g, 0, none⟩ ∧ k = some kb ∧ T.rep p cs (xs.getD i d) ∧ (kb.cs.drop (i * T.n)).take T.n = cs := by
  rcases h.2 with ⟨_, rfl, _⟩ | ⟨b, cap, cs, sp, h1, h2, h3, h4, h5⟩
  · simp at hi
  · injection h1 with e1 e2 e3
    have hx : xs[i]? = some (xs.getD i d) := by rw [List.getD_eq_getElem?_getD, List.getElem?_eq_getElem hi]; rfl
    obtain ⟨kb, hkb, rfl, hkc, _⟩ := h2.some_
    refine ⟨kb, _, e1, hkb, h3.at_ hx, ?_⟩
    rw [hkc]
    have hle : i * T.n + T.n ≤ cs.length := by rw [h3.len, ← Nat.succ_mul]; exact Nat.mul_le_mul_right _ hi
    show (List.drop (i * T.n) (cs ++ sp)).take T.n = (List.drop (i * T.n) cs).take T.n
    rw [List.drop_append_of_le_length (by omega), List.take_append_of_le_length (by rw [List.length_drop]; omega)]
theorem rowAt {kb : Bk} {cs : List Value} {i m off : Nat} {v : Value} (h : (kb.cs.drop (i * m)).take m = cs) (hv : cs[off]? = some v) : kb.cs[i * m + off]? = some v := by
  subst h
  exact take_drop_get hv
theorem setRow_len : ∀ (vs cs : List Value) (o : Nat), (setRow cs o vs).length = cs.length
  | [], cs, o => rfl
  | v :: vs, cs, o => by rw [setRow, setRow_len vs]; simp
theorem setRow_app : ∀ (vs : List Value) (a b : List Value) (o : Nat), o + vs.length ≤ a.length → setRow (a ++ b) o vs = setRow a o vs ++ b
  | [], a, b, o, h => rfl
  | v :: vs, a, b, o, h => by
    rw [setRow, setRow, List.set_append_left _ _ (by simp at h; omega)]
    exact setRow_app vs _ b (o + 1) (by simp at h ⊢; omega)
theorem setRow_pre : ∀ (vs : List Value) (a b : List Value) (o : Nat), setRow (a ++ b) (a.length + o) vs = a ++ setRow b o vs
  | [], a, b, o => rfl
  | v :: vs, a, b, o => by
    rw [setRow, setRow, List.set_append_right _ _ (by omega), show a.length + o - a.length = o by omega, Nat.add_assoc]
    exact setRow_pre vs a _ (o + 1)
theorem Reps.setPart : ∀ {xs : List α} {cs : List Value} {i off : Nat} {vs : List Value} {x : α} {c : List Value}, Reps T p cs xs → (cs.drop (i * T.n)).take T.n = c → T.rep p (setRow c off vs) x → off + vs.length ≤ T.n → i < xs.length →
    Reps T p (setRow cs (i * T.n + off) vs) (xs.set i x)
  | [], cs, i, off, vs, x, c, h, hc, hx, ho, hi => by simp at hi
  | y :: xs, cs, 0, off, vs, x, c, ⟨c1, c2, e1, h1, h2⟩, hc, hx, ho, hi => by
    subst e1
    have e : c1 = c := by rw [← hc, Nat.zero_mul, List.drop_zero, ← T.len h1]; simp
    subst e
    rw [Nat.zero_mul, Nat.zero_add, setRow_app _ _ _ _ (by rw [T.len h1]; exact ho)]
    exact ⟨_, c2, rfl, hx, h2⟩
  | y :: xs, cs, i + 1, off, vs, x, c, ⟨c1, c2, e1, h1, h2⟩, hc, hx, ho, hi => by
    subst e1
    have hd : (c2.drop (i * T.n)).take T.n = c := by
      rw [← hc, Nat.succ_mul, Nat.add_comm, ← List.drop_drop]
      rw [show List.drop T.n (c1 ++ c2) = c2 by rw [← T.len h1]; simp]
    have ih := h2.setPart hd hx ho (by simpa using hi)
    rw [Nat.succ_mul, show i * T.n + T.n + off = c1.length + (i * T.n + off) by rw [T.len h1]; omega, setRow_pre]
    exact ⟨c1, _, rfl, h1, ih⟩
theorem e_storeB {t : TypeId} {x y : Operand} (i m off io : Nat) (v : Value) (vs : List Value) {et : TypeId} {A : Option Addr} {l c : Nat} {kb : Bk} {cs : List Value} (xs : List α) (u : α) (hx : evS sl x = some (.pointer (some ⟨kb.g, i * m + off, none⟩))) (hy : evS sl y = some v) (hi : own[io]? = some (some kb))
    (hv : v.cells = vs.toArray) (hz : cellsOfT P t = some vs.length) (h1 : vs.all one1 = true) (hb : Buf p T et (.slice A l c) (some kb) xs) (hm : m = T.n) (hr : (kb.cs.drop (i * m)).take m = cs) (hu : T.rep p (setRow cs off vs) u) (ho : Nat.ble (off + vs.length) T.n = true) (hlt : i < xs.length) :
    Eff P n g own sl (.store t x y) ty (fun v' g' own' => ∃ k', g = g' ∧ own' = own.set io k' ∧ Buf p T et (.slice A l c) k' (xs.set i u)) := by
  subst hm
  intro o a w Q K e1 e2 hf hs h
  have ho' : off + vs.length ≤ T.n := by simpa using ho
  rcases hb.2 with ⟨_, rfl, _⟩ | ⟨b, cap, cs0, sp, q1, q2, q3, q4, q5⟩
  · simp at hlt
  · have q2' := q2
    obtain ⟨hbg, q2c, _⟩ := q2.obj
    subst hbg
    have hl0 : i * T.n + T.n ≤ cs0.length := by rw [q3.len, ← Nat.succ_mul]; exact Nat.mul_le_mul_right _ hlt
    have hcs : (cs0.drop (i * T.n)).take T.n = cs := by
      rw [← hr, q2c]
      show _ = (List.drop (i * T.n) (cs0 ++ sp)).take T.n
      rw [List.drop_append_of_le_length (by omega), List.take_append_of_le_length (by rw [List.length_drop]; omega)]
    have hl : i * T.n + off + vs.length ≤ kb.cs.length := by rw [q2c]; simp; omega
    refine e_store (k := kb) hx hy hi rfl hv hz h1 (by simpa using hl) rfl o a w Q K e1 e2 hf hs fun v' g' own' w' hg hs' ⟨h2, h3⟩ => h v' g' own' w' hg hs' ⟨_, h2, h3, ?_⟩
    refine ⟨by rw [List.length_set]; exact hb.1, .inr ⟨kb.g, cap, setRow cs0 (i * T.n + off) vs, sp, by rw [List.length_set]; exact q1, ?_, q3.setPart hcs hu ho' hlt, by rw [List.length_append, setRow_len, ← List.length_append]; exact q4, q5⟩⟩
    rw [q2c, ← setRow_app _ _ _ _ (by omega)]
    rcases q2' with q | q <;> injection q with q
    · exact .inl (by rw [show kb.t = .ty et by rw [q]])
    · exact .inr (by rw [show kb.t = .ms et by rw [q]])
theorem wide47 {m bytes : Nat} (h : m * bytes ≤ 140737488355328) : m * bytes ≤ 281474976710656 := Nat.le_trans h (by decide)
theorem keepK_P {K own : Own} (is : List (Option Nat)) (h : pickP is own = K) : keepK K own := by
  subst h
  exact fun k hk => by
    obtain ⟨i, _, h2⟩ := pickP_mem hk
    exact List.mem_of_getElem? h2
theorem cells_lent {k : Bk} (off : Nat) (cs : List Value) (h : p.m k.g = some k.obj) (e : (k.cs.drop off).take cs.length = cs) : Cells p ⟨k.g, off, none⟩ cs := by
  intro j v hj
  rw [addr_add]
  simp only [Psi.cell?, h]
  rw [← e] at hj
  have := take_drop_get hj
  obtain ⟨g, t, ks⟩ := k
  cases t with
  | ty t => simpa [Bk.obj] using this
  | ms t => simpa [Bk.obj] using this
  | mp es n =>
    cases ks with
    | nil => simp at this
    | cons c l => simpa [Bk.obj] using this
theorem Buf.srcO {et : TypeId} {A : Option Addr} {c : Nat} {k : Option Bk} {xs : List α} (h : Buf p T et (.slice A xs.length c) k xs) : ∃ news, Reps T p news xs ∧ ∀ (i : Nat) w (own : Own), St w g own → own[i]? = some k → Src w A xs.length news := by
  obtain ⟨news, h1, h2⟩ := h.src
  exact ⟨news, h1, fun i w own hs hi => h2 w fun b hb => by subst hb; exact hs.has b (List.mem_of_getElem? hi)⟩
structure ArrM (r b : Psi) (T : Ty α) (A : Option Addr) (c : Nat) (xs : List α) : Prop where
  cap : xs.length ≤ c
  len : xs.length ≤ 140737488355328
  row : ∃ cs, Reps T b cs xs ∧ (0 < xs.length → ∃ ad, A = some ad ∧ Cells r ad cs)
theorem ArrM.mono {r b r' b' : Psi} {A : Option Addr} {c : Nat} {xs : List α} (h : ArrM r b T A c xs) (k : r.le r') (l : b.le b') : ArrM r' b' T A c xs := by
  obtain ⟨h1, h0, cs, h2, h3⟩ := h
  exact ⟨h1, h0, cs, h2.mono l, fun hn => by obtain ⟨ad, e, hc⟩ := h3 hn; exact ⟨ad, e, hc.mono k⟩⟩
theorem ArrM.toArr {r b : Psi} {A : Option Addr} {c : Nat} {xs : List α} (h : ArrM r b T A c xs) (l : b.le r) : Arr r T A c xs := by
  obtain ⟨h1, h0, cs, h2, h3⟩ := h
  exact ⟨h1, h0, cs, h2.mono l, h3⟩
theorem Arr.toM {r b : Psi} {A : Option Addr} {c : Nat} {xs : List α} (h : Arr b T A c xs) (l : b.le r) : ArrM r b T A c xs := by
  obtain ⟨h1, h0, cs, h2, h3⟩ := h
  exact ⟨h1, h0, cs, h2, fun hn => by obtain ⟨ad, e, hc⟩ := h3 hn; exact ⟨ad, e, hc.mono l⟩⟩
theorem ArrM.lent {g g' : Gh} {A : Option Addr} {c : Nat} {xs : List α} (h : ArrM g.r g.b T A c xs) (k : g.r.le g'.r) (e : g'.b = g.b) : ArrM g'.r g'.b T A c xs := by rw [e]; exact h.mono k (.refl _)
theorem ArrM.nil {r b : Psi} {A : Option Addr} {c : Nat} : ArrM r b T A c [] := ⟨Nat.zero_le _, by simp, [], rfl, fun h => absurd h (by simp)⟩
theorem ArrM.at_ {r b : Psi} {A : Option Addr} {c : Nat} {xs : List α} (h : ArrM r b T A c xs) {i : Nat} {x : α} (hi : xs[i]? = some x) : ∃ ad cs, A = some ad ∧ T.rep b cs x ∧ Cells r (ad.add (i * T.n)) cs := by
  obtain ⟨_, _, cs, h2, h3⟩ := h
  have hlt : i < xs.length := by
    rcases Nat.lt_or_ge i xs.length with h | h
    · exact h
    · rw [List.getElem?_eq_none h] at hi; cases hi
  obtain ⟨ad, e, hc⟩ := h3 (by omega)
  exact ⟨ad, _, e, h2.at_ hi, hc.part _ _⟩
theorem ArrM.srcM {A : Option Addr} {c : Nat} {xs : List α} (h : ArrM g.r g.b T A c xs) : ∃ news, Reps T g.b news xs ∧ ∀ w own, St w g own → Src w A xs.length news := by
  obtain ⟨_, _, cs, h2, h3⟩ := h
  refine ⟨cs, h2, fun w own hs hn => ?_⟩
  obtain ⟨ad, e, hc⟩ := h3 hn
  exact ⟨ad, e, fun j u hj => hs.r.cell (hc j u hj)⟩
theorem arrm_of_buf {et : TypeId} {A : Option Addr} {c : Nat} {k : Option Bk} {xs : List α} {g' : Gh} (h : Buf g.b T et (.slice A xs.length c) k xs) (e : g'.b = g.b) (hk : ∀ b, k = some b → g'.r.m b.g = some b.obj) : ArrM g'.r g'.b T A c xs := by
  rw [e]
  rcases h.2 with ⟨h1, rfl, _⟩ | ⟨b, cap, cs, sp, h1, h2, h3, h4, h5⟩
  · exact ArrM.nil
  · injection h1 with e1 e2 e3
    subst e1; subst e3
    obtain ⟨kb, hkb, rfl, _, _, fz, hob⟩ := h2.some_
    have hm := hk _ hkb
    refine ⟨?_, h.1, cs, h3, fun _ => ⟨_, rfl, fun j v hj => ?_⟩⟩
    · rw [List.length_append, h3.len] at h4
      exact Nat.le_of_mul_le_mul_right (by omega : xs.length * T.n ≤ c * T.n) T.pos
    · rw [addr_add]
      have : (cs ++ sp)[j]? = some v := by
        have hlt : j < cs.length := (List.getElem?_eq_some_iff.1 hj).1
        rw [List.getElem?_append_left hlt]; exact hj
      simp only [Psi.cell?, hm, hob]
      simpa using this
end
section
variable {P : Program} {ops : Array Oper} {Q : Exit → Act → World → Prop} {n : Nat} {lds fin : List Nat} {p : Psi} {K : Own} {g : Gh} {own : Own} {sl : Sl} {fuel : Nat} {listed : List Bool}
end
section
variable {P : Program} {n : Nat} {g : Gh} {own : Own} {sl : Sl} {ty : TypeId}
end
section
variable {P : Program} {n : Nat} {p : Psi} {own : Own} {sl : Sl} {ty : TypeId}
def partOf (P : Program) (t : TypeId) (xs : Array Value) (off : Nat) : Option Value :=
  match aggOf P t with
  | some m => some (.agg (xs.extract off (off + m)))
  | none => if flatOf P t then xs[off]? else none
theorem run_partOf {t : TypeId} {xs : Array Value} {off : Nat} {v : Value} (h : partOf P t xs off = some v) (w : World) : (part t xs off).run P w = .ok v w := by
  unfold partOf at h
  split at h
  · rename_i m hm
    injection h with h
    obtain ⟨h1, h2⟩ := run_isAgg_of hm w
    subst h
    simp [part, h1, h2]
  · split at h
    · rename_i hf
      have h1 := run_isAgg_flat hf w
      simp [part, h1, h]
    · cases h
def joinB (c : Bool) : Option Bool → Option Bool
  | none => some c
  | some r => some (c && r)
def strEq (x y : List UInt8) : Bool := (mkS x).toList == (mkS y).toList
theorem strEq_eq (x y : List UInt8) : strEq x y = (x == y) := by unfold strEq; rw [mkS_toList, mkS_toList]
def eqOf (P : Program) : Nat → TypeId → Value → Value → Option Bool
  | 0, _, _, _ => none
  | d + 1, t, x, y =>
    match P.underlying t, x, y with
    | some .bool, .bool a, .bool b => some (a == b)
    | some .string, .string a, .string b => some (a.toList == b.toList)
    | some (.int _), .int k a, .int k' b => if k = k' then some (a == b) else none
    | some (.struct _), .agg xs, .agg ys =>
      if P.stoodInHeld t then none else
      match (P.fieldsOf t).toList.foldr (fun f r => match r with
        | none => none
        | some r => if f.name = "_" then some r else
          match partOf P f.type xs f.offset, partOf P f.type ys f.offset with
          | some a, some b => match eqOf P d f.type a b with
            | some c => some (joinB c r)
            | none => none
          | _, _ => none) (some none) with
      | some (some b) => some b
      | _ => none
    | some (.array m e), .agg xs, .agg ys =>
      match P.info? e with
      | none => none
      | some _ => match (List.range m).foldr (fun i r => match r with
          | none => none
          | some r => match partOf P e xs (i * P.cellsOf e), partOf P e ys (i * P.cellsOf e) with
            | some a, some b => match eqOf P d e a b with
              | some c => some (joinB c r)
              | none => none
            | _, _ => none) (some none) with
        | some (some b) => some b
        | _ => none
    | _, _, _ => none
theorem run_eqIs {d D : Nat} {w : World} {e : TypeId} {k : Nat} {xs ys : Array Value} (ih : ∀ t x y b, eqOf P d t x y = some b → (Op.equalIn (d + D) t x y).run P w = .ok b w) : ∀ (is : List Nat) (r : Option Bool),
    is.foldr (fun i r => match r with
          | none => none
          | some r => match partOf P e xs (i * k), partOf P e ys (i * k) with
            | some a, some b => match eqOf P d e a b with
              | some c => some (joinB c r)
              | none => none
            | _, _ => none) (some none) = some r → (Op.eqItems (d + D) e k xs ys is).run P w = .ok (r.getD true) w
  | [], r, h => by injection h with h; subst h; simp [Op.eqItems]
  | i :: is, r, h => by
    rw [List.foldr_cons] at h
    split at h
    · cases h
    · rename_i r1 hr1
      have ih2 := run_eqIs ih is r1 hr1
      split at h
      · rename_i a b ha hb
        split at h
        · rename_i c hc
          injection h with h
          have e := ih _ _ _ _ hc
          subst h
          simp only [Op.eqItems, Sem.run_bind, run_partOf ha, run_partOf hb, Result.andThen_ok, e]
          cases c with
          | false => cases r1 <;> simp [joinB]
          | true => cases r1 <;> simp [joinB, ih2]
        · cases h
      · cases h
theorem run_eqFs {d D : Nat} {w : World} {xs ys : Array Value} (ih : ∀ t x y b, eqOf P d t x y = some b → (Op.equalIn (d + D) t x y).run P w = .ok b w) : ∀ (fs : List Field) (r : Option Bool),
    fs.foldr (fun f r => match r with
        | none => none
        | some r => if f.name = "_" then some r else
          match partOf P f.type xs f.offset, partOf P f.type ys f.offset with
          | some a, some b => match eqOf P d f.type a b with
            | some c => some (joinB c r)
            | none => none
          | _, _ => none) (some none) = some r → (Op.eqFields (d + D) xs ys fs).run P w = .ok (r.getD true) w
  | [], r, h => by injection h with h; subst h; simp [Op.eqFields]
  | f :: fs, r, h => by
    rw [List.foldr_cons] at h
    split at h
    · cases h
    · rename_i r1 hr1
      have ih2 := run_eqFs ih fs r1 hr1
      split at h
      · rename_i hn
        injection h with h; subst h
        simp [Op.eqFields, hn, ih2]
      · rename_i hn
        split at h
        · rename_i a b ha hb
          split at h
          · rename_i c hc
            injection h with h
            have e := ih _ _ _ _ hc
            subst h
            simp only [Op.eqFields, hn, ne_eq, not_false_eq_true, if_true, Sem.run_bind, run_partOf ha, run_partOf hb, Result.andThen_ok, e]
            cases c with
            | false => cases r1 <;> simp [joinB]
            | true => cases r1 <;> simp [joinB, ih2]
          · cases h
        · cases h
theorem run_eqOf {w : World} : ∀ (d D : Nat) (t : TypeId) (x y : Value) (b : Bool), eqOf P d t x y = some b → (Op.equalIn (d + D) t x y).run P w = .ok b w
  | 0, D, t, x, y, b, h => by cases h
  | d + 1, D, t, x, y, b, h => by
    rw [show d + 1 + D = (d + D) + 1 by omega]
    unfold eqOf at h
    split at h
    · rename_i a b' ht
      injection h with h; subst h
      exact run_equalIn_bool' w _ t a b' ht
    · rename_i a b' ht
      injection h with h; subst h
      exact run_equalIn_string w _ t a b' ht
    · rename_i k0 k a k' b' ht
      split at h
      · rename_i hk
        injection h with h; subst h; subst hk
        exact run_equalIn_int w _ t k k0 a b' ht
      · cases h
    · rename_i fs xs ys ht
      split at h
      · cases h
      · rename_i hst
        split at h
        · rename_i b' hf
          injection h with h; subst h
          have hfs : P.underlying t = some (.struct (P.fieldsOf t)) := by simp [Program.fieldsOf, ht]
          rw [run_equalIn_struct w _ t xs ys hfs (by simpa using hst)]
          exact run_eqFs (fun t x y b h => run_eqOf d D t x y b h) _ _ hf
        · cases h
    · rename_i m e xs ys ht
      split at h
      · cases h
      · rename_i i hi
        split at h
        · rename_i b' hf
          injection h with h; subst h
          rw [run_equalIn_array w _ xs ys ht hi]
          exact run_eqIs (fun t x y b h => run_eqOf d D t x y b h) _ _ hf
        · cases h
    · cases h
theorem y_eqA {t u : TypeId} {x y : Operand} {xs ys : Array Value} {b : Bool} (hx : evS sl x = some (.agg xs)) (hy : evS sl y = some (.agg ys)) (hg : P.eqGuardType P.depth t = false) (h : eqOf P 9 t (.agg xs) (.agg ys) = some b) : Yld P n p own sl (.binOp .eql t x y u) ty (.bool b) := by
  intro o a w h1 h2 hf hr
  have e := run_eqOf (P := P) (w := w) 9 9991 t _ _ b h
  have e2 := run_eql_struct (P := P) w t xs ys
  rw [e] at e2
  simp [execOp, h1, hf.ev hx, hf.ev hy, run_eqGuard_agg (P := P) w .eql t x y xs ys hg, e2]
theorem y_neA {t u : TypeId} {x y : Operand} {xs ys : Array Value} {b : Bool} (hx : evS sl x = some (.agg xs)) (hy : evS sl y = some (.agg ys)) (hg : P.eqGuardType P.depth t = false) (h : eqOf P 9 t (.agg xs) (.agg ys) = some b) : Yld P n p own sl (.binOp .neq t x y u) ty (.bool (!b)) := by
  intro o a w h1 h2 hf hr
  have e := run_eqOf (P := P) (w := w) 9 9991 t _ _ b h
  have e2 := run_neq_struct (P := P) w t xs ys
  rw [e] at e2
  simp [execOp, h1, hf.ev hx, hf.ev hy, run_eqGuard_agg (P := P) w .neq t x y xs ys hg, e2]
end
abbrev vi (x : Int) : Value := .int .i64 x
abbrev vy (x : Int) : Value := .int .u8 x
abbrev vb (b : Bool) : Value := .bool b
abbrev vs {α : Type} (A : Option Addr) (xs : List α) (c : Nat) : Value := .slice A xs.length c
inductive Ctl (σ ρ : Type) where
  | go (s : σ)
  | done (r : ρ)
def grd {ρ : Type} (b : Bool) (x : Option ρ) : Option ρ := cond b x none
def bindO {τ ρ : Type} (x : Option τ) (k : τ → Option ρ) : Option ρ := match x with | some t => k t | none => none
def joinO {τ ρ : Type} (x : Option (Ctl τ ρ)) (k : τ → Option ρ) : Option ρ := match x with | some (.go t) => k t | some (.done r) => some r | none => none
def loopO {σ ρ : Type} (n : Nat) (f : σ → Option (Ctl σ ρ)) (s : σ) : Option ρ := Nat.rec (motive := fun _ => σ → Option ρ) (fun _ => none) (fun _ ih s => joinO (f s) ih) n s
def fuelN : Nat := 18446744073709551616
theorem grd_T {ρ : Type} {b : Bool} {A : Option ρ} {r : ρ} (hS : grd b A = some r) : b = true ∧ A = some r := by
  cases b with
  | true => exact ⟨rfl, hS⟩
  | false => cases hS
theorem bindO_T {τ ρ : Type} {x : Option τ} {k : τ → Option ρ} {r : ρ} (hS : bindO x k = some r) : ∃ t, x = some t ∧ k t = some r := by
  cases x with
  | none => cases hS
  | some t => exact ⟨t, rfl, hS⟩
theorem joinO_T {τ ρ : Type} {x : Option (Ctl τ ρ)} {k : τ → Option ρ} {r : ρ} (hS : joinO x k = some r) : ∃ c, x = some c ∧ (∀ t, c = .go t → k t = some r) ∧ ∀ v, c = .done v → v = r := by
  cases x with
  | none => cases hS
  | some c =>
    refine ⟨c, rfl, fun t e => ?_, fun v e => ?_⟩
    · subst e; exact hS
    · subst e; exact Option.some.inj hS
theorem loopO_T {σ ρ : Type} {n : Nat} {f : σ → Option (Ctl σ ρ)} {s : σ} {r : ρ} (hS : loopO n f s = some r) : ∃ m c, n = m + 1 ∧ f s = some c ∧ (∀ t, c = .go t → loopO m f t = some r) ∧ ∀ v, c = .done v → v = r := by
  cases n with
  | zero => cases hS
  | succ m =>
    obtain ⟨c, h1, h2, h3⟩ := joinO_T (x := f s) (k := loopO m f) hS
    exact ⟨m, c, rfl, h1, h2, h3⟩
section
variable {P : Program} {Q : Exit → Act → World → Prop} {n : Nat} {g : Gh} {own : Own} {sl : Sl} {C : Code} {p : List Nat}
end
section
variable {P : Program} {ops : Array Oper} {Q : Exit → Act → World → Prop} {n : Nat} {g : Gh} {own : Own} {sl : Sl}
end
section
variable {P : Program} {ops : Array Oper} {Q : Exit → Act → World → Prop} {n : Nat} {g : Gh} {own : Own} {sl : Sl}
variable {lds fin : List Nat} {p : Psi} {K : Own}
theorem kk {i : Nat} {G : Prop} {own' : Own} (m : List (Option Nat)) (k : G) (h : pickP m own' = K := by kernel_rfl) : (fin.contains i = true ∨ keepK K own') ∧ G := ⟨.inr (keepK_P m h), k⟩
end
section
variable {P : Program} {n : Nat} {p : Psi} {own : Own} {sl : Sl} {ty : TypeId} {op : Op}
def bnd (o : Option Int) (d : Nat) (l : Nat) : Prop := match o with | none => d = l | some z => z = (l : Int)
end
section
variable {P : Program} {n : Nat} {g : Gh} {own : Own} {sl : Sl} {ty : TypeId} {op : Op} {p : Psi} {α : Type} {T : Ty α}
def Row (p : Psi) (T : Ty α) (et : TypeId) (b : Nat) (N : Nat) (k : Option Bk) (xs : List α) : Prop := ∃ cs, k = some ⟨b, et, cs⟩ ∧ Reps T p cs xs ∧ xs.length = N
theorem Row.mono {et : TypeId} {b N : Nat} {k : Option Bk} {xs : List α} {q : Psi} (h : Row p T et b N k xs) (hl : p.le q) : Row q T et b N k xs := by
  obtain ⟨cs, h1, h2, h3⟩ := h
  exact ⟨cs, h1, h2.mono hl, h3⟩
theorem Row.open_ {et : TypeId} {b N : Nat} {k : Option Bk} {xs : List α} (h : Row p T et b N k xs) {i : Nat} (hi : i < N) (d : α) : ∃ kb cs, b = kb.g ∧ k = some kb ∧ i < xs.length ∧ T.rep p cs (xs.getD i d) ∧ (kb.cs.drop (i * T.n)).take T.n = cs := by
  obtain ⟨cs, h1, h2, h3⟩ := h
  have hx : xs[i]? = some (xs.getD i d) := by rw [List.getD_eq_getElem?_getD, List.getElem?_eq_getElem (by omega)]; rfl
  exact ⟨_, _, rfl, h1, by omega, h2.at_ hx, rfl⟩
end
section
variable {P : Program} {Q : Exit → Act → World → Prop} {n : Nat} {g g0 : Gh} {own : Own} {sl : Sl} {C : Code} {pth : List Nat}
end
section
variable {P : Program} {Q : Exit → Act → World → Prop} {n : Nat} {g : Gh} {own : Own} {sl : Sl} {C c : Code} {p : List Nat}
end
section
variable {n : Nat} {g : Gh} {own : Own} {sl : Sl} {p : Psi} {α : Type} {T : Ty α}
end
section
variable {P : Program} {n : Nat} {p : Psi} {own : Own} {sl : Sl} {ty : TypeId} {op : Op}
end
section
variable {P : Program} {n : Nat} {p : Psi} {g : Gh} {own : Own} {sl : Sl} {ty : TypeId} {op : Op} {α : Type} {T : Ty α}
end
section
variable {P : Program} {ops : Array Oper} {Q : Exit → Act → World → Prop} {n : Nat} {g : Gh} {own : Own} {sl : Sl} {lds fin : List Nat} {p : Psi} {K : Own}
end
theorem wr_u32 {x : Int} (h : 0 ≤ x ∧ x ≤ 4294967295) : IntKind.u32.wrap x = x := IntWalk.u32_in x h
section
variable {P : Program} {n : Nat} {p : Psi} {own : Own} {sl : Sl} {ty : TypeId} {op : Op}
theorem run_pnil {w : World} (d : Nat) {t e : TypeId} {A : Option Addr} (ht : P.underlying t = some (.pointer e)) : (Op.equalIn (d + 1) t (.pointer A) (.pointer none)).run P w = .ok A.isNone w := by
  cases A <;> simp [Op.equalIn, run_underlying ht]
end
theorem loopO_go {σ ρ : Type} {f : σ → Option (Ctl σ ρ)} {s s' : σ} {N : Nat} (h : f s = some (.go s')) : loopO (N + 1) f s = loopO N f s' := by
  show joinO (f s) (loopO N f) = _
  rw [h]; rfl
theorem loopO_done {σ ρ : Type} {f : σ → Option (Ctl σ ρ)} {s : σ} {r : ρ} {N : Nat} (h : f s = some (.done r)) : loopO (N + 1) f s = some r := by
  show joinO (f s) (loopO N f) = _
  rw [h]; rfl
section
variable {P : Program} {n : Nat} {g : Gh} {own : Own} {sl : Sl} {ty : TypeId} {op : Op} {α : Type} {T : Ty α}
def cvC (P : Program) (sl : Sl) (op : Op) : Option (Option Addr × Nat × Nat) := match op with
  | .convert s d x => match evS sl x, P.underlying s, P.underlying d with
    | some (.slice A l c), some (.slice _), some (.slice e) => match s == d, P.underlying e with
      | true, some (.int .u8) => some (A, l, c)
      | _, _ => none
    | _, _, _ => none
  | _ => none
end
theorem u8_in (x : Int) : 0 ≤ IntKind.u8.wrap x ∧ IntKind.u8.wrap x ≤ 255 := lit_wf (wf_wrap .u8 x)
def landnK (k : IntKind) (a b : Int) : Int := k.wrap (BitVec.ofInt k.bits a &&& ~~~ BitVec.ofInt k.bits b).toNat
section
variable {P : Program} {n : Nat} {g : Gh} {own : Own} {sl : Sl} {ty : TypeId} {op : Op} {p : Psi} {α : Type} {T : Ty α}
end
section
variable {P : Program} {n : Nat} {own : Own} {sl : Sl} {ty : TypeId} {op : Op} {p : Psi}
end
section
variable {P : Program} {n : Nat} {own : Own} {sl : Sl} {ty : TypeId} {op : Op} {p : Psi}
end
def mapEnts : List Value → Nat → List MapEntry
  | k :: v :: l, i => ⟨k, v, i⟩ :: mapEnts l (i + 1)
  | _, _ => []
def mapB (cs : List Value) : BkT := .mp (mapEnts cs 0).toArray (cs.length / 2)
section
variable {α : Type} {T : Ty α} {p q : Psi}
def ElS (T : Ty α) (p : Psi) (v : Value) (y : List α) : Prop := ∃ A c, v = .slice A y.length c ∧ Arr p T A c y
def MReps (T : Ty α) (p : Psi) : List Value → List (Int × List α) → Prop
  | [], [] => True
  | k :: v :: cs, x :: xs => k = .int .u8 x.1 ∧ ElS T p v x.2 ∧ MReps T p cs xs
  | _, _ => False
theorem ElS.mono {v : Value} {y : List α} (h : ElS T p v y) (hl : p.le q) : ElS T q v y := by
  obtain ⟨A, c, e, f⟩ := h
  exact ⟨A, c, e, f.mono hl⟩
theorem MReps.mono (hl : p.le q) : ∀ {cs : List Value} {xs : List (Int × List α)}, MReps T p cs xs → MReps T q cs xs
  | [], [], _ => trivial
  | [], _ :: _, h => h.elim
  | [_], _, h => h.elim
  | k :: v :: cs, [], h => h.elim
  | k :: v :: cs, x :: xs, h => ⟨h.1, h.2.1.mono hl, MReps.mono hl h.2.2⟩
def MBuf (p : Psi) (T : Ty α) (v : Value) (k : Option Bk) (xs : List (Int × List α)) : Prop := ∃ b cs, v = .map (some b) ∧ k = some ⟨b, mapB cs, []⟩ ∧ MReps T p cs xs
theorem MBuf.mono {v : Value} {k : Option Bk} {xs : List (Int × List α)} (h : MBuf p T v k xs) (hl : p.le q) : MBuf q T v k xs := by
  obtain ⟨b, cs, h1, h2, h3⟩ := h
  exact ⟨b, cs, h1, h2, h3.mono hl⟩
end
theorem opens_sized {P : Program} {t e : TypeId} {α : Type} {T : Ty α} {ok : α → Prop} (m : Nat) (hm : P.bytesOf e = m) (he : Opens P e T ok) (ht : P.underlying t = some (.slice e)) (hc : P.cellsOf e = T.n) (hb : Nat.blt 0 (P.bytesOf e) = true) : Opens P t (tyArr T) (fun xs => xs.length * m ≤ 140737488351232 ∧ ∀ x ∈ xs, ok x) := by
  intro H enc w base spare held fuel cs d pl h hw
  obtain ⟨xs, hr, hk⟩ := opens_slice he ht hc hb h hw
  refine ⟨xs, hr, ?_, hk⟩
  obtain ⟨A, c, rfl, hA⟩ := hr
  rcases open_slice ht h with ⟨h1, _⟩ | ⟨a, len, cap, k, n, D, Pl, h1, hbs, hl, hmm, hmk, hx, hi⟩
  · simp only [List.cons.injEq, Value.slice.injEq, and_true] at h1
    rw [h1.2.1]; omega
  · simp only [List.cons.injEq, Value.slice.injEq, and_true] at h1
    obtain ⟨_, h2, _⟩ := h1
    have hlm : len ≤ k := by rw [hmk]; split <;> omega
    injection hx with hd _
    subst hd
    simp only [DataW.weights, ht] at hw
    have := hw _ (List.mem_cons_self ..)
    simp only [List.length_map, List.length_range, reachBytes] at this
    rw [h2, ← hm]
    have h3 : len * P.bytesOf e ≤ (len + (k - len)) * P.bytesOf e := Nat.mul_le_mul_right _ (by omega)
    omega
theorem St.allocK {w : World} {g : Gh} {own : Own} (h : St w g own) (k : Bk) (hk0 : k.g = w.heap.size) : St (w.alloc k.obj) g (some k :: own) := by
  refine ⟨⟨h.r.os, h.r.tape, h.r.out, fun b o e => ?_⟩, ?_, ?_, ?_⟩
  · have h1 := h.r.m b o e
    have hlt : b < w.heap.size := by
      rcases Nat.lt_or_ge b w.heap.size with h2 | h2
      · exact h2
      · rw [Array.getElem?_eq_none h2] at h1; cases h1
    rw [Below.heap_alloc _ _ _ hlt]; exact h1
  · simp only [Own.ids, List.filterMap_cons, Option.map_some, List.nodup_cons]
    refine ⟨fun hm => ?_, h.nodup⟩
    obtain ⟨k', hk, e⟩ := Own.of_ids hm
    have := h.has.lt hk
    omega
  · intro k' hk
    rcases List.mem_cons.1 hk with e | hk
    · injection e with e; subst e
      rw [hk0]
      show (w.heap.push _)[w.heap.size]? = _
      simp
    · rw [Below.heap_alloc _ _ _ (h.has.lt hk)]; exact h.has k' hk
  · intro k' hk
    rcases List.mem_cons.1 hk with e | hk
    · injection e with e; subst e
      rw [hk0]
      exact h.r.lt (Nat.le_refl _)
    · exact h.free k' hk
section
variable {P : Program} {n : Nat} {g : Gh} {own : Own} {sl : Sl} {ty : TypeId} {op : Op} {α : Type} {T : Ty α}
end
inductive Cd where
  | i (k : IntKind)
  | y
  | b
  | s
  | a (c : Cd)
  | p (c d : Cd)
def Cd.den : Cd → Type
  | .i _ => Int
  | .y => UInt8
  | .b => Bool
  | .s => List UInt8
  | .a c => List c.den
  | .p c d => c.den × d.den
def Cd.n : Cd → Nat
  | .p c d => c.n + d.n
  | _ => 1
def Cd.dflt : (c : Cd) → c.den
  | .i _ => (0 : Int)
  | .y => (0 : UInt8)
  | .b => false
  | .s => ([] : List UInt8)
  | .a c => ([] : List c.den)
  | .p c d => (c.dflt, d.dflt)
def sameK : (j k : IntKind) → Option (PLift (j = k))
  | .i8, .i8 => some ⟨rfl⟩ | .i16, .i16 => some ⟨rfl⟩ | .i32, .i32 => some ⟨rfl⟩ | .i64, .i64 => some ⟨rfl⟩
  | .u8, .u8 => some ⟨rfl⟩ | .u16, .u16 => some ⟨rfl⟩ | .u32, .u32 => some ⟨rfl⟩ | .u64, .u64 => some ⟨rfl⟩
  | _, _ => none
def Cd.same : (c d : Cd) → Option (PLift (c = d))
  | .i j, .i k => match sameK j k with | some ⟨h⟩ => some ⟨by rw [h]⟩ | none => none
  | .y, .y => some ⟨rfl⟩
  | .b, .b => some ⟨rfl⟩
  | .s, .s => some ⟨rfl⟩
  | .a c, .a d => match c.same d with | some ⟨h⟩ => some ⟨by rw [h]⟩ | none => none
  | .p c d, .p e f => match c.same e, d.same f with | some ⟨h⟩, some ⟨k⟩ => some ⟨by rw [h, k]⟩ | _, _ => none
  | _, _ => none
theorem inK_zero (k : IntKind) : inK k 0 := by cases k <;> simp [inK, IntKind.min, IntKind.max, IntKind.signed, IntKind.bits]
theorem inK_wrap (k : IntKind) (x : Int) : inK k (k.wrap x) := by
  have h : k.wrap x = k.wrap x := rfl
  cases k <;> simp [inK, IntKind.min, IntKind.max, IntKind.signed, IntKind.bits, IntKind.wrap] <;> omega
def tyIR (k : IntKind) : Ty Int := ⟨1, by decide, fun _ cs x => cs = [.int k x] ∧ inK k x, fun h => by rw [h.1]; rfl, fun h => by rw [h.1]; rfl, fun _ h => h⟩
def tySR : Ty (List UInt8) := ⟨1, by decide, fun _ cs x => cs = [.string (mkS x)] ∧ x.length ≤ 1125899906842624, fun h => by rw [h.1]; rfl, fun h => by rw [h.1]; rfl, fun _ h => h⟩
def tyPr {α β : Type} (T : Ty α) (U : Ty β) : Ty (α × β) := ⟨T.n + U.n, Nat.add_pos_left T.pos _, fun p cs x => ∃ c1 c2, cs = c1 ++ c2 ∧ T.rep p c1 x.1 ∧ U.rep p c2 x.2,
  fun ⟨c1, c2, e, h1, h2⟩ => by rw [e, List.length_append, T.len h1, U.len h2], fun ⟨c1, c2, e, h1, h2⟩ => by rw [e, List.all_append, T.one h1, U.one h2]; rfl, fun k ⟨c1, c2, e, h1, h2⟩ => ⟨c1, c2, e, T.mono k h1, U.mono k h2⟩⟩
def Cd.ty : (c : Cd) → Ty c.den
  | .i k => tyIR k
  | .y => tyU8
  | .b => tyB
  | .s => tySR
  | .a c => tyArr c.ty
  | .p c d => tyPr c.ty d.ty
theorem Cd.ty_n : ∀ (c : Cd), c.ty.n = c.n
  | .i _ => rfl
  | .y => rfl
  | .b => rfl
  | .s => rfl
  | .a _ => rfl
  | .p c d => by show c.ty.n + d.ty.n = c.n + d.n; rw [Cd.ty_n c, Cd.ty_n d]
def leI : Int → Int → Bool
  | .ofNat a, .ofNat b => Nat.ble a b
  | .negSucc _, .ofNat _ => true
  | .ofNat _, .negSucc _ => false
  | .negSucc a, .negSucc b => Nat.ble b a
theorem leI_ok {a b : Int} (h : leI a b = true) : a ≤ b := by
  cases a <;> cases b <;> simp only [leI] at h
  · have := Nat.le_of_ble_eq_true h; rw [Int.ofNat_eq_natCast, Int.ofNat_eq_natCast]; omega
  · cases h
  · rw [Int.ofNat_eq_natCast]; omega
  · have := Nat.le_of_ble_eq_true h; omega
def kMin : IntKind → Int
  | .i8 => .negSucc 127 | .i16 => .negSucc 32767 | .i32 => .negSucc 2147483647 | .i64 => .negSucc 9223372036854775807 | _ => 0
def kMax : IntKind → Int
  | .i8 => 127 | .i16 => 32767 | .i32 => 2147483647 | .i64 => 9223372036854775807 | .u8 => 255 | .u16 => 65535 | .u32 => 4294967295 | .u64 => 18446744073709551615
def inKb (k : IntKind) (x : Int) : Bool := leI (kMin k) x && leI x (kMax k)
theorem inKb_ok {k : IntKind} {x : Int} (h : inKb k x = true) : inK k x := by
  simp only [inKb, Bool.and_eq_true] at h
  have h1 := leI_ok h.1
  have h2 := leI_ok h.2
  have e1 : k.min = kMin k := by cases k <;> rfl
  have e2 : k.max = kMax k := by cases k <;> rfl
  exact ⟨by rw [e1]; exact h1, by rw [e2]; exact h2⟩
def encV : (c : Cd) → c.den → Option (List Value)
  | .i k, x => cond (inKb k x) (some [.int k x]) none
  | .y, x => some [.int .u8 ((UInt8.toNat x : Nat) : Int)]
  | .b, x => some [.bool x]
  | .s, x => cond (Nat.ble (List.length (α := UInt8) x) 1125899906842624) (some [.string (mkS x)]) none
  | .a _, _ => none
  | .p c d, x => match encV c x.1, encV d x.2 with | some l, some m => some (l ++ m) | _, _ => none
theorem encV_rep {p : Psi} : ∀ (c : Cd) {x : c.den} {cs : List Value}, encV c x = some cs → c.ty.rep p cs x
  | .i k, x, cs, h => by
    have h : cond (inKb k x) (some [Value.int k x]) none = some cs := h
    cases e : inKb k x with
    | true => rw [e] at h; injection h with h; subst h; exact ⟨rfl, inKb_ok e⟩
    | false => rw [e] at h; cases h
  | .y, x, cs, h => by injection h with h; subst h; rfl
  | .b, x, cs, h => by injection h with h; subst h; rfl
  | .s, x, cs, h => by
    have h : cond (Nat.ble (List.length (α := UInt8) x) 1125899906842624) (some [Value.string (mkS x)]) none = some cs := h
    cases e : Nat.ble (List.length (α := UInt8) x) 1125899906842624 with
    | true => rw [e] at h; injection h with h; subst h; exact ⟨rfl, Nat.le_of_ble_eq_true e⟩
    | false => rw [e] at h; cases h
  | .a _, _, _, h => by cases h
  | .p c d, x, cs, h => by
    unfold encV at h
    split at h
    · rename_i l m h1 h2
      injection h with h; subst h
      exact ⟨l, m, rfl, encV_rep c h1, encV_rep d h2⟩
    · cases h
structure GDV where
  c : Cd
  x : c.den
def getG : List (Nat × GDV) → Nat → Option GDV
  | [], _ => none
  | (k, d) :: l, t => cond (Nat.beq k t) (some d) (getG l t)
def GW (w : World) : Prop := True
def gv0 : Int × Int × Int × Int × Int × Int × Int × Int × Int × Int × Int × Int × Int × Int × Int × Int × Int × Int := (0, 1, 9, 25, 9, 71, 71, 16, 50, 16, 146, 17, 49, 17, 53, 53, 53, 53)
def gl0 : List Int := [0, 1, 9, 25, 9, 71, 71, 16, 50, 16, 146, 17, 49, 17, 53, 53, 53, 53]
def gv1 : List UInt8 × List UInt8 × List UInt8 × List UInt8 × List UInt8 × List UInt8 × List UInt8 × List UInt8 × List UInt8 × List UInt8 × List UInt8 × List UInt8 × List UInt8 × List UInt8 × List UInt8 × List UInt8 × List UInt8 × List UInt8 := ([], [73, 70], [84, 70], [67, 70], [68, 70], [82, 70], [65, 70], [67, 65], [67, 68], [67, 73], [67, 82], [70, 65], [70, 67], [70, 77], [72, 65], [72, 70], [72, 77], [80, 73])
def gv10 : Int × Int × Int × Int × Int × Int × Int × Int × Int × Int × Int × Int × Int × Int × Int × Int × Int × Int × Int × Int × Int × Int × Int × Int × Int × Int × Int × Int × Int × Int × Int × Int := (0, 1, 28, 2, 29, 14, 24, 3, 30, 22, 20, 15, 25, 17, 4, 8, 31, 27, 13, 23, 21, 19, 16, 7, 26, 12, 18, 6, 11, 5, 10, 9)
def gv11 : Int × Int × Int × Int × Int × Int × Int × Int × Int × Int × Int × Int × Int × Int × Int × Int × Int × Int × Int × Int × Int × Int × Int × Int × Int × Int × Int × Int × Int × Int × Int × Int × Int × Int × Int × Int × Int × Int × Int × Int × Int × Int × Int × Int × Int × Int × Int × Int × Int × Int × Int × Int × Int × Int × Int × Int × Int × Int × Int × Int × Int × Int × Int × Int := (0, 1, 56, 2, 57, 49, 28, 3, 61, 58, 42, 50, 38, 29, 17, 4, 62, 47, 59, 36, 45, 43, 51, 22, 53, 39, 33, 30, 24, 18, 12, 5, 63, 55, 48, 27, 60, 41, 37, 16, 46, 35, 44, 21, 52, 32, 23, 11, 54, 26, 40, 15, 34, 20, 31, 10, 25, 14, 19, 9, 13, 8, 7, 6)
def GD : List (Nat × GDV) := [(0, ⟨(.p (.i .u16) (.p (.i .u16) (.p (.i .u16) (.p (.i .u16) (.p (.i .u16) (.p (.i .u16) (.p (.i .u16) (.p (.i .u16) (.p (.i .u16) (.p (.i .u16) (.p (.i .u16) (.p (.i .u16) (.p (.i .u16) (.p (.i .u16) (.p (.i .u16) (.p (.i .u16) (.p (.i .u16) (.i .u16)))))))))))))))))), gv0⟩), (1, ⟨(.p .s (.p .s (.p .s (.p .s (.p .s (.p .s (.p .s (.p .s (.p .s (.p .s (.p .s (.p .s (.p .s (.p .s (.p .s (.p .s (.p .s .s))))))))))))))))), gv1⟩), (10, ⟨(.p (.i .u8) (.p (.i .u8) (.p (.i .u8) (.p (.i .u8) (.p (.i .u8) (.p (.i .u8) (.p (.i .u8) (.p (.i .u8) (.p (.i .u8) (.p (.i .u8) (.p (.i .u8) (.p (.i .u8) (.p (.i .u8) (.p (.i .u8) (.p (.i .u8) (.p (.i .u8) (.p (.i .u8) (.p (.i .u8) (.p (.i .u8) (.p (.i .u8) (.p (.i .u8) (.p (.i .u8) (.p (.i .u8) (.p (.i .u8) (.p (.i .u8) (.p (.i .u8) (.p (.i .u8) (.p (.i .u8) (.p (.i .u8) (.p (.i .u8) (.p (.i .u8) (.i .u8)))))))))))))))))))))))))))))))), gv10⟩), (11, ⟨(.p (.i .u8) (.p (.i .u8) (.p (.i .u8) (.p (.i .u8) (.p (.i .u8) (.p (.i .u8) (.p (.i .u8) (.p (.i .u8) (.p (.i .u8) (.p (.i .u8) (.p (.i .u8) (.p (.i .u8) (.p (.i .u8) (.p (.i .u8) (.p (.i .u8) (.p (.i .u8) (.p (.i .u8) (.p (.i .u8) (.p (.i .u8) (.p (.i .u8) (.p (.i .u8) (.p (.i .u8) (.p (.i .u8) (.p (.i .u8) (.p (.i .u8) (.p (.i .u8) (.p (.i .u8) (.p (.i .u8) (.p (.i .u8) (.p (.i .u8) (.p (.i .u8) (.p (.i .u8) (.p (.i .u8) (.p (.i .u8) (.p (.i .u8) (.p (.i .u8) (.p (.i .u8) (.p (.i .u8) (.p (.i .u8) (.p (.i .u8) (.p (.i .u8) (.p (.i .u8) (.p (.i .u8) (.p (.i .u8) (.p (.i .u8) (.p (.i .u8) (.p (.i .u8) (.p (.i .u8) (.p (.i .u8) (.p (.i .u8) (.p (.i .u8) (.p (.i .u8) (.p (.i .u8) (.p (.i .u8) (.p (.i .u8) (.p (.i .u8) (.p (.i .u8) (.p (.i .u8) (.p (.i .u8) (.p (.i .u8) (.p (.i .u8) (.p (.i .u8) (.p (.i .u8) (.i .u8)))))))))))))))))))))))))))))))))))))))))))))))))))))))))))))))), gv11⟩)]
def MRS (c : Cd) (p : Psi) : List Value → List (List UInt8 × c.den) → Prop
  | [], [] => True
  | k :: v :: cs, x :: xs => (k = .string (mkS x.1) ∧ x.1.length ≤ 1125899906842624) ∧ c.ty.rep p [v] x.2 ∧ MRS c p cs xs
  | _, _ => False
theorem MRS.mono {c : Cd} {p q : Psi} (hl : p.le q) : ∀ {cs : List Value} {xs : List (List UInt8 × c.den)}, MRS c p cs xs → MRS c q cs xs
  | [], [], _ => trivial
  | [], _ :: _, h => h.elim
  | [_], _, h => h.elim
  | k :: v :: cs, [], h => h.elim
  | k :: v :: cs, x :: xs, h => ⟨h.1, c.ty.mono hl h.2.1, MRS.mono hl h.2.2⟩
inductive CV where
  | int (k : IntKind) (x : Int)
  | bool (b : Bool)
  | str (l : List UInt8)
  | k (v : Value)
  | ptr (b off : Nat)
  | own (b : Nat)
  | ro (c : Cd) (xs : List c.den) (m : Bool)
  | el (c : Cd) (x : c.den) (off : Nat)
  | eo (b : Nat) (c : Cd) (i off : Nat)
  | vw (b : Nat) (c : Cd) (l h : Nat)
  | fn (f : FuncId)
  | cap (f c : CV)
  | ifc (t : TypeId) (c : CV)
  | nb (e neg : Bool)
  | mp (b : Nat)
  | sc (b n : Nat)
  | bnd (f : FuncId) (c : CV)
inductive V1 where
  | c (x : CV)
  | agg (l : List CV)
inductive SV where
  | v (x : V1)
  | tup (l : List V1)
  | und
  | any
inductive BV where
  | hole
  | no
  | cells (t : TypeId) (l : List CV)
  | row (c : Cd) (et : TypeId) (xs : List c.den)
  | fz (c : Cd) (xs : List c.den)
  | lent (l : List CV)
  | map (c : Cd) (xs : List (List UInt8 × c.den))
structure HSt where
  sl : List (Nat × SV)
  bl : List BV
abbrev Env := Nat → Option Addr × Nat
def BV.len : BV → Option Nat
  | .row _ _ xs => some xs.length
  | .fz _ xs => some xs.length
  | _ => none
def BV.isHole : BV → Bool
  | .hole => true
  | _ => false
def Known (bl : List BV) (b : Nat) : Prop := ∃ bv, bl[b]? = some bv ∧ bv.isHole = false
def constant : Value → Bool
  | .pointer none => true
  | .slice none 0 0 => true
  | .nilFunc => true
  | .map none => true
  | .nilIface => true
  | _ => false
def RealC (g : Gh) (ρ : Env) (bl : List BV) : CV → Value → Prop
  | .int k x, v => v = .int k x ∧ inK k x
  | .bool b, v => v = .bool b
  | .str l, v => v = .string (mkS l) ∧ l.length ≤ 1125899906842624
  | .k c, v => v = c ∧ constant c = true
  | .ptr b off, v => Known bl b ∧ ∃ a, (ρ b).1 = some a ∧ v = .pointer (some (a.add off))
  | .own b, v => Known bl b ∧ ∃ n, v = .slice (ρ b).1 n (ρ b).2 ∧ ∀ bv m, bl[b]? = some bv → bv.len = some m → n = m
  | .ro c xs m, v => ∃ A cap, v = .slice A xs.length cap ∧ (match m with | true => Arr g.b c.ty A cap xs | false => ArrM g.r g.b c.ty A cap xs)
  | .el c x off, v => ∃ a cs, v = .pointer (some (a.add off)) ∧ Cells g.r a cs ∧ c.ty.rep g.b cs x
  | .eo b c i off, v => Known bl b ∧ ∃ a, (ρ b).1 = some a ∧ v = .pointer (some (a.add (i * c.n + off))) ∧ ∀ bv m, bl[b]? = some bv → bv.len = some m → i < m
  | .vw b c l h, v => Known bl b ∧ v = .slice (offA (ρ b).1 (ρ b).2 l c.n) (h - l) ((ρ b).2 - l) ∧ ∀ bv m, bl[b]? = some bv → bv.len = some m → l ≤ h ∧ h ≤ m
  | .fn f, v => v = .func (.func f) #[] #[]
  | .cap f c, v => ∃ fn caps vc, RealC g ρ bl f (.func fn #[] caps) ∧ RealC g ρ bl c vc ∧ v = .func fn #[] (caps.push vc)
  | .ifc t c, v => ∃ u, RealC g ρ bl c u ∧ v = .iface t u
  | .nb e neg, v => ∃ b : Bool, v = .bool (cond neg (!b) b) ∧ (b = true → e = true)
  | .mp b, v => Known bl b ∧ ∃ k, (ρ b).1 = some ⟨k, 0, none⟩ ∧ v = .map (some k)
  | .sc b n, v => Known bl b ∧ n ≤ 1000 ∧ ∃ k, (ρ b).1 = some ⟨k, 0, none⟩ ∧ v = .slice (some ⟨k, 0, none⟩) n n
  | .bnd f c, v => ∃ vc, RealC g ρ bl c vc ∧ v = .func (.func f) #[vc] #[]
def All2 {α β : Type} (R : α → β → Prop) : List α → List β → Prop
  | [], [] => True
  | x :: l, y :: m => R x y ∧ All2 R l m
  | _, _ => False
theorem All2.len {α β : Type} {R : α → β → Prop} : ∀ {l : List α} {m : List β}, All2 R l m → l.length = m.length
  | [], [], _ => rfl
  | _ :: l, _ :: m, h => by rw [List.length_cons, List.length_cons, h.2.len]
  | [], _ :: _, h => h.elim
  | _ :: _, [], h => h.elim
theorem All2.get {α β : Type} {R : α → β → Prop} : ∀ {l : List α} {m : List β} {i : Nat} {x : α}, All2 R l m → l[i]? = some x → ∃ y, m[i]? = some y ∧ R x y
  | x :: l, y :: m, 0, z, h, e => by simp at e; subst e; exact ⟨y, rfl, h.1⟩
  | x :: l, y :: m, i + 1, z, h, e => by simpa using All2.get (i := i) h.2 (by simpa using e)
  | [], [], _, _, _, e => by simp at e
  | [], _ :: _, _, _, h, _ => h.elim
  | _ :: _, [], _, _, h, _ => h.elim
theorem All2.mono {α β : Type} {R S : α → β → Prop} (hi : ∀ x y, R x y → S x y) : ∀ {l : List α} {m : List β}, All2 R l m → All2 S l m
  | [], [], _ => trivial
  | _ :: _, _ :: _, h => ⟨hi _ _ h.1, h.2.mono hi⟩
  | [], _ :: _, h => h.elim
  | _ :: _, [], h => h.elim
theorem All2.app {α β : Type} {R : α → β → Prop} {l2 : List α} {m2 : List β} (h2 : All2 R l2 m2) : ∀ {l : List α} {m : List β}, All2 R l m → All2 R (l ++ l2) (m ++ m2)
  | [], [], _ => h2
  | _ :: _, _ :: _, h => ⟨h.1, h2.app h.2⟩
  | [], _ :: _, h => h.elim
  | _ :: _, [], h => h.elim
theorem All2.take {α β : Type} {R : α → β → Prop} : ∀ (n : Nat) {l : List α} {m : List β}, All2 R l m → All2 R (l.take n) (m.take n)
  | 0, _, _, _ => trivial
  | _ + 1, [], [], _ => trivial
  | n + 1, _ :: _, _ :: _, h => ⟨h.1, h.2.take n⟩
  | _ + 1, [], _ :: _, h => h.elim
  | _ + 1, _ :: _, [], h => h.elim
theorem All2.drop {α β : Type} {R : α → β → Prop} : ∀ (n : Nat) {l : List α} {m : List β}, All2 R l m → All2 R (l.drop n) (m.drop n)
  | 0, _, _, h => h
  | _ + 1, [], [], _ => trivial
  | n + 1, _ :: _, _ :: _, h => h.2.drop n
  | _ + 1, [], _ :: _, h => h.elim
  | _ + 1, _ :: _, [], h => h.elim
theorem All2.set {α β : Type} {R : α → β → Prop} {x : α} {y : β} (h1 : R x y) : ∀ (n : Nat) {l : List α} {m : List β}, All2 R l m → All2 R (l.set n x) (m.set n y)
  | _, [], [], _ => trivial
  | 0, _ :: _, _ :: _, h => ⟨h1, h.2⟩
  | n + 1, _ :: _, _ :: _, h => ⟨h.1, h.2.set h1 n⟩
  | _, [], _ :: _, h => h.elim
  | _, _ :: _, [], h => h.elim
def Real1 (g : Gh) (ρ : Env) (bl : List BV) : V1 → Value → Prop
  | .c x, v => RealC g ρ bl x v
  | .agg l, v => ∃ cs, v = .agg cs.toArray ∧ All2 (RealC g ρ bl) l cs
def RealS (g : Gh) (ρ : Env) (bl : List BV) : SV → Value → Prop
  | .v x, v => Real1 g ρ bl x v
  | .tup l, v => ∃ vs, v = .tuple vs.toArray ∧ All2 (Real1 g ρ bl) l vs
  | .und, v => v = undef
  | .any, _ => True
def BlkR (g : Gh) (ρ : Env) (bl : List BV) (k : Option Bk) (e : Option Addr × Nat) : BV → Prop
  | .hole => k = none
  | .no => k = none
  | .cells t l => ∃ b cs, k = some ⟨b, t, cs⟩ ∧ e.1 = some ⟨b, 0, none⟩ ∧ All2 (RealC g ρ bl) l cs
  | .row c et xs => Buf g.b c.ty et (.slice e.1 xs.length e.2) k xs
  | .fz c xs => k = none ∧ Arr g.b c.ty e.1 e.2 xs
  | .lent l => k = none ∧ ∃ a cs, e.1 = some a ∧ Cells g.r a cs ∧ All2 (RealC g ρ bl) l cs
  | .map c xs => ∃ b cs, k = some ⟨b, mapB cs, []⟩ ∧ e.1 = some ⟨b, 0, none⟩ ∧ MRS c g.b cs xs
def getH : List (Nat × SV) → Nat → Option SV
  | [], _ => none
  | (k, v) :: l, t => cond (Nat.beq k t) (some v) (getH l t)
def GP (p : Psi) : Prop := ∀ k d cs, getG GD k = some d → encV d.c d.x = some cs → Cells p ⟨k, 0, none⟩ cs
def GI (p : Psi) : Prop := (∀ w, p.In w → GW w) ∧ GP p
theorem Psi.In.of_le {p q : Psi} (h : p.le q) {w : World} (k : q.In w) : p.In w := ⟨k.os.trans h.os, k.tape.trans h.tape, k.out.trans h.out, fun b o e => k.m b o (h.m b o e)⟩
theorem GI.mono {p q : Psi} (h : p.le q) (k : GI p) : GI q := ⟨fun w hw => k.1 w (hw.of_le h), fun k1 d cs e1 e2 => (k.2 k1 d cs e1 e2).mono h⟩
structure Rl (g : Gh) (ρ : Env) (st : HSt) (own : Own) (sl : Sl) : Prop where
  len : own.length = st.bl.length
  blk : ∀ i bv k, st.bl[i]? = some bv → own[i]? = some k → BlkR g ρ st.bl k (ρ i) bv
  slot : ∀ t sv, getH st.sl t = some sv → ∃ v, getS sl t = some v ∧ RealS g ρ st.bl sv v
  gi : GI g.b
def Ext (ρ : Env) (bl : List BV) (ρ' : Env) (bl' : List BV) : Prop :=
  ∀ (b : Nat) (bv : BV), bl[b]? = some bv → bv.isHole = false → ρ' b = ρ b ∧ ∃ bv' : BV, bl'[b]? = some bv' ∧ bv'.isHole = false ∧ ∀ m, bv'.len = some m → bv.len = some m
theorem Ext.refl {ρ : Env} {bl : List BV} : Ext ρ bl ρ bl := fun b bv h1 h2 => ⟨rfl, bv, h1, h2, fun m h => h⟩
theorem Ext.trans {ρ ρ1 ρ2 : Env} {bl bl1 bl2 : List BV} (h : Ext ρ bl ρ1 bl1) (k : Ext ρ1 bl1 ρ2 bl2) : Ext ρ bl ρ2 bl2 := fun b bv h1 h2 => by
  obtain ⟨e, bv1, h3, h4, h5⟩ := h b bv h1 h2
  obtain ⟨e2, bv2, h6, h7, h8⟩ := k b bv1 h3 h4
  exact ⟨e2.trans e, bv2, h6, h7, fun m hm => h5 m (h8 m hm)⟩
theorem Ext.known {ρ ρ1 : Env} {bl bl1 : List BV} (h : Ext ρ bl ρ1 bl1) {b : Nat} (k : Known bl b) : Known bl1 b ∧ ρ1 b = ρ b := by
  obtain ⟨bv, h1, h2⟩ := k
  obtain ⟨e, bv', h3, h4, _⟩ := h b bv h1 h2
  exact ⟨⟨bv', h3, h4⟩, e⟩
theorem RealC.ext {g g' : Gh} {ρ ρ' : Env} {bl bl' : List BV} (hg : g.le g') (h : Ext ρ bl ρ' bl') : ∀ {x : CV} {v : Value}, RealC g ρ bl x v → RealC g' ρ' bl' x v
  | .int _ _, _, hr => hr
  | .bool _, _, hr => hr
  | .str _, _, hr => hr
  | .k _, _, hr => hr
  | .ptr b off, v, ⟨hk, a, e, hv⟩ => by
    obtain ⟨h1, h2⟩ := h.known hk
    exact ⟨h1, a, by rw [h2]; exact e, hv⟩
  | .own b, v, ⟨hk, n, hv, hl⟩ => by
    obtain ⟨h1, h2⟩ := h.known hk
    refine ⟨h1, n, by rw [h2]; exact hv, fun bv m e1 e2 => ?_⟩
    obtain ⟨bv0, h3, h4⟩ := hk
    obtain ⟨_, bv', h5, _, h6⟩ := h b bv0 h3 h4
    rw [h5] at e1
    injection e1 with e1; subst e1
    exact hl bv0 m h3 (h6 m e2)
  | .ro c xs true, v, ⟨A, cap, hv, ha⟩ => ⟨A, cap, hv, Arr.mono ha hg.b⟩
  | .ro c xs false, v, ⟨A, cap, hv, ha⟩ => ⟨A, cap, hv, ArrM.mono ha hg.r hg.b⟩
  | .el c x off, v, ⟨a, cs, hv, hc, hr⟩ => ⟨a, cs, hv, hc.mono hg.r, c.ty.mono hg.b hr⟩
  | .eo b c i off, v, ⟨hk, a, e, hv, hl⟩ => by
    obtain ⟨h1, h2⟩ := h.known hk
    refine ⟨h1, a, by rw [h2]; exact e, hv, fun bv m e1 e2 => ?_⟩
    obtain ⟨bv0, h3, h4⟩ := hk
    obtain ⟨_, bv', h5, _, h6⟩ := h b bv0 h3 h4
    rw [h5] at e1
    injection e1 with e1; subst e1
    exact hl bv0 m h3 (h6 m e2)
  | .vw b c l r, v, ⟨hk, hv, hl⟩ => by
    obtain ⟨h1, h2⟩ := h.known hk
    refine ⟨h1, by rw [h2]; exact hv, fun bv m e1 e2 => ?_⟩
    obtain ⟨bv0, h3, h4⟩ := hk
    obtain ⟨_, bv', h5, _, h6⟩ := h b bv0 h3 h4
    rw [h5] at e1
    injection e1 with e1; subst e1
    exact hl bv0 m h3 (h6 m e2)
  | .fn f, _, hr => hr
  | .nb _ _, _, hr => hr
  | .mp b, v, ⟨hk, k, e, hv⟩ => by
    obtain ⟨h1, h2⟩ := h.known hk
    exact ⟨h1, k, by rw [h2]; exact e, hv⟩
  | .sc b n, v, ⟨hk, hn, k, e, hv⟩ => by
    obtain ⟨h1, h2⟩ := h.known hk
    exact ⟨h1, hn, k, by rw [h2]; exact e, hv⟩
  | .cap f c, v, ⟨fn, caps, vc, h1, h2, h3⟩ => ⟨fn, caps, vc, RealC.ext hg h h1, RealC.ext hg h h2, h3⟩
  | .ifc t c, v, ⟨u, h1, h2⟩ => ⟨u, RealC.ext hg h h1, h2⟩
  | .bnd f c, v, ⟨u, h1, h2⟩ => ⟨u, RealC.ext hg h h1, h2⟩
section
variable {g g' : Gh} {ρ ρ' : Env} {bl bl' : List BV}
theorem Real1.ext (hg : g.le g') (h : Ext ρ bl ρ' bl') : ∀ {x : V1} {v : Value}, Real1 g ρ bl x v → Real1 g' ρ' bl' x v
  | .c _, _, hr => RealC.ext hg h hr
  | .agg _, _, ⟨cs, e, hr⟩ => ⟨cs, e, hr.mono fun _ _ => RealC.ext hg h⟩
theorem RealS.ext (hg : g.le g') (h : Ext ρ bl ρ' bl') : ∀ {x : SV} {v : Value}, RealS g ρ bl x v → RealS g' ρ' bl' x v
  | .v _, _, hr => Real1.ext hg h hr
  | .tup _, _, ⟨vs, e, hr⟩ => ⟨vs, e, hr.mono fun _ _ => Real1.ext hg h⟩
  | .und, _, hr => hr
  | .any, _, hr => hr
theorem BlkR.ext (hg : g.le g') (h : Ext ρ bl ρ' bl') {k : Option Bk} {e : Option Addr × Nat} : ∀ {bv : BV}, BlkR g ρ bl k e bv → BlkR g' ρ' bl' k e bv
  | .hole, hr => hr
  | .no, hr => hr
  | .cells t l, ⟨b, cs, h1, h2, h3⟩ => ⟨b, cs, h1, h2, h3.mono fun _ _ => RealC.ext hg h⟩
  | .row c et xs, hr => Buf.mono hr hg.b
  | .fz c xs, ⟨h1, h2⟩ => ⟨h1, h2.mono hg.b⟩
  | .lent l, ⟨h1, a, cs, h2, h3, h4⟩ => ⟨h1, a, cs, h2, h3.mono hg.r, h4.mono fun _ _ => RealC.ext hg h⟩
  | .map c xs, ⟨b, cs, h1, h2, h3⟩ => ⟨b, cs, h1, h2, h3.mono hg.b⟩
end
theorem ArrM.cut {α : Type} {T : Ty α} {r b : Psi} {A : Option Addr} {c : Nat} {xs : List α} (h : ArrM r b T A c xs) (l m : Nat) (h1 : l ≤ m) (h2 : m ≤ xs.length) : ArrM r b T (offA A c l T.n) (c - l) ((xs.drop l).take (m - l)) := by
  obtain ⟨hc, hl0, cs, hr, hrow⟩ := h
  refine ⟨by rw [List.length_take, List.length_drop]; omega, by rw [List.length_take, List.length_drop]; omega, (cs.drop (l * T.n)).take ((m - l) * T.n), (hr.drop l).take _, fun hn => ?_⟩
  rw [List.length_take, List.length_drop] at hn
  obtain ⟨ad, e, hcells⟩ := hrow (by omega)
  subst e
  refine ⟨ad.add (l * T.n), ?_, hcells.part _ _⟩
  unfold offA
  rw [if_neg (by omega)]
  rfl
def Cd.cv : (c : Cd) → c.den → List CV
  | .i k, x => [.int k x]
  | .y, x => [.int .u8 (x.toNat : Int)]
  | .b, x => [.bool x]
  | .s, x => [.str x]
  | .a c, x => [.ro c x true]
  | .p c d, x => c.cv x.1 ++ d.cv x.2
theorem inK_u8 (x : UInt8) : inK .u8 (x.toNat : Int) := by
  have := x.toNat_lt
  simp [inK, IntKind.min, IntKind.max, IntKind.signed, IntKind.bits]; omega
theorem Cd.cv_real {g : Gh} {ρ : Env} {bl : List BV} : ∀ (c : Cd) {x : c.den} {cs : List Value}, c.ty.rep g.b cs x → All2 (RealC g ρ bl) (c.cv x) cs
  | .i k, x, cs, h => by
    obtain ⟨e, h2⟩ : cs = [.int k x] ∧ inK k x := h
    subst e; exact ⟨⟨rfl, h2⟩, trivial⟩
  | .y, x, cs, h => by
    have e : cs = [.int .u8 (UInt8.toNat x : Int)] := h
    subst e; exact ⟨⟨rfl, inK_u8 x⟩, trivial⟩
  | .b, x, cs, h => by
    have e : cs = [.bool x] := h
    subst e; exact ⟨rfl, trivial⟩
  | .s, x, cs, h => by
    obtain ⟨e, h2⟩ : cs = [.string (mkS x)] ∧ List.length (α := UInt8) x ≤ 1125899906842624 := h
    subst e; exact ⟨⟨rfl, h2⟩, trivial⟩
  | .a c, x, cs, h => by
    obtain ⟨A, cap, e, h2⟩ : ∃ A cap, cs = [.slice A (List.length (α := c.den) x) cap] ∧ Arr g.b c.ty A cap x := h
    subst e; exact ⟨⟨A, cap, rfl, h2⟩, trivial⟩
  | .p c d, x, cs, h => by
    obtain ⟨c1, c2, e, h1, h2⟩ : ∃ c1 c2, cs = c1 ++ c2 ∧ c.ty.rep g.b c1 x.1 ∧ d.ty.rep g.b c2 x.2 := h
    subst e; exact All2.app (Cd.cv_real d h2) (Cd.cv_real c h1)
def cnd {α : Type} (c : Bool) (x y : α) : α := (fun _ : Nat → Option Unit => match c with | true => x | false => y) fun n => loopO n (fun _ => none) ()
def gd {α : Type} (c : Bool) (x : Option α) : Option α := (fun _ : Nat → Option Unit => match c with | true => x | false => none) fun n => loopO n (fun _ => none) ()
def bd {α β : Type} (x : Option α) (k : α → Option β) : Option β := (fun _ : Nat → Option Unit => match x with | some t => k t | none => none) fun n => loopO n (fun _ => none) ()
def jd {α β : Type} (x : Option (Ctl α β)) (k : α → Option β) : Option β := (fun _ : Nat → Option Unit => match x with | some (.go t) => k t | some (.done r) => some r | none => none) fun n => loopO n (fun _ => none) ()
def dnO {α β : Type} (x : Option β) : Option (Ctl α β) := (fun _ : Nat → Option Unit => match x with | some r => some (.done r) | none => none) fun n => loopO n (fun _ => none) ()
def sm {α β ρ : Type} (x : α ⊕ β) (f : α → ρ) (g : β → ρ) : ρ := (fun _ : Nat → Option Unit => match x with | .inl a => f a | .inr b => g b) fun n => loopO n (fun _ => none) ()
noncomputable def bothO {α : Type} (x y : Option α) : Option α := (fun _ : Nat → Option Unit => @ite _ (x = y) (Classical.propDecidable _) x none) fun n => loopO n (fun _ => none) ()
noncomputable def nlO {α : Type} (e : Bool) (x y : Option α) : Option α := (fun _ : Nat → Option Unit => match e with | true => bothO x y | false => y) fun n => loopO n (fun _ => none) ()
theorem bothO_some {α : Type} {x y : Option α} {r : α} (h : bothO x y = some r) : x = some r ∧ y = some r := by
  unfold bothO at h
  by_cases e : x = y
  · simp only [e, if_true] at h ⊢; exact ⟨h, h⟩
  · simp only [e, if_false] at h; cases h
theorem nlO_some {α : Type} {e : Bool} {x y : Option α} {r : α} (h : nlO e x y = some r) : y = some r ∧ (e = true → x = some r) := by
  cases e with
  | true => have := bothO_some (h : bothO x y = some r); exact ⟨this.2, fun _ => this.1⟩
  | false => exact ⟨h, fun e => by cases e⟩
theorem nlO_eq {α : Type} {e : Bool} {x y : Option α} (h : e = true → x = y) : nlO e x y = y := by
  cases e with
  | true =>
    show bothO x y = y
    unfold bothO
    simp [h rfl]
  | false => rfl
theorem dnO_some {α β : Type} {x : Option β} {c : Ctl α β} (h : dnO x = some c) : ∃ r, x = some r ∧ c = .done r := by
  cases x with
  | none => cases h
  | some r => injection (show some (Ctl.done r) = some c from h) with h; exact ⟨r, rfl, h.symm⟩
theorem gd_def {α : Type} (c : Bool) (x : Option α) : gd c x = grd c x := by cases c <;> rfl
theorem bd_def {α β : Type} (x : Option α) (k : α → Option β) : bd x k = bindO x k := by cases x <;> rfl
theorem jd_def {α β : Type} (x : Option (Ctl α β)) (k : α → Option β) : jd x k = joinO x k := by
  cases x with
  | none => rfl
  | some c => cases c <;> rfl
structure HE where
  val : SV
  upd : List (Nat × BV)
  new : List BV
def natMem (x : Nat) : List Nat → Bool
  | [] => false
  | y :: l => cond (Nat.beq x y) true (natMem x l)
def maskB : Nat → List Nat → List BV → List BV
  | _, _, [] => []
  | i, ids, bv :: l => cond (natMem i ids) bv .no :: maskB (i + 1) ids l
inductive Tr : Type 1 where
  | no
  | done (e : HE)
  | need (b : Nat) (k : BV → Tr)
  | frz (b : Nat) (k : Tr)
  | grd (c : Bool) (k : Tr)
  | bnd {τ : Type} (x : Option τ) (k : τ → Tr)
  | sub (ids : List BV → List Nat) (k : List BV → Tr)
  | alt {α β : Type} (x : α ⊕ β) (k1 : α → Tr) (k2 : β → Tr)
def setNew : List BV → Nat → List BV → List BV
  | bl, _, [] => bl
  | bl, f, v :: l => setNew (bl.set f v) (f + 1) l
def setUpd : List BV → List (Nat × BV) → List BV
  | bl, [] => bl
  | bl, (b, v) :: l => setUpd (bl.set b v) l
def applyE (bl : List BV) (f : Nat) (e : HE) : List BV := setNew (setUpd bl e.upd) f e.new
def frzB : BV → Option BV
  | .row c _ xs => some (.fz c xs)
  | _ => none
def Told (f : Nat) : Tr → List BV → List BV → SV → Prop
  | .no, _, _, _ => False
  | .done e, bl, bl', v => bl' = applyE bl f e ∧ v = e.val
  | .need b k, bl, bl', v => ∃ bv, bl[b]? = some bv ∧ Told f (k bv) bl bl' v
  | .frz b k, bl, bl', v => ∃ bv fv, bl[b]? = some bv ∧ frzB bv = some fv ∧ Told f k (bl.set b fv) bl' v
  | .grd c k, bl, bl', v => c = true ∧ Told f k bl bl' v
  | .bnd x k, bl, bl', v => ∃ t, x = some t ∧ Told f (k t) bl bl' v
  | .sub _ k, bl, bl', v => ∃ idl, Told f (k (maskB 0 idl bl)) bl bl' v
  | .alt x k1 k2, bl, bl', v => (∃ a, x = .inl a ∧ Told f (k1 a) bl bl' v) ∨ ∃ b, x = .inr b ∧ Told f (k2 b) bl bl' v
def runT {ρ : Type} (f : Nat) : Tr → List BV → (List BV → SV → Option ρ) → Option ρ
  | .no, _, _ => none
  | .done e, bl, K => K (applyE bl f e) e.val
  | .need b k, bl, K => match bl[b]? with | some bv => runT f (k bv) bl K | none => none
  | .frz b k, bl, K => match bl[b]? with | some bv => (match frzB bv with | some fv => runT f k (bl.set b fv) K | none => none) | none => none
  | .grd c k, bl, K => gd c (runT f k bl K)
  | .bnd x k, bl, K => bd x fun t => runT f (k t) bl K
  | .sub ids k, bl, K => runT f (k (maskB 0 (ids bl) bl)) bl K
  | .alt x k1 k2, bl, K => sm x (fun a => runT f (k1 a) bl K) (fun b => runT f (k2 b) bl K)
theorem runT_told {ρ : Type} {f : Nat} {K : List BV → SV → Option ρ} {r : ρ} : ∀ {t : Tr} {bl : List BV}, runT f t bl K = some r → ∃ bl' v, Told f t bl bl' v ∧ K bl' v = some r
  | .no, bl, h => by cases h
  | .done e, bl, h => ⟨_, _, ⟨rfl, rfl⟩, h⟩
  | .need b k, bl, h => by
    unfold runT at h
    split at h
    · rename_i bv e
      obtain ⟨bl', v, h1, h2⟩ := runT_told h
      exact ⟨bl', v, ⟨bv, e, h1⟩, h2⟩
    · cases h
  | .frz b k, bl, h => by
    unfold runT at h
    split at h
    · rename_i bv e
      split at h
      · rename_i fv e2
        obtain ⟨bl', v, h1, h2⟩ := runT_told h
        exact ⟨bl', v, ⟨bv, fv, e, e2, h1⟩, h2⟩
      · cases h
    · cases h
  | .grd c k, bl, h => by
    obtain ⟨hc, h⟩ := grd_T ((gd_def _ _).symm.trans h)
    obtain ⟨bl', v, h1, h2⟩ := runT_told h
    exact ⟨bl', v, ⟨hc, h1⟩, h2⟩
  | .bnd x k, bl, h => by
    obtain ⟨t, hx, h⟩ := bindO_T ((bd_def _ _).symm.trans h)
    obtain ⟨bl', v, h1, h2⟩ := runT_told h
    exact ⟨bl', v, ⟨t, hx, h1⟩, h2⟩
  | .sub ids k, bl, h => by
    unfold runT at h
    obtain ⟨bl', v, h1, h2⟩ := runT_told h
    exact ⟨bl', v, ⟨_, h1⟩, h2⟩
  | .alt x k1 k2, bl, h => by
    unfold runT at h
    cases x with
    | inl a =>
      obtain ⟨bl', v, h1, h2⟩ := runT_told h
      exact ⟨bl', v, .inl ⟨a, rfl, h1⟩, h2⟩
    | inr b =>
      obtain ⟨bl', v, h1, h2⟩ := runT_told h
      exact ⟨bl', v, .inr ⟨b, rfl, h1⟩, h2⟩
def EffH (P : Program) (n : Nat) (op : Op) (ty : TypeId) (sl : List (Nat × SV)) (bl bl' : List BV) (val : SV) : Prop :=
  ∀ (o : Oper) (a : Act) (w : World) (Q : Exit → Act → World → Prop) (K : Act → World → Prop) (g : Gh) (ρ : Env) (own : Own) (fr : Sl),
    o.op = op → o.type = ty → Rl g ρ ⟨sl, bl⟩ own fr → Fr n a fr → St w g own →
    (∀ v g' ρ' own' w', g.le g' → Ext ρ bl ρ' bl' → St w' g' own' → Rl g' ρ' ⟨sl, bl'⟩ own' fr → RealS g' ρ' bl' val v → K (a.put o.dst v) w') → Oper.wp P o a w K Q
theorem Rl.turn {g g' : Gh} {ρ ρ' : Env} {sl : List (Nat × SV)} {bl bl' : List BV} {own own' : Own} {fr : Sl} (h : Rl g ρ ⟨sl, bl⟩ own fr) (hg : g.le g') (he : Ext ρ bl ρ' bl') (hl : own'.length = bl'.length)
    (hb : ∀ i bv k, bl'[i]? = some bv → own'[i]? = some k → BlkR g' ρ' bl' k (ρ' i) bv) : Rl g' ρ' ⟨sl, bl'⟩ own' fr :=
  ⟨hl, hb, fun t sv e => by
    obtain ⟨v, h1, h2⟩ := h.slot t sv e
    exact ⟨v, h1, h2.ext hg he⟩, h.gi.mono hg.b⟩
theorem EffH.of_yld {P : Program} {n : Nat} {op : Op} {ty : TypeId} {sl : List (Nat × SV)} {bl : List BV} {val : SV}
    (h : ∀ g ρ own fr, Rl g ρ ⟨sl, bl⟩ own fr → ∃ v, RealS g ρ bl val v ∧ Yld P n g.r own fr op ty v) : EffH P n op ty sl bl bl val := by
  intro o a w Q K g ρ own fr h1 h2 hr hf hs hk
  obtain ⟨v, hv, hy⟩ := h g ρ own fr hr
  simp only [Oper.wp, hy o a w h1 h2 hf hs.rdw, Oper.upon]
  exact hk v g ρ own w (.refl g) .refl hs hr hv
def constC (v : Value) : Option CV := match v with
  | .int k x => cond (inKb k x) (some (.int k x)) none
  | .bool b => some (.bool b)
  | .string b => cond (Nat.ble b.data.toList.length 1125899906842624) (some (.str b.data.toList)) none
  | v => cond (constant v) (some (.k v)) none
def constL : List Value → Option (List CV)
  | [] => some []
  | v :: l => match constC v, constL l with | some c, some m => some (c :: m) | _, _ => none
def constS : Value → Option SV
  | .agg cs => match constL cs.toList with | some l => some (.v (.agg l)) | none => none
  | v => match constC v with | some c => some (.v (.c c)) | none => none
def evH (sl : List (Nat × SV)) : Operand → Option SV
  | .tmp t => getH sl t
  | .const v => constS v
  | .func f => some (.v (.c (.fn f)))
  | .global k => match getG GD k with | some d => (match encV d.c d.x with | some _ => some (.v (.c (.el d.c d.x 0))) | none => none) | none => none
section
variable {g : Gh} {ρ : Env} {bl : List BV}
theorem constC_real {v : Value} {c : CV} (h : constC v = some c) : RealC g ρ bl c v := by
  unfold constC at h
  split at h
  · rename_i k x
    cases e : inKb k x with
    | true => rw [e] at h; injection h with h; subst h; exact ⟨rfl, inKb_ok e⟩
    | false => rw [e] at h; cases h
  · injection h with h; subst h; rfl
  · rename_i b
    cases e : Nat.ble b.data.toList.length 1125899906842624 with
    | true => rw [e] at h; injection h with h; subst h; exact ⟨rfl, Nat.le_of_ble_eq_true e⟩
    | false => rw [e] at h; cases h
  · rename_i u _ _ _
    cases e : constant v with
    | true => rw [e] at h; injection h with h; subst h; exact ⟨rfl, e⟩
    | false => rw [e] at h; cases h
theorem constL_real : ∀ {l : List Value} {m : List CV}, constL l = some m → All2 (RealC g ρ bl) m l
  | [], m, h => by injection h with h; subst h; trivial
  | v :: l, m, h => by
    unfold constL at h
    split at h
    · rename_i c m' h1 h2
      injection h with h; subst h
      exact ⟨constC_real h1, constL_real h2⟩
    · cases h
theorem constS_real {v : Value} {s : SV} (h : constS v = some s) : RealS g ρ bl s v := by
  unfold constS at h
  split at h
  · rename_i cs
    split at h
    · rename_i l e
      injection h with h; subst h
      exact ⟨cs.toList, by simp, constL_real e⟩
    · cases h
  · split at h
    · rename_i c e
      injection h with h; subst h
      exact constC_real e
    · cases h
theorem evH_real {sl : List (Nat × SV)} {own : Own} {fr : Sl} (h : Rl g ρ ⟨sl, bl⟩ own fr) {x : Operand} {s : SV} (e : evH sl x = some s) : ∃ v, evS fr x = some v ∧ RealS g ρ bl s v := by
  cases x with
  | tmp t => exact h.slot t s e
  | const v => exact ⟨v, rfl, constS_real e⟩
  | func f => injection e with e; subst e; exact ⟨_, rfl, rfl⟩
  | global k =>
    have e : (match getG GD k with | some d => (match encV d.c d.x with | some _ => some (SV.v (.c (.el d.c d.x 0))) | none => none) | none => none) = some s := e
    split at e
    · rename_i d h1
      split at e
      · rename_i cs h2
        injection e with e; subst e
        refine ⟨_, rfl, ⟨k, 0, none⟩, cs, rfl, (h.gi.2 k d cs h1 h2).mono g.br, encV_rep d.c h2⟩
      · cases e
    · cases e
end
abbrev vC (c : CV) : SV := .v (.c c)
def retT (v : SV) : Tr := .done ⟨v, [], []⟩
def tMove (sl : List (Nat × SV)) (x : Operand) : Tr := match evH sl x with | some v => retT v | none => .no
def asI (sl : List (Nat × SV)) (x : Operand) (k : IntKind → Int → Tr) : Tr := match evH sl x with | some (.v (.c (.int j z))) => k j z | _ => .no
def asB (sl : List (Nat × SV)) (x : Operand) (k : Bool → Tr) : Tr := match evH sl x with | some (.v (.c (.bool b))) => k b | _ => .no
def pickS (c : Bool) : SV → SV → SV
  | .v (.c (.int k x)), .v (.c (.int j y)) => match sameK k j with | some _ => vC (.int k (cond c x y)) | none => cond c (vC (.int k x)) (vC (.int j y))
  | .v (.c (.bool x)), .v (.c (.bool y)) => vC (.bool (cond c x y))
  | u, v => cond c u v
def tPick (sl : List (Nat × SV)) (c x y : Operand) : Tr := asB sl c fun b => match evH sl x, evH sl y with | some u, some v => retT (pickS b u v) | _, _ => .no
section
variable {P : Program} {n : Nat} {ty : TypeId} {sl : List (Nat × SV)} {bl bl' : List BV} {v : SV} {f : Nat} {g : Gh} {ρ : Env}
theorem told_ret {u : SV} (h : Told f (retT u) bl bl' v) : bl' = bl ∧ v = u := h
theorem asI_told {x : Operand} {k : IntKind → Int → Tr} (h : Told f (asI sl x k) bl bl' v) : ∃ j z, evH sl x = some (vC (.int j z)) ∧ Told f (k j z) bl bl' v := by
  unfold asI at h
  split at h
  · rename_i j z e; exact ⟨j, z, e, h⟩
  · exact h.elim
theorem asB_told {x : Operand} {k : Bool → Tr} (h : Told f (asB sl x k) bl bl' v) : ∃ b, evH sl x = some (vC (.bool b)) ∧ Told f (k b) bl bl' v := by
  unfold asB at h
  split at h
  · rename_i b e; exact ⟨b, e, h⟩
  · exact h.elim
theorem tMove_ok {x : Operand} (h : Told f (tMove sl x) bl bl' v) : EffH P n (.move x) ty sl bl bl' v ∧ EffH P n (.assign x) ty sl bl bl' v := by
  unfold tMove at h
  split at h
  · rename_i u e
    obtain ⟨rfl, rfl⟩ := told_ret h
    exact ⟨.of_yld fun g ρ own fr hr => by obtain ⟨w, h1, h2⟩ := evH_real hr e; exact ⟨w, h2, y_move h1⟩, .of_yld fun g ρ own fr hr => by obtain ⟨w, h1, h2⟩ := evH_real hr e; exact ⟨w, h2, y_assign h1⟩⟩
  · exact h.elim
theorem pickS_real {c : Bool} {x y : SV} {vx vy : Value} (hx : RealS g ρ bl x vx) (hy : RealS g ρ bl y vy) : RealS g ρ bl (pickS c x y) (cond c vx vy) := by
  unfold pickS
  split
  · rename_i k x j y
    split
    · rename_i h _
      obtain ⟨h⟩ := h
      subst h
      obtain ⟨rfl, h1⟩ := hx
      obtain ⟨rfl, h2⟩ := hy
      cases c
      · exact ⟨rfl, h2⟩
      · exact ⟨rfl, h1⟩
    · cases c
      · exact hy
      · exact hx
  · have hx : vx = _ := hx
    have hy : vy = _ := hy
    subst hx; subst hy
    cases c <;> rfl
  · cases c
    · exact hy
    · exact hx
theorem tPick_ok {c x y : Operand} (h : Told f (tPick sl c x y) bl bl' v) : EffH P n (.pick c x y) ty sl bl bl' v := by
  obtain ⟨b, eb, h⟩ := asB_told h
  split at h
  · rename_i u w e1 e2
    obtain ⟨rfl, rfl⟩ := told_ret h
    refine .of_yld fun g ρ own fr hr => ?_
    obtain ⟨vb, hb1, hb2⟩ := evH_real hr eb
    obtain ⟨vu, hu1, hu2⟩ := evH_real hr e1
    obtain ⟨vw, hw1, hw2⟩ := evH_real hr e2
    have hb2 : vb = .bool b := hb2
    subst hb2
    refine ⟨_, pickS_real hu2 hw2, ?_⟩
    cases b
    · exact y_pickF hb1 hw1
    · exact y_pickT hb1 hu1
  · exact h.elim
def intOp (op : BinOp) (k : IntKind) (a b : Int) : Option CV := match op with
  | .add => some (.int k (k.wrap (a + b)))
  | .sub => some (.int k (k.wrap (a - b)))
  | .mul => some (.int k (k.wrap (a * b)))
  | .and => some (.int k (landK k a b))
  | .or => some (.int k (lorK k a b))
  | .xor => some (.int k (lxorK k a b))
  | .andNot => some (.int k (landnK k a b))
  | .eql => some (.bool (a == b))
  | .neq => some (.bool (a != b))
  | .lss => some (.bool (decide (a < b)))
  | .leq => some (.bool (decide (a ≤ b)))
  | .gtr => some (.bool (decide (a > b)))
  | .geq => some (.bool (decide (a ≥ b)))
  | _ => none
theorem intOp_ok {op : BinOp} {k : IntKind} {a b : Int} {c : CV} (h : intOp op k a b = some c) : ∃ v, RealC g ρ bl c v ∧ ∀ (t : TypeId) w, (binOp op t (.int k a) (.int k b)).run P w = .ok v w := by
  unfold intOp at h
  cases op <;> simp only [Option.some.injEq, reduceCtorEq] at h <;> subst h <;>
    first
      | (refine ⟨_, ⟨rfl, inK_wrap _ _⟩, fun t w => ?_⟩; simp [binOp, Op.intArith, Op.intBits, landK, lorK, lxorK, landnK]; done)
      | (refine ⟨_, rfl, fun t w => ?_⟩; simp [binOp, Op.intCmp]; done)
theorem emod_le_ {a b : Int} (h : 0 ≤ a) (hb : 0 < b) : a % b ≤ a := by
  have h1 := Int.emod_add_mul_ediv a b
  have h2 := Int.mul_nonneg (Int.le_of_lt hb) (Int.ediv_nonneg h (Int.le_of_lt hb))
  omega
theorem inK_tmod {k : IntKind} {a b : Int} (h : inK k a) : inK k (a.tmod b) := by
  obtain ⟨h1, h2⟩ := h
  have e0 : k.min ≤ 0 := (inK_zero k).1
  have e1 : 0 ≤ k.max := (inK_zero k).2
  rcases Int.le_total 0 a with h0 | h0
  · have := Int.tmod_nonneg b h0
    have h3 : a.tmod b ≤ a := by
      rw [Int.tmod_eq_emod_of_nonneg h0]
      rcases Int.lt_trichotomy b 0 with hb | hb | hb
      · have := Int.emod_lt_of_neg a hb
        have h4 : a % b = a % (-b) := (Int.emod_neg a b).symm
        rw [h4]
        exact emod_le_ h0 (by omega)
      · subst hb; simp
      · exact emod_le_ h0 hb
    exact ⟨by omega, by omega⟩
  · have e : a.tmod b = - ((-a).tmod b) := by rw [Int.neg_tmod]; omega
    have h0' : 0 ≤ -a := by omega
    have h4 := Int.tmod_nonneg b h0'
    have h3 : (-a).tmod b ≤ -a := by
      rw [Int.tmod_eq_emod_of_nonneg h0']
      rcases Int.lt_trichotomy b 0 with hb | hb | hb
      · have h4 : (-a) % b = (-a) % (-b) := (Int.emod_neg (-a) b).symm
        rw [h4]
        exact emod_le_ h0' (by omega)
      · subst hb; simp
      · exact emod_le_ h0' hb
    exact ⟨by omega, by omega⟩
theorem inK_shr {k : IntKind} {a : Int} (m : Nat) (h : inK k a) : inK k (a.fdiv (2 ^ m)) := by
  obtain ⟨h1, h2⟩ := h
  have e0 : k.min ≤ 0 := (inK_zero k).1
  have e1 : 0 ≤ k.max := (inK_zero k).2
  have hp : (0 : Int) < 2 ^ m := Int.pow_pos (by decide)
  rw [Int.fdiv_eq_ediv_of_nonneg _ (by omega)]
  have hp1 : (1 : Int) ≤ 2 ^ m := hp
  rcases Int.le_total 0 a with h0 | h0
  · have h3 := Int.ediv_nonneg h0 (by omega : (0 : Int) ≤ 2 ^ m)
    have h4 : a / 2 ^ m ≤ a := Int.ediv_le_self _ h0
    exact ⟨by omega, by omega⟩
  · have h3 : a / 2 ^ m ≤ 0 := by
      have := Int.ediv_le_ediv hp h0
      simpa using this
    have h4 : a ≤ a / 2 ^ m := by
      rw [Int.le_ediv_iff_mul_le hp]
      have : a * 2 ^ m ≤ a * 1 := Int.mul_le_mul_of_nonpos_left h0 hp1
      omega
    exact ⟨by omega, by omega⟩
end
def readL (P : Program) (t : TypeId) (l : List CV) (off : Nat) : Option SV := match flatOf P t with
  | true => match l[off]? with | some c => some (vC c) | none => none
  | false => match aggOf P t with
    | some m => cond (Nat.ble (off + m) l.length) (some (.v (.agg ((l.drop off).take m)))) none
    | none => none
def readT (P : Program) (t : TypeId) (l : List CV) (off : Nat) : Tr := match readL P t l off with | some v => retT v | none => .no
def readB (P : Program) (t : TypeId) (c : Cd) (x : c.den) (off : Nat) : Tr := match flatOf P t with
  | true => readT P t (c.cv x) off
  | false => .bnd (some x) fun y => readT P t (c.cv y) off
def tLoad (P : Program) (sl : List (Nat × SV)) (t : TypeId) (x : Operand) : Tr := match evH sl x with
  | some (.v (.c (.ptr b off))) => .need b fun | .cells _ l => readT P t l off | .lent l => readT P t l off | _ => .no
  | some (.v (.c (.el c x off))) => readB P t c x off
  | some (.v (.c (.eo b c i off))) => .need b fun
    | .row c' _ xs => (match c'.same c with | some _ => readB P t c' (xs.getD i c'.dflt) off | none => .no)
    | .fz c' xs => (match c'.same c with | some _ => readB P t c' (xs.getD i c'.dflt) off | none => .no)
    | _ => .no
  | _ => .no
section
variable {P : Program} {n : Nat} {ty : TypeId} {sl : List (Nat × SV)} {bl bl' : List BV} {v : SV} {f : Nat} {g : Gh} {ρ : Env} {own : Own} {fr : Sl}
theorem readT_told {t : TypeId} {l : List CV} {off : Nat} (h : Told f (readT P t l off) bl bl' v) : bl' = bl ∧ readL P t l off = some v := by
  unfold readT at h
  split at h
  · rename_i u e
    obtain ⟨h1, rfl⟩ := told_ret h
    exact ⟨h1, e⟩
  · exact h.elim
theorem readB_told {t : TypeId} {c : Cd} {x : c.den} {off : Nat} (h : Told f (readB P t c x off) bl bl' v) : Told f (readT P t (c.cv x) off) bl bl' v := by
  unfold readB at h
  split at h
  · exact h
  · obtain ⟨y, e, h⟩ := h
    injection e with e; subst e
    exact h
theorem readL_real {t : TypeId} {l : List CV} {off : Nat} {cs : List Value} (h : readL P t l off = some v) (hl : All2 (RealC g ρ bl) l cs) :
    (flatOf P t = true ∧ ∃ u, cs[off]? = some u ∧ RealS g ρ bl v u) ∨ ∃ vs, aggOf P t = some vs.length ∧ (cs.drop off).take vs.length = vs ∧ RealS g ρ bl v (.agg vs.toArray) := by
  unfold readL at h
  split at h
  · rename_i hf
    split at h
    · rename_i c e
      injection h with h; subst h
      obtain ⟨u, h1, h2⟩ := hl.get e
      exact .inl ⟨hf, u, h1, h2⟩
    · cases h
  · split at h
    · rename_i m hm
      cases e : Nat.ble (off + m) l.length with
      | false => rw [e] at h; cases h
      | true =>
        rw [e] at h
        injection h with h; subst h
        have hle := Nat.le_of_ble_eq_true e
        rw [hl.len] at hle
        have hlen : ((cs.drop off).take m).length = m := by rw [List.length_take, List.length_drop]; omega
        exact .inr ⟨(cs.drop off).take m, by rw [hlen]; exact hm, by rw [hlen], _, rfl, (hl.drop off).take m⟩
    · cases h
theorem load_own {t : TypeId} {x : Operand} {i b off : Nat} {k : Bk} {l : List CV} (hx : evS fr x = some (.pointer (some ⟨b, off, none⟩))) (hi : own[i]? = some (some k)) (hg : k.g = b) (h : readL P t l off = some v) (hl : All2 (RealC g ρ bl) l k.cs) :
    ∃ u, RealS g ρ bl v u ∧ Yld P n g.r own fr (.load t x) ty u := by
  rcases readL_real h hl with ⟨hf, u, h1, h2⟩ | ⟨vs, h1, h2, h3⟩
  · exact ⟨u, h2, y_load1 hx hi hg hf h1⟩
  · exact ⟨_, h3, y_loadA hx hi hg h1 h2⟩
theorem load_row {t : TypeId} {x : Operand} {i b o m off : Nat} {k : Bk} {l : List CV} {cs : List Value} (hx : evS fr x = some (.pointer (some ⟨b, o + off, none⟩))) (hi : own[i]? = some (some k)) (hg : k.g = b) (h : readL P t l off = some v) (hc : (k.cs.drop o).take m = cs) (hl : All2 (RealC g ρ bl) l cs) :
    ∃ u, RealS g ρ bl v u ∧ Yld P n g.r own fr (.load t x) ty u := by
  rcases readL_real h hl with ⟨hf, u, h1, h2⟩ | ⟨vs, h1, h2, h3⟩
  · refine ⟨u, h2, y_load1 hx hi hg hf ?_⟩
    rw [← hc] at h1
    exact take_drop_get h1
  · refine ⟨_, h3, y_loadA hx hi hg h1 ?_⟩
    have hle : vs.length ≤ ((cs.drop off).take vs.length).length := by rw [h2]; exact Nat.le_refl _
    subst hc
    have e1 : ((List.take m (List.drop o k.cs)).drop off).take vs.length = (List.drop (o + off) k.cs).take (min vs.length (m - off)) := by
      rw [List.drop_take, List.take_take, List.drop_drop]
    rw [List.length_take, List.length_drop, List.length_take] at hle
    have e2 : min vs.length (m - off) = vs.length := by omega
    rw [e1, e2] at h2
    exact h2
theorem load_cells {t : TypeId} {x : Operand} {a : Addr} {off : Nat} {l : List CV} {cs : List Value} (hx : evS fr x = some (.pointer (some (a.add off)))) (hc : Cells g.r a cs) (h : readL P t l off = some v) (hl : All2 (RealC g ρ bl) l cs) :
    ∃ u, RealS g ρ bl v u ∧ Yld P n g.r own fr (.load t x) ty u := by
  rcases readL_real h hl with ⟨hf, u, h1, h2⟩ | ⟨vs, h1, h2, h3⟩
  · exact ⟨u, h2, y_loadP1 off hx hc hf h1⟩
  · exact ⟨_, h3, y_loadPA off hx hc h1 h2⟩
theorem Rl.own_at {bv : BV} {i : Nat} (h : Rl g ρ ⟨sl, bl⟩ own fr) (hi : bl[i]? = some bv) : ∃ k, own[i]? = some k ∧ BlkR g ρ bl k (ρ i) bv := by
  have hlt : i < own.length := by rw [h.len]; exact (List.getElem?_eq_some_iff.1 hi).1
  exact ⟨own[i], List.getElem?_eq_getElem hlt, h.blk i bv _ hi (List.getElem?_eq_getElem hlt)⟩
theorem tLoad_ok {t : TypeId} {x : Operand} (h : Told f (tLoad P sl t x) bl bl' v) : EffH P n (.load t x) ty sl bl bl' v := by
  unfold tLoad at h
  split at h
  · rename_i b off ex
    obtain ⟨bv, hb, h⟩ := h
    dsimp only at h
    split at h
    · rename_i t0 l
      obtain ⟨rfl, e⟩ := readT_told h
      refine .of_yld fun g ρ own fr hr => ?_
      obtain ⟨w, h1, h2⟩ := evH_real hr ex
      obtain ⟨_, a, ha, rfl⟩ := h2
      obtain ⟨k, hk, b0, cs, rfl, h4, h5⟩ := hr.own_at hb
      rw [ha] at h4; injection h4 with h4; subst h4
      rw [addr_add, Nat.zero_add] at h1
      exact load_own h1 hk rfl e h5
    · rename_i l
      obtain ⟨rfl, e⟩ := readT_told h
      refine .of_yld fun g ρ own fr hr => ?_
      obtain ⟨w, h1, h2⟩ := evH_real hr ex
      obtain ⟨_, a, ha, rfl⟩ := h2
      obtain ⟨k, hk, rfl, a', cs, h4, h5, h6⟩ := hr.own_at hb
      rw [ha] at h4; injection h4 with h4; subst h4
      exact load_cells h1 h5 e h6
    · exact h.elim
  · rename_i c x0 off ex
    obtain ⟨rfl, e⟩ := readT_told (readB_told h)
    refine .of_yld fun g ρ own fr hr => ?_
    obtain ⟨w, h1, a, cs, rfl, h3, h4⟩ := evH_real hr ex
    exact load_cells h1 h3 e (c.cv_real h4)
  · rename_i b c i off ex
    obtain ⟨bv, hb, h⟩ := h
    dsimp only at h
    split at h
    · rename_i c' et xs
      split at h
      · rename_i hs _
        obtain ⟨hs⟩ := hs
        subst hs
        obtain ⟨rfl, e⟩ := readT_told (readB_told h)
        refine .of_yld fun g ρ own fr hr => ?_
        obtain ⟨w, h1, h2⟩ := evH_real hr ex
        obtain ⟨_, a, ha, rfl, hlt⟩ := h2
        have hlt := hlt _ _ hb rfl
        obtain ⟨k, hk, hbuf⟩ := hr.own_at hb
        obtain ⟨kb, cs, h4, rfl, h5, h6⟩ := Buf.open_ hbuf hlt c'.dflt
        rw [ha] at h4; injection h4 with h4; subst h4
        rw [addr_add, Nat.zero_add] at h1
        rw [c'.ty_n] at h6
        exact load_row h1 hk rfl e h6 (c'.cv_real h5)
      · exact h.elim
    · rename_i c' xs
      split at h
      · rename_i hs _
        obtain ⟨hs⟩ := hs
        subst hs
        obtain ⟨rfl, e⟩ := readT_told (readB_told h)
        refine .of_yld fun g ρ own fr hr => ?_
        obtain ⟨w, h1, h2⟩ := evH_real hr ex
        obtain ⟨_, a, ha, rfl, hlt⟩ := h2
        have hlt := hlt _ _ hb rfl
        obtain ⟨k, hk, rfl, harr⟩ := hr.own_at hb
        have hx : xs[i]? = some (xs.getD i c'.dflt) := by rw [List.getD_eq_getElem?_getD, List.getElem?_eq_getElem hlt]; rfl
        obtain ⟨ad, cs, h4, h5, h6⟩ := harr.at_ hx
        rw [ha] at h4; injection h4 with h4; subst h4
        rw [← add_add] at h1
        rw [c'.ty_n] at h6
        exact load_cells h1 (h6.mono g.br) e (c'.cv_real h5)
      · exact h.elim
    · exact h.elim
  · exact h.elim
def fieldOff (P : Program) (t : TypeId) (i : Nat) : Option Nat := match P.underlying t with
  | some (.struct fs) => match fs[i]? with
    | some fd => match cellsOfT P fd.type with | some m => cond (Nat.beq m 0) none (some fd.offset) | none => none
    | none => none
  | _ => none
theorem add_off (a : Addr) (i j : Nat) : (a.add i).add j = a.add (i + j) := add_add a i j
theorem y_fieldA {t : TypeId} {x : Operand} {i o : Nat} {a : Addr} {p : Psi} (hx : evS fr x = some (.pointer (some a))) (h : fieldOff P t i = some o) : Yld P n p own fr (.fieldAddr t x i) ty (.pointer (some (a.add o))) := by
  intro op ac w h1 h2 hf hr
  unfold fieldOff at h
  split at h
  · rename_i fs hu
    split at h
    · rename_i fd hfd
      split at h
      · rename_i m hm
        cases e : Nat.beq m 0 with
        | true => rw [e] at h; cases h
        | false =>
          rw [e] at h
          injection h with h; subst h
          have hm0 : ¬ m = 0 := fun h0 => by subst h0; simp at e
          have : (Instr.fieldAt t (.pointer (some a)) i).run P w = .ok (.pointer (some (a.add fd.offset))) w := by
            simp only [Instr.fieldAt, run_underlying hu, Sem.run_bind, Sem.run_pure, Result.andThen_ok, Instr.sureAddr, hfd, fieldPlace, run_sizeOf_of hm, if_neg hm0]
          simp [execOp, h1, hf.ev hx, this]
      · cases h
    · cases h
  · cases h
def tFieldA (P : Program) (sl : List (Nat × SV)) (t : TypeId) (x : Operand) (i : Nat) : Tr := match fieldOff P t i with
  | some o => (match evH sl x with
    | some (.v (.c (.ptr b off))) => retT (vC (.ptr b (off + o)))
    | some (.v (.c (.el c x off))) => retT (vC (.el c x (off + o)))
    | some (.v (.c (.eo b c i off))) => retT (vC (.eo b c i (off + o)))
    | _ => .no)
  | none => .no
theorem tFieldA_ok {t : TypeId} {x : Operand} {i : Nat} (h : Told f (tFieldA P sl t x i) bl bl' v) : EffH P n (.fieldAddr t x i) ty sl bl bl' v := by
  unfold tFieldA at h
  split at h
  · rename_i o ho
    split at h
    · rename_i b off ex
      obtain ⟨rfl, rfl⟩ := told_ret h
      refine .of_yld fun g ρ own fr hr => ?_
      obtain ⟨w, h1, hk, a, ha, rfl⟩ := evH_real hr ex
      exact ⟨_, ⟨hk, a, ha, by rw [← add_off]⟩, y_fieldA h1 ho⟩
    · rename_i c x0 off ex
      obtain ⟨rfl, rfl⟩ := told_ret h
      refine .of_yld fun g ρ own fr hr => ?_
      obtain ⟨w, h1, a, cs, rfl, h3, h4⟩ := evH_real hr ex
      exact ⟨_, ⟨a, cs, by rw [← add_off], h3, h4⟩, y_fieldA h1 ho⟩
    · rename_i b c j off ex
      obtain ⟨rfl, rfl⟩ := told_ret h
      refine .of_yld fun g ρ own fr hr => ?_
      obtain ⟨w, h1, hk, a, ha, rfl, hl⟩ := evH_real hr ex
      exact ⟨_, ⟨hk, a, ha, by rw [add_off, Nat.add_assoc], hl⟩, y_fieldA h1 ho⟩
    · exact h.elim
  · exact h.elim
end
theorem St.fill {w : World} {g : Gh} {own : Own} {k : Bk} (h : St w g (some k :: own)) {i : Nat} (hi : own[i]? = some none) : St w g (own.set i (some k)) := by
  have hp : (own.set i (some k)).Perm (some k :: own.eraseIdx i) := by
    have hlt : i < own.length := (List.getElem?_eq_some_iff.1 hi).1
    have h2 := perm_erase (l := own.set i (some k)) (i := i) (x := some k) (by simp [List.getElem?_set, hlt])
    rwa [List.eraseIdx_set_eq] at h2
  have hp0 : own.Perm (none :: own.eraseIdx i) := perm_erase hi
  have hi0 : (Own.ids own).Perm (Own.ids (own.eraseIdx i)) := by
    have := Own.ids_perm hp0
    rwa [Own.ids_cons] at this
  refine h.fewer ((Own.ids_perm hp).nodup_iff.2 ?_) fun k' hk' => ?_
  · have hn := h.nodup
    rw [Own.ids_cons] at hn ⊢
    exact ((hi0.append_left _).nodup_iff).1 hn
  · rcases List.mem_cons.1 (hp.mem_iff.1 hk') with e | e
    · rw [e]; exact List.mem_cons_self ..
    · exact List.mem_cons_of_mem _ (List.mem_of_mem_eraseIdx e)
def setρ (ρ : Env) (i : Nat) (e : Option Addr × Nat) : Env := fun j => if j = i then e else ρ j
theorem setρ_at (ρ : Env) (i : Nat) (e : Option Addr × Nat) : setρ ρ i e i = e := if_pos rfl
theorem setρ_ne {ρ : Env} {i j : Nat} {e : Option Addr × Nat} (h : j ≠ i) : setρ ρ i e j = ρ j := if_neg h
section
variable {P : Program} {n : Nat} {ty : TypeId} {sl : List (Nat × SV)} {bl bl' : List BV} {v : SV} {f : Nat} {g : Gh} {ρ : Env} {own : Own} {fr : Sl}
theorem get_set {α : Type} {l : List α} {i j : Nat} {x y : α} (h : (l.set i x)[j]? = some y) : (j = i ∧ y = x ∧ i < l.length) ∨ (j ≠ i ∧ l[j]? = some y) := by
  rw [List.getElem?_set] at h
  split at h
  · rename_i e
    subst e
    split at h
    · rename_i hl; injection h with h; exact .inl ⟨rfl, h.symm, hl⟩
    · cases h
  · rename_i e; exact .inr ⟨fun e2 => e e2.symm, h⟩
theorem Ext.set_hole {e : Option Addr × Nat} {bv : BV} (h : bl[f]? = some .hole) : Ext ρ bl (setρ ρ f e) (bl.set f bv) := by
  intro b bv0 h1 h2
  have hne : b ≠ f := fun e => by subst e; rw [h] at h1; injection h1 with h1; subst h1; cases h2
  exact ⟨setρ_ne hne, bv0, by rw [List.getElem?_set, if_neg (Ne.symm hne)]; exact h1, h2, fun m h => h⟩
theorem Ext.set_at {bv bv1 : BV} {b : Nat} (h : bl[b]? = some bv) (hh : bv1.isHole = false) (hm : ∀ m, bv1.len = some m → bv.len = some m) : Ext ρ bl ρ (bl.set b bv1) := by
  intro i bv0 h1 h2
  refine ⟨rfl, ?_⟩
  by_cases e : i = b
  · subst e
    have hlt : i < bl.length := (List.getElem?_eq_some_iff.1 h).1
    refine ⟨bv1, by simp [List.getElem?_set, hlt], hh, fun m hk => ?_⟩
    rw [h] at h1; injection h1 with h1; subst h1
    exact hm m hk
  · exact ⟨bv0, by rw [List.getElem?_set, if_neg (Ne.symm e)]; exact h1, h2, fun m h => h⟩
theorem Rl.lay {g' : Gh} {bv : BV} {k : Option Bk} {e : Option Addr × Nat} (h : Rl g ρ ⟨sl, bl⟩ own fr) (hg : g.le g') (hf : bl[f]? = some .hole) (hb : BlkR g' (setρ ρ f e) (bl.set f bv) k e bv) : Rl g' (setρ ρ f e) ⟨sl, bl.set f bv⟩ (own.set f k) fr := by
  have hx : Ext ρ bl (setρ ρ f e) (bl.set f bv) := Ext.set_hole hf
  refine h.turn hg hx (by rw [List.length_set, List.length_set]; exact h.len) fun i bv1 k1 h1 h2 => ?_
  rcases get_set h1 with ⟨rfl, rfl, _⟩ | ⟨h3, h4⟩
  · rcases get_set h2 with ⟨_, rfl, _⟩ | ⟨h5, _⟩
    · rw [setρ_at]; exact hb
    · exact absurd rfl h5
  · rcases get_set h2 with ⟨h5, _⟩ | ⟨_, h6⟩
    · exact absurd h5 h3
    · rw [setρ_ne h3]; exact (h.blk i bv1 k1 h4 h6).ext hg hx
theorem Rl.setB {g' : Gh} {bv bv1 : BV} {b : Nat} {k : Option Bk} (h : Rl g ρ ⟨sl, bl⟩ own fr) (hg : g.le g') (hb0 : bl[b]? = some bv) (hh : bv1.isHole = false) (hm : ∀ m, bv1.len = some m → bv.len = some m) (hb : BlkR g' ρ (bl.set b bv1) k (ρ b) bv1) : Rl g' ρ ⟨sl, bl.set b bv1⟩ (own.set b k) fr := by
  have hx : Ext ρ bl ρ (bl.set b bv1) := Ext.set_at hb0 hh hm
  refine h.turn hg hx (by rw [List.length_set, List.length_set]; exact h.len) fun i bv2 k1 h1 h2 => ?_
  rcases get_set h1 with ⟨rfl, rfl, _⟩ | ⟨h3, h4⟩
  · rcases get_set h2 with ⟨_, rfl, _⟩ | ⟨h5, _⟩
    · exact hb
    · exact absurd rfl h5
  · rcases get_set h2 with ⟨h5, _⟩ | ⟨_, h6⟩
    · exact absurd h5 h3
    · exact (h.blk i bv2 k1 h4 h6).ext hg hx
theorem Rl.hole_none {i : Nat} (h : Rl g ρ ⟨sl, bl⟩ own fr) (hi : bl[i]? = some .hole) : own[i]? = some none := by
  obtain ⟨k, h1, h2⟩ := h.own_at hi
  have h2 : k = none := h2
  rw [h1, h2]
def cellsS : SV → Option (List CV)
  | .v (.c x) => some [x]
  | .v (.agg l) => some l
  | _ => none
theorem realC_one {x : CV} {v : Value} (h : RealC g ρ bl x v) : one1 v = true ∧ v.cells = #[v] := by
  cases x with
  | int k x => obtain ⟨rfl, _⟩ := h; exact ⟨rfl, rfl⟩
  | bool b => have h : v = _ := h; subst h; exact ⟨rfl, rfl⟩
  | str l => obtain ⟨rfl, _⟩ := h; exact ⟨rfl, rfl⟩
  | k c =>
    obtain ⟨rfl, h⟩ := h
    cases v <;> first | (exact ⟨rfl, rfl⟩) | (cases h; done) | skip
  | ptr b off => obtain ⟨_, a, _, rfl⟩ := h; exact ⟨rfl, rfl⟩
  | own b => obtain ⟨_, m, rfl, _⟩ := h; exact ⟨rfl, rfl⟩
  | ro c xs m => obtain ⟨A, cap, rfl, _⟩ := h; exact ⟨rfl, rfl⟩
  | el c x off => obtain ⟨a, cs, rfl, _⟩ := h; exact ⟨rfl, rfl⟩
  | eo b c i off => obtain ⟨_, a, _, rfl, _⟩ := h; exact ⟨rfl, rfl⟩
  | vw b c l r => obtain ⟨_, rfl, _⟩ := h; exact ⟨rfl, rfl⟩
  | fn f => have h : v = _ := h; subst h; exact ⟨rfl, rfl⟩
  | nb e neg => obtain ⟨b, rfl, _⟩ := h; exact ⟨rfl, rfl⟩
  | mp b => obtain ⟨_, k, _, rfl⟩ := h; exact ⟨rfl, rfl⟩
  | sc b n => obtain ⟨_, _, k, _, rfl⟩ := h; exact ⟨rfl, rfl⟩
  | cap f c => obtain ⟨fn, caps, vc, _, _, rfl⟩ := h; exact ⟨rfl, rfl⟩
  | ifc t c => obtain ⟨u, _, rfl⟩ := h; exact ⟨rfl, rfl⟩
  | bnd f c => obtain ⟨u, _, rfl⟩ := h; exact ⟨rfl, rfl⟩
theorem all2_one : ∀ {l : List CV} {cs : List Value}, All2 (RealC g ρ bl) l cs → cs.all one1 = true
  | [], [], _ => rfl
  | x :: l, c :: cs, h => by rw [List.all_cons, (realC_one h.1).1, all2_one h.2]; rfl
  | [], _ :: _, h => h.elim
  | _ :: _, [], h => h.elim
theorem cellsS_real {s : SV} {l : List CV} {v : Value} (h : cellsS s = some l) (hr : RealS g ρ bl s v) : ∃ cs, v.cells = cs.toArray ∧ All2 (RealC g ρ bl) l cs := by
  unfold cellsS at h
  split at h
  · injection h with h; subst h
    have hr : RealC g ρ bl _ v := hr
    exact ⟨[v], (realC_one hr).2, hr, trivial⟩
  · injection h with h; subst h
    obtain ⟨cs, rfl, h2⟩ := hr
    exact ⟨cs, rfl, h2⟩
  · cases h
def tAlloc (P : Program) (f : Nat) (t : TypeId) : Tr := match zeroOf P t with
  | some z => (match constL z.toList with | some l => .done ⟨vC (.ptr f 0), [], [.cells t l]⟩ | none => .no)
  | none => .no
def tBox (sl : List (Nat × SV)) (f : Nat) (t : TypeId) (x : Operand) : Tr := match evH sl x with
  | some s => (match cellsS s with | some l => .done ⟨vC (.ptr f 0), [], [.cells t l]⟩ | none => .no)
  | none => .no
theorem known_set {bv : BV} {b : Nat} (h : b < bl.length) (hh : bv.isHole = false) : Known (bl.set b bv) b := ⟨bv, by simp [List.getElem?_set, h], hh⟩
theorem get_lt {α : Type} {l : List α} {i : Nat} {x : α} (h : l[i]? = some x) : i < l.length := (List.getElem?_eq_some_iff.1 h).1
theorem effH_new {op : Op} {t : TypeId} {l : List CV} (hf : bl[f]? = some .hole)
    (h : ∀ g ρ own fr, Rl g ρ ⟨sl, bl⟩ own fr → ∃ cs, All2 (RealC g ρ bl) l cs ∧ Eff P n g own fr op ty (fun v' g' own' => ∃ b, v' = .pointer (some ⟨b, 0, none⟩) ∧ g = g' ∧ own' = some ⟨b, t, cs⟩ :: own)) :
    EffH P n op ty sl bl (bl.set f (.cells t l)) (vC (.ptr f 0)) := by
  intro o a w Q K g ρ own fr h1 h2 hr hfr hs hk
  obtain ⟨cs, hcs, he⟩ := h g ρ own fr hr
  refine he o a w Q K h1 h2 hfr hs fun v g' own' w' hg hs' ⟨b, e1, e2, e3⟩ => ?_
  subst e1; subst e2; subst e3
  have hx : Ext ρ bl (setρ ρ f (some ⟨b, 0, none⟩, 0)) (bl.set f (.cells t l)) := Ext.set_hole hf
  refine hk _ g (setρ ρ f (some ⟨b, 0, none⟩, 0)) _ w' (.refl g) hx (hs'.fill (hr.hole_none hf)) (hr.lay (.refl g) hf ⟨b, cs, rfl, rfl, hcs.mono fun _ _ => RealC.ext (.refl g) hx⟩) ⟨known_set (get_lt hf) rfl, ⟨b, 0, none⟩, by rw [setρ_at], rfl⟩
theorem tAlloc_ok {t : TypeId} (hf : bl[f]? = some .hole) (h : Told f (tAlloc P f t) bl bl' v) : EffH P n (.alloc t) ty sl bl bl' v := by
  unfold tAlloc at h
  split at h
  · rename_i z hz
    split at h
    · rename_i l hl
      obtain ⟨rfl, rfl⟩ := h
      exact effH_new hf fun g ρ own fr hr => ⟨z.toList, constL_real hl, e_alloc (by rw [hz])⟩
    · exact h.elim
  · exact h.elim
theorem tBox_ok {t : TypeId} {x : Operand} (hf : bl[f]? = some .hole) (h : Told f (tBox sl f t x) bl bl' v) : EffH P n (.box t x) ty sl bl bl' v := by
  unfold tBox at h
  split at h
  · rename_i s hs
    split at h
    · rename_i l hl
      obtain ⟨rfl, rfl⟩ := h
      refine effH_new hf fun g ρ own fr hr => ?_
      obtain ⟨u, h1, h2⟩ := evH_real hr hs
      obtain ⟨cs, h3, h4⟩ := cellsS_real hl h2
      exact ⟨cs, h4, e_box h1 h3⟩
    · exact h.elim
  · exact h.elim
def setRowC (cs : List CV) (off : Nat) : List CV → List CV
  | [] => cs
  | v :: vs => setRowC (cs.set off v) (off + 1) vs
theorem setRowC_real : ∀ {vs : List CV} {us : List Value} {l : List CV} {cs : List Value} (off : Nat), All2 (RealC g ρ bl) vs us → All2 (RealC g ρ bl) l cs → All2 (RealC g ρ bl) (setRowC l off vs) (setRow cs off us)
  | [], [], l, cs, off, _, h => h
  | v :: vs, u :: us, l, cs, off, h1, h => setRowC_real (off + 1) h1.2 (h.set h1.1 off)
  | [], _ :: _, _, _, _, h, _ => h.elim
  | _ :: _, [], _, _, _, h, _ => h.elim
def fitsT (P : Program) (t : TypeId) (m off l : Nat) : Bool := match cellsOfT P t with
  | some z => Nat.beq z m && Nat.ble (off + m) l
  | none => false
theorem fitsT_ok {t : TypeId} {m off l : Nat} (h : fitsT P t m off l = true) : cellsOfT P t = some m ∧ off + m ≤ l := by
  unfold fitsT at h
  split at h
  · rename_i z hz
    simp only [Bool.and_eq_true] at h
    have := Nat.eq_of_beq_eq_true h.1
    subst this
    exact ⟨hz, Nat.le_of_ble_eq_true h.2⟩
  · cases h
def headC (l : List CV) (K : CV → List CV → Tr) : Tr := match l with | x :: r => K x r | [] => .no
def encA (c : Cd) (x : CV) (K : List c.den → Tr) : Tr := match x with
  | .ro d xs true => (match d.same c with | some h => K (h.down ▸ xs) | none => .no)
  | .k (.slice none 0 0) => K ([] : List c.den)
  | .own b => .need b fun
    | .row d _ xs => (match d.same c with | some h => .frz b (K (h.down ▸ xs)) | none => .no)
    | .fz d xs => (match d.same c with | some h => K (h.down ▸ xs) | none => .no)
    | _ => .no
  | _ => .no
def encC : (c : Cd) → List CV → (c.den → List CV → Tr) → Tr
  | .i k, l, K => headC l fun x r => match x with | .int j x => (match sameK j k with | some _ => K x r | none => .no) | _ => .no
  | .y, l, K => headC l fun x r => match x with | .int j x => (match sameK j .u8 with | some _ => K (u8 x) r | none => .no) | _ => .no
  | .b, l, K => headC l fun x r => match x with | .bool x => K x r | _ => .no
  | .s, l, K => headC l fun x r => match x with | .str x => K x r | _ => .no
  | .a c, l, K => headC l fun x r => encA c x fun xs => K xs r
  | .p c d, l, K => encC c l fun x r => encC d r fun y r => K (x, y) r
def EncD (bl : List BV) : (c : Cd) → List CV → c.den → List CV → Prop
  | .i k, l, x, r => l = .int k x :: r
  | .y, l, x, r => ∃ z, l = .int .u8 z :: r ∧ x = u8 z
  | .b, l, x, r => l = .bool x :: r
  | .s, l, x, r => l = .str x :: r
  | .a c, l, x, r => l = .ro c x true :: r ∨ (l = .k (.slice none 0 0) :: r ∧ x = ([] : List c.den)) ∨ ∃ b, l = .own b :: r ∧ bl[b]? = some (.fz c x)
  | .p c d, l, x, r => ∃ m, EncD bl c l x.1 m ∧ EncD bl d m x.2 r
inductive FrzTo : List BV → List BV → Prop where
  | refl {l : List BV} : FrzTo l l
  | step {l l2 : List BV} {b : Nat} {c : Cd} {et : TypeId} {xs : List c.den} (h : l[b]? = some (.row c et xs)) (k : FrzTo (l.set b (.fz c xs)) l2) : FrzTo l l2
theorem FrzTo.trans {a b c : List BV} (h : FrzTo a b) (k : FrzTo b c) : FrzTo a c := by
  induction h with
  | refl => exact k
  | step h _ ih => exact .step h (ih k)
theorem FrzTo.fz {a b : List BV} (h : FrzTo a b) {i : Nat} {c : Cd} {xs : List c.den} (e : a[i]? = some (.fz c xs)) : b[i]? = some (.fz c xs) := by
  induction h with
  | refl => exact e
  | step h _ ih =>
    refine ih ?_
    rw [List.getElem?_set]
    split
    · rename_i e2; subst e2; rw [e] at h; injection h with h; cases h
    · exact e
theorem FrzTo.hole {a b : List BV} (h : FrzTo a b) {i : Nat} (e : a[i]? = some .hole) : b[i]? = some .hole := by
  induction h with
  | refl => exact e
  | step h _ ih =>
    refine ih ?_
    rw [List.getElem?_set]
    split
    · rename_i e2; subst e2; rw [e] at h; injection h with h; cases h
    · exact e
theorem EncD.frz {a b : List BV} (h : FrzTo a b) : ∀ (c : Cd) {l r : List CV} {x : c.den}, EncD a c l x r → EncD b c l x r
  | .i _, _, _, _, e => e
  | .y, _, _, _, e => e
  | .b, _, _, _, e => e
  | .s, _, _, _, e => e
  | .a c, _, _, _, .inl e => .inl e
  | .a c, _, _, _, .inr (.inl e) => .inr (.inl e)
  | .a c, _, _, _, .inr (.inr ⟨i, e1, e2⟩) => .inr (.inr ⟨i, e1, h.fz e2⟩)
  | .p c d, _, _, _, ⟨m, h1, h2⟩ => ⟨m, EncD.frz h c h1, EncD.frz h d h2⟩
theorem headC_told {l : List CV} {K : CV → List CV → Tr} (h : Told f (headC l K) bl bl' v) : ∃ x r, l = x :: r ∧ Told f (K x r) bl bl' v := by
  cases l with
  | nil => exact h.elim
  | cons x r => exact ⟨x, r, rfl, h⟩
theorem encA_told {c : Cd} {x : CV} {K : List c.den → Tr} (h : Told f (encA c x K) bl bl' v) : ∃ xs bl1, Told f (K xs) bl1 bl' v ∧ FrzTo bl bl1 ∧ (x = .ro c xs true ∨ (x = .k (.slice none 0 0) ∧ xs = []) ∨ ∃ b, x = .own b ∧ bl1[b]? = some (.fz c xs)) := by
  unfold encA at h
  split at h
  · split at h
    · rename_i hk _; obtain ⟨hk⟩ := hk; subst hk; exact ⟨_, bl, h, .refl, .inl rfl⟩
    · exact h.elim
  · exact ⟨_, bl, h, .refl, .inr (.inl ⟨rfl, rfl⟩)⟩
  · rename_i b
    obtain ⟨bv, e, h⟩ := h
    dsimp only at h
    split at h
    · split at h
      · rename_i hk _; obtain ⟨hk⟩ := hk; subst hk
        obtain ⟨bv, fv, e1, e2, h⟩ := h
        rw [e] at e1; injection e1 with e1; subst e1
        injection e2 with e2; subst e2
        refine ⟨_, _, h, .step e .refl, .inr (.inr ⟨b, rfl, ?_⟩)⟩
        simp [List.getElem?_set, (List.getElem?_eq_some_iff.1 e).1]
      · exact h.elim
    · split at h
      · rename_i hk _; obtain ⟨hk⟩ := hk; subst hk
        exact ⟨_, bl, h, .refl, .inr (.inr ⟨b, rfl, e⟩)⟩
      · exact h.elim
    · exact h.elim
  · exact h.elim
theorem encC_told : ∀ (c : Cd) {l : List CV} {K : c.den → List CV → Tr} {bl : List BV}, Told f (encC c l K) bl bl' v → ∃ x r bl1, Told f (K x r) bl1 bl' v ∧ FrzTo bl bl1 ∧ EncD bl1 c l x r
  | .i k, l, K, bl, h => by
    obtain ⟨x, r, rfl, h2⟩ := headC_told h
    clear h
    split at h2
    · split at h2
      · rename_i hk _; obtain ⟨hk⟩ := hk; subst hk; exact ⟨_, _, bl, h2, .refl, rfl⟩
      · exact h2.elim
    · exact h2.elim
  | .y, l, K, bl, h => by
    obtain ⟨x, r, rfl, h2⟩ := headC_told h
    clear h
    split at h2
    · split at h2
      · rename_i hk _; obtain ⟨hk⟩ := hk; subst hk; exact ⟨_, _, bl, h2, .refl, _, rfl, rfl⟩
      · exact h2.elim
    · exact h2.elim
  | .b, l, K, bl, h => by
    obtain ⟨x, r, rfl, h2⟩ := headC_told h
    clear h
    split at h2
    · exact ⟨_, _, bl, h2, .refl, rfl⟩
    · exact h2.elim
  | .s, l, K, bl, h => by
    obtain ⟨x, r, rfl, h2⟩ := headC_told h
    clear h
    split at h2
    · exact ⟨_, _, bl, h2, .refl, rfl⟩
    · exact h2.elim
  | .a c, l, K, bl, h => by
    obtain ⟨x, r, rfl, h2⟩ := headC_told h
    clear h
    obtain ⟨xs, bl1, h3, h1, h4⟩ := encA_told h2
    clear h2
    refine ⟨xs, r, bl1, h3, h1, ?_⟩
    rcases h4 with rfl | ⟨rfl, rfl⟩ | ⟨b, rfl, h2⟩
    · exact .inl rfl
    · exact .inr (.inl ⟨rfl, rfl⟩)
    · exact .inr (.inr ⟨b, rfl, h2⟩)
  | .p c d, l, K, bl, h => by
    unfold encC at h
    obtain ⟨x, m, bl1, h, h1, h2⟩ := encC_told c h
    obtain ⟨y, r, bl2, h, h3, h4⟩ := encC_told d h
    exact ⟨_, _, bl2, h, h1.trans h3, m, h2.frz h3, h4⟩
theorem EncD.real (hr : Rl g ρ ⟨sl, bl⟩ own fr) : ∀ (c : Cd) {l r : List CV} {x : c.den} {cs : List Value}, EncD bl c l x r → All2 (RealC g ρ bl) l cs → ∃ c1 c2, cs = c1 ++ c2 ∧ c.ty.rep g.b c1 x ∧ All2 (RealC g ρ bl) r c2
  | .i k, l, r, x, u :: cs, e, h => by
    have e : l = _ := e
    subst e
    exact ⟨[u], cs, rfl, ⟨by rw [h.1.1], h.1.2⟩, h.2⟩
  | .y, l, r, x, u :: cs, e, h => by
    obtain ⟨z, e, rfl⟩ := e
    subst e
    obtain ⟨⟨rfl, h1⟩, h2⟩ := h
    exact ⟨[_], cs, rfl, u8_rep (by simpa [inK, IntKind.min, IntKind.max, IntKind.signed, IntKind.bits] using h1), h2⟩
  | .b, l, r, x, u :: cs, e, h => by
    have e : l = _ := e
    subst e
    have h1 : u = _ := h.1
    exact ⟨[u], cs, rfl, by rw [h1]; rfl, h.2⟩
  | .s, l, r, x, u :: cs, e, h => by
    have e : l = _ := e
    subst e
    exact ⟨[u], cs, rfl, ⟨by rw [h.1.1], h.1.2⟩, h.2⟩
  | .a c, l, r, x, u :: cs, e, h => by
    rcases e with e | ⟨e, e2⟩ | ⟨b, e, e2⟩
    · subst e
      obtain ⟨⟨A, cap, hv, ha⟩, h2⟩ := h
      exact ⟨[u], cs, rfl, ⟨A, cap, by rw [hv], ha⟩, h2⟩
    · subst e; subst e2
      obtain ⟨⟨hv, _⟩, h2⟩ := h
      exact ⟨[u], cs, rfl, ⟨none, 0, by rw [hv]; rfl, Arr.nil⟩, h2⟩
    · subst e
      obtain ⟨⟨_, m, hv, hl⟩, h2⟩ := h
      obtain ⟨k, hk, _, ha⟩ := hr.own_at e2
      have := hl _ _ e2 rfl
      subst this
      exact ⟨[u], cs, rfl, ⟨_, _, by rw [hv], ha⟩, h2⟩
  | .p c d, l, r, x, cs, e, h => by
    obtain ⟨m, h1, h2⟩ := e
    obtain ⟨c1, c2, rfl, h3, h4⟩ := EncD.real hr c h1 h
    obtain ⟨c3, c4, rfl, h5, h6⟩ := EncD.real hr d h2 h4
    exact ⟨c1 ++ c3, c4, by rw [List.append_assoc], ⟨c1, c3, rfl, h3, h5⟩, h6⟩
  | .i _, _, _, _, [], e, h => by have e : _ = _ := e; subst e; exact h.elim
  | .y, _, _, _, [], e, h => by obtain ⟨z, e, _⟩ := e; subst e; exact h.elim
  | .b, _, _, _, [], e, h => by have e : _ = _ := e; subst e; exact h.elim
  | .s, _, _, _, [], e, h => by have e : _ = _ := e; subst e; exact h.elim
  | .a _, _, _, _, [], e, h => by rcases e with e | ⟨e, _⟩ | ⟨b, e, _⟩ <;> subst e <;> exact h.elim
theorem FrzTo.do_ {w : World} {bl2 : List BV} (h : FrzTo bl bl2) : ∀ {g : Gh} {own : Own}, Rl g ρ ⟨sl, bl⟩ own fr → St w g own → ∃ g' own', g.le g' ∧ St w g' own' ∧ Ext ρ bl ρ bl2 ∧ Rl g' ρ ⟨sl, bl2⟩ own' fr := by
  induction h with
  | refl => exact fun hr hs => ⟨_, _, .refl _, hs, .refl, hr⟩
  | @step bl bl2 b c et xs hb _ ih =>
    intro g own hr hs
    obtain ⟨k, hk, hbuf⟩ := hr.own_at hb
    have hbuf : Buf g.b c.ty et (.slice (ρ b).1 xs.length (ρ b).2) k xs := hbuf
    have key : ∃ g' , g.le g' ∧ St w g' (own.set b none) ∧ Arr g'.b c.ty (ρ b).1 (ρ b).2 xs :=
      wpq_freeze (K := fun _ w' => ∃ g' , g.le g' ∧ St w' g' (own.set b none) ∧ Arr g'.b c.ty (ρ b).1 (ρ b).2 xs) (n := 0) (sl := []) b hk hbuf (fun g' h1 h2 a w' _ h3 => ⟨g', h1, h3, h2⟩) ⟨#[], []⟩ w ⟨rfl, rfl, fun _ _ h => by cases h⟩ hs
    obtain ⟨g', hg, hs', ha⟩ := key
    have hx : Ext ρ bl ρ (bl.set b (.fz c xs)) := Ext.set_at hb rfl fun m hm => hm
    obtain ⟨g2, own2, h1, h2, h3, h4⟩ := ih (hr.setB hg hb rfl (fun m hm => hm) ⟨rfl, ha⟩) hs'
    exact ⟨g2, own2, hg.trans h1, h2, hx.trans h3, h4⟩
theorem EffH.frz {op : Op} {bl1 : List BV} (h : FrzTo bl bl1) (k : EffH P n op ty sl bl1 bl' v) : EffH P n op ty sl bl bl' v := by
  intro o a w Q K g ρ own fr h1 h2 hr hf hs hk
  obtain ⟨g1, own1, hg, hs1, hx, hr1⟩ := h.do_ hr hs
  exact k o a w Q K g1 ρ own1 fr h1 h2 hr1 hf hs1 fun v g' ρ' own' w' e1 e2 e3 e4 e5 => hk v g' ρ' own' w' (hg.trans e1) (hx.trans e2) e3 e4 e5
end
theorem ids_at {l : Own} {i : Nat} {x : Option Bk} (h : l[i]? = some x) : (Own.ids l).Perm (Own.ids [x] ++ Own.ids (l.eraseIdx i)) := by
  have := Own.ids_perm (perm_erase h)
  rw [Own.ids_cons] at this
  cases x <;> simpa [Own.ids] using this
theorem ids_set {l : Own} {i : Nat} (y : Option Bk) (h : i < l.length) : (Own.ids (l.set i y)).Perm (Own.ids [y] ++ Own.ids (l.eraseIdx i)) := by
  have := ids_at (l := l.set i y) (i := i) (x := y) (by simp [List.getElem?_set, h])
  rwa [List.eraseIdx_set_eq] at this
theorem St.move {w : World} {g : Gh} {own : Own} {k : Option Bk} {b f : Nat} (h : St w g own) (hb : own[b]? = some k) (hf : own[f]? = some none) (hne : b ≠ f) : St w g ((own.set b none).set f k) := by
  have hlb := get_lt hb
  have hlf := get_lt hf
  have h1 : (own.set b none)[f]? = some none := by rw [List.getElem?_set, if_neg hne]; exact hf
  have p1 := ids_at hb
  have p2 := ids_set (l := own) none hlb
  have p3 := ids_at h1
  have p4 := ids_set (l := own.set b none) k (by rw [List.length_set]; exact hlf)
  simp only [show Own.ids [none] = [] from rfl, List.nil_append] at p2 p3
  refine h.fewer ?_ fun k' hk' => ?_
  · exact (p4.trans ((p3.symm.trans p2).append_left _) |>.trans p1.symm).nodup_iff.2 h.nodup
  · have hp : ((own.set b none).set f k).Perm (k :: (own.set b none).eraseIdx f) := by
      have := perm_erase (l := (own.set b none).set f k) (i := f) (x := k) (by simp [List.getElem?_set, hlf])
      rwa [List.eraseIdx_set_eq] at this
    rcases List.mem_cons.1 (hp.mem_iff.1 hk') with e | e
    · rw [e]; exact List.mem_of_getElem? hb
    · rcases List.mem_or_eq_of_mem_set (List.mem_of_mem_eraseIdx e) with e | e
      · exact e
      · cases e
section
variable {P : Program} {n : Nat} {ty : TypeId} {sl : List (Nat × SV)} {bl bl' : List BV} {v : SV} {f : Nat} {g : Gh} {ρ : Env} {own : Own} {fr : Sl}
def tStore (P : Program) (sl : List (Nat × SV)) (t : TypeId) (x y : Operand) : Tr := match evH sl x, evH sl y with
  | some (.v (.c (.ptr b off))), some s => (match cellsS s with
    | some vs => .need b fun
      | .cells t0 l => (match fitsT P t vs.length off l.length with | true => .done ⟨.any, [(b, .cells t0 (setRowC l off vs))], []⟩ | false => .no)
      | _ => .no
    | none => .no)
  | some (.v (.c (.eo b c i off))), some s => (match cellsS s with
    | some vs => .need b fun
      | .row d _ xs => (match fitsT P t vs.length off d.n with
        | true => encC d (setRowC (d.cv (xs.getD i d.dflt)) off vs) fun u _ => .need b fun
          | .row d2 et ys => (match d2.same c, d.same d2 with | some _, some h => .done ⟨.any, [(b, .row d2 et (ys.set i (h.down ▸ u)))], []⟩ | _, _ => .no)
          | _ => .no
        | false => .no)
      | _ => .no
    | none => .no)
  | _, _ => .no
theorem setB_ok {bv : BV} {b : Nat} (hb : bl[b]? = some bv) {g' : Gh} {bv1 : BV} {k : Option Bk} (h : Rl g ρ ⟨sl, bl⟩ own fr) (hg : g.le g') (hh : bv1.isHole = false) (hm : ∀ m, bv1.len = some m → bv.len = some m) (hk : BlkR g' ρ (bl.set b bv1) k (ρ b) bv1) :
    Ext ρ bl ρ (bl.set b bv1) ∧ Rl g' ρ ⟨sl, bl.set b bv1⟩ (own.set b k) fr := ⟨Ext.set_at hb hh hm, h.setB hg hb hh hm hk⟩
theorem tStore_ok {t : TypeId} {x y : Operand} (h : Told f (tStore P sl t x y) bl bl' v) : EffH P n (.store t x y) ty sl bl bl' v := by
  unfold tStore at h
  split at h
  · rename_i b off s ex ey
    split at h
    · rename_i vs hvs
      obtain ⟨bv, hb, h⟩ := h
      dsimp only at h
      split at h
      · rename_i t0 l
        split at h
        · rename_i hfit
          obtain ⟨rfl, rfl⟩ := h
          obtain ⟨hz, hle⟩ := fitsT_ok hfit
          intro o a w Q K g ρ own fr h1 h2 hr hf hs hk
          obtain ⟨vx, hx1, hx2⟩ := evH_real hr ex
          obtain ⟨vy, hy1, hy2⟩ := evH_real hr ey
          obtain ⟨us, hc1, hc2⟩ := cellsS_real hvs hy2
          obtain ⟨_, ad, ha, rfl⟩ := hx2
          obtain ⟨k, hko, b0, cs, rfl, h4, h5⟩ := hr.own_at hb
          rw [ha] at h4; injection h4 with h4; subst h4
          rw [addr_add, Nat.zero_add] at hx1
          refine e_store (P := P) hx1 hy1 hko rfl hc1 (by rw [← hc2.len]; exact hz) (all2_one hc2) (by rw [← hc2.len]; exact Nat.ble_eq_true_of_le (by rw [← h5.len]; exact hle)) rfl o a w Q K h1 h2 hf hs fun v g' own' w' hg hs' ⟨e1, e2⟩ => ?_
          subst e1; subst e2
          have hx : Ext ρ bl ρ (bl.set b (.cells t0 (setRowC l off vs))) := Ext.set_at hb rfl fun m hm => by cases hm
          have hrl := hr.setB (g' := g) (bv1 := .cells t0 (setRowC l off vs)) (k := some ⟨b0, t0, setRow cs off us⟩) (.refl g) hb rfl (fun m hm => by cases hm) ⟨b0, _, rfl, ha, (setRowC_real off hc2 h5).mono fun _ _ => RealC.ext (.refl g) hx⟩
          exact hk v g ρ _ w' (.refl g) hx hs' hrl trivial
        · exact h.elim
      · exact h.elim
    · exact h.elim
  · rename_i b c i off s ex ey
    split at h
    · rename_i vs hvs
      obtain ⟨bv, hb, h⟩ := h
      dsimp only at h
      split at h
      · rename_i d et xs
        split at h
        · rename_i hfit
          obtain ⟨hz, hle⟩ := fitsT_ok hfit
          obtain ⟨u, r, bl1, hh, hfz, henc⟩ := encC_told d h
          clear h
          obtain ⟨bv, hb1, h⟩ := hh
          dsimp only at h
          split at h
          · rename_i d2 et2 ys
            split at h
            · rename_i h1 h2 _ _
              obtain ⟨h1⟩ := h1
              obtain ⟨h2⟩ := h2
              subst h1; subst h2
              obtain ⟨rfl, rfl⟩ := h
              refine EffH.frz hfz ?_
              have hb1 : bl1[b]? = some (.row d et2 ys) := hb1
              have hsame : BV.row d et xs = BV.row d et2 ys := by
                have : ∀ {a b : List BV}, FrzTo a b → ∀ {i : Nat} {c1 c2 : Cd} {e1 e2 : TypeId} {x1 : List c1.den} {x2 : List c2.den}, a[i]? = some (.row c1 e1 x1) → b[i]? = some (.row c2 e2 x2) → BV.row c1 e1 x1 = BV.row c2 e2 x2 := by
                  intro a b hab
                  induction hab with
                  | refl => intro i c1 c2 e1 e2 x1 x2 h1 h2; rw [h1] at h2; injection h2
                  | @step l l2 b c et xs h0 hk ih =>
                    intro i c1 c2 e1 e2 x1 x2 h1 h2
                    by_cases e : b = i
                    · subst e
                      have := hk.fz (i := b) (c := c) (xs := xs) (by simp [List.getElem?_set, get_lt h0])
                      rw [this] at h2; injection h2 with h2; cases h2
                    · exact ih (by rw [List.getElem?_set, if_neg e]; exact h1) h2
                exact this hfz hb hb1
              injection hsame with _ e2 e3
              subst e2; subst e3
              intro o a w Q K g ρ own fr h1 h2 hr hf hs hk
              obtain ⟨vx, hx1, hx2⟩ := evH_real hr ex
              obtain ⟨vy, hy1, hy2⟩ := evH_real hr ey
              obtain ⟨us, hc1, hc2⟩ := cellsS_real hvs hy2
              obtain ⟨_, ad, ha, rfl, hlt⟩ := hx2
              have hlt := hlt _ _ hb1 rfl
              obtain ⟨k, hko, hbuf⟩ := hr.own_at hb1
              have hbuf : Buf g.b d.ty et (.slice (ρ b).1 xs.length (ρ b).2) k xs := hbuf
              obtain ⟨kb, cs, h4, rfl, h5, h6⟩ := Buf.open_ hbuf hlt d.dflt
              rw [ha] at h4; injection h4 with h4; subst h4
              rw [addr_add, Nat.zero_add] at hx1
              have hall := setRowC_real off hc2 (d.cv_real h5 (ρ := ρ) (bl := bl1))
              obtain ⟨c1, c2, e1, e2, e3⟩ := henc.real hr d hall
              have hl1 : (setRow cs off us).length = d.n := by rw [setRow_length, d.ty.len h5, d.ty_n]
              have hl2 : c1.length = d.n := by rw [d.ty.len e2, d.ty_n]
              have hc20 : c2 = [] := by
                have : (setRow cs off us).length = c1.length + c2.length := by rw [e1, List.length_append]
                exact List.eq_nil_of_length_eq_zero (by omega)
              rw [hc20, List.append_nil] at e1
              rw [d.ty_n] at h6
              refine e_storeB (P := P) (T := d.ty) i d.n off b vy us xs u hx1 hy1 hko hc1 (by rw [← hc2.len]; exact hz) (all2_one hc2) hbuf (d.ty_n).symm h6 (by rw [e1]; exact e2) (by rw [← hc2.len, d.ty_n]; exact Nat.ble_eq_true_of_le hle) hlt o a w Q K h1 h2 hf hs fun v g' own' w' hg hs' ⟨k', e1, e2, e3⟩ => ?_
              subst e1; subst e2
              obtain ⟨hx, hrl⟩ := setB_ok (bv1 := .row d et (xs.set i u)) (k := k') hb1 hr (.refl g) rfl (fun m hm => by have : (xs.set i u).length = m := Option.some.inj hm; rw [List.length_set] at this; exact congrArg some this) (by show Buf g.b d.ty et (.slice (ρ b).1 (xs.set i u).length (ρ b).2) k' (xs.set i u); rw [List.length_set]; exact e3)
              exact hk v g ρ _ w' (.refl g) hx hs' hrl trivial
            · exact h.elim
          · exact h.elim
        · exact h.elim
      · exact h.elim
    · exact h.elim
  · exact h.elim
end
end Go.Proofs.YtpglaekodahcoaaGreatDoor
