/-
The engine, part 4: typed rows. What a row of memory reads as, in the ghost (Arr) or in a block of one's own (Buf); indexing, loading, slicing, appending, making. Conditions: each lemma's own.
-/
import Derived.Test.YtpleflcfaecojaaGreatE3
import Derived.Maps.AppendAt
import Derived.Laws.BytesArg
namespace Go.Proofs.YtpleflcfaecojaaGreat
set_option linter.unusedVariables false
set_option linter.unusedSimpArgs false
open Go.RowKit
def Psi.cell? (p : Psi) (a : Addr) : Option Value :=
  match p.m a.block with
  | some (.cells c _ _) => if a.spot.isSome then none else c[a.off]?
  | _ => none
theorem Psi.In.cell {p : Psi} {w : World} (h : p.In w) {a : Addr} {v : Value} (e : p.cell? a = some v) : w.cell? a = some v := by
  unfold Psi.cell? at e
  split at e
  · rename_i c t f hm
    simp [World.cell?, h.m _ _ hm]
    simpa using e
  · cases e
theorem Psi.le.cell {p q : Psi} (h : p.le q) {a : Addr} {v : Value} (e : p.cell? a = some v) : q.cell? a = some v := by
  unfold Psi.cell? at e ⊢
  split at e
  · rename_i c t f hm
    rw [h.m _ _ hm]
    exact e
  · cases e
def Cells (p : Psi) (a : Addr) (cs : List Value) : Prop := ∀ j v, cs[j]? = some v → p.cell? (a.add j) = some v
theorem Cells.mono {p q : Psi} {a : Addr} {cs : List Value} (h : Cells p a cs) (k : p.le q) : Cells q a cs := fun j v e => k.cell (h j v e)
theorem add_add (a : Addr) (i j : Nat) : (a.add i).add j = a.add (i + j) := by
  unfold Addr.add
  by_cases hi : i = 0
  · subst hi; simp
  · by_cases hj : j = 0
    · subst hj; simp [hi]
    · rw [if_neg hj, if_neg hi, if_neg (by omega)]; simp [Nat.add_assoc]
theorem Cells.part {p : Psi} {a : Addr} {cs : List Value} (h : Cells p a cs) (off m : Nat) : Cells p (a.add off) ((cs.drop off).take m) := by
  intro j v e
  rw [add_add]
  exact h _ _ (take_drop_get e)
structure Ty (α : Type) where
  n : Nat
  pos : 0 < n
  rep : Psi → List Value → α → Prop
  len : ∀ {p cs x}, rep p cs x → cs.length = n
  one : ∀ {p cs x}, rep p cs x → cs.all one1 = true
  mono : ∀ {p q cs x}, p.le q → rep p cs x → rep q cs x
def tyI (k : IntKind) : Ty Int := ⟨1, by decide, fun _ cs x => cs = [.int k x], fun h => by subst h; rfl, fun h => by subst h; rfl, fun _ h => h⟩
def tyU8 : Ty UInt8 := ⟨1, by decide, fun _ cs x => cs = [.int .u8 (x.toNat : Int)], fun h => by subst h; rfl, fun h => by subst h; rfl, fun _ h => h⟩
def tyB : Ty Bool := ⟨1, by decide, fun _ cs x => cs = [.bool x], fun h => by subst h; rfl, fun h => by subst h; rfl, fun _ h => h⟩
def mkS (l : List UInt8) : ByteArray := ⟨l.toArray⟩
def Reps {α : Type} (T : Ty α) (p : Psi) : List Value → List α → Prop
  | cs, [] => cs = []
  | cs, x :: xs => ∃ c1 c2, cs = c1 ++ c2 ∧ T.rep p c1 x ∧ Reps T p c2 xs
section
variable {α : Type} {T : Ty α} {p q : Psi}
theorem Reps.len : ∀ {xs : List α} {cs : List Value}, Reps T p cs xs → cs.length = xs.length * T.n
  | [], cs, h => by cases h; simp
  | x :: xs, cs, ⟨c1, c2, e, h1, h2⟩ => by subst e; rw [List.length_append, T.len h1, h2.len, List.length_cons, Nat.succ_mul, Nat.add_comm]
theorem Reps.mono (hl : p.le q) : ∀ {xs : List α} {cs : List Value}, Reps T p cs xs → Reps T q cs xs
  | [], cs, h => h
  | x :: xs, cs, ⟨c1, c2, e, h1, h2⟩ => ⟨c1, c2, e, T.mono hl h1, h2.mono hl⟩
theorem Reps.one : ∀ {xs : List α} {cs : List Value}, Reps T p cs xs → cs.all one1 = true
  | [], cs, h => by cases h; rfl
  | x :: xs, cs, ⟨c1, c2, e, h1, h2⟩ => by subst e; rw [List.all_append, T.one h1, h2.one]; rfl
theorem Reps.append {ys : List α} {ds : List Value} : ∀ {xs : List α} {cs : List Value}, Reps T p cs xs → Reps T p ds ys → Reps T p (cs ++ ds) (xs ++ ys)
  | [], cs, h, hd => by cases h; simpa using hd
  | x :: xs, cs, ⟨c1, c2, e, h1, h2⟩, hd => by subst e; exact ⟨c1, c2 ++ ds, by simp, h1, Reps.append h2 hd⟩
theorem Reps.single {cs : List Value} {x : α} (h : T.rep p cs x) : Reps T p cs [x] := ⟨cs, [], by simp, h, rfl⟩
theorem Reps.drop : ∀ {xs : List α} {cs : List Value} (i : Nat), Reps T p cs xs → Reps T p (cs.drop (i * T.n)) (xs.drop i)
  | xs, cs, 0, h => by simpa using h
  | [], cs, i + 1, h => by cases h; simp; rfl
  | x :: xs, cs, i + 1, ⟨c1, c2, e, h1, h2⟩ => by
    subst e
    have := h2.drop i
    rw [List.drop_succ_cons, Nat.succ_mul, Nat.add_comm, ← List.drop_drop]
    rw [show List.drop T.n (c1 ++ c2) = c2 by rw [← T.len h1]; simp]
    exact this
theorem Reps.take : ∀ {xs : List α} {cs : List Value} (i : Nat), Reps T p cs xs → Reps T p (cs.take (i * T.n)) (xs.take i)
  | xs, cs, 0, h => by simp; rfl
  | [], cs, i + 1, h => by cases h; simp; rfl
  | x :: xs, cs, i + 1, ⟨c1, c2, e, h1, h2⟩ => by
    subst e
    have := h2.take i
    refine ⟨c1, c2.take (i * T.n), ?_, h1, this⟩
    rw [Nat.succ_mul, Nat.add_comm, ← T.len h1, List.take_length_add_append]
theorem Reps.at_ : ∀ {xs : List α} {cs : List Value} {i : Nat} {x : α}, Reps T p cs xs → xs[i]? = some x → T.rep p ((cs.drop (i * T.n)).take T.n) x
  | [], cs, i, x, h, e => by simp at e
  | y :: xs, cs, 0, x, ⟨c1, c2, e1, h1, h2⟩, e => by
    subst e1
    have e : y = x := by simpa using e
    subst e
    have : (List.drop (0 * T.n) (c1 ++ c2)).take T.n = c1 := by rw [Nat.zero_mul, List.drop_zero, ← T.len h1]; simp
    rw [this]; exact h1
  | y :: xs, cs, i + 1, x, ⟨c1, c2, e1, h1, h2⟩, e => by
    subst e1
    have := h2.at_ (i := i) (x := x) (by simpa using e)
    rw [Nat.succ_mul, Nat.add_comm, ← List.drop_drop]
    rw [show List.drop T.n (c1 ++ c2) = c2 by rw [← T.len h1]; simp]
    exact this
theorem Reps.set : ∀ {xs : List α} {cs : List Value} {i : Nat} {c : List Value} {x : α}, Reps T p cs xs → T.rep p c x → i < xs.length → Reps T p (setRow cs (i * T.n) c) (xs.set i x)
  | [], cs, i, c, x, h, hx, hi => by simp at hi
  | y :: xs, cs, 0, c, x, ⟨c1, c2, e1, h1, h2⟩, hx, hi => by
    subst e1
    have key : ∀ (c c1 : List Value) (off : Nat) (pre : List Value), c.length = c1.length → pre.length = off → setRow (pre ++ (c1 ++ c2)) off c = pre ++ (c ++ c2) := by
      intro c
      induction c with
      | nil => intro c1 off pre hl hp; cases c1 with | nil => rfl | cons _ _ => simp at hl
      | cons u c ih =>
        intro c1 off pre hl hp
        cases c1 with
        | nil => simp at hl
        | cons v c1 =>
          simp only [setRow]
          rw [show (pre ++ (v :: c1 ++ c2)).set off u = (pre ++ [u]) ++ (c1 ++ c2) by subst hp; simp]
          rw [ih c1 (off + 1) (pre ++ [u]) (by simpa using hl) (by simp [hp])]
          simp
    have := key c c1 0 [] (by rw [T.len hx, T.len h1]) rfl
    simp only [List.nil_append, Nat.zero_mul] at this ⊢
    rw [this]
    exact ⟨c, c2, rfl, hx, h2⟩
  | y :: xs, cs, i + 1, c, x, ⟨c1, c2, e1, h1, h2⟩, hx, hi => by
    subst e1
    have ih := h2.set (i := i) (c := c) hx (by simpa using hi)
    have key : ∀ (c : List Value) (c2 : List Value) (off : Nat), setRow (c1 ++ c2) (c1.length + off) c = c1 ++ setRow c2 off c := by
      intro c
      induction c with
      | nil => intro c2 off; rfl
      | cons u c ih =>
        intro c2 off
        simp only [setRow]
        rw [show (c1 ++ c2).set (c1.length + off) u = c1 ++ c2.set off u by rw [List.set_append_right _ _ (by omega)]; simp]
        rw [Nat.add_assoc, ih]
    rw [Nat.succ_mul, Nat.add_comm, ← T.len h1, key]
    rw [T.len h1]
    exact ⟨c1, _, rfl, h1, ih⟩
structure Arr (p : Psi) (T : Ty α) (A : Option Addr) (c : Nat) (xs : List α) : Prop where
  cap : xs.length ≤ c
  len : xs.length ≤ 140737488355328
  row : ∃ cs, Reps T p cs xs ∧ (0 < xs.length → ∃ ad, A = some ad ∧ Cells p ad cs)
theorem Arr.mono {A : Option Addr} {c : Nat} {xs : List α} (h : Arr p T A c xs) (k : p.le q) : Arr q T A c xs := by
  obtain ⟨h1, h0, cs, h2, h3⟩ := h
  exact ⟨h1, h0, cs, h2.mono k, fun hn => by obtain ⟨ad, e, hc⟩ := h3 hn; exact ⟨ad, e, hc.mono k⟩⟩
theorem Arr.nil {A : Option Addr} {c : Nat} : Arr p T A c [] := ⟨Nat.zero_le _, by simp, [], rfl, fun h => absurd h (by simp)⟩
theorem Arr.at_ {A : Option Addr} {c : Nat} {xs : List α} (h : Arr p T A c xs) {i : Nat} {x : α} (hi : xs[i]? = some x) : ∃ ad cs, A = some ad ∧ T.rep p cs x ∧ Cells p (ad.add (i * T.n)) cs := by
  obtain ⟨_, _, cs, h2, h3⟩ := h
  have hlt : i < xs.length := by
    rcases Nat.lt_or_ge i xs.length with h | h
    · exact h
    · rw [List.getElem?_eq_none h] at hi; cases hi
  obtain ⟨ad, e, hc⟩ := h3 (by omega)
  exact ⟨ad, _, e, h2.at_ hi, hc.part _ _⟩
def tyArr (T : Ty α) : Ty (List α) := ⟨1, by decide, fun p cs xs => ∃ A c, cs = [.slice A xs.length c] ∧ Arr p T A c xs,
  fun ⟨_, _, e, _⟩ => by subst e; rfl, fun ⟨_, _, e, _⟩ => by subst e; rfl, fun k ⟨A, c, e, h⟩ => ⟨A, c, e, h.mono k⟩⟩
def Buf (p : Psi) (T : Ty α) (et : TypeId) (v : Value) (k : Option Bk) (xs : List α) : Prop :=
  xs.length ≤ 140737488355328 ∧ ((v = .slice none 0 0 ∧ xs = [] ∧ k = none) ∨
  ∃ g cap cs sp, v = .slice (some ⟨g, 0, none⟩) xs.length cap ∧ k = some ⟨g, et, cs ++ sp⟩ ∧ Reps T p cs xs ∧ (cs ++ sp).length = cap * T.n ∧ cap ≤ maxLen)
theorem Buf.mono {et : TypeId} {v : Value} {k : Option Bk} {xs : List α} (h : Buf p T et v k xs) (hl : p.le q) : Buf q T et v k xs := by
  rcases h with ⟨h0, h | ⟨g, cap, cs, sp, h1, h2, h3, h4, h5⟩⟩
  · exact ⟨h0, .inl h⟩
  · exact ⟨h0, .inr ⟨g, cap, cs, sp, h1, h2, h3.mono hl, h4, h5⟩⟩
theorem Buf.nil {et : TypeId} : Buf p T et (.slice none 0 0) none ([] : List α) := ⟨by simp, .inl ⟨rfl, rfl, rfl⟩⟩
theorem Buf.len {et : TypeId} {v : Value} {k : Option Bk} {xs : List α} (h : Buf p T et v k xs) : xs.length ≤ 140737488355328 := h.1
theorem Buf.val {et : TypeId} {v : Value} {k : Option Bk} {xs : List α} (h : Buf p T et v k xs) : ∃ A c, v = .slice A xs.length c ∧ xs.length ≤ c := by
  rcases h.2 with ⟨rfl, rfl, _⟩ | ⟨g, cap, cs, sp, h1, h2, h3, h4, h5⟩
  · exact ⟨none, 0, rfl, Nat.le_refl _⟩
  · refine ⟨_, cap, h1, ?_⟩
    rw [List.length_append, h3.len] at h4
    have : xs.length * T.n ≤ cap * T.n := by omega
    exact Nat.le_of_mul_le_mul_right this T.pos
theorem one_cell' {v : Value} (h : one1 v = true) : v.oneCell' = true := by cases v <;> first | (cases h; done) | rfl
theorem all_one' {cs : List Value} (h : cs.all one1 = true) : ∀ u ∈ cs, u.oneCell' = true := fun u hu => one_cell' (List.all_eq_true.1 h u hu)
theorem perm_erase {β : Type} : ∀ {l : List β} {i : Nat} {x : β}, l[i]? = some x → l.Perm (x :: l.eraseIdx i)
  | [], i, x, h => by simp at h
  | y :: l, 0, x, h => by have h : y = x := by simpa using h
                          subst h; exact List.Perm.refl _
  | y :: l, i + 1, x, h => by
    have h1 := perm_erase (l := l) (i := i) (x := x) (by simpa using h)
    rw [List.eraseIdx_cons_succ]
    exact (h1.cons y).trans (List.Perm.swap x y _)
theorem St.swap {w w' : World} {g : Gh} {own : Own} (h : St w g own) {i : Nat} {x : Option Bk} (hi : own[i]? = some x) (k' : Option Bk)
    (hos : w'.os = w.os) (htape : w'.tape = w.tape) (hout : w'.output = w.output) (hb : ∀ b, b < w.heap.size → (∀ k, x = some k → b ≠ k.g) → w'.heap[b]? = w.heap[b]?)
    (hk : ∀ k, k' = some k → w'.heap[k.g]? = some k.obj ∧ ((∃ k0, x = some k0 ∧ k0.g = k.g) ∨ w.heap.size ≤ k.g)) : St w' g (own.set i k') := by
  have hx : ∀ k0, x = some k0 → some k0 ∈ own := fun k0 e => List.mem_of_getElem? (e ▸ hi)
  have hother : ∀ k, some k ∈ own.set i k' → k' = some k ∨ (some k ∈ own ∧ ∀ k0, x = some k0 → k.g ≠ k0.g) := by
    intro k hk1
    cases x with
    | some k0 =>
      rcases Own.other h.nodup hi hk1 with e | ⟨e, e2⟩
      · exact .inl e
      · exact .inr ⟨e, fun k1 hk1 => by injection hk1 with hk1; subst hk1; exact e2⟩
    | none =>
      rcases List.mem_or_eq_of_mem_set hk1 with e | e
      · exact .inr ⟨e, fun k0 hk0 => by cases hk0⟩
      · exact .inl e.symm
  refine ⟨⟨hos.trans h.r.os, htape.trans h.r.tape, hout.trans h.r.out, fun b o e => ?_⟩, ?_, ?_, ?_⟩
  · have h1 := h.r.m b o e
    have hlt : b < w.heap.size := by
      rcases Nat.lt_or_ge b w.heap.size with h2 | h2
      · exact h2
      · rw [Array.getElem?_eq_none h2] at h1; cases h1
    rw [hb b hlt fun k0 e0 eq => by rw [eq, h.free k0 (hx k0 e0)] at e; cases e]
    exact h1
  · -- the numbers
    have hlt : i < own.length := (List.getElem?_eq_some_iff.1 hi).1
    have hperm : (own.set i k').Perm (k' :: own.eraseIdx i) := by
      have h2 := perm_erase (l := own.set i k') (i := i) (x := k') (by simp [List.getElem?_set, hlt])
      rwa [List.eraseIdx_set_eq] at h2
    have hperm0 : own.Perm (x :: own.eraseIdx i) := perm_erase hi
    have hn0 := (Own.ids_perm hperm0).nodup_iff.1 h.nodup
    refine (Own.ids_perm hperm).nodup_iff.2 ?_
    cases k' with
    | none =>
      rw [Own.ids_cons] at hn0 ⊢
      cases x <;> simp_all
    | some k =>
      have hn1 : (Own.ids (own.eraseIdx i)).Nodup := by rw [Own.ids_cons] at hn0; exact (List.nodup_append.1 hn0).2.1
      rw [Own.ids_cons]
      simp only [List.cons_append, List.nil_append, List.nodup_cons]
      refine ⟨fun hm => ?_, hn1⟩
      obtain ⟨j, hj, e⟩ := Own.of_ids hm
      have hjo : some j ∈ own := hperm0.mem_iff.2 (List.mem_cons_of_mem _ hj)
      rcases (hk k rfl).2 with ⟨k0, e0, e1⟩ | hge
      · subst e0
        rw [Own.ids_cons] at hn0
        simp at hn0
        exact hn0.1 (by rw [e1, ← e]; exact Own.mem_ids hj)
      · have := h.has.lt hjo
        omega
  · intro k hk1
    rcases hother k hk1 with e | ⟨e, e2⟩
    · exact (hk k e).1
    · rw [hb k.g (h.has.lt e) (fun k0 e0 => e2 k0 e0)]
      exact h.has k e
  · intro k hk1
    rcases hother k hk1 with e | ⟨e, e2⟩
    · rcases (hk k e).2 with ⟨k0, e0, e1⟩ | hge
      · rw [← e1]; exact h.free k0 (hx k0 e0)
      · exact h.r.lt hge
    · exact h.free k e
end
end Go.Proofs.YtpleflcfaecojaaGreat
