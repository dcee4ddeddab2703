/-
Still more words: readings carried over a chain of calls, appends of bytes inside a region that draws its order. Conditions: none beyond each lemma's own.
-/
import Derived.Test.YtgnajpoebooafaaLow
import Derived.Test.YtgnajpoebooafaaOpen
namespace Go.Proofs.Ytgnajpoebooafaa
set_option linter.unusedVariables false
set_option linter.unusedSimpArgs false
set_option maxRecDepth 100000
open Go.RowKit
theorem Reads.go {w w' : World} {size n : Nat} {A : Option Addr} {xs : List Value} (h : Reads w w.heap.size size A n xs) (hb : Below w.heap.size w w') : Reads w' w'.heap.size size A n xs := (h.below hb).more hb.size
theorem Reads.goB {w w' : World} {B size n : Nat} {A : Option Addr} {xs : List Value} (h : Reads w B size A n xs) (hB : B ≤ w.heap.size) (hb : Below w.heap.size w w') : Reads w' w'.heap.size size A n xs := (h.below (hb.mono hB)).more (Nat.le_trans hB hb.size)
/-- an owned row stays owned in a world that keeps all blocks -/
theorem own_go {w w' : World} {base : Nat} {e : TypeId} {size : Nat} {v : Value} {n : Nat} {xs : List Value} (h : w.ownsRow base e size v n xs) (hb : Below w.heap.size w w') : w'.ownsRow base e size v n xs := ownsRow_below h hb (Nat.le_refl _)
theorem Blk.go {w w' : World} {g : Nat} {t : TypeId} {cs : Array Value} (h : Blk w g t cs) (hb : Below w.heap.size w w') : Blk w' g t cs := h.below hb h.lt
/-- 's[:h]' at []byte -/
theorem toB (A : Option Addr) (n c : Nat) (h : Int) (h0 : 0 ≤ h) (h1 : h ≤ c) (w : World) :
    (Instr.sliceAt 22 (.slice A n c) none (some (.int .i64 h)) none).run Try.prog w = .ok (.slice A h.toNat c) w := by
  rw [run_sliceAt_slice w 22 _ _ _ _ Try.underlying22]
  rw [run_slice_h w 22 A n c Try.underlying22 .i64 h h0 h1, show (sizeOf (Try.prog.elem 22)).run Try.prog w = .ok 1 w by kernel_rfl]
  cases A <;> simp [sliced, Addr.add]
theorem stepB {w : World} {ops : Array Oper} {o : Oper} {a : Act} {K : Act → World → Prop} {Q : Exit → Act → World → Prop} {E : Prop} (hgd : o.guard = none) (s x : Operand)
    (ho : o.op = .call { callee := .builtin .append, args := #[s, x], argTypes := #[22, 22] })
    {base : Nat} {V : Option Addr} {n cv : Nat} {xs : List Value} (hs : a.eval s = .slice V n cv) (hown : w.ownsRow base 5 1 (.slice V n cv) n xs)
    {B : Nat} {A : Option Addr} {m c : Nat} {news : List Value} (hx : a.eval x = .slice A m c) (hr : Reads w B 1 A m news) (h1 : ∀ u ∈ news, u.oneCell' = true)
    (hlen : n + m ≤ 140737488355328) (hbase : base ≤ w.heap.size)
    (h : ∀ A' c' w', w'.ownsRow base 5 1 (.slice A' (n + m) c') (n + m) (xs ++ news) → Below base w w' → w.grownBy w' (V.map (·.block)) → K (a.put o.dst (.slice A' (n + m) c')) w') :
    if Region.wanted o (yielded ops a.tmps) = true then Oper.wp Try.prog o a w K Q else E := by
  obtain ⟨i0, hi0, hz0, hz1, hz2⟩ := info_parts Try.infoB
  refine step_append_any w hgd s x _ ho base 5 i0 _ 1 1 Try.underlying22 hi0 hz0 hz1 hz2 rfl (by omega) _ n xs hs hown B A m c news hx hr h1 (by simp only [maxLen]; omega) (by omega) hbase ?_
  intro v' w' h2 h3 h4
  obtain ⟨A', c', rfl, _⟩ := ownsRow_slice h2
  rw [ownBlock_slice] at h3
  refine h A' c' w' h2 ((Below.refl _ _).grown h3 hbase ?_) h3
  intro k hk
  exact (hown.lt k (by rw [ownBlock_slice]; exact hk)).1
/-- append([]byte{}, x...) in a region that draws its order -/
theorem stepB0 {w : World} {ops : Array Oper} {o : Oper} {a : Act} {K : Act → World → Prop} {Q : Exit → Act → World → Prop} {E : Prop} (hgd : o.guard = none) (s x : Operand)
    (ho : o.op = .call { callee := .builtin .append, args := #[s, x], argTypes := #[22, 22] })
    {base : Nat} {V : Option Addr} {cv : Nat} (hs : a.eval s = .slice V 0 cv) (hown : w.ownsRow base 5 1 (.slice V 0 cv) 0 [])
    {B : Nat} {A : Option Addr} {m c : Nat} {news : List Value} (hx : a.eval x = .slice A m c) (hr : Reads w B 1 A m news) (h1 : ∀ u ∈ news, u.oneCell' = true)
    (hlen : m ≤ 140737488355328) (hbase : base ≤ w.heap.size)
    (h : ∀ A' c' w', w'.ownsRow base 5 1 (.slice A' m c') m news → Below base w w' → w.grownBy w' (V.map (·.block)) → K (a.put o.dst (.slice A' m c')) w') :
    if Region.wanted o (yielded ops a.tmps) = true then Oper.wp Try.prog o a w K Q else E := by
  refine stepB hgd s x ho hs hown hx hr h1 (by omega) hbase ?_
  intro A' c' w' h2 h3 h4
  rw [Nat.zero_add, List.nil_append] at h2
  rw [Nat.zero_add]
  exact h A' c' w' h2 h3 h4
theorem own_nil {w : World} {base : Nat} {e : TypeId} {size : Nat} (hb : base ≤ w.heap.size) : (w.alloc (.cells #[] e)).ownsRow base e size (.slice (some ⟨w.heap.size, 0, none⟩) 0 0) 0 [] :=
  World.ownsRow_lit w #[] 0 hb (Nat.zero_le _) (by simp)
theorem own_nil' {w : World} {base g : Nat} {e : TypeId} {size : Nat} (hb : base ≤ w.heap.size) (hg : g = w.heap.size) : (w.alloc (.cells #[] e)).ownsRow base e size (.slice (some ⟨g, 0, none⟩) 0 0) 0 [] := by
  subst hg
  exact own_nil hb
theorem own_al {w : World} {base : Nat} {e : TypeId} {size : Nat} {v : Value} {n : Nat} {xs : List Value} {o : Obj} (h : w.ownsRow base e size v n xs) : (w.alloc o).ownsRow base e size v n xs := h.alloc o
theorem own_dr {w : World} {base : Nat} {e : TypeId} {size : Nat} {v : Value} {n : Nat} {xs : List Value} (h : w.ownsRow base e size v n xs) : w.drew.ownsRow base e size v n xs := h
/-- behind an append: the cells and the marks of the other blocks, the size -/
theorem gcell {w w1 : World} {g : Nat} (hg : w.grownBy w1 (some g)) : (∀ b o, b < w.heap.size → b ≠ g → w1.cell? ⟨b, o, none⟩ = w.cell? ⟨b, o, none⟩) ∧ (∀ b o, b < w.heap.size → b ≠ g → w1.frozen? ⟨b, o, none⟩ = w.frozen? ⟨b, o, none⟩) ∧ w.heap.size ≤ w1.heap.size :=
  ⟨fun b o h h2 => hg.cell_far ⟨b, o, none⟩ h (by simpa using h2), fun b o h h2 => hg.frozen_far ⟨b, o, none⟩ h (by simpa using h2), hg.size⟩
theorem own_le {w : World} {b : Nat} {e : TypeId} {s : Nat} {A : Option Addr} {n c : Nat} {xs : List Value} (h : w.ownsRow b e s (.slice A n c) n xs) : n ≤ c := by
  obtain ⟨A', c', he, hl, _⟩ := ownsRow_slice h
  injection he with _ _ he
  omega
/-- a row of cells that is known in a world is known behind a call that leaves the old blocks alone -/
theorem rowGo {w1 w2 : World} {b : Nat} {cs : Array Value} (hb : Below w1.heap.size w1 w2) (h : ∀ o, w1.cell? ⟨b, o, none⟩ = cs[o]?) (h0 : (cs[0]?).isSome = true) : ∀ o, w2.cell? ⟨b, o, none⟩ = cs[o]? := by
  refine rowKeep hb h ?_
  obtain ⟨v, hv⟩ := Option.isSome_iff_exists.1 h0
  exact World.block_lt_of_cell? w1 ⟨b, 0, none⟩ ((h 0).trans hv)
theorem Blk.new' {w : World} {g : Nat} {t : TypeId} {cs : Array Value} (hg : g = w.heap.size) : Blk (w.alloc (.cells cs t)) g t cs := by subst hg; exact Blk.new _ _ _
theorem own_setCell {w : World} {b : Nat} {e : TypeId} {s : Nat} {v : Value} {n : Nat} {xs : List Value} (h : w.ownsRow b e s v n xs) {g : Nat} {t : TypeId} {cs : Array Value} (hg : Blk w g t cs) (hne : e ≠ t) (i : Nat) (u : Value) :
    (w.setCell ⟨g, i, none⟩ u).ownsRow b e s v n xs := by
  refine ⟨h.1, ?_⟩
  rcases h.2 with h2 | ⟨g', cap, cur, h1, h2, h3, h4⟩
  · exact .inl h2
  · refine .inr ⟨g', cap, cur, h1, h2, ?_, h4⟩
    rw [Below.heap_setCell _ _ _ _ (Blk.ne_ (t := e) h3 hg hne)]
    exact h3
end Go.Proofs.Ytgnajpoebooafaa
