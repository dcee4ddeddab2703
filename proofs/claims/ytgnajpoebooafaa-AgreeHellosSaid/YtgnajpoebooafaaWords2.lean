/-
More words for memory, beside those of the first text. Conditions: none beyond each lemma's own.
-/
import Derived.Test.YtgnajpoebooafaaWords
namespace Go.Proofs.Ytgnajpoebooafaa
set_option linter.unusedVariables false
set_option linter.unusedSimpArgs false
open Go.RowKit Go.WideShapes Go.ChangeShapes
/-- the cells of a row that the call owns, by their numbers -/
theorem ownsRow_cells {w : World} {base : Nat} {e : TypeId} {size : Nat} {A : Option Addr} {n c : Nat} {xs : List Value} (h : w.ownsRow base e size (.slice A n c) n xs) (hn : 0 < n) :
    ∃ g, A = some ⟨g, 0, none⟩ ∧ base ≤ g ∧ g < w.heap.size ∧ ∀ j, j < n * size → w.cell? ⟨g, j, none⟩ = xs[j]? := by
  obtain ⟨g, cap, hv, hb, hlt⟩ := h.form hn
  injection hv with hA _ hc
  subst hA hc
  exact ⟨g, rfl, hb, hlt, fun j hj => h.cellAt j hj⟩
/-- element i of a list of structs, its cells by their numbers -/
theorem Each.at_ {n size : Nat} {xs : List Value} {R : Nat → List Value → Prop} (h : Each n size xs R) {i : Nat} (hi : i < n) :
    ∃ ys, R i ys ∧ ys.length = size ∧ ∀ j, j < size → xs[i * size + j]? = ys[j]? := by
  refine ⟨_, h.2 i hi, ?_, fun j hj => (h.cell hi hj).symm⟩
  have h2 : i * size + size ≤ n * size := by rw [← Nat.succ_mul]; exact Nat.mul_le_mul_right _ hi
  rw [List.length_take, List.length_drop, h.1]
  omega
/-- make([]byte, n) -/
theorem reads_zero (w : World) (n : Nat) (e : TypeId) : Reads (w.alloc (.cells (madeCells #[.int .u8 0] n) e)) (w.heap.size + 1) 1 (some ⟨w.heap.size, 0, none⟩) n (bvs (List.replicate n 0)) := by
  have h := reads_new w (madeCells #[.int .u8 0] n) e 1 n (by simp [size_madeCells])
  rw [toList_madeCells_one] at h
  have e1 : bvs (List.replicate n 0) = List.replicate n (Value.int .u8 0) := by simp [bvs]
  rw [e1]
  exact h

/-- behind a contract that ends in Below: the old cells, the old marks, the size -/
theorem bcell {W w1 : World} (hb : Below W.heap.size W w1) : (∀ b o, b < W.heap.size → w1.cell? ⟨b, o, none⟩ = W.cell? ⟨b, o, none⟩) ∧ (∀ b o, b < W.heap.size → w1.frozen? ⟨b, o, none⟩ = W.frozen? ⟨b, o, none⟩) ∧ W.heap.size ≤ w1.heap.size :=
  ⟨fun b o h => hb.cell (p := ⟨b, o, none⟩) h, fun b o h => hb.frozen (p := ⟨b, o, none⟩) h, hb.size⟩
/-- what a region that draws its order keeps: the cells below N read as in W, and below N nothing has turned -/
theorem keepS {N : Nat} {W w1 w2 : World} (h : (∀ b o, b < N → w1.cell? ⟨b, o, none⟩ = W.cell? ⟨b, o, none⟩) ∧ Below N W w1 ∧ N ≤ w1.heap.size) (hb : Below w1.heap.size w1 w2) :
    (∀ b o, b < N → w2.cell? ⟨b, o, none⟩ = W.cell? ⟨b, o, none⟩) ∧ Below N W w2 ∧ N ≤ w2.heap.size :=
  ⟨fun b o hlt => (hb.cell (p := ⟨b, o, none⟩) (Nat.lt_of_lt_of_le hlt h.2.2)).trans (h.1 b o hlt), h.2.1.trans (hb.mono h.2.2), Nat.le_trans h.2.2 hb.size⟩
theorem startS (W : World) : (∀ b o, b < W.heap.size → W.drew.cell? ⟨b, o, none⟩ = W.cell? ⟨b, o, none⟩) ∧ Below W.heap.size W W.drew ∧ W.heap.size ≤ W.drew.heap.size :=
  ⟨fun _ _ _ => rfl, (Below.refl _ _).drew, Nat.le_refl _⟩

/-! ### chains of calls that leave the old heap alone -/
theorem Bt {a w1 w2 : World} (h : Below a.heap.size a w1) (k : Below w1.heap.size w1 w2) : Below a.heap.size a w2 := h.trans (k.mono h.size)
theorem Ba {a w1 : World} {o : Obj} (h : Below a.heap.size a w1) : Below a.heap.size a (w1.alloc o) := h.alloc h.size _
theorem Bd {a w1 : World} (h : Below a.heap.size a w1) : Below a.heap.size a w1.drew := h.drew
theorem Bdn {a w1 : World} {n : Nat} (h : Below a.heap.size a w1) : Below a.heap.size a (w1.drewN n) := below_drewN h n
end Go.Proofs.Ytgnajpoebooafaa
