/-
Arguments opened: byte slices and slices of structs that came in, as lists that are read. Conditions: none beyond each lemma's own.
-/
import Derived.Test.YtgnajpoebooafaaWords2
namespace Go.Proofs.Ytgnajpoebooafaa
set_option linter.unusedVariables false
set_option linter.unusedSimpArgs false
open Go.RowKit Go.WideShapes Go.ChangeShapes Go.Deep
def I64 (x : Int) : Prop := -9223372036854775808 ≤ x ∧ x ≤ 9223372036854775807
theorem I64.of {x : Int} (h0 : -9223372036854775808 ≤ x) (h1 : x ≤ 9223372036854775807) : I64 x := ⟨h0, h1⟩
theorem I64.wf {x : Int} (h : (Lit.int .i64 x).wf = true) : I64 x := by
  simp [Lit.wf, IntKind.min, IntKind.max, IntKind.signed, IntKind.bits] at h
  exact ⟨by omega, by omega⟩
def U8 (x : Int) : Prop := 0 ≤ x ∧ x ≤ 255
def U16 (x : Int) : Prop := 0 ≤ x ∧ x ≤ 65535
def U64 (x : Int) : Prop := 0 ≤ x ∧ x ≤ 18446744073709551615
/-- a byte slice that came in -/
def BIn (w : World) (A : Option Addr) (n c : Nat) (bs : List UInt8) : Prop := Reads w w.heap.size 1 A n (bvs bs) ∧ n ≤ c ∧ c ≤ maxLen
section
variable {H : Type} {enc : TypeId × Value → H} {P : Program} {w : World} {base : Nat} {spare : Nat → Bool} {held : Bool}
theorem u8s_of (zs : List Int) (h : ∀ n ∈ zs, (Lit.int .u8 n).wf = true) : ∃ bs : List UInt8, zs = bs.map fun b => (b.toNat : Int) := by
  refine ⟨zs.map fun n => UInt8.ofNat n.toNat, ?_⟩
  rw [List.map_map]
  conv => lhs; rw [← List.map_id zs]
  apply List.map_congr_left
  intro n hn
  have := h n hn
  simp [Lit.wf, IntKind.min, IntKind.max, IntKind.signed, IntKind.bits] at this
  simp
  omega
theorem open_bytes {t e : TypeId} {fuel : Nat} {cs : List Value} {x : DataW H × List MemPlace} (ht : P.underlying t = some (.slice e)) (he : P.underlying e = some (.int .u8)) (hc : P.cellsOf e = 1)
    (h : DataW.trod enc P w base spare held fuel t cs = some x) : ∃ A n c bs, cs = [.slice A n c] ∧ BIn w A n c bs := by
  rcases open_ints ht he hc h with ⟨rfl, _⟩ | ⟨a, len, cap, zs, rfl, _, hl, hm, hz, _, hcell, hwf⟩
  · exact ⟨none, 0, 0, [], rfl, Reads.none_, Nat.le_refl _, Nat.zero_le _⟩
  · obtain ⟨bs, hbs⟩ := u8s_of zs hwf
    have hzl : len ≤ zs.length := by rw [hz]; split <;> omega
    refine ⟨some a, len, cap, bs.take len, rfl, ⟨?_, fun hn => ⟨a, rfl, ?_, fun j u hu => ?_⟩⟩, hl, hm⟩
    · rw [bvs_length, List.length_take]
      have : bs.length = zs.length := by rw [hbs]; simp
      omega
    · have h0 := hcell 0 (by omega)
      have := World.block_lt_of_cell? w _ h0
      rwa [block_of_add] at this
    · rw [bvs_take, List.getElem?_take] at hu
      split at hu
      · rename_i hj
        rw [hcell j (by omega), ← hu, bvs_get, hbs]
        have hjl : j < bs.length := by have : bs.length = zs.length := by rw [hbs]; simp
                                       omega
        simp [List.getD, List.getElem?_eq_getElem hjl]
      · cases hu
theorem open_structs {t e : TypeId} {size : Nat} {fuel : Nat} {cs : List Value} {x : DataW H × List MemPlace} (ht : P.underlying t = some (.slice e)) (hc : P.cellsOf e = size) (hsz : 0 < size)
    (h : DataW.trod enc P w base spare held fuel t cs = some x) :
    ∃ A n c xs, cs = [.slice A n c] ∧ Reads w w.heap.size size A n xs ∧ Each n size xs (fun _ ys => ∃ f y, DataW.trod enc P w base spare held f e ys = some y) ∧ n ≤ c ∧ c ≤ maxLen := by
  rcases open_slice ht h with ⟨rfl, _⟩ | ⟨a, len, cap, m, n, D, Pl, rfl, hb, hl, hm, hmm, _, hi⟩
  · exact ⟨none, 0, 0, [], rfl, Reads.none_, Each.nil _ _, Nat.le_refl _, Nat.zero_le _⟩
  · have hlm : len ≤ m := by rw [hmm]; split <;> omega
    rw [hc] at hi
    -- the first k elements' cells, one list
    have hk : ∀ k, k ≤ len → ∃ xs : List Value, xs.length = k * size ∧ (∀ j u, xs[j]? = some u → w.cell? (a.add j) = some u) ∧ Each k size xs (fun _ ys => ∃ f y, DataW.trod enc P w base spare held f e ys = some y) := by
      intro k
      induction k with
      | zero => intro _; exact ⟨[], by simp, by simp, Each.nil _ _⟩
      | succ k ih =>
        intro hk
        obtain ⟨xs, h1, h2, h3⟩ := ih (by omega)
        obtain ⟨cs', hcells, htr⟩ := hi k (by omega)
        obtain ⟨_, hlen, hat⟩ := World.cells?_some hcells
        refine ⟨xs ++ cs', by rw [List.length_append, h1, hlen, Nat.add_mul, Nat.one_mul], fun j u hu => ?_, h3.snoc hlen ⟨_, _, htr⟩⟩
        rcases Nat.lt_or_ge j xs.length with hj | hj
        · rw [List.getElem?_append_left hj] at hu
          exact h2 j u hu
        · rw [List.getElem?_append_right hj, h1] at hu
          have hjl : j - k * size < size := by
            have := (List.getElem?_eq_some_iff.1 hu).1
            omega
          have := hat (j - k * size) hjl
          rw [add_of_add, h1] at *
          rw [show k * size + (j - k * size) = j by omega] at this
          rw [this]
          exact hu
    obtain ⟨xs, h1, h2, h3⟩ := hk len (Nat.le_refl _)
    refine ⟨some a, len, cap, xs, rfl, ⟨h1, fun hn => ⟨a, rfl, ?_, h2⟩⟩, h3, hl, hm⟩
    have hx : 0 < xs.length := by rw [h1]; exact Nat.mul_pos hn hsz
    have := World.block_lt_of_cell? w _ (h2 0 _ (List.getElem?_eq_getElem hx))
    rwa [block_of_add] at this
/-- a struct's field, its cells by their numbers -/
theorem open_field {t : TypeId} {fs : Array Field} {fuel : Nat} {cs : List Value} {x : DataW H × List MemPlace} (ht : P.underlying t = some (.struct fs)) (h : DataW.trod enc P w base spare held fuel t cs = some x) :
    ∃ n, cs.length = P.cellsOf t ∧ ∀ (i : Nat) (f : Field), fs[i]? = some f → ∃ y, DataW.trod enc P w base spare held n f.type ((cs.drop f.offset).take (P.cellsOf f.type)) = some y := by
  obtain ⟨xs, n, _, _, hlen, hxl, hf⟩ := DataW.trod_struct ht h
  refine ⟨n, hlen, fun i f hi => ?_⟩
  have hlt : i < xs.length := by rw [hxl]; exact (Array.getElem?_eq_some_iff.1 hi).1
  exact ⟨_, (hf i f hi).trans (List.getElem?_eq_getElem hlt)⟩
end
theorem cellKeep {w1 w2 : World} {a : Addr} {v : Value} (hb : Below w1.heap.size w1 w2) (h : w1.cell? a = some v) : w2.cell? a = some v := (hb.cell (World.block_lt_of_cell? w1 a h)).trans h
theorem swapA {B : Nat} {W0 w3 : World} {o1 o2 : Obj} (h : Below B W0 (w3.alloc o1)) (hB : B ≤ w3.heap.size) : Below B W0 (w3.alloc o2) :=
  ⟨h.os, h.tape, h.output, by have := h.size; simpa using this, fun k hk => (Below.heap_alloc w3 o2 k (by omega)).trans ((Below.heap_alloc w3 o1 k (by omega)).symm.trans (h.block k hk))⟩
theorem rowKeep {w1 w2 : World} {b : Nat} {cs : Array Value} (hb : Below w1.heap.size w1 w2) (h : ∀ o, w1.cell? ⟨b, o, none⟩ = cs[o]?) (hlt : b < w1.heap.size) : ∀ o, w2.cell? ⟨b, o, none⟩ = cs[o]? :=
  fun o => (hb.cell (p := ⟨b, o, none⟩) hlt).trans (h o)
theorem leKeep {N : Nat} {w1 w2 : World} (hb : Below w1.heap.size w1 w2) (h : N ≤ w1.heap.size) : N ≤ w2.heap.size := Nat.le_trans h hb.size
theorem Bt' {a w1 w2 : World} (k : Below w1.heap.size w1 w2) (h : Below a.heap.size a w1) : Below a.heap.size a w2 := Bt h k
end Go.Proofs.Ytgnajpoebooafaa
