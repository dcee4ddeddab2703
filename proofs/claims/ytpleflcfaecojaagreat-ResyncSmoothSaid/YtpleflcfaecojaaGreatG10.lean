/-
The second engine, part 10: maps of one's own whose keys are bytes and whose elements are slices. Conditions: each lemma's own.
-/
import Derived.Test.YtpleflcfaecojaaGreatG9
import Derived.MapKept
namespace Go.Proofs.YtpleflcfaecojaaGreat
set_option linter.unusedVariables false
set_option linter.unusedSimpArgs false
open Go.RowKit Go.WideShapes Go.ChangeShapes Go.Deep
def mapEnts : List Value → Nat → List MapEntry
  | k :: v :: l, i => ⟨k, v, i⟩ :: mapEnts l (i + 1)
  | _, _ => []
def mapB (cs : List Value) : BkT := .mp (mapEnts cs 0).toArray (cs.length / 2)
section
variable {α : Type} {T : Ty α} {p q : Psi}
def ElS (T : Ty α) (p : Psi) (v : Value) (y : List α) : Prop := ∃ A c, v = .slice A y.length c ∧ Arr p T A c y
def MReps (T : Ty α) (p : Psi) : List Value → List (Int × List α) → Prop
  | [], [] => True
  | k :: v :: cs, x :: xs => k = .int .u8 x.1 ∧ ElS T p v x.2 ∧ MReps T p cs xs
  | _, _ => False
theorem ElS.mono {v : Value} {y : List α} (h : ElS T p v y) (hl : p.le q) : ElS T q v y := by
  obtain ⟨A, c, e, f⟩ := h
  exact ⟨A, c, e, f.mono hl⟩
theorem MReps.mono (hl : p.le q) : ∀ {cs : List Value} {xs : List (Int × List α)}, MReps T p cs xs → MReps T q cs xs
  | [], [], _ => trivial
  | [], _ :: _, h => h.elim
  | [_], _, h => h.elim
  | k :: v :: cs, [], h => h.elim
  | k :: v :: cs, x :: xs, h => ⟨h.1, h.2.1.mono hl, MReps.mono hl h.2.2⟩
def MBuf (p : Psi) (T : Ty α) (v : Value) (k : Option Bk) (xs : List (Int × List α)) : Prop := ∃ b cs, v = .map (some b) ∧ k = some ⟨b, mapB cs, []⟩ ∧ MReps T p cs xs
theorem MBuf.mono {v : Value} {k : Option Bk} {xs : List (Int × List α)} (h : MBuf p T v k xs) (hl : p.le q) : MBuf q T v k xs := by
  obtain ⟨b, cs, h1, h2, h3⟩ := h
  exact ⟨b, cs, h1, h2, h3.mono hl⟩
end
theorem opens_sized {P : Program} {t e : TypeId} {α : Type} {T : Ty α} {ok : α → Prop} (m : Nat) (hm : P.bytesOf e = m) (he : Opens P e T ok) (ht : P.underlying t = some (.slice e)) (hc : P.cellsOf e = T.n) (hb : Nat.blt 0 (P.bytesOf e) = true) : Opens P t (tyArr T) (fun xs => xs.length * m ≤ 140737488351232 ∧ ∀ x ∈ xs, ok x) := by
  intro H enc w base spare held fuel cs d pl h hw
  obtain ⟨xs, hr, hk⟩ := opens_slice he ht hc hb h hw
  refine ⟨xs, hr, ?_, hk⟩
  obtain ⟨A, c, rfl, hA⟩ := hr
  rcases open_slice ht h with ⟨h1, _⟩ | ⟨a, len, cap, k, n, D, Pl, h1, hbs, hl, hmm, hmk, hx, hi⟩
  · simp only [List.cons.injEq, Value.slice.injEq, and_true] at h1
    rw [h1.2.1]; omega
  · simp only [List.cons.injEq, Value.slice.injEq, and_true] at h1
    obtain ⟨_, h2, _⟩ := h1
    have hlm : len ≤ k := by rw [hmk]; split <;> omega
    injection hx with hd _
    subst hd
    simp only [DataW.weights, ht] at hw
    have := hw _ (List.mem_cons_self ..)
    simp only [List.length_map, List.length_range, reachBytes] at this
    rw [h2, ← hm]
    have h3 : len * P.bytesOf e ≤ (len + (k - len)) * P.bytesOf e := Nat.mul_le_mul_right _ (by omega)
    omega
section
variable {P : Program} {n : Nat} {g : Gh} {own : Own} {sl : Sl} {ty : TypeId} {op : Op} {α : Type} {T : Ty α}
end
end Go.Proofs.YtpleflcfaecojaaGreat
