/-
Contracts of the helpers on byte slices: slices.Clone at bytes, append onto a row of bytes. Conditions: lengths of at most 2^47.
-/
import Derived.Test.YtgnajpoebooafaaProg
import Derived.Test.YtgnajpoebooafaaWords
namespace Go.Proofs.Ytgnajpoebooafaa
set_option linter.unusedVariables false
set_option linter.unusedSimpArgs false
open Go.RowKit

theorem Try.infoB : (Try.prog.info? 5).map (fun i => (i.zero, i.size, i.bytes)) = some (some (.int .u8 0), 1, 1) := by kernel_rfl

/-- append(s, x...) at bytes -/
theorem appB {w : World} {ops : Array Oper} {rest : List Oper} {o : Oper} {a : Act} {Q : Exit → Act → World → Prop}
    (hgd : o.guard = none) (s x : Operand) (ho : o.op = .call { callee := .builtin .append, args := #[s, x], argTypes := #[22, 22] })
    {base : Nat} {V : Option Addr} {n cv : Nat} {xs : List Value} (hs : a.eval s = .slice V n cv) (hown : w.ownsRow base 5 1 (.slice V n cv) n xs)
    {B : Nat} {A : Option Addr} {m c : Nat} {news : List Value} (hx : a.eval x = .slice A m c) (hr : Reads w B 1 A m news) (h1 : ∀ u ∈ news, u.oneCell' = true)
    (hlen : n + m ≤ 140737488355328) (hbase : base ≤ w.heap.size)
    (h : ∀ A' c' w', w'.ownsRow base 5 1 (.slice A' (n + m) c') (n + m) (xs ++ news) → Below base w w' → w.grownBy w' (V.map (·.block)) → (A'.map (·.block) = V.map (·.block) ∨ A'.map (·.block) = some w.heap.size) → wpList Try.prog ops Q rest (a.put o.dst (.slice A' (n + m) c')) w') :
    wpList Try.prog ops Q (o :: rest) a w := by
  obtain ⟨i0, hi0, hz0, hz1, hz2⟩ := info_parts Try.infoB
  exact wpList_app 1 1 Try.underlying22 hi0 hz0 hz1 hz2 rfl (by omega) hgd s x ho hs hown hx hr h1 (by omega) hlen hbase h

/-- 's[l:h]' and 's[l:]' at []byte -/
theorem midB (A : Option Addr) (n c : Nat) (l h : Int) (h0 : 0 ≤ l) (h1 : l ≤ h) (h2 : h ≤ c) (w : World) :
    (Instr.sliceAt 22 (.slice A n c) (some (.int .i64 l)) (some (.int .i64 h)) none).run Try.prog w = .ok (.slice (cutA A l.toNat c 1) (h.toNat - l.toNat) (c - l.toNat)) w :=
  run_slice_mid 1 (by kernel_rfl) (fun _ => by kernel_rfl) A n c l h h0 h1 h2 w
theorem fromB (A : Option Addr) (n c : Nat) (l : Int) (h0 : 0 ≤ l) (h1 : l ≤ n) (w : World) :
    (Instr.sliceAt 22 (.slice A n c) (some (.int .i64 l)) none none).run Try.prog w = .ok (.slice (cutA A l.toNat c 1) (n - l.toNat) (c - l.toNat)) w :=
  run_slice_from 1 (by kernel_rfl) (fun _ => by kernel_rfl) A n c l h0 h1 w

set_option maxRecDepth 100000 in
/-- slices.Clone at []byte: nil stays nil, else a new row with the same bytes -/
theorem clone_any (A : Option Addr) (n c : Nat) (xs : List Value) (w : World) (hx1 : ∀ u ∈ xs, u.oneCell' = true) (h2 : n ≤ 140737488355328) (hr : Reads w w.heap.size 1 A n xs) :
    Calls Try.prog 56 #[.slice A n c] w fun e w' => ∃ A' c', e = .returned (.slice A' n c') ∧ w'.ownsRow w.heap.size 5 1 (.slice A' n c') n xs ∧ Below w.heap.size w w' := by
  have k := fun (w : World) => Lib.run_eql_slice_nil (P := Try.prog) w 22 5 A n c 0 0 Try.underlying22
  have H := Lib.hid hr
  clear hr
  go_enter Try.func56, Try.ntmps56
  go_wp2_with (at_builtin; refine stopHere ?_)
  · go_ret
    obtain ⟨rfl⟩ : A = none := by simpa using ‹A.isNone = true›
    have h0 : n = 0 := by
      rcases Nat.eq_zero_or_pos n with h0 | h0
      · exact h0
      · obtain ⟨ad, e, _⟩ := H.out.2 h0
        cases e
    subst h0
    have hx : xs = [] := List.eq_nil_of_length_eq_zero (by simpa using H.out.1)
    subst hx
    exact ⟨none, 0, rfl, World.ownsRow_nil _ _ _ _, Below.refl _ _⟩
  · refine goOn ?_
    refine appB rfl (.tmp 5) (.tmp 6) rfl rfl (World.ownsRow_lit w #[] 0 (Nat.le_refl _) (Nat.zero_le _) rfl) rfl (H.out.alloc (Nat.le_refl _) _) hx1 (by omega) (by simp) ?_
    intro A' c' w1 hown hb hg hat
    simp only [Nat.zero_add, List.nil_append] at hown
    clear hg hat
    simp only [Nat.zero_add]
    go_wp2
    go_ret
    exact ⟨A', c', rfl, hown, ((Below.refl _ _).alloc (Nat.le_refl _) _).trans hb⟩
end Go.Proofs.Ytgnajpoebooafaa
