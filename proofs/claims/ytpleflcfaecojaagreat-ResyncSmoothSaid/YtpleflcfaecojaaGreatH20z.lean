/-
The third engine, part 20z: zeros appended to nothing. Conditions: each lemma's own.
-/
import Derived.Test.YtpleflcfaecojaaGreatH20
namespace Go.Proofs.YtpleflcfaecojaaGreat
set_option linter.unusedVariables false
set_option linter.unusedSimpArgs false
open Go.RowKit
section
variable {α : Type} {P : Program} {n : Nat} {T : Ty α} {p : Psi} {g : Gh} {own : Own} {sl : Sl} {ty : TypeId}
theorem made_reps {zs : List Value} {z : α} (hr : T.rep p zs z) : ∀ m : Nat, Reps T p (madeCells zs.toArray (m * T.n)).toList (List.replicate m z) := by
  intro m
  induction m with
  | zero => simp [madeCells]; rfl
  | succ m ih =>
    have e : (madeCells zs.toArray ((m + 1) * T.n)).toList = zs ++ (madeCells zs.toArray (m * T.n)).toList := by
      have hzl : zs.length = T.n := T.len hr
      apply List.ext_getElem?
      intro j
      rw [List.getElem?_append]
      simp only [madeCells, Array.toList_map, Array.toList_range, List.getElem?_map]
      by_cases hj : j < zs.length
      · rw [if_pos hj]
        have hj2 : j < (m + 1) * T.n := by rw [Nat.succ_mul]; omega
        rw [List.getElem?_range hj2]
        simp only [Option.map_some, List.size_toArray, Nat.mod_eq_of_lt hj]
        rw [List.getElem?_eq_getElem hj]
        simp [hj]
      · rw [if_neg hj]
        by_cases hj2 : j < (m + 1) * T.n
        · have hj3 : j - zs.length < m * T.n := by rw [Nat.succ_mul] at hj2; omega
          rw [List.getElem?_range hj2, List.getElem?_range hj3]
          simp only [Option.map_some, List.size_toArray]
          congr 2
          exact (Nat.mod_eq_sub_mod (by omega))
        · have hj3 : ¬ j - zs.length < m * T.n := by rw [Nat.succ_mul] at hj2; omega
          rw [List.getElem?_eq_none (by simpa using hj2), List.getElem?_eq_none (by simpa using hj3)]
    rw [e, List.replicate_succ]
    exact ⟨zs, _, rfl, hr, ih⟩
theorem e_zerosF {t tn et : TypeId} {s x : Operand} {kx kn : IntKind} {bytes : Nat} (m : Nat) {zs : List Value} {z : α} (ha : appT P t et = some (T.n, bytes)) (htn : P.underlying tn = some (.int kn)) (hs : evS sl s = some (.slice none 0 0)) (hx : evS sl x = some (.int kx (m : Int)))
    (h0 : 0 < m) (hz : zeroOf P et = some zs.toArray) (hr : T.rep p zs z) (hbytes : m * bytes ≤ 140737488355328) (hm : m ≤ 140737488355328) :
    Eff P n g own sl (.call { callee := .builtin .append, args := #[s, x], argTypes := #[t, tn] }) ty (fun v' g' own' => ∃ b cap k, v' = .slice (some ⟨b, 0, none⟩) m cap ∧ g = g' ∧ own' = k :: own ∧ Buf p T et (.slice (some ⟨b, 0, none⟩) (List.replicate m z).length cap) k (List.replicate m z)) := by
  intro o a w Q K h1 h2 hf hst h
  obtain ⟨inf, z0, ht, hinf, hz0, hsz, hby, hzs⟩ := (AppT.of ha).out
  have hzc : z0.cells = zs.toArray := by
    unfold zeroOf at hz
    rw [hinf] at hz
    simpa [hz0] using hz
  have hrun := Lib.run_append_nil_zeros (P := P) w t tn o.type et inf z0 kx kn ht htn hinf hz0 m h0 (by rw [hsz]; exact T.pos) (by omega) (by rw [hby]; exact wide47 hbytes)
  have hge := grownCap_ge w m 0 et
  have hle : grownCap w m 0 et ≤ maxLen := grownCap_le_maxLen w m 0 et (by simp only [maxLen]; omega)
  generalize grownCap w m 0 et = cap at hrun hge hle
  have hlen : (Builtin.zeroCells z0.cells m ++ Builtin.zeroCells z0.cells (cap - m)).toList.length = cap * T.n := by
    simp only [Array.toList_append, List.length_append, Array.length_toList, size_zeroCells, hzs, ← Nat.add_mul]
    congr 1
    omega
  have hrep : Reps T p (Builtin.zeroCells z0.cells m).toList (List.replicate m z) := by
    have e : Builtin.zeroCells z0.cells m = madeCells zs.toArray (m * T.n) := by
      rw [← hzs, hzc]
      rfl
    rw [e]
    exact made_reps hr m
  have hal := (hst.drew).alloc et (Builtin.zeroCells z0.cells m ++ Builtin.zeroCells z0.cells (cap - m)).toList
  rw [Array.toArray_toList] at hal
  have : (execOp a.eval o).run P w = .ok (.value (.slice (some ⟨w.heap.size, 0, none⟩) m cap)) (w.drew.alloc (.cells (Builtin.zeroCells z0.cells m ++ Builtin.zeroCells z0.cells (cap - m)) et)) := by
    simp [execOp, h1, resolve, invoke, builtin, hf.ev hs, hf.ev hx, hrun]
  unfold Oper.wp
  rw [this]
  exact h _ _ _ _ (.refl g) hal ⟨_, _, _, rfl, rfl, rfl, by rw [List.length_replicate]; exact hm, .inr ⟨w.heap.size, cap, (Builtin.zeroCells z0.cells m).toList, (Builtin.zeroCells z0.cells (cap - m)).toList, by rw [List.length_replicate], by rw [Array.toList_append]; rfl, hrep, by rw [← Array.toList_append]; exact hlen, hle⟩⟩
end
section
variable {P : Program} {n : Nat} {ty : TypeId} {sl : List (Nat × SV)} {bl bl' : List BV} {v : SV} {f : Nat} {g : Gh} {ρ : Env} {own : Own} {fr : Sl}
def tAppZ (P : Program) (sl : List (Nat × SV)) (f : Nat) (t tn : TypeId) (s x : Operand) : Tr := match rowOf P t, P.underlying tn, evH sl s with
  | some (c, et, bytes), some (.int _), some (.v (.c (.k (.slice none 0 0)))) => asI sl x fun _ z => (match zeroOf P et with
    | some zs => (match constL zs.toList with
      | some l => encC c l fun u r => .grd (decide (0 < z ∧ z * bytes ≤ 140737488355328)) (.done ⟨vC (.own f), [], [.row c et (List.replicate z.toNat u)]⟩)
      | none => .no)
    | none => .no)
  | _, _, _ => .no
theorem tAppZ_ok {t tn : TypeId} {s x : Operand} (hf : bl[f]? = some .hole) (h : Told f (tAppZ P sl f t tn s x) bl bl' v) : EffH P n (.call { callee := .builtin .append, args := #[s, x], argTypes := #[t, tn] }) ty sl bl bl' v := by
  unfold tAppZ at h
  split at h
  · rename_i c et bytes kn hrow htn es
    obtain ⟨hu, happ, _, hby⟩ := rowOf_ok hrow
    obtain ⟨k, z, ex, h0⟩ := asI_told h
    have h1 := h0
    clear h h0
    split at h1
    · rename_i zs hzs
      split at h1
      · rename_i l hl
        obtain ⟨u, r, bl1, h2, hfz, henc⟩ := encC_told c h1
        clear h1
        obtain ⟨hg, rfl, rfl⟩ := h2
        have hg := of_decide_eq_true hg
        refine EffH.frz hfz (effH_row (hfz.hole hf) fun g ρ own fr hr => ?_)
        obtain ⟨vx, hx1, rfl, _⟩ := evH_real hr ex
        obtain ⟨vy, hy1, rfl, _⟩ := evH_real hr es
        have hz : z = ((z.toNat : Nat) : Int) := by omega
        have hall := constL_real (g := g) (ρ := ρ) (bl := bl1) hl
        obtain ⟨c1, c2, e1, e2, e3⟩ := henc.real hr c hall
        have hl1 : zs.toList.length = c.n := by
          have h1 := happ
          unfold appT at h1
          unfold zeroOf at hzs
          split at h1
          · rename_i e' i hu' hi
            split at h1
            · rename_i z0 hz0
              split at h1
              · rename_i hcnd
                simp only [Option.some.injEq, Prod.mk.injEq] at h1
                rw [hi] at hzs
                simp only [Option.bind_some, hz0, Option.map_some, Option.some.injEq] at hzs
                rw [← hzs, Array.length_toList, hcnd.2, h1.1, c.ty_n]
              · cases h1
            · cases h1
          · cases h1
        have hl2 : c1.length = c.n := by rw [c.ty.len e2, c.ty_n]
        have hc20 : c2 = [] := by
          have : zs.toList.length = c1.length + c2.length := by rw [e1, List.length_append]
          exact List.eq_nil_of_length_eq_zero (by omega)
        rw [hc20, List.append_nil] at e1
        have hbm : bytes * z.toNat ≤ 140737488355328 := by
          have : ((bytes * z.toNat : Nat) : Int) ≤ ((140737488355328 : Nat) : Int) := by
            rw [Int.natCast_mul, ← hz, Int.mul_comm]; exact hg.2
          exact Int.ofNat_le.1 this
        have hmz : z.toNat ≤ 140737488355328 := Nat.le_trans (Nat.le_mul_of_pos_left _ hby) hbm
        intro o a w Q K h1 h2 hfr hs hk
        refine e_zerosF (T := c.ty) z.toNat (zs := c1) (z := u) happ htn hy1 (by rw [← hz]; exact hx1) (by omega) (by rw [hzs, ← e1]) e2 (by rw [Nat.mul_comm]; exact hbm) hmz o a w Q K h1 h2 hfr hs fun v' g' own' w' hg' hs' ⟨b, cap, k, e4, e5, e6, e8⟩ => ?_
        exact hk v' g' own' w' hg' hs' ⟨_, _, _, by rw [e4, List.length_replicate], e5, e6, e8⟩
      · exact h1.elim
    · exact h1.elim
  · exact h.elim
end
end Go.Proofs.YtpleflcfaecojaaGreat
