/-
The second engine, part 6: a slice of one's own that is converted is marked by the machine, and is handed to the ghost. Conditions: each lemma's own.
-/
import Derived.Test.YthfekfebgghjhaaDoorG5
namespace Go.Proofs.YthfekfebgghjhaaDoor
set_option linter.unusedVariables false
set_option linter.unusedSimpArgs false
open Go.RowKit
def Psi.addO (p : Psi) (k : Nat) (o : Obj) : Psi := { p with m := fun b => if b = k then some o else p.m b }
theorem Psi.le_addO {p : Psi} {k : Nat} {o : Obj} (h : p.m k = none) : p.le (p.addO k o) := ⟨rfl, rfl, rfl, fun b o' e => by
  show (if b = k then _ else _) = _
  rw [if_neg (fun eq => by rw [eq, h] at e; cases e)]; exact e⟩
def Gh.addO (g : Gh) (k : Nat) (o : Obj) : Gh := ⟨g.r.addO k o, g.b.addO k o, ⟨g.br.os, g.br.tape, g.br.out, fun b o' e => by
  by_cases eq : b = k
  · have h1 : (g.b.addO k o).m b = some o := if_pos eq
    have h2 : (g.r.addO k o).m b = some o := if_pos eq
    rw [h2, ← e, h1]
  · have h1 : (g.b.addO k o).m b = g.b.m b := if_neg eq
    have h2 : (g.r.addO k o).m b = g.r.m b := if_neg eq
    rw [h1] at e
    rw [h2]; exact g.br.m b o' e⟩⟩
/-- a block of one's own is turned, and given to the ghost -/
theorem St.publishO {w w' : World} {g : Gh} {own : Own} (h : St w g own) {i : Nat} {k : Bk} (hi : own[i]? = some (some k)) (o : Obj)
    (hos : w'.os = w.os) (htape : w'.tape = w.tape) (hout : w'.output = w.output) (hb : ∀ b, b ≠ k.g → w'.heap[b]? = w.heap[b]?) (hk : w'.heap[k.g]? = some o) : g.le (g.addO k.g o) ∧ St w' (g.addO k.g o) (own.set i none) := by
  have hm := Own.get_mem hi
  have hf := h.free k hm
  have hfb := g.br.none_ hf
  refine ⟨⟨Psi.le_addO hf, Psi.le_addO hfb, fun b hb => ?_⟩, ⟨⟨hos.trans h.r.os, htape.trans h.r.tape, hout.trans h.r.out, fun b o' e => ?_⟩, ?_, ?_, ?_⟩⟩
  · by_cases e : b = k.g
    · subst e; exact .inr hf
    · refine .inl ?_
      have : (g.addO k.g o).b.m b = g.b.m b := if_neg e
      rwa [this] at hb
  · by_cases eq : b = k.g
    · subst eq
      have h1 : (g.addO k.g o).r.m k.g = some o := if_pos rfl
      rw [h1] at e
      rw [← e]; exact hk
    · have h1 : (g.addO k.g o).r.m b = g.r.m b := if_neg eq
      rw [h1] at e
      rw [hb b eq]
      exact h.r.m b o' e
  · exact (h.publish hi).2.nodup
  · intro j hj
    rcases Own.other h.nodup hi hj with e | ⟨e, e2⟩
    · cases e
    · rw [hb _ e2]; exact h.has j e
  · intro j hj
    rcases Own.other h.nodup hi hj with e | ⟨e, e2⟩
    · cases e
    · show (if j.g = k.g then _ else _) = _
      rw [if_neg e2]; exact h.free j e
section
variable {P : Program} {n : Nat} {g : Gh} {own : Own} {sl : Sl} {ty : TypeId} {op : Op} {α : Type} {T : Ty α}
def cvC (P : Program) (sl : Sl) (op : Op) : Option (Option Addr × Nat × Nat) := match op with
  | .convert s d x => match evS sl x, P.underlying s, P.underlying d with
    | some (.slice A l c), some (.slice _), some (.slice e) => match s == d, P.underlying e with
      | true, some (.int .u8) => some (A, l, c)
      | _, _ => none
    | _, _, _ => none
  | _ => none
theorem eCv (io : Nat) {et : TypeId} {A : Option Addr} {c : Nat} {k : Option Bk} {xs : List α} (hb : Buf g.b T et (.slice A xs.length c) k xs) (h0 : 0 < xs.length) (hc : cvC P sl op = some (A, xs.length, c) := by kernel_rfl) (hi : own[io]? = some k := by kernel_rfl) :
    Eff P n g own sl op ty (fun v g' own' => v = .slice A xs.length c ∧ own' = own.set io none ∧ Arr g'.b T A c xs) := by
  intro o a w Q K h1 h2 hf hs h
  unfold cvC at hc
  split at hc
  · rename_i s d x
    split at hc
    · rename_i A' l' c' e0 e e1 e2 e3
      split at hc
      · rename_i q1 q2
        simp only [Option.some.injEq, Prod.mk.injEq] at hc
        obtain ⟨rfl, rfl, rfl⟩ := hc
        rcases hb.2 with ⟨_, rfl, _⟩ | ⟨b, cap, cs, sp, p1, p2, p3, p4, p5⟩
        · simp at h0
        · injection p1 with r1 r2 r3
          subst r1; subst r3; subst p2
          have hh := hs.has _ (Own.get_mem hi)
          rw [Bk.obj_ty] at hh
          have hshape : w.shape? b = some (et, (cs ++ sp).length) := by simp [World.shape?, hh]
          obtain ⟨hle, hst⟩ := hs.publishO (w' := w.freeze ⟨b, (cs ++ sp).length, none⟩ 1) hi (.cells (cs ++ sp).toArray et ((cs ++ sp).length, (cs ++ sp).length + 1)) (by simp [World.freeze]) (by simp [World.freeze]) (by simp [World.freeze])
            (fun b' hne => by simp [World.freeze, Array.getElem?_modify, Ne.symm hne]) (by simp [World.freeze, Array.getElem?_modify, hh])
          have hrun : (execOp a.eval o).run P w = .ok (.value (.slice (some ⟨b, 0, none⟩) xs.length c')) (w.freeze ⟨b, (cs ++ sp).length, none⟩ 1) := by
            have e4 : (convert s d (.slice (some ⟨b, 0, none⟩) xs.length c')).run P w = .ok (.slice (some ⟨b, 0, none⟩) xs.length c') (w.freeze ⟨b, (cs ++ sp).length, none⟩ 1) := by
              have hsh : (shape b).run P w = .ok (some (et, (cs ++ sp).length)) w := by simp [shape, Sem.run, hshape]
              have hfr : (freeze ⟨b, (cs ++ sp).length, none⟩ 1).run P w = .ok () (w.freeze ⟨b, (cs ++ sp).length, none⟩ 1) := by simp [freeze, Sem.run]
              simp only [convert, run_underlying e2, run_underlying e3, run_underlying q2, q1, Sem.run_bind, Result.andThen_ok, markStringish, hsh, hfr, Sem.run_pure]
            simp only [execOp, h1, hf.ev e1]
            simp [e4]
          unfold Oper.wp
          rw [hrun]
          refine h _ _ _ _ hle hst ⟨rfl, rfl, ?_⟩
          refine ⟨?_, hb.1, cs, p3.mono hle.b, fun _ => ⟨_, rfl, fun j v hj => ?_⟩⟩
          · rw [List.length_append, p3.len] at p4
            exact Nat.le_of_mul_le_mul_right (by omega : xs.length * T.n ≤ c' * T.n) T.pos
          · rw [addr_add]
            have hm : (g.addO b (.cells (cs ++ sp).toArray et ((cs ++ sp).length, (cs ++ sp).length + 1))).b.m b = some (.cells (cs ++ sp).toArray et ((cs ++ sp).length, (cs ++ sp).length + 1)) := if_pos rfl
            simp only [Psi.cell?, hm]
            have hlt : j < cs.length := (List.getElem?_eq_some_iff.1 hj).1
            simp
            rw [List.getElem?_append_left hlt]; exact hj
      · cases hc
    · cases hc
  · cases hc
end
end Go.Proofs.YthfekfebgghjhaaDoor
