/-
The third engine, part 20w: append to a view of a row of one's own (the result is given away). Conditions: each lemma's own.
-/
import Derived.Test.YtpleflcfaecojaaGreatH20y
import Derived.ArgAppend
namespace Go.Proofs.YtpleflcfaecojaaGreat
set_option linter.unusedVariables false
set_option linter.unusedSimpArgs false
open Go.RowKit
section
variable {α : Type} {P : Program} {n : Nat} {T : Ty α} {p : Psi} {g : Gh} {own : Own} {sl : Sl} {ty : TypeId}
theorem run_append_view {w : World} {t ty' et : TypeId} {bytes : Nat} (ha : AppT P t et T.n bytes) (hs : St w g own) {i : Nat} {A : Option Addr} {c : Nat} {k : Option Bk} {xs : List α} (hi : own[i]? = some k) (hb : Buf p T et (.slice A xs.length c) k xs)
    {l r : Nat} (hl : 0 < l) (hlr : l ≤ r) (hr : r ≤ xs.length) {A2 : Option Addr} {m c2 : Nat} {news : List Value} {ys : List α} (hm : m = ys.length) (hsrc : Src w A2 m news) (hrep : Reps T p news ys) (hbytes : (r + ys.length) * bytes ≤ 140737488355328) (hlen : r + ys.length ≤ 140737488355328) :
    ∃ A' c' w' k', (Builtin.append_ #[t, t] ty' #[.slice (offA A c l T.n) (r - l) (c - l), .slice A2 m c2]).run P w = .ok (.slice A' (r - l + ys.length) c') w' ∧ St w' g (own.set i k') ∧
      ((A' = offA A c l T.n ∧ c' = c - l ∧ Buf p T et (.slice A (xs.take r ++ ys).length c) k' (xs.take r ++ ys)) ∨ Buf p T et (.slice A' ((xs.drop l).take (r - l) ++ ys).length c') k' ((xs.drop l).take (r - l) ++ ys)) := by
  obtain ⟨inf, z, ht, hinf, hz, hsz, hby, hzs⟩ := ha.out
  have hcell : cellsOfT P et = some T.n := by simp [cellsOfT, hinf, hsz]
  have hcap : xs.length ≤ c := by
    obtain ⟨_, _, e4, e5⟩ := hb.val
    injection e4 with _ _ e6
    omega
  have hlr2 : (xs.take r).length = r := by rw [List.length_take]; omega
  subst hm
  by_cases hy : ys = []
  · subst hy
    refine ⟨offA A c l T.n, c - l, w, k, ?_, by rw [set_same hi]; exact hs, .inl ⟨rfl, rfl, by rw [List.append_nil]; exact hb.cut r hr⟩⟩
    have hle : r - l ≤ c - l := by omega
    cases A2 with
    | none => exact run_append_none ht hcell hle
    | some ad => cases (offA A c l T.n) <;> simp [Builtin.append_, run_underlying ht, run_sizeOf_of hcell, Builtin.lenOf, hle, Builtin.firstCells, loadCells, loadCellsFrom, storeCells]
  · have hpos : 0 < ys.length := List.length_pos_iff.2 hy
    obtain ⟨ad, rfl, hnews⟩ := hsrc hpos
    obtain ⟨h0, hb'⟩ := hb
    rcases hb' with ⟨h1, h2, h3⟩ | ⟨b, cap, cs, sp, h1, h2, h3, h4, h5⟩
    · subst h2
      have hr : r ≤ 0 := hr
      omega
    · injection h1 with e1 e2 e3
      subst e1; subst e3; subst h2
      have hnl : news.length = ys.length * T.n := hrep.len
      have hcs := h3.len
      have hrn : r * T.n ≤ cs.length := by rw [hcs]; exact Nat.mul_le_mul_right _ hr
      have hold : ∀ j u, ((cs.drop (l * T.n)).take ((r - l) * T.n))[j]? = some u → w.cell? ⟨b, l * T.n + j, none⟩ = some u := fun j u hu => by
        have := hs.has _ (List.mem_of_getElem? hi)
        rw [List.getElem?_take] at hu
        split at hu
        · rw [List.getElem?_drop] at hu
          simp [World.cell?, this, Bk.obj_ty]
          rw [List.getElem?_append_left (by rcases Nat.lt_or_ge (l * T.n + j) cs.length with h | h; exact h; rw [List.getElem?_eq_none h] at hu; cases hu)]
          exact hu
        · cases hu
      by_cases hroom : r - l + ys.length ≤ c - l
      · have hne : ¬ c = l := by omega
        have hoff : offA (some (⟨b, 0, none⟩ : Addr)) c l T.n = some ⟨b, l * T.n, none⟩ := by
          unfold offA
          rw [if_neg hne]
          simp [addr_add]
        have hfit : r * T.n + news.length ≤ (cs ++ sp).length := by
          rw [h4, hnl, ← Nat.add_mul]
          exact Nat.mul_le_mul_right _ (by omega)
        obtain ⟨w', hst, hs'⟩ := run_storeCells_own (P := P) (g := g) (i := i) (k := ⟨b, et, cs ++ sp⟩) (vs := news) (own := own) (off := r * T.n) (cs ++ sp) 0 hs hi (by simpa using hrep.one) (by omega)
        have hadd : l * T.n + (r - l) * T.n = r * T.n := by rw [← Nat.add_mul]; congr 1; omega
        have hf := run_firstCells_some (P := P) w T.n ys.length ad ys.length c2 news (by rw [hnl]) hnews
        refine ⟨offA (some ⟨b, 0, none⟩) c l T.n, c - l, w', _, ?_, hs', .inl ⟨rfl, rfl, ?_⟩⟩
        · rw [hoff]
          have hst' : (storeCells ⟨b, l * T.n + (r - l) * T.n, none⟩ news).run P w = .ok () w' := by rw [hadd]; exact hst
          simp [Builtin.append_, run_underlying ht, run_sizeOf_of hcell, Builtin.lenOf, hroom, hf, addr_add, hst']
        · refine ⟨by rw [List.length_append, hlr2]; exact hlen, .inr ⟨b, c, cs.take (r * T.n) ++ news, (cs ++ sp).drop (r * T.n + news.length), by rw [List.length_append], ?_, (h3.take r).append hrep, ?_, h5⟩⟩
          · rw [Nat.add_zero, setRow_eq _ _ _ hfit, List.take_append_of_le_length hrn]
          · rw [List.length_append, List.length_append, List.length_take, List.length_drop, Nat.min_eq_left hrn]
            omega
      · have hoff : ∃ a, offA (some (⟨b, 0, none⟩ : Addr)) c l T.n = some a ∧ (0 < r - l → a = ⟨b, l * T.n, none⟩) := by
          unfold offA
          by_cases h : c = l
          · exact ⟨⟨b, 0, none⟩, by rw [if_pos h], fun h' => by omega⟩
          · refine ⟨⟨b, l * T.n, none⟩, by rw [if_neg h]; simp [addr_add], fun _ => rfl⟩
        obtain ⟨a0, ea, hab⟩ := hoff
        have holen : ((cs.drop (l * T.n)).take ((r - l) * T.n)).length = (r - l) * T.n := by
          rw [List.length_take, List.length_drop]
          have : l * T.n + (r - l) * T.n = r * T.n := by rw [← Nat.add_mul]; congr 1; omega
          omega
        have hbig : (r - l + ys.length) * inf.bytes ≤ 140737488355328 := by
          rw [hby]
          exact Nat.le_trans (Nat.mul_le_mul_right _ (by omega)) hbytes
        obtain ⟨v', w', hrun, how', hgrow⟩ := run_append_arg_grows (P := P) w t ty' et inf z T.n inf.bytes ht hinf hz hsz rfl hzs T.pos a0 (r - l) (c - l) ((cs.drop (l * T.n)).take ((r - l) * T.n)) holen (fun j u hu => by
            have h0 : 0 < r - l := by
              rcases Nat.eq_zero_or_pos (r - l) with h | h
              · rw [h] at hu; simp at hu
              · exact h
            rw [hab h0, addr_add]
            exact hold j u hu) ad ys.length c2 news hnl hnews (by omega) (by simp only [maxLen]; omega) hbig
        have hlenpos : 0 < r - l + ys.length := by omega
        rcases how'.2 with ⟨rfl, hz0⟩ | ⟨b', cap', cur, rfl, hge, hheap, hnc, hcm, hcsz, htake⟩
        · omega
        · refine ⟨some ⟨b', 0, none⟩, cap', w', some ⟨b', et, cur.toList⟩, by rw [ea]; exact hrun, ?_, .inr ?_⟩
          · refine hs.swap hi _ hgrow.os hgrow.tape hgrow.output (fun b hb hne => hgrow.block b hb fun e => by cases e) fun k' hk' => ?_
            injection hk' with hk'
            subst hk'
            exact ⟨by simpa [Bk.obj_ty] using hheap, .inr hge⟩
          · have hpl : ((xs.drop l).take (r - l)).length = r - l := part_len hr
            have hc2 : cur.toList = (((cs.drop (l * T.n)).take ((r - l) * T.n)) ++ news) ++ cur.toList.drop ((r - l + ys.length) * T.n) := by rw [← htake, List.take_append_drop]
            refine ⟨by rw [List.length_append, hpl]; omega, .inr ⟨b', cap', ((cs.drop (l * T.n)).take ((r - l) * T.n)) ++ news, cur.toList.drop ((r - l + ys.length) * T.n), by rw [List.length_append, hpl], by rw [← hc2], (((h3.drop l).take (r - l)).append hrep), ?_, hcm⟩⟩
            rw [← hc2]
            simpa using hcsz
end
section
variable {P : Program} {n : Nat} {ty : TypeId} {sl : List (Nat × SV)} {bl bl' : List BV} {v : SV} {f : Nat} {g : Gh} {ρ : Env} {own : Own} {fr : Sl}
def tAppV (P : Program) (sl : List (Nat × SV)) (t t' : TypeId) (s x : Operand) : Tr := match rowOf P t, Nat.beq t t', evH sl s with
  | some (c, et, bytes), true, some (.v (.c (.vw b cv l r))) => .need b fun
      | .row d et' xs => (match d.same c, d.same cv, Nat.beq et' et && Nat.ble 1 l with
        | some _, some _, true => srcT sl d b x fun ys => .grd (decide ((r + ys.length) * bytes ≤ 140737488355328)) (.done ⟨vC (.ro d ((xs.drop l).take (r - l) ++ ys) true), [(b, .no)], []⟩)
        | _, _, _ => .no)
      | _ => .no
  | _, _, _ => .no
theorem tAppV_ok {t t' : TypeId} {s x : Operand} (h : Told f (tAppV P sl t t' s x) bl bl' v) :
    EffH P n (.call { callee := .builtin .append, args := #[s, x], argTypes := #[t, t'] }) ty sl bl bl' v := by
  unfold tAppV at h
  split at h
  · rename_i c et bytes b cv l r hrow htt es
    have htt := Nat.eq_of_beq_eq_true htt
    subst htt
    obtain ⟨hu, happ, _, hby⟩ := rowOf_ok hrow
    obtain ⟨bv, hb, h⟩ := h
    dsimp only at h
    split at h
    · rename_i d et' xs
      split at h
      · rename_i hk0 hk2 _ _ he
        obtain ⟨hk0⟩ := hk0; obtain ⟨hk2⟩ := hk2; subst hk0; subst hk2
        simp only [Bool.and_eq_true] at he
        obtain ⟨he, hl1⟩ := he
        have he := Nat.eq_of_beq_eq_true he
        have hl1 := Nat.le_of_ble_eq_true hl1
        subst he
        obtain ⟨ys, h2, hsrc⟩ := srcT_told h
        clear h
        obtain ⟨hg, rfl, rfl⟩ := h2
        have hg := of_decide_eq_true hg
        intro o a w Q K g ρ own fr h1 h2 hr hfr hs hk
        obtain ⟨vs', hs1, hkn, rfl, hl⟩ := evH_real hr es
        obtain ⟨hlr, hrx⟩ := hl _ _ hb rfl
        obtain ⟨k0, hk0, hB⟩ := hr.own_at hb
        have hB : Buf g.b d.ty et' (.slice (ρ b).1 xs.length (ρ b).2) k0 xs := hB
        obtain ⟨hyl, A2, cap2, news, hx1, hx2, hx3⟩ := hsrc g ρ own fr hr
        have hlb := get_lt hk0
        have hpl : ((xs.drop l).take (r - l)).length = r - l := part_len hrx
        obtain ⟨A', c', w', k', hrun, hs', hres⟩ := run_append_view (P := P) (ty' := o.type) (c2 := cap2) (AppT.of happ) hs hk0 hB (l := l) (r := r) (by omega) hlr hrx rfl (hx3 w hs) hx2 hg (le_mul_bytes hby hg)
        have key : ∃ g', g.le g' ∧ St w' g' ((own.set b k').set b none) ∧ Arr g'.b d.ty A' c' ((xs.drop l).take (r - l) ++ ys) := by
          have hi' : (own.set b k')[b]? = some k' := by simp [List.getElem?_set, hlb]
          rcases hres with ⟨rfl, rfl, hB'⟩ | hB'
          · have key : ∃ g' , g.le g' ∧ St w' g' ((own.set b k').set b none) ∧ Arr g'.b d.ty (ρ b).1 (ρ b).2 (xs.take r ++ ys) :=
              wpq_freeze (K := fun _ w' => ∃ g' , g.le g' ∧ St w' g' ((own.set b k').set b none) ∧ Arr g'.b d.ty (ρ b).1 (ρ b).2 (xs.take r ++ ys)) (n := 0) (sl := []) b hi' hB' (fun g' h1 h2 a w' _ h3 => ⟨g', h1, h3, h2⟩) ⟨#[], []⟩ w' ⟨rfl, rfl, fun _ _ h => by cases h⟩ hs'
            obtain ⟨g', h1, h2, h3⟩ := key
            refine ⟨g', h1, h2, ?_⟩
            have h4 := h3.cut_from l (by rw [List.length_append, List.length_take]; omega)
            rw [List.drop_append_of_le_length (by rw [List.length_take]; omega), List.drop_take] at h4
            exact h4
          · exact wpq_freeze (K := fun _ w' => ∃ g' , g.le g' ∧ St w' g' ((own.set b k').set b none) ∧ Arr g'.b d.ty A' c' ((xs.drop l).take (r - l) ++ ys)) (n := 0) (sl := []) b hi' hB' (fun g' h1 h2 a w' _ h3 => ⟨g', h1, h3, h2⟩) ⟨#[], []⟩ w' ⟨rfl, rfl, fun _ _ h => by cases h⟩ hs'
        obtain ⟨g', hg1, hs2, harr⟩ := key
        rw [List.set_set] at hs2
        have hx : Ext ρ bl ρ (bl.set b .no) := Ext.set_at hb rfl fun m hm => by cases hm
        have hr1 := hr.setB (g' := g') (bv1 := .no) (k := none) hg1 hb rfl (fun m hm => by cases hm) rfl
        have hrun' : (execOp a.eval o).run P w = .ok (.value (.slice A' (r - l + ys.length) c')) w' := by
          have hs1' : evS fr s = some (.slice (offA (ρ b).1 (ρ b).2 l d.ty.n) (r - l) ((ρ b).2 - l)) := by rw [d.ty_n]; exact hs1
          simp [execOp, h1, resolve, invoke, builtin, hfr.ev hs1', hfr.ev hx1, hrun]
        unfold Oper.wp
        rw [hrun']
        refine hk _ g' ρ _ w' hg1 hx hs2 hr1 ⟨A', c', by rw [List.length_append, hpl], harr⟩
      · exact h.elim
    · exact h.elim
  · exact h.elim
end
end Go.Proofs.YtpleflcfaecojaaGreat
