/-
The third engine, part 6: stores, elements, lengths, append. Conditions: each lemma's own.
-/
import Derived.Test.YtpleflcfaecojaaGreatH5
namespace Go.Proofs.YtpleflcfaecojaaGreat
set_option linter.unusedVariables false
set_option linter.unusedSimpArgs false
open Go.RowKit
theorem ids_at {l : Own} {i : Nat} {x : Option Bk} (h : l[i]? = some x) : (Own.ids l).Perm (Own.ids [x] ++ Own.ids (l.eraseIdx i)) := by
  have := Own.ids_perm (perm_erase h)
  rw [Own.ids_cons] at this
  cases x <;> simpa [Own.ids] using this
theorem ids_set {l : Own} {i : Nat} (y : Option Bk) (h : i < l.length) : (Own.ids (l.set i y)).Perm (Own.ids [y] ++ Own.ids (l.eraseIdx i)) := by
  have := ids_at (l := l.set i y) (i := i) (x := y) (by simp [List.getElem?_set, h])
  rwa [List.eraseIdx_set_eq] at this
theorem St.move {w : World} {g : Gh} {own : Own} {k : Option Bk} {b f : Nat} (h : St w g own) (hb : own[b]? = some k) (hf : own[f]? = some none) (hne : b ≠ f) : St w g ((own.set b none).set f k) := by
  have hlb := get_lt hb
  have hlf := get_lt hf
  have h1 : (own.set b none)[f]? = some none := by rw [List.getElem?_set, if_neg hne]; exact hf
  have p1 := ids_at hb
  have p2 := ids_set (l := own) none hlb
  have p3 := ids_at h1
  have p4 := ids_set (l := own.set b none) k (by rw [List.length_set]; exact hlf)
  simp only [show Own.ids [none] = [] from rfl, List.nil_append] at p2 p3
  refine h.fewer ?_ fun k' hk' => ?_
  · exact (p4.trans ((p3.symm.trans p2).append_left _) |>.trans p1.symm).nodup_iff.2 h.nodup
  · have hp : ((own.set b none).set f k).Perm (k :: (own.set b none).eraseIdx f) := by
      have := perm_erase (l := (own.set b none).set f k) (i := f) (x := k) (by simp [List.getElem?_set, hlf])
      rwa [List.eraseIdx_set_eq] at this
    rcases List.mem_cons.1 (hp.mem_iff.1 hk') with e | e
    · rw [e]; exact List.mem_of_getElem? hb
    · rcases List.mem_or_eq_of_mem_set (List.mem_of_mem_eraseIdx e) with e | e
      · exact e
      · cases e
section
variable {P : Program} {n : Nat} {ty : TypeId} {sl : List (Nat × SV)} {bl bl' : List BV} {v : SV} {f : Nat} {g : Gh} {ρ : Env} {own : Own} {fr : Sl}
def tStore (P : Program) (sl : List (Nat × SV)) (t : TypeId) (x y : Operand) : Tr := match evH sl x, evH sl y with
  | some (.v (.c (.ptr b off))), some s => (match cellsS s with
    | some vs => .need b fun
      | .cells t0 l => (match fitsT P t vs.length off l.length with | true => .done ⟨.any, [(b, .cells t0 (setRowC l off vs))], []⟩ | false => .no)
      | _ => .no
    | none => .no)
  | some (.v (.c (.eo b c i off))), some s => (match cellsS s with
    | some vs => .need b fun
      | .row d _ xs => (match fitsT P t vs.length off d.n with
        | true => encC d (setRowC (d.cv (xs.getD i d.dflt)) off vs) fun u _ => .need b fun
          | .row d2 et ys => (match d2.same c, d.same d2 with | some _, some h => .done ⟨.any, [(b, .row d2 et (ys.set i (h.down ▸ u)))], []⟩ | _, _ => .no)
          | _ => .no
        | false => .no)
      | _ => .no
    | none => .no)
  | _, _ => .no
theorem setB_ok {bv : BV} {b : Nat} (hb : bl[b]? = some bv) {g' : Gh} {bv1 : BV} {k : Option Bk} (h : Rl g ρ ⟨sl, bl⟩ own fr) (hg : g.le g') (hh : bv1.isHole = false) (hm : ∀ m, bv1.len = some m → bv.len = some m) (hk : BlkR g' ρ (bl.set b bv1) k (ρ b) bv1) :
    Ext ρ bl ρ (bl.set b bv1) ∧ Rl g' ρ ⟨sl, bl.set b bv1⟩ (own.set b k) fr := ⟨Ext.set_at hb hh hm, h.setB hg hb hh hm hk⟩
theorem tStore_ok {t : TypeId} {x y : Operand} (h : Told f (tStore P sl t x y) bl bl' v) : EffH P n (.store t x y) ty sl bl bl' v := by
  unfold tStore at h
  split at h
  · rename_i b off s ex ey
    split at h
    · rename_i vs hvs
      obtain ⟨bv, hb, h⟩ := h
      dsimp only at h
      split at h
      · rename_i t0 l
        split at h
        · rename_i hfit
          obtain ⟨rfl, rfl⟩ := h
          obtain ⟨hz, hle⟩ := fitsT_ok hfit
          intro o a w Q K g ρ own fr h1 h2 hr hf hs hk
          obtain ⟨vx, hx1, hx2⟩ := evH_real hr ex
          obtain ⟨vy, hy1, hy2⟩ := evH_real hr ey
          obtain ⟨us, hc1, hc2⟩ := cellsS_real hvs hy2
          obtain ⟨_, ad, ha, rfl⟩ := hx2
          obtain ⟨k, hko, b0, cs, rfl, h4, h5⟩ := hr.own_at hb
          rw [ha] at h4; injection h4 with h4; subst h4
          rw [addr_add, Nat.zero_add] at hx1
          refine e_store (P := P) hx1 hy1 hko rfl hc1 (by rw [← hc2.len]; exact hz) (all2_one hc2) (by rw [← hc2.len]; exact Nat.ble_eq_true_of_le (by rw [← h5.len]; exact hle)) rfl o a w Q K h1 h2 hf hs fun v g' own' w' hg hs' ⟨e1, e2⟩ => ?_
          subst e1; subst e2
          have hx : Ext ρ bl ρ (bl.set b (.cells t0 (setRowC l off vs))) := Ext.set_at hb rfl fun m hm => by cases hm
          have hrl := hr.setB (g' := g) (bv1 := .cells t0 (setRowC l off vs)) (k := some ⟨b0, t0, setRow cs off us⟩) (.refl g) hb rfl (fun m hm => by cases hm) ⟨b0, _, rfl, ha, (setRowC_real off hc2 h5).mono fun _ _ => RealC.ext (.refl g) hx⟩
          exact hk v g ρ _ w' (.refl g) hx hs' hrl trivial
        · exact h.elim
      · exact h.elim
    · exact h.elim
  · rename_i b c i off s ex ey
    split at h
    · rename_i vs hvs
      obtain ⟨bv, hb, h⟩ := h
      dsimp only at h
      split at h
      · rename_i d et xs
        split at h
        · rename_i hfit
          obtain ⟨hz, hle⟩ := fitsT_ok hfit
          obtain ⟨u, r, bl1, hh, hfz, henc⟩ := encC_told d h
          clear h
          obtain ⟨bv, hb1, h⟩ := hh
          dsimp only at h
          split at h
          · rename_i d2 et2 ys
            split at h
            · rename_i h1 h2 _ _
              obtain ⟨h1⟩ := h1
              obtain ⟨h2⟩ := h2
              subst h1; subst h2
              obtain ⟨rfl, rfl⟩ := h
              refine EffH.frz hfz ?_
              have hb1 : bl1[b]? = some (.row d et2 ys) := hb1
              have hsame : BV.row d et xs = BV.row d et2 ys := by
                have : ∀ {a b : List BV}, FrzTo a b → ∀ {i : Nat} {c1 c2 : Cd} {e1 e2 : TypeId} {x1 : List c1.den} {x2 : List c2.den}, a[i]? = some (.row c1 e1 x1) → b[i]? = some (.row c2 e2 x2) → BV.row c1 e1 x1 = BV.row c2 e2 x2 := by
                  intro a b hab
                  induction hab with
                  | refl => intro i c1 c2 e1 e2 x1 x2 h1 h2; rw [h1] at h2; injection h2
                  | @step l l2 b c et xs h0 hk ih =>
                    intro i c1 c2 e1 e2 x1 x2 h1 h2
                    by_cases e : b = i
                    · subst e
                      have := hk.fz (i := b) (c := c) (xs := xs) (by simp [List.getElem?_set, get_lt h0])
                      rw [this] at h2; injection h2 with h2; cases h2
                    · exact ih (by rw [List.getElem?_set, if_neg e]; exact h1) h2
                exact this hfz hb hb1
              injection hsame with _ e2 e3
              subst e2; subst e3
              intro o a w Q K g ρ own fr h1 h2 hr hf hs hk
              obtain ⟨vx, hx1, hx2⟩ := evH_real hr ex
              obtain ⟨vy, hy1, hy2⟩ := evH_real hr ey
              obtain ⟨us, hc1, hc2⟩ := cellsS_real hvs hy2
              obtain ⟨_, ad, ha, rfl, hlt⟩ := hx2
              have hlt := hlt _ _ hb1 rfl
              obtain ⟨k, hko, hbuf⟩ := hr.own_at hb1
              have hbuf : Buf g.b d.ty et (.slice (ρ b).1 xs.length (ρ b).2) k xs := hbuf
              obtain ⟨kb, cs, h4, rfl, h5, h6⟩ := Buf.open_ hbuf hlt d.dflt
              rw [ha] at h4; injection h4 with h4; subst h4
              rw [addr_add, Nat.zero_add] at hx1
              have hall := setRowC_real off hc2 (d.cv_real h5 (ρ := ρ) (bl := bl1))
              obtain ⟨c1, c2, e1, e2, e3⟩ := henc.real hr d hall
              have hl1 : (setRow cs off us).length = d.n := by rw [setRow_length, d.ty.len h5, d.ty_n]
              have hl2 : c1.length = d.n := by rw [d.ty.len e2, d.ty_n]
              have hc20 : c2 = [] := by
                have : (setRow cs off us).length = c1.length + c2.length := by rw [e1, List.length_append]
                exact List.eq_nil_of_length_eq_zero (by omega)
              rw [hc20, List.append_nil] at e1
              rw [d.ty_n] at h6
              refine e_storeB (P := P) (T := d.ty) i d.n off b vy us xs u hx1 hy1 hko hc1 (by rw [← hc2.len]; exact hz) (all2_one hc2) hbuf (d.ty_n).symm h6 (by rw [e1]; exact e2) (by rw [← hc2.len, d.ty_n]; exact Nat.ble_eq_true_of_le hle) hlt o a w Q K h1 h2 hf hs fun v g' own' w' hg hs' ⟨k', e1, e2, e3⟩ => ?_
              subst e1; subst e2
              obtain ⟨hx, hrl⟩ := setB_ok (bv1 := .row d et (xs.set i u)) (k := k') hb1 hr (.refl g) rfl (fun m hm => by have : (xs.set i u).length = m := Option.some.inj hm; rw [List.length_set] at this; exact congrArg some this) (by show Buf g.b d.ty et (.slice (ρ b).1 (xs.set i u).length (ρ b).2) k' (xs.set i u); rw [List.length_set]; exact e3)
              exact hk v g ρ _ w' (.refl g) hx hs' hrl trivial
            · exact h.elim
          · exact h.elim
        · exact h.elim
      · exact h.elim
    · exact h.elim
  · exact h.elim
end
end Go.Proofs.YtpleflcfaecojaaGreat
