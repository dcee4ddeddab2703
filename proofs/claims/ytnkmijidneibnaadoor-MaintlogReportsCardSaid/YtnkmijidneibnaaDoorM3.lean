/-
The third engine, part 20y: clear and copy into rows of one's own. Conditions: each lemma's own.
-/
import Derived.Test.YtnkmijidneibnaaDoorM2
import Derived.ArgAppend
import Derived.Shelf.Strconv.Itoa4
import Derived.Lib.ItoaLen
import Derived.Sort.Grow
import Derived.Shelf.SlSortCmp.NoneTotal
import Derived.Test.YtnkmijidneibnaaDoorProg
import Derived.Shelf.Spec.SlicesInsertGrow
import Derived.Lib.AppendZerosOnto
import Derived.Deep.DeepAppendWide
namespace Go.Proofs.YtnkmijidneibnaaDoor
set_option linter.unusedVariables false
set_option linter.unusedSimpArgs false
open Go.RowKit
theorem setRow_front : ∀ (vs b : List Value), vs.length ≤ b.length → setRow b 0 vs = vs ++ b.drop vs.length
  | [], b, _ => by simp [setRow]
  | v :: vs, [], h => by simp at h
  | v :: vs, x :: b, h => by
    have h1 := setRow_pre vs [v] b 0
    have h2 := setRow_front vs b (by simpa using h)
    simp only [List.length_singleton, Nat.add_zero, List.singleton_append] at h1
    show setRow (v :: b) (0 + 1) vs = _
    rw [Nat.zero_add, h1, h2]
    rfl
theorem setRow_eq (vs cs : List Value) (off : Nat) (h : off + vs.length ≤ cs.length) : setRow cs off vs = cs.take off ++ vs ++ cs.drop (off + vs.length) := by
  have h1 := setRow_pre vs (cs.take off) (cs.drop off) 0
  rw [List.take_append_drop, List.length_take, Nat.min_eq_left (by omega), Nat.add_zero] at h1
  rw [h1, setRow_front _ _ (by rw [List.length_drop]; omega), List.drop_drop, List.append_assoc]
section
variable {α : Type} {P : Program} {n : Nat} {T : Ty α} {p : Psi} {g : Gh} {own : Own} {sl : Sl} {ty : TypeId}
theorem Reps.many {xs ys : List α} {cs ds : List Value} {i : Nat} (h : Reps T p cs xs) (k : Reps T p ds ys) (hi : i + ys.length ≤ xs.length) : Reps T p (setRow cs (i * T.n) ds) (xs.take i ++ ys ++ xs.drop (i + ys.length)) := by
  have hl : i * T.n + ds.length = (i + ys.length) * T.n := by rw [k.len, Nat.add_mul]
  rw [setRow_eq _ _ _ (by rw [hl, h.len]; exact Nat.mul_le_mul_right _ hi), hl]
  exact ((h.take i).append k).append (h.drop (i + ys.length))
theorem Buf.many {et : TypeId} {A : Option Addr} {c : Nat} {kb : Bk} {xs ys : List α} {ds : List Value} {i : Nat} (h : Buf p T et (.slice A xs.length c) (some kb) xs) (k : Reps T p ds ys) (hi : i + ys.length ≤ xs.length) :
    A = some ⟨kb.g, 0, none⟩ ∧ i * T.n + ds.length ≤ kb.cs.length ∧ Buf p T et (.slice A (xs.take i ++ ys ++ xs.drop (i + ys.length)).length c) (some ⟨kb.g, kb.t, setRow kb.cs (i * T.n) ds⟩) (xs.take i ++ ys ++ xs.drop (i + ys.length)) := by
  obtain ⟨h0, h⟩ := h
  have hlen : (xs.take i ++ ys ++ xs.drop (i + ys.length)).length = xs.length := by
    simp only [List.length_append, List.length_take, List.length_drop]; omega
  rcases h with ⟨_, _, h3⟩ | ⟨b, cap, cs, sp, h1, h2, h3, h4, h5⟩
  · cases h3
  · injection h2 with h2
    subst h2
    injection h1 with e1 e2 e3
    subst e1; subst e3
    have hds : i * T.n + ds.length ≤ cs.length := by
      rw [k.len, h3.len, ← Nat.add_mul]; exact Nat.mul_le_mul_right _ hi
    refine ⟨rfl, by rw [List.length_append]; omega, by rw [hlen]; exact h0, .inr ⟨b, c, setRow cs (i * T.n) ds, sp, rfl, ?_, h3.many k hi, by rw [List.length_append, setRow_length, ← List.length_append]; exact h4, h5⟩⟩
    rw [setRow_app _ _ _ _ hds]
theorem e_many {op : Op} {et : TypeId} {A B : Option Addr} {c io i : Nat} {k : Option Bk} {xs ys : List α} {ds : List Value} {r : Value} (hi : own[io]? = some k) (hb : Buf p T et (.slice A xs.length c) k xs) (hd : Reps T p ds ys) (hl : i + ys.length ≤ xs.length)
    (hB : 0 < ys.length → B = offA A c i T.n)
    (hrun : ∀ (o : Oper) (a : Act) (w w' : World), o.op = op → o.type = ty → Fr n a sl → St w g own → (ys.length = 0 → w' = w) → (0 < ys.length → ∃ ad, B = some ad ∧ (storeCells ad ds).run P w = .ok () w') → (execOp a.eval o).run P w = .ok (.value r) w') :
    Eff P n g own sl op ty (fun v' g' own' => v' = r ∧ g = g' ∧ ∃ k', own' = own.set io k' ∧ Buf p T et (.slice A (xs.take i ++ ys ++ xs.drop (i + ys.length)).length c) k' (xs.take i ++ ys ++ xs.drop (i + ys.length))) := by
  intro o a w Q K h1 h2 hf hs h
  rcases Nat.eq_zero_or_pos ys.length with h0 | h0
  · have : ys = [] := List.length_eq_zero_iff.1 h0
    subst this
    have e := hrun o a w w h1 h2 hf hs (fun _ => rfl) (fun h => absurd h (by simp))
    unfold Oper.wp
    rw [e]
    refine h _ g (own.set io k) w (.refl g) (by rw [set_same hi]; exact hs) ⟨rfl, rfl, k, rfl, ?_⟩
    simpa using hb
  · cases k with
    | none =>
      rcases hb.2 with ⟨_, e, _⟩ | ⟨_, _, _, _, _, e, _⟩
      · subst e
        have hl : i + ys.length ≤ 0 := hl
        omega
      · cases e
    | some kb =>
      obtain ⟨e1, e2, e3⟩ := hb.many hd hl
      have hBe : B = some ⟨kb.g, i * T.n, none⟩ := by
        rw [hB h0, e1]
        unfold offA
        rw [if_neg]
        · show some (Addr.add ⟨kb.g, 0, none⟩ (i * T.n)) = _
          simp [Addr.add]
          try exact fun e => e.symm
        · have := hb.val
          obtain ⟨_, _, e4, e5⟩ := this
          injection e4 with _ _ e6
          omega
      obtain ⟨w', hst, hs'⟩ := run_storeCells_own (P := P) (g := g) (i := io) (k := kb) (vs := ds) (own := own) (off := i * T.n) kb.cs 0 hs hi (by simpa using hd.one) (by omega)
      have e := hrun o a w w' h1 h2 hf hs (fun h => absurd h (by omega)) (fun _ => ⟨_, hBe, hst⟩)
      unfold Oper.wp
      rw [e]
      exact h _ g _ w' (.refl g) hs' ⟨rfl, rfl, _, rfl, e3⟩
end
section
variable {P : Program} {n : Nat} {ty : TypeId} {sl : List (Nat × SV)} {bl bl' : List BV} {v : SV} {f : Nat} {g : Gh} {ρ : Env} {own : Own} {fr : Sl}
theorem set_len {α : Type} {xs ys : List α} {i : Nat} (h : i + ys.length ≤ xs.length) : (xs.take i ++ ys ++ xs.drop (i + ys.length)).length = xs.length := by
  simp only [List.length_append, List.length_take, List.length_drop]; omega
theorem effH_many {op : Op} {b : Nat} {d : Cd} {et : TypeId} {xs ys : List d.den} {i : Nat} {r : SV} (hb : bl[b]? = some (.row d et xs)) (hl : i + ys.length ≤ xs.length)
    (h : ∀ g ρ own fr, Rl g ρ ⟨sl, bl⟩ own fr → ∀ k, own[b]? = some k → Buf g.b d.ty et (.slice (ρ b).1 xs.length (ρ b).2) k xs → ∃ rv, RealS g ρ (bl.set b (.row d et (xs.take i ++ ys ++ xs.drop (i + ys.length)))) r rv ∧ Eff P n g own fr op ty (fun v' g' own' => v' = rv ∧ g = g' ∧ ∃ k', own' = own.set b k' ∧ Buf g.b d.ty et (.slice (ρ b).1 (xs.take i ++ ys ++ xs.drop (i + ys.length)).length (ρ b).2) k' (xs.take i ++ ys ++ xs.drop (i + ys.length)))) :
    EffH P n op ty sl bl (bl.set b (.row d et (xs.take i ++ ys ++ xs.drop (i + ys.length)))) r := by
  intro o a w Q K g ρ own fr h1 h2 hr hfr hs hk
  obtain ⟨k0, hk0, hB⟩ := hr.own_at hb
  obtain ⟨rv, hrv, he⟩ := h g ρ own fr hr k0 hk0 hB
  refine he o a w Q K h1 h2 hfr hs fun v g' own' w' hg hs' ⟨e1, e2, k', e3, hB'⟩ => ?_
  subst e1; subst e2; subst e3
  obtain ⟨hx, hr'⟩ := setB_ok hb (bv1 := .row d et (xs.take i ++ ys ++ xs.drop (i + ys.length))) (k := k') hr (.refl g) rfl (fun m hm => by
    have hm : some (xs.take i ++ ys ++ xs.drop (i + ys.length)).length = some m := hm
    rw [set_len hl] at hm; exact hm) hB'
  exact hk v g ρ _ w' (.refl g) hx hs' hr' hrv
def ovrL {α : Type} (xs : List α) (i : Nat) (ys : List α) : List α := xs.take i ++ ys ++ xs.drop (i + ys.length)
def tClear (P : Program) (sl : List (Nat × SV)) (t : TypeId) (x : Operand) : Tr := match rowOf P t, evH sl x with
  | some (c, et, _), some (.v (.c (.vw b cv l r))) => (match zeroOf P et with
    | some zs => (match constL zs.toList with
      | some cl => encC c cl fun u _ => .need b fun
        | .row d et' xs => (match d.same c, d.same cv, Nat.beq et' et with
          | some h, some _, true => .grd (decide (l ≤ r ∧ r ≤ xs.length)) (.done ⟨.any, [(b, .row d et' (ovrL xs l (List.replicate (r - l) (h.down ▸ u))))], []⟩)
          | _, _, _ => .no)
        | _ => .no
      | none => .no)
    | none => .no)
  | _, _ => .no
theorem zero_len {c : Cd} {et t : TypeId} {bytes : Nat} {zs : Array Value} (happ : appT P t et = some (c.ty.n, bytes)) (hzs : zeroOf P et = some zs) : zs.toList.length = c.n := by
  have h1 := happ
  unfold appT at h1
  unfold zeroOf at hzs
  split at h1
  · rename_i e' i hu' hi
    split at h1
    · rename_i z0 hz0
      split at h1
      · rename_i hcnd
        simp only [Option.some.injEq, Prod.mk.injEq] at h1
        rw [hi] at hzs
        simp only [Option.bind_some, hz0, Option.map_some, Option.some.injEq] at hzs
        rw [← hzs, Array.length_toList, hcnd.2, h1.1, c.ty_n]
      · cases h1
    · cases h1
  · cases h1
theorem run_clear_ {t et : TypeId} {B : Option Addr} {m cap k bytes : Nat} {zs : List Value} {w w' : World} (ha : appT P t et = some (k, bytes)) (hz : zeroOf P et = some zs.toArray) (h0 : m = 0 → w' = w)
    (h1 : 0 < m → ∃ ad, B = some ad ∧ (storeCells ad (madeCells zs.toArray (m * k)).toList).run P w = .ok () w') : (Builtin.clear_ #[t] ty #[.slice B m cap]).run P w = .ok (.tuple #[]) w' := by
  obtain ⟨inf, z0, ht, hinf, hz0, hsz, hby, hzs⟩ := (AppT.of ha).out
  have hzc : (z0.cells : Array Value) = zs.toArray := by
    unfold zeroOf at hz
    rw [hinf] at hz
    simpa [hz0] using hz
  have hzv : ∀ w, (zeroValue et).run P w = .ok z0 w := fun w => by simp [zeroValue, typeInfo, program, Sem.run, bind, Sem.bind, hinf, hz0, pure]
  have e : Builtin.zeroCells z0.cells m = madeCells zs.toArray (m * k) := by
    rw [← hzs, hzc]
    rfl
  rcases Nat.eq_zero_or_pos m with hm | hm
  · subst hm
    rw [h0 rfl]
    cases B <;> simp [Builtin.clear_, run_underlying ht]
  · obtain ⟨ad, rfl, hst⟩ := h1 hm
    rw [← e] at hst
    obtain ⟨m, rfl⟩ : ∃ q, m = q + 1 := ⟨m - 1, by omega⟩
    simp [Builtin.clear_, run_underlying ht, hzv, hst]
theorem tClear_ok {t : TypeId} {x : Operand} (h : Told f (tClear P sl t x) bl bl' v) : EffH P n (.call { callee := .builtin .clear, args := #[x], argTypes := #[t] }) ty sl bl bl' v := by
  unfold tClear at h
  split at h
  · rename_i c et by_ b cv l r hrow ex
    obtain ⟨hu, happ, _, hby⟩ := rowOf_ok hrow
    split at h
    · rename_i zs hzs
      split at h
      · rename_i cl hcl
        obtain ⟨u, r0, bl1, h2, hfz, henc⟩ := encC_told c h
        clear h
        obtain ⟨bv, hb, h⟩ := h2
        dsimp only at h
        split at h
        · rename_i d et' xs
          split at h
          · rename_i hk1 hk2 _ _ het
            obtain ⟨hk1⟩ := hk1; obtain ⟨hk2⟩ := hk2; subst hk1; subst hk2
            have het := Nat.eq_of_beq_eq_true het
            subst het
            obtain ⟨hg, rfl, rfl⟩ := h
            obtain ⟨hlr, hrx⟩ := of_decide_eq_true hg
            have hyl : l + (List.replicate (r - l) u).length ≤ xs.length := by rw [List.length_replicate]; omega
            refine EffH.frz hfz (effH_many (r := .any) (i := l) (ys := List.replicate (r - l) u) hb hyl fun g ρ own fr hr k hk hB => ⟨.tuple #[], (trivial : True), ?_⟩)
            obtain ⟨vx, hx1, hkn, rfl, hl⟩ := evH_real hr ex
            have hall := constL_real (g := g) (ρ := ρ) (bl := bl1) hcl
            obtain ⟨c1, c2, e1, e2, e3⟩ := henc.real hr d hall
            have hl1 := zero_len happ hzs
            have hl2 : c1.length = d.n := by rw [d.ty.len e2, d.ty_n]
            have hc20 : c2 = [] := by
              have : zs.toList.length = c1.length + c2.length := by rw [e1, List.length_append]
              exact List.eq_nil_of_length_eq_zero (by omega)
            rw [hc20, List.append_nil] at e1
            have hzs' : zeroOf P et' = some c1.toArray := by rw [hzs, ← e1]
            refine e_many (T := d.ty) (B := offA (ρ b).1 (ρ b).2 l d.n) (i := l) (ds := (madeCells c1.toArray ((r - l) * d.ty.n)).toList) hk hB (made_reps e2 (r - l)) hyl (fun _ => by rw [d.ty_n]) fun o a w w' q1 q2 hf hs q3 q4 => ?_
            rw [List.length_replicate] at q3 q4
            have := run_clear_ (P := P) (ty := o.type) (cap := (ρ b).2 - l) happ hzs' q3 q4
            simp [execOp, q1, resolve, invoke, builtin, hf.ev hx1, this]
          · exact h.elim
        · exact h.elim
      · exact h.elim
    · exact h.elim
  · exact h.elim
def dstT (sl : List (Nat × SV)) (x : Operand) (K : (b : Nat) → (d : Cd) → TypeId → List d.den → (l r : Nat) → Tr) : Tr := match evH sl x with
  | some (.v (.c (.own b))) => .need b fun | .row d et xs => K b d et xs 0 xs.length | _ => .no
  | some (.v (.c (.vw b cv l r))) => .need b fun | .row d et xs => (match d.same cv with | some _ => K b d et xs l r | none => .no) | _ => .no
  | _ => .no
theorem dstT_told {x : Operand} {K : (b : Nat) → (d : Cd) → TypeId → List d.den → (l r : Nat) → Tr} (h : Told f (dstT sl x K) bl bl' v) : ∃ b d et xs l r, bl[b]? = some (.row d et xs) ∧ Told f (K b d et xs l r) bl bl' v ∧
    ∀ g ρ own fr, Rl g ρ ⟨sl, bl⟩ own fr → l ≤ r ∧ r ≤ xs.length ∧ ∃ cap, evS fr x = some (.slice (offA (ρ b).1 (ρ b).2 l d.n) (r - l) cap) := by
  unfold dstT at h
  split at h
  · rename_i b ex
    obtain ⟨bv, hb, h⟩ := h
    dsimp only at h
    split at h
    · rename_i d et xs
      refine ⟨b, d, et, xs, 0, xs.length, hb, h, fun g ρ own fr hr => ?_⟩
      obtain ⟨vx, hx1, hkn, l, rfl, hl⟩ := evH_real hr ex
      have hl := hl _ _ hb rfl
      subst hl
      exact ⟨Nat.zero_le _, Nat.le_refl _, (ρ b).2, by rw [offA_zero, Nat.sub_zero]; exact hx1⟩
    · exact h.elim
  · rename_i b cv l r ex
    obtain ⟨bv, hb, h⟩ := h
    dsimp only at h
    split at h
    · rename_i d et xs
      split at h
      · rename_i hk _; obtain ⟨hk⟩ := hk; subst hk
        refine ⟨b, d, et, xs, l, r, hb, h, fun g ρ own fr hr => ?_⟩
        obtain ⟨vx, hx1, hkn, rfl, hl⟩ := evH_real hr ex
        obtain ⟨h1, h2⟩ := hl _ _ hb rfl
        exact ⟨h1, h2, _, hx1⟩
      · exact h.elim
    · exact h.elim
  · exact h.elim
def tCopy (P : Program) (sl : List (Nat × SV)) (t : TypeId) (x y : Operand) : Tr := match rowOf P t with
  | some (c, et, _) => dstT sl x fun b d et' xs l r => (match d.same c, Nat.beq et' et with
    | some _, true => srcT sl d b y fun ys => .done ⟨vC (.int .i64 ((ys.take (r - l)).length : Int)), [(b, .row d et' (ovrL xs l (ys.take (r - l))))], []⟩
    | _, _ => .no)
  | none => .no
theorem run_copy_ {t t' et : TypeId} {A B : Option Addr} {m m' cap cap' k : Nat} {cs : List Value} {w w' : World} (hu : P.underlying t = some (.slice et)) (hsz : cellsOfT P et = some k) (hs : 0 < Nat.min m' m * k → ∃ ad, A = some ad ∧ ∀ j u, cs[j]? = some u → w.cell? (ad.add j) = some u)
    (hl : cs.length = Nat.min m' m * k) (h0 : Nat.min m' m = 0 → w' = w) (h1 : 0 < Nat.min m' m → ∃ ad, B = some ad ∧ (storeCells ad cs).run P w = .ok () w') (hk : 0 < k) : (Builtin.copy_ #[t, t'] ty #[.slice B m cap, .slice A m' cap']).run P w = .ok (.int .i64 (Nat.min m' m : Int)) w' := by
  have hfc : (Builtin.firstCells k (Nat.min m' m) (.slice A m' cap')).run P w = .ok cs.toArray w := by
    rcases Nat.eq_zero_or_pos (Nat.min m' m * k) with h | h
    · rw [h] at hl
      have := List.length_eq_zero_iff.1 hl
      subst this
      cases A with
      | none => simp [Builtin.firstCells]
      | some ad =>
        have := run_loadCells_list (P := P) w ad [] (fun j v e => by simp at e)
        simp only [Builtin.firstCells, h]
        simpa using this
    · obtain ⟨ad, rfl, hc⟩ := hs h
      have := run_loadCells_list (P := P) w ad cs hc
      rw [hl] at this
      simp only [Builtin.firstCells]
      exact this
  have hsz' := run_sizeOf_of hsz w
  simp only [Builtin.copy_]
  simp [run_underlying hu, Builtin.lenOf, hsz', hfc]
  rcases Nat.eq_zero_or_pos (Nat.min m' m) with h | h
  · rw [h0 h]
    rw [h, Nat.zero_mul] at hl
    have := List.length_eq_zero_iff.1 hl
    subst this
    cases B <;> simp [storeCells, goInt]
  · obtain ⟨ad, rfl, hst⟩ := h1 h
    simp [hst, goInt]
theorem tCopy_ok {t t' : TypeId} {x y : Operand} (h : Told f (tCopy P sl t x y) bl bl' v) : EffH P n (.call { callee := .builtin .copy, args := #[x, y], argTypes := #[t, t'] }) ty sl bl bl' v := by
  unfold tCopy at h
  split at h
  · rename_i c et by_ hrow
    obtain ⟨hu, happ, hsz, hby⟩ := rowOf_ok hrow
    obtain ⟨b, d, et', xs, l, r, hb, h2, hdst⟩ := dstT_told h
    clear h
    split at h2
    · rename_i hk1 _ het
      obtain ⟨hk1⟩ := hk1; subst hk1
      have het := Nat.eq_of_beq_eq_true het
      subst het
      obtain ⟨ys, h3, hsrc⟩ := srcT_told h2
      clear h2
      obtain ⟨rfl, rfl⟩ := h3
      intro o a w Q K g ρ own fr
      by_cases hyl : l + (ys.take (r - l)).length ≤ xs.length
      · revert o a w Q K g ρ own fr
        refine effH_many (i := l) (ys := ys.take (r - l)) hb hyl fun g ρ own fr hr k hk hB => ?_
        obtain ⟨hlr, hrx, cap, hx1⟩ := hdst g ρ own fr hr
        obtain ⟨hyl2, A, cap', news, hy1, hy2, hy3⟩ := hsrc g ρ own fr hr
        have hmin : Nat.min ys.length (r - l) = (ys.take (r - l)).length := by rw [List.length_take]; exact Nat.min_comm _ _
        have hnl : (news.take ((ys.take (r - l)).length * d.ty.n)).length = Nat.min ys.length (r - l) * d.ty.n := by
          rw [hmin, List.length_take, hy2.len]
          exact Nat.min_eq_left (Nat.mul_le_mul_right _ (by rw [List.length_take]; exact Nat.min_le_right _ _))
        have hrep : Reps d.ty g.b (news.take ((ys.take (r - l)).length * d.ty.n)) (ys.take (r - l)) := by
          have := hy2.take (ys.take (r - l)).length
          rw [show ys.take (ys.take (r - l)).length = ys.take (r - l) by rw [List.length_take, List.take_eq_take_iff]; omega] at this
          exact this
        refine ⟨.int .i64 ((ys.take (r - l)).length : Int), ⟨rfl, inK_len (by rw [List.length_take]; omega)⟩, ?_⟩
        refine e_many (T := d.ty) (B := offA (ρ b).1 (ρ b).2 l d.n) (i := l) hk hB hrep hyl (fun _ => by rw [d.ty_n]) fun o a w w' q1 q2 hf hs q3 q4 => ?_
        have hs3 := hy3 w hs
        have := run_copy_ (P := P) (ty := o.type) (t' := t') (cap := cap) (cap' := cap') (A := A) (w := w) (cs := news.take ((ys.take (r - l)).length * d.ty.n)) hu hsz (fun hp => by
          have h0 : 0 < ys.length := by
            rcases Nat.eq_zero_or_pos ys.length with h | h
            · rw [h] at hp; simp at hp
            · exact h
          obtain ⟨ad, e1, e2⟩ := hs3 h0
          exact ⟨ad, e1, fun j u hu => e2 j u (by rw [List.getElem?_take] at hu; split at hu; exact hu; cases hu)⟩) hnl (fun h => q3 (by rw [← hmin]; exact h)) (fun h => q4 (by rw [← hmin]; exact h)) d.ty.pos
        rw [hmin] at this
        simp [execOp, q1, resolve, invoke, builtin, hf.ev hx1, hf.ev hy1, this]
      · intro h1 h2 hr hf hs hk
        obtain ⟨hlr, hrx, _⟩ := hdst g ρ own fr hr
        exact absurd (by rw [List.length_take]; omega) hyl
    · exact h2.elim
  · exact h.elim
end
end Go.Proofs.YtnkmijidneibnaaDoor
namespace Go.Proofs.YtnkmijidneibnaaDoor
set_option linter.unusedVariables false
set_option linter.unusedSimpArgs false
open Go.RowKit
section
variable {α : Type} {P : Program} {n : Nat} {T : Ty α} {p : Psi} {g : Gh} {own : Own} {sl : Sl} {ty : TypeId}
theorem run_append_view {w : World} {t ty' et : TypeId} {bytes : Nat} (ha : AppT P t et T.n bytes) (hs : St w g own) {i : Nat} {A : Option Addr} {c : Nat} {k : Option Bk} {xs : List α} (hi : own[i]? = some k) (hb : Buf p T et (.slice A xs.length c) k xs)
    {l r : Nat} (hl : 0 < l) (hlr : l ≤ r) (hr : r ≤ xs.length) {A2 : Option Addr} {m c2 : Nat} {news : List Value} {ys : List α} (hm : m = ys.length) (hsrc : Src w A2 m news) (hrep : Reps T p news ys) (hbytes : (r + ys.length) * bytes ≤ 140737488355328) (hlen : r + ys.length ≤ 140737488355328) :
    ∃ A' c' w' k', (Builtin.append_ #[t, t] ty' #[.slice (offA A c l T.n) (r - l) (c - l), .slice A2 m c2]).run P w = .ok (.slice A' (r - l + ys.length) c') w' ∧ St w' g (own.set i k') ∧
      ((A' = offA A c l T.n ∧ c' = c - l ∧ Buf p T et (.slice A (xs.take r ++ ys).length c) k' (xs.take r ++ ys)) ∨ Buf p T et (.slice A' ((xs.drop l).take (r - l) ++ ys).length c') k' ((xs.drop l).take (r - l) ++ ys)) := by
  obtain ⟨inf, z, ht, hinf, hz, hsz, hby, hzs⟩ := ha.out
  have hcell : cellsOfT P et = some T.n := by simp [cellsOfT, hinf, hsz]
  have hcap : xs.length ≤ c := by
    obtain ⟨_, _, e4, e5⟩ := hb.val
    injection e4 with _ _ e6
    omega
  have hlr2 : (xs.take r).length = r := by rw [List.length_take]; omega
  subst hm
  by_cases hy : ys = []
  · subst hy
    refine ⟨offA A c l T.n, c - l, w, k, ?_, by rw [set_same hi]; exact hs, .inl ⟨rfl, rfl, by rw [List.append_nil]; exact hb.cut r hr⟩⟩
    have hle : r - l ≤ c - l := by omega
    cases A2 with
    | none => exact run_append_none ht hcell hle
    | some ad => cases (offA A c l T.n) <;> simp [Builtin.append_, run_underlying ht, run_sizeOf_of hcell, Builtin.lenOf, hle, Builtin.firstCells, loadCells, loadCellsFrom, storeCells]
  · have hpos : 0 < ys.length := List.length_pos_iff.2 hy
    obtain ⟨ad, rfl, hnews⟩ := hsrc hpos
    obtain ⟨h0, hb'⟩ := hb
    rcases hb' with ⟨h1, h2, h3⟩ | ⟨b, cap, cs, sp, h1, h2, h3, h4, h5⟩
    · subst h2
      have hr : r ≤ 0 := hr
      omega
    · injection h1 with e1 e2 e3
      subst e1; subst e3; subst h2
      have hnl : news.length = ys.length * T.n := hrep.len
      have hcs := h3.len
      have hrn : r * T.n ≤ cs.length := by rw [hcs]; exact Nat.mul_le_mul_right _ hr
      have hold : ∀ j u, ((cs.drop (l * T.n)).take ((r - l) * T.n))[j]? = some u → w.cell? ⟨b, l * T.n + j, none⟩ = some u := fun j u hu => by
        have := hs.has _ (List.mem_of_getElem? hi)
        rw [List.getElem?_take] at hu
        split at hu
        · rw [List.getElem?_drop] at hu
          simp [World.cell?, this, Bk.obj_ty]
          rw [List.getElem?_append_left (by rcases Nat.lt_or_ge (l * T.n + j) cs.length with h | h; exact h; rw [List.getElem?_eq_none h] at hu; cases hu)]
          exact hu
        · cases hu
      by_cases hroom : r - l + ys.length ≤ c - l
      · have hne : ¬ c = l := by omega
        have hoff : offA (some (⟨b, 0, none⟩ : Addr)) c l T.n = some ⟨b, l * T.n, none⟩ := by
          unfold offA
          rw [if_neg hne]
          simp [addr_add]
        have hfit : r * T.n + news.length ≤ (cs ++ sp).length := by
          rw [h4, hnl, ← Nat.add_mul]
          exact Nat.mul_le_mul_right _ (by omega)
        obtain ⟨w', hst, hs'⟩ := run_storeCells_own (P := P) (g := g) (i := i) (k := ⟨b, et, cs ++ sp⟩) (vs := news) (own := own) (off := r * T.n) (cs ++ sp) 0 hs hi (by simpa using hrep.one) (by omega)
        have hadd : l * T.n + (r - l) * T.n = r * T.n := by rw [← Nat.add_mul]; congr 1; omega
        have hf := run_firstCells_some (P := P) w T.n ys.length ad ys.length c2 news (by rw [hnl]) hnews
        refine ⟨offA (some ⟨b, 0, none⟩) c l T.n, c - l, w', _, ?_, hs', .inl ⟨rfl, rfl, ?_⟩⟩
        · rw [hoff]
          have hst' : (storeCells ⟨b, l * T.n + (r - l) * T.n, none⟩ news).run P w = .ok () w' := by rw [hadd]; exact hst
          simp [Builtin.append_, run_underlying ht, run_sizeOf_of hcell, Builtin.lenOf, hroom, hf, addr_add, hst']
        · refine ⟨by rw [List.length_append, hlr2]; exact hlen, .inr ⟨b, c, cs.take (r * T.n) ++ news, (cs ++ sp).drop (r * T.n + news.length), by rw [List.length_append], ?_, (h3.take r).append hrep, ?_, h5⟩⟩
          · rw [Nat.add_zero, setRow_eq _ _ _ hfit, List.take_append_of_le_length hrn]
          · rw [List.length_append, List.length_append, List.length_take, List.length_drop, Nat.min_eq_left hrn]
            omega
      · have hoff : ∃ a, offA (some (⟨b, 0, none⟩ : Addr)) c l T.n = some a ∧ (0 < r - l → a = ⟨b, l * T.n, none⟩) := by
          unfold offA
          by_cases h : c = l
          · exact ⟨⟨b, 0, none⟩, by rw [if_pos h], fun h' => by omega⟩
          · refine ⟨⟨b, l * T.n, none⟩, by rw [if_neg h]; simp [addr_add], fun _ => rfl⟩
        obtain ⟨a0, ea, hab⟩ := hoff
        have holen : ((cs.drop (l * T.n)).take ((r - l) * T.n)).length = (r - l) * T.n := by
          rw [List.length_take, List.length_drop]
          have : l * T.n + (r - l) * T.n = r * T.n := by rw [← Nat.add_mul]; congr 1; omega
          omega
        have hbig : (r - l + ys.length) * inf.bytes ≤ 140737488355328 := by
          rw [hby]
          exact Nat.le_trans (Nat.mul_le_mul_right _ (by omega)) hbytes
        obtain ⟨v', w', hrun, how', hgrow⟩ := run_append_arg_grows (P := P) w t ty' et inf z T.n inf.bytes ht hinf hz hsz rfl hzs T.pos a0 (r - l) (c - l) ((cs.drop (l * T.n)).take ((r - l) * T.n)) holen (fun j u hu => by
            have h0 : 0 < r - l := by
              rcases Nat.eq_zero_or_pos (r - l) with h | h
              · rw [h] at hu; simp at hu
              · exact h
            rw [hab h0, addr_add]
            exact hold j u hu) ad ys.length c2 news hnl hnews (by omega) (by simp only [maxLen]; omega) hbig
        have hlenpos : 0 < r - l + ys.length := by omega
        rcases how'.2 with ⟨rfl, hz0⟩ | ⟨b', cap', cur, rfl, hge, hheap, hnc, hcm, hcsz, htake⟩
        · omega
        · refine ⟨some ⟨b', 0, none⟩, cap', w', some ⟨b', et, cur.toList⟩, by rw [ea]; exact hrun, ?_, .inr ?_⟩
          · refine hs.swap hi _ hgrow.os hgrow.tape hgrow.output (fun b hb hne => hgrow.block b hb fun e => by cases e) fun k' hk' => ?_
            injection hk' with hk'
            subst hk'
            exact ⟨by simpa [Bk.obj_ty] using hheap, .inr hge⟩
          · have hpl : ((xs.drop l).take (r - l)).length = r - l := part_len hr
            have hc2 : cur.toList = (((cs.drop (l * T.n)).take ((r - l) * T.n)) ++ news) ++ cur.toList.drop ((r - l + ys.length) * T.n) := by rw [← htake, List.take_append_drop]
            refine ⟨by rw [List.length_append, hpl]; omega, .inr ⟨b', cap', ((cs.drop (l * T.n)).take ((r - l) * T.n)) ++ news, cur.toList.drop ((r - l + ys.length) * T.n), by rw [List.length_append, hpl], by rw [← hc2], (((h3.drop l).take (r - l)).append hrep), ?_, hcm⟩⟩
            rw [← hc2]
            simpa using hcsz
end
section
variable {P : Program} {n : Nat} {ty : TypeId} {sl : List (Nat × SV)} {bl bl' : List BV} {v : SV} {f : Nat} {g : Gh} {ρ : Env} {own : Own} {fr : Sl}
def tAppV (P : Program) (sl : List (Nat × SV)) (t t' : TypeId) (s x : Operand) : Tr := match rowOf P t, Nat.beq t t', evH sl s with
  | some (c, et, bytes), true, some (.v (.c (.vw b cv l r))) => .need b fun
      | .row d et' xs => (match d.same c, d.same cv, Nat.beq et' et && Nat.ble 1 l with
        | some _, some _, true => srcT sl d b x fun ys => .grd (decide ((r + ys.length) * bytes ≤ 140737488355328)) (.done ⟨vC (.ro d ((xs.drop l).take (r - l) ++ ys) true), [(b, .no)], []⟩)
        | _, _, _ => .no)
      | _ => .no
  | _, _, _ => .no
theorem tAppV_ok {t t' : TypeId} {s x : Operand} (h : Told f (tAppV P sl t t' s x) bl bl' v) :
    EffH P n (.call { callee := .builtin .append, args := #[s, x], argTypes := #[t, t'] }) ty sl bl bl' v := by
  unfold tAppV at h
  split at h
  · rename_i c et bytes b cv l r hrow htt es
    have htt := Nat.eq_of_beq_eq_true htt
    subst htt
    obtain ⟨hu, happ, _, hby⟩ := rowOf_ok hrow
    obtain ⟨bv, hb, h⟩ := h
    dsimp only at h
    split at h
    · rename_i d et' xs
      split at h
      · rename_i hk0 hk2 _ _ he
        obtain ⟨hk0⟩ := hk0; obtain ⟨hk2⟩ := hk2; subst hk0; subst hk2
        simp only [Bool.and_eq_true] at he
        obtain ⟨he, hl1⟩ := he
        have he := Nat.eq_of_beq_eq_true he
        have hl1 := Nat.le_of_ble_eq_true hl1
        subst he
        obtain ⟨ys, h2, hsrc⟩ := srcT_told h
        clear h
        obtain ⟨hg, rfl, rfl⟩ := h2
        have hg := of_decide_eq_true hg
        intro o a w Q K g ρ own fr h1 h2 hr hfr hs hk
        obtain ⟨vs', hs1, hkn, rfl, hl⟩ := evH_real hr es
        obtain ⟨hlr, hrx⟩ := hl _ _ hb rfl
        obtain ⟨k0, hk0, hB⟩ := hr.own_at hb
        have hB : Buf g.b d.ty et' (.slice (ρ b).1 xs.length (ρ b).2) k0 xs := hB
        obtain ⟨hyl, A2, cap2, news, hx1, hx2, hx3⟩ := hsrc g ρ own fr hr
        have hlb := get_lt hk0
        have hpl : ((xs.drop l).take (r - l)).length = r - l := part_len hrx
        obtain ⟨A', c', w', k', hrun, hs', hres⟩ := run_append_view (P := P) (ty' := o.type) (c2 := cap2) (AppT.of happ) hs hk0 hB (l := l) (r := r) (by omega) hlr hrx rfl (hx3 w hs) hx2 hg (le_mul_bytes hby hg)
        have key : ∃ g', g.le g' ∧ St w' g' ((own.set b k').set b none) ∧ Arr g'.b d.ty A' c' ((xs.drop l).take (r - l) ++ ys) := by
          have hi' : (own.set b k')[b]? = some k' := by simp [List.getElem?_set, hlb]
          rcases hres with ⟨rfl, rfl, hB'⟩ | hB'
          · have key : ∃ g' , g.le g' ∧ St w' g' ((own.set b k').set b none) ∧ Arr g'.b d.ty (ρ b).1 (ρ b).2 (xs.take r ++ ys) :=
              wpq_freeze (K := fun _ w' => ∃ g' , g.le g' ∧ St w' g' ((own.set b k').set b none) ∧ Arr g'.b d.ty (ρ b).1 (ρ b).2 (xs.take r ++ ys)) (n := 0) (sl := []) b hi' hB' (fun g' h1 h2 a w' _ h3 => ⟨g', h1, h3, h2⟩) ⟨#[], []⟩ w' ⟨rfl, rfl, fun _ _ h => by cases h⟩ hs'
            obtain ⟨g', h1, h2, h3⟩ := key
            refine ⟨g', h1, h2, ?_⟩
            have h4 := h3.cut_from l (by rw [List.length_append, List.length_take]; omega)
            rw [List.drop_append_of_le_length (by rw [List.length_take]; omega), List.drop_take] at h4
            exact h4
          · exact wpq_freeze (K := fun _ w' => ∃ g' , g.le g' ∧ St w' g' ((own.set b k').set b none) ∧ Arr g'.b d.ty A' c' ((xs.drop l).take (r - l) ++ ys)) (n := 0) (sl := []) b hi' hB' (fun g' h1 h2 a w' _ h3 => ⟨g', h1, h3, h2⟩) ⟨#[], []⟩ w' ⟨rfl, rfl, fun _ _ h => by cases h⟩ hs'
        obtain ⟨g', hg1, hs2, harr⟩ := key
        rw [List.set_set] at hs2
        have hx : Ext ρ bl ρ (bl.set b .no) := Ext.set_at hb rfl fun m hm => by cases hm
        have hr1 := hr.setB (g' := g') (bv1 := .no) (k := none) hg1 hb rfl (fun m hm => by cases hm) rfl
        have hrun' : (execOp a.eval o).run P w = .ok (.value (.slice A' (r - l + ys.length) c')) w' := by
          have hs1' : evS fr s = some (.slice (offA (ρ b).1 (ρ b).2 l d.ty.n) (r - l) ((ρ b).2 - l)) := by rw [d.ty_n]; exact hs1
          simp [execOp, h1, resolve, invoke, builtin, hfr.ev hs1', hfr.ev hx1, hrun]
        unfold Oper.wp
        rw [hrun']
        refine hk _ g' ρ _ w' hg1 hx hs2 hr1 ⟨A', c', by rw [List.length_append, hpl], harr⟩
      · exact h.elim
    · exact h.elim
  · exact h.elim
end
end Go.Proofs.YtnkmijidneibnaaDoor
namespace Go.Proofs.YtnkmijidneibnaaDoor
set_option linter.unusedVariables false
set_option linter.unusedSimpArgs false
open Go.RowKit
def mxNew (S : FSp) : List Sch → Nat
  | [] => 0
  | s :: l => Nat.max (s.bl.length - S.ps.bl.length) (mxNew S l)
def mxL : List FSp → Nat
  | [] => 0
  | S :: l => Nat.max (mxNew S S.rs) (mxL l)
def stepM (tbl : FuncId → List FSp) (sl : List (Nat × SV)) : Op → Nat
  | .alloc _ => 1
  | .box _ _ => 1
  | .buildSlice _ _ _ => 1
  | .makeSlice _ _ _ => 1
  | .call c => match c.callee with
    | .builtin .append => 1
    | .value x => (match evH sl x with
      | some (.v (.c fv)) => (match fnOf fv with | some (f, _) => mxL (tbl f) | none => 0)
      | _ => 0)
    | _ => 0
  | _ => 0
def isView (sl : List (Nat × SV)) (s : Operand) : Bool := match evH sl s with
  | some (.v (.c (.vw _ _ l _))) => Nat.ble 1 l
  | _ => false
def stepC (P : Program) (tbl : FuncId → List FSp) (sl : List (Nat × SV)) (f m : Nat) (cl : Callee) (args : List Operand) (ats : List TypeId) : Tr := match cl with
  | .value x => tCall P tbl sl f m x args
  | .builtin b => (match b, args, ats with
    | .append, [s, x], [t, t'] => (match P.underlying t' with | some (.int _) => tAppZ P sl f t t' s x | _ => (match isView sl s with | true => tAppV P sl t t' s x | false => tApp P sl f t t' s x))
    | .len, [x], [t] => tLen P sl t x
    | .cap, [x], [t] => tCap P sl t x
    | .clear, [x], [t] => tClear P sl t x
    | .copy, [x, y], [t, _] => tCopy P sl t x y
    | b, [x, y], _ => tMM b sl x y
    | _, _, _ => .no)
  | _ => .no
def stepH (P : Program) (tbl : FuncId → List FSp) (sl : List (Nat × SV)) (f : Nat) (op : Op) (ty : TypeId) : Tr := match op with
  | .move x => tMove sl x
  | .assign x => tMove sl x
  | .pick c x y => tPick sl c x y
  | .alloc t => tAlloc P f t
  | .box t x => tBox sl f t x
  | .build t parts => tBuild P sl t parts.toList
  | .buildSlice t len parts => tLit P sl f t len parts.toList
  | .load t x => tLoad P sl t x
  | .store t x y => tStore P sl t x y
  | .nilCheck x => tNil sl x
  | .binOp op t x y _ => tBin P sl op t x y
  | .unOp op _ x => tUn sl op x
  | .convert s d x => tText P sl s d x
  | .makeFunc fn first captured => tFn sl fn first.toList captured.toList
  | .makeSlice t x y => tMake P sl f t x y
  | .slice t x lo hi none => tSlice P sl t x lo hi
  | .fieldAddr t x i => tFieldA P sl t x i
  | .field t x i => tField P sl t x i
  | .indexAddr t x i => tIndexA P sl t x i
  | .index t x i => tIndex P sl t x i
  | .extract x i => tExtract sl x i
  | .call c => stepC P tbl sl f (stepM tbl sl op) c.callee c.args.toList c.argTypes.toList
  | _ => .no
section
variable {P : Program} {n : Nat} {ty : TypeId} {sl : List (Nat × SV)} {bl bl' : List BV} {v : SV} {f : Nat}
theorem stepC_ok {tbl : FuncId → List FSp} (hT : ∀ f S, S ∈ tbl f → FOk P f S) {c : Call} (hf : ∀ i, i < stepM tbl sl (.call c) → bl[f + i]? = some .hole) (h : Told f (stepC P tbl sl f (stepM tbl sl (.call c)) c.callee c.args.toList c.argTypes.toList) bl bl' v) : EffH P n (.call c) ty sl bl bl' v := by
  obtain ⟨cl, args, ats⟩ := c
  cases cl with
  | value x =>
    have := tCall_ok (n := n) (ty := ty) (ats := ats) hT hf h
    simpa using this
  | invoke _ _ => exact h.elim
  | builtin b =>
    simp only [stepC] at h
    split at h
    · rename_i s x t t' ha ht
      have ha : args = #[s, x] := by rw [← Array.toArray_toList (xs := args), ha]
      have ht : ats = #[t, t'] := by rw [← Array.toArray_toList (xs := ats), ht]
      subst ha; subst ht
      split at h
      · exact tAppZ_ok (by have := hf 0 (by simp [stepM]); simpa using this) h
      · split at h
        · exact tAppV_ok h
        · exact tApp_ok (by have := hf 0 (by simp [stepM]); simpa using this) h
    · rename_i x t ha ht
      have ha : args = #[x] := by rw [← Array.toArray_toList (xs := args), ha]
      have ht : ats = #[t] := by rw [← Array.toArray_toList (xs := ats), ht]
      subst ha; subst ht
      exact tLen_ok h
    · rename_i x t ha ht
      have ha : args = #[x] := by rw [← Array.toArray_toList (xs := args), ha]
      have ht : ats = #[t] := by rw [← Array.toArray_toList (xs := ats), ht]
      subst ha; subst ht
      exact tCap_ok h
    · rename_i x t ha ht
      have ha : args = #[x] := by rw [← Array.toArray_toList (xs := args), ha]
      have ht : ats = #[t] := by rw [← Array.toArray_toList (xs := ats), ht]
      subst ha; subst ht
      exact tClear_ok h
    · rename_i x y t t' ha ht
      have ha : args = #[x, y] := by rw [← Array.toArray_toList (xs := args), ha]
      have ht : ats = #[t, t'] := by rw [← Array.toArray_toList (xs := ats), ht]
      subst ha; subst ht
      exact tCopy_ok h
    · rename_i x y ha _ _
      have ha : args = #[x, y] := by rw [← Array.toArray_toList (xs := args), ha]
      subst ha
      exact tMM_ok h
    · exact h.elim
theorem stepH_ok {tbl : FuncId → List FSp} (hT : ∀ f S, S ∈ tbl f → FOk P f S) {op : Op} (hf : ∀ i, i < stepM tbl sl op → bl[f + i]? = some .hole) (h : Told f (stepH P tbl sl f op ty) bl bl' v) : EffH P n op ty sl bl bl' v := by
  have h1 : 0 < stepM tbl sl op → bl[f]? = some .hole := fun h0 => by simpa using hf 0 h0
  cases op with
  | move x => exact (tMove_ok h).1
  | assign x => exact (tMove_ok h).2
  | pick c x y => exact tPick_ok h
  | alloc t => exact tAlloc_ok (h1 (by simp [stepM])) h
  | box t x => exact tBox_ok (h1 (by simp [stepM])) h
  | build t parts => simpa using tBuild_ok (n := n) (ty := ty) h
  | buildSlice t len parts => simpa using tLit_ok (n := n) (ty := ty) (h1 (by simp [stepM])) h
  | load t x => exact tLoad_ok h
  | store t x y => exact tStore_ok h
  | nilCheck x => exact tNil_ok h
  | binOp op t x y u => exact tBin_ok h
  | unOp op t x => exact tUn_ok h
  | convert s d x => exact tText_ok h
  | makeFunc fn first captured => simpa using tFn_ok (n := n) (ty := ty) h
  | makeSlice t x y => exact tMake_ok (h1 (by simp [stepM])) h
  | slice t x lo hi mx => cases mx with
    | none => exact tSlice_ok h
    | some _ => exact h.elim
  | fieldAddr t x i => exact tFieldA_ok h
  | field t x i => exact tField_ok h
  | indexAddr t x i => exact tIndexA_ok h
  | index t x i => exact tIndex_ok h
  | extract x i => exact tExtract_ok h
  | call c => exact stepC_ok hT hf h
  | _ => exact h.elim
end
abbrev Tbl := List (FuncId × FSp)
def lkT : Tbl → FuncId → List FSp
  | [], _ => []
  | (f, S) :: l, g => cond (Nat.beq f g) (S :: lkT l g) (lkT l g)
structure TOk (P : Program) (T : Tbl) : Prop where
  ok : ∀ f S, S ∈ lkT T f → FOk P f S
theorem TOk.nil {P : Program} : TOk P [] := ⟨fun f S h => by cases h⟩
theorem TOk.cons {P : Program} {T : Tbl} {f : FuncId} {S : FSp} (h : TOk P T) (k : FOk P f S) : TOk P ((f, S) :: T) := ⟨fun g S' hm => by
  unfold lkT at hm
  cases hb : Nat.beq f g with
  | true =>
    rw [hb] at hm
    have := Nat.eq_of_beq_eq_true hb
    subst this
    rcases List.mem_cons.1 hm with rfl | hm
    · exact k
    · exact h.ok _ _ hm
  | false => rw [hb] at hm; exact h.ok _ _ hm⟩
def stpT (P : Program) (T : Tbl) (h : TOk P T) : Stp P := ⟨stepH P (lkT T), stepM (lkT T), fun hf hT => stepH_ok h.ok hf hT⟩
theorem FOk.run_eq {P : Program} {f : FuncId} {ps : Sch} {rs : List Sch} {r1 r2 : HL ps.lv → Option (ALT rs)} (h : FOk P f ⟨ps, rs, r1⟩) (e : ∀ t, r1 t = r2 t) : FOk P f ⟨ps, rs, r2⟩ := by
  have : r1 = r2 := funext e
  rwa [← this]
theorem FOk.of_none {P : Program} {f : FuncId} {S : FSp} (h : ∀ t, S.run t = none) : FOk P f S := fun t r st0 hr => by rw [h t] at hr; cases hr
end Go.Proofs.YtnkmijidneibnaaDoor
namespace Go.Proofs.YtnkmijidneibnaaDoor
set_option linter.unusedVariables false
set_option linter.unusedSimpArgs false
open Go.Shelf Go.RowKit Go.Sort Go.Lib
def lays171_ren : Go.Shelf.Ren := ⟨fun | 171 => 60 | 243 => 80 | 246 => 79 | 283 => 95 | 284 => 96 | 285 => 97 | 286 => 98 | 129 => 91 | 317 => 107 | 318 => 108 | 319 => 109 | 320 => 110 | 337 => 113 | 338 => 114 | n => n, fun | 3 => 3 | 9 => 9 | 2 => 2 | 4 => 4 | 171 => 140 | 0 => 0 | 53 => 38 | 37 => 50 | 5 => 5 | 173 => 142 | 212 => 153 | 51 => 22 | 20 => 20 | 213 => 154 | 46 => 118 | 232 => 159 | 233 => 160 | n => n, fun | 17 => 0 | 18 => 1 | 19 => 2 | n => n⟩
theorem lays171 : Go.Proofs.LaysM.n171 Tryd.prog lays171_ren := {
  mixed := by kernel_rfl
  f129 := Tryd.func91.trans (congrArg some (by kernel_rfl))
  f171 := Tryd.func60.trans (congrArg some (by kernel_rfl))
  f243 := Tryd.func80.trans (congrArg some (by kernel_rfl))
  f246 := Tryd.func79.trans (congrArg some (by kernel_rfl))
  f283 := Tryd.func95.trans (congrArg some (by kernel_rfl))
  f284 := Tryd.func96.trans (congrArg some (by kernel_rfl))
  f285 := Tryd.func97.trans (congrArg some (by kernel_rfl))
  f286 := Tryd.func98.trans (congrArg some (by kernel_rfl))
  f317 := Tryd.func107.trans (congrArg some (by kernel_rfl))
  f318 := Tryd.func108.trans (congrArg some (by kernel_rfl))
  f319 := Tryd.func109.trans (congrArg some (by kernel_rfl))
  f320 := Tryd.func110.trans (congrArg some (by kernel_rfl))
  f337 := Tryd.func113.trans (congrArg some (by kernel_rfl))
  f338 := Tryd.func114.trans (congrArg some (by kernel_rfl))
  t0 := Tryd.underlying0
  a0 := Tryd.isAgg0
  z0 := Tryd.sizeOf0
  v0 := Tryd.zeroValue0
  t2 := Tryd.underlying2
  a2 := Tryd.isAgg2
  z2 := Tryd.sizeOf2
  v2 := Tryd.zeroValue2
  t3 := Tryd.underlying3
  a3 := Tryd.isAgg3
  z3 := Tryd.sizeOf3
  v3 := Tryd.zeroValue3
  t4 := Tryd.underlying4
  a4 := Tryd.isAgg4
  z4 := Tryd.sizeOf4
  v4 := Tryd.zeroValue4
  t5 := Tryd.underlying5
  a5 := Tryd.isAgg5
  z5 := Tryd.sizeOf5
  v5 := Tryd.zeroValue5
  t9 := Tryd.underlying9
  a9 := Tryd.isAgg9
  z9 := Tryd.sizeOf9
  v9 := Tryd.zeroValue9
  t20 := Tryd.underlying20
  a20 := Tryd.isAgg20
  z20 := Tryd.sizeOf20
  v20 := Tryd.zeroValue20
  t37 := Tryd.underlying50
  a37 := Tryd.isAgg50
  z37 := Tryd.sizeOf50
  v37 := Tryd.zeroValue50
  t46 := Tryd.underlying118
  a46 := Tryd.isAgg118
  z46 := Tryd.sizeOf118
  v46 := Tryd.zeroValue118
  t51 := Tryd.underlying22
  a51 := Tryd.isAgg22
  z51 := Tryd.sizeOf22
  v51 := Tryd.zeroValue22
  t53 := Tryd.underlying38
  a53 := Tryd.isAgg38
  z53 := Tryd.sizeOf38
  v53 := Tryd.zeroValue38
  t171 := Tryd.underlying140
  a171 := Tryd.isAgg140
  z171 := Tryd.sizeOf140
  v171 := Tryd.zeroValue140
  t173 := Tryd.underlying142
  a173 := Tryd.isAgg142
  z173 := Tryd.sizeOf142
  v173 := Tryd.zeroValue142
  t212 := Tryd.underlying153
  a212 := Tryd.isAgg153
  z212 := Tryd.sizeOf153
  v212 := Tryd.zeroValue153
  t213 := Tryd.underlying154
  a213 := Tryd.isAgg154
  z213 := Tryd.sizeOf154
  t232 := Tryd.underlying159
  a232 := Tryd.isAgg159
  z232 := Tryd.sizeOf159
  v232 := Tryd.zeroValue159
  t233 := Tryd.underlying160
  a233 := Tryd.isAgg160
  z233 := Tryd.sizeOf160
  v233 := Tryd.zeroValue160
  g17 := by kernel_rfl
  g18 := by kernel_rfl
  g19 := by kernel_rfl
  i0 := by kernel_rfl
  i2 := by kernel_rfl
  i3 := by kernel_rfl
  i4 := by kernel_rfl
  i5 := by kernel_rfl
  i9 := by kernel_rfl
  i20 := by kernel_rfl
  i37 := by kernel_rfl
  i46 := by kernel_rfl
  i51 := by kernel_rfl
  i53 := by kernel_rfl
  i171 := by kernel_rfl
  i173 := by kernel_rfl
  i212 := by kernel_rfl
  i232 := by kernel_rfl
  i233 := by kernel_rfl
  m17 := by kernel_rfl
  m18 := by kernel_rfl
  m19 := by kernel_rfl }
def lays173_ren : Go.Shelf.Ren := ⟨fun | 173 => 59 | 246 => 79 | 283 => 95 | 284 => 96 | 285 => 97 | 286 => 98 | 129 => 91 | 317 => 107 | 318 => 108 | 319 => 109 | 320 => 110 | 337 => 113 | 338 => 114 | n => n, fun | 2 => 2 | 3 => 3 | 9 => 9 | 4 => 4 | 171 => 140 | 0 => 0 | 53 => 38 | 37 => 50 | 5 => 5 | 173 => 142 | 212 => 153 | 51 => 22 | 20 => 20 | 213 => 154 | 46 => 118 | 232 => 159 | 233 => 160 | n => n, fun | 17 => 0 | 18 => 1 | 19 => 2 | n => n⟩
theorem lays173 : Go.Proofs.LaysM.n173 Tryd.prog lays173_ren := {
  mixed := by kernel_rfl
  f129 := Tryd.func91.trans (congrArg some (by kernel_rfl))
  f173 := Tryd.func59.trans (congrArg some (by kernel_rfl))
  f246 := Tryd.func79.trans (congrArg some (by kernel_rfl))
  f283 := Tryd.func95.trans (congrArg some (by kernel_rfl))
  f284 := Tryd.func96.trans (congrArg some (by kernel_rfl))
  f285 := Tryd.func97.trans (congrArg some (by kernel_rfl))
  f286 := Tryd.func98.trans (congrArg some (by kernel_rfl))
  f317 := Tryd.func107.trans (congrArg some (by kernel_rfl))
  f318 := Tryd.func108.trans (congrArg some (by kernel_rfl))
  f319 := Tryd.func109.trans (congrArg some (by kernel_rfl))
  f320 := Tryd.func110.trans (congrArg some (by kernel_rfl))
  f337 := Tryd.func113.trans (congrArg some (by kernel_rfl))
  f338 := Tryd.func114.trans (congrArg some (by kernel_rfl))
  t0 := Tryd.underlying0
  a0 := Tryd.isAgg0
  z0 := Tryd.sizeOf0
  v0 := Tryd.zeroValue0
  t2 := Tryd.underlying2
  a2 := Tryd.isAgg2
  z2 := Tryd.sizeOf2
  v2 := Tryd.zeroValue2
  t3 := Tryd.underlying3
  a3 := Tryd.isAgg3
  z3 := Tryd.sizeOf3
  v3 := Tryd.zeroValue3
  t4 := Tryd.underlying4
  a4 := Tryd.isAgg4
  z4 := Tryd.sizeOf4
  v4 := Tryd.zeroValue4
  t5 := Tryd.underlying5
  a5 := Tryd.isAgg5
  z5 := Tryd.sizeOf5
  v5 := Tryd.zeroValue5
  t9 := Tryd.underlying9
  a9 := Tryd.isAgg9
  z9 := Tryd.sizeOf9
  v9 := Tryd.zeroValue9
  t20 := Tryd.underlying20
  a20 := Tryd.isAgg20
  z20 := Tryd.sizeOf20
  v20 := Tryd.zeroValue20
  t37 := Tryd.underlying50
  a37 := Tryd.isAgg50
  z37 := Tryd.sizeOf50
  v37 := Tryd.zeroValue50
  t46 := Tryd.underlying118
  a46 := Tryd.isAgg118
  z46 := Tryd.sizeOf118
  v46 := Tryd.zeroValue118
  t51 := Tryd.underlying22
  a51 := Tryd.isAgg22
  z51 := Tryd.sizeOf22
  v51 := Tryd.zeroValue22
  t53 := Tryd.underlying38
  a53 := Tryd.isAgg38
  z53 := Tryd.sizeOf38
  v53 := Tryd.zeroValue38
  t171 := Tryd.underlying140
  a171 := Tryd.isAgg140
  z171 := Tryd.sizeOf140
  v171 := Tryd.zeroValue140
  t173 := Tryd.underlying142
  a173 := Tryd.isAgg142
  z173 := Tryd.sizeOf142
  v173 := Tryd.zeroValue142
  t212 := Tryd.underlying153
  a212 := Tryd.isAgg153
  z212 := Tryd.sizeOf153
  v212 := Tryd.zeroValue153
  t213 := Tryd.underlying154
  a213 := Tryd.isAgg154
  z213 := Tryd.sizeOf154
  t232 := Tryd.underlying159
  a232 := Tryd.isAgg159
  z232 := Tryd.sizeOf159
  v232 := Tryd.zeroValue159
  t233 := Tryd.underlying160
  a233 := Tryd.isAgg160
  z233 := Tryd.sizeOf160
  v233 := Tryd.zeroValue160
  g17 := by kernel_rfl
  g18 := by kernel_rfl
  g19 := by kernel_rfl
  i0 := by kernel_rfl
  i2 := by kernel_rfl
  i3 := by kernel_rfl
  i4 := by kernel_rfl
  i5 := by kernel_rfl
  i9 := by kernel_rfl
  i20 := by kernel_rfl
  i37 := by kernel_rfl
  i46 := by kernel_rfl
  i51 := by kernel_rfl
  i53 := by kernel_rfl
  i171 := by kernel_rfl
  i173 := by kernel_rfl
  i212 := by kernel_rfl
  i232 := by kernel_rfl
  i233 := by kernel_rfl
  m17 := by kernel_rfl
  m18 := by kernel_rfl
  m19 := by kernel_rfl }
theorem finU (w : World) (o : Obj) (dk : Array UInt8) (k : Nat) : ∃ os, (putRow (fun (b : UInt8) => Value.int .u8 (b.toNat : Int)) (w.alloc o) w.heap.size 0 dk).drewN k = grow (w.drewN k) os := by
  rw [alloc_eq_grow]
  obtain ⟨os', _, e⟩ := putRow_grow_new (fun (b : UInt8) => Value.int .u8 (b.toNat : Int)) w #[o] w.heap.size 0 dk (Nat.le_refl _)
  exact ⟨os', by rw [e]; rfl⟩
set_option maxHeartbeats 6400000 in
set_option maxRecDepth 100000 in
theorem fmtU_walk (u : Nat) (hu64 : u < 18446744073709551616) (w : World) (htab : GW w) :
    Calls Tryd.prog 78 #[.int .u64 u, .int .i64 10] w fun e w' => e = .returned (.string ⟨(Lib.decDigits u).toArray⟩) ∧ ∃ k os, w' = grow (w.drewN k) os := by
  by_cases hs : u < 100
  · have hwr : IntKind.i64.wrap (u : Int) = (u : Int) := by rw [IntKind.wrap_i64]; omega
    go_enter Tryd.func78, Tryd.ntmps78
    go_wp2_with (go_at_call 95; refine (Any.internal_strconv_small { lays173 with } u hs _).mono ?_; rintro e w' ⟨rfl, rfl⟩)
    go_ret
    refine ⟨?_, 0, #[], by simp [World.drewN_zero]⟩
    rfl
  · have hu1 : 1 ≤ u := by omega
    have hnd20 : Lib.nDigits u ≤ 20 := by have := Lib.numDigits_eq u hu1 hu64; split at this <;> omega
    have hb3 : Lib.nDigits u ≤ 24 := by omega
    have hal : Tryd.prog.arrayLen 140 = 24 := by simp [Program.arrayLen, Tryd.underlying140]
    have hsl1 : ∀ W, (Instr.sliceAt 140 (.pointer (some ⟨w.heap.size, 0, none⟩)) none (some (.int .i64 (Lib.nDigits u : Int))) none).run Tryd.prog W = .ok (.slice (some ⟨w.heap.size, 0, none⟩) (Lib.nDigits u) 24) W := fun W => by
      rw [run_sliceAt_array_h W 140 ⟨w.heap.size, 0, none⟩ (by simp [Program.arrayLen, Program.elem, Tryd.underlying140]) .i64 (Lib.nDigits u : Int) (by omega) (by rw [hal]; omega)]
      go_simp
    have hH0 : Holds (fun (b : UInt8) => Value.int .u8 (b.toNat : Int)) (w.alloc (.cells Lib.zeros24 140)) w.heap.size 0 (Array.replicate (Lib.nDigits u) (0 : UInt8)) := fun j hj => by
      have hj' : j < Lib.nDigits u := by simpa using hj
      refine ⟨?_, World.frozen?_alloc_new _ _ _ _⟩
      rw [World.cell?_alloc_new, Lib.zeros24_at _ (by omega), getElem!_pos _ j hj]
      simp
    have hfmt := Any.internal_strconv_formatBase10 { lays173 with } w.heap.size 0 24 u (Array.replicate (Lib.nDigits u) 0) (w.alloc (.cells Lib.zeros24 140)) hH0 (by rw [Array.size_replicate]; exact Lib.lt_pow_nDigits u) hu64 (by rw [Array.size_replicate]; omega)
    rw [Array.size_replicate] at hfmt
    have HH0 := Lib.hid hH0
    clear hH0 hal
    go_enter Tryd.func78, Tryd.ntmps78
    go_wp2_with (first
      | (go_at_call 96; refine (Any.internal_strconv_numDigits { lays173 with } u hu1 hu64 _ (Lib.tabIs_alloc htab _)).mono ?_; rintro e w' ⟨rfl, rfl⟩))
    go_at_call 97
    refine hfmt.mono ?_
    rintro e w' ⟨rfl, k, v', dk, rfl, hF⟩
    have hcv : (convert 50 9 (.slice (some ⟨w.heap.size, 0, none⟩) (Lib.nDigits u) 24)).run Tryd.prog ((putRow (fun (b : UInt8) => Value.int .u8 (b.toNat : Int)) (w.alloc (.cells Lib.zeros24 140)) w.heap.size 0 dk).drewN k) = .ok (.string ⟨(Lib.decDigits u).toArray⟩) ((putRow (fun (b : UInt8) => Value.int .u8 (b.toNat : Int)) (w.alloc (.cells Lib.zeros24 140)) w.heap.size 0 dk).drewN k) := by
      have h := run_convert_bytes_back (P := Tryd.prog) ((putRow (fun (b : UInt8) => Value.int .u8 (b.toNat : Int)) (w.alloc (.cells Lib.zeros24 140)) w.heap.size 0 dk).drewN k) 50 9 5 ⟨w.heap.size, 0, none⟩ 24 (Lib.decDigits u) Tryd.underlying50 Tryd.underlying5 Tryd.underlying9 (fun j hj => by
        rw [Lib.row_is_numeral hF j hj, Lib.add_plain, World.cell?_drewN]
        exact cell?_putRow (fun (b : UInt8) => Value.int .u8 (b.toNat : Int)) _ w.heap.size 0 _ dk HH0.out (by rw [hF.size, Array.size_replicate]) j (by rw [hF.size]; rw [Lib.decDigits_length] at hj; exact hj))
      rw [Lib.decDigits_length] at h
      exact h
    go_wp2
    go_ret
    obtain ⟨os, eo⟩ := finU w (.cells Lib.zeros24 140) dk k
    refine ⟨?_, k, os, eo⟩
    rfl
theorem fmtUP_walk (u : Nat) (hu64 : u < 18446744073709551616) (w : World) (htab : GW w) :
    Calls Tryd.prog 58 #[.int .u64 u, .int .i64 10] w fun e w' => e = .returned (.string ⟨(Lib.decDigits u).toArray⟩) ∧ ∃ k os, w' = grow (w.drewN k) os := by
  go_enter Tryd.func58, Tryd.ntmps58
  go_wp2_with (go_at_call 78; refine (fmtU_walk u hu64 _ htab).mono ?_; rintro e w' ⟨rfl, k, os, rfl⟩)
  go_ret
  exact ⟨rfl, k, os, rfl⟩
end Go.Proofs.YtnkmijidneibnaaDoor
namespace Go.Proofs.YtnkmijidneibnaaDoor
set_option linter.unusedVariables false
set_option linter.unusedSimpArgs false
open Go.RowKit
def rT : List Sch := [⟨[(0, .v (.c .s))], []⟩]
theorem below_grow (w : World) (k : Nat) (os : Array Obj) : Below w.heap.size w (Sort.grow (w.drewN k) os) :=
  ⟨rfl, rfl, rfl, by show w.heap.size ≤ (w.heap ++ os).size; rw [Array.size_append]; omega, fun j hj => by
    show (w.heap ++ os)[j]? = w.heap[j]?
    rw [Array.getElem?_append, if_pos hj]⟩
theorem FOk_text {P : Program} {f : FuncId} {ps : Sch} {run : HL ps.lv → Option (List UInt8)}
    (h : ∀ t r st0, run t = some r → conT ps t = some st0 → st0.bl = [] ∧ ∀ g ρ own vs, Rl g ρ st0 own (argS 0 vs) → vs.length = ps.sl.length → r.length ≤ 140737488355328 ∧ ∀ w, GW w → Calls P f vs.toArray w fun e w' => e = .returned (.string (mkS r)) ∧ Below w.heap.size w w') : FOk P f ⟨ps, rT, run⟩ := by
  intro t r st0 hr hc g ρ own vs hR hl w hs
  obtain ⟨h0, h⟩ := h t r st0 hr hc
  obtain ⟨h1, h2⟩ := h g ρ own vs hR hl
  refine (h2 w (hR.gi w (hs.r.of_le g.br))).mono fun e w' ⟨he, hb⟩ => ⟨_, g, [], he, .refl g, ⟨⟨hb.os.trans hs.r.os, hb.tape.trans hs.r.tape, hb.output.trans hs.r.out, fun b o e => ?_⟩, List.nodup_nil, fun k hk => (by cases hk), fun k hk => (by cases hk)⟩, ⟨[(0, vC (.str r))], []⟩, ρ, rfl, rfl, ⟨rfl, fun i bv k e => (by cases e), fun t sv e => ?_, hR.gi⟩, fun j hj => (by rw [h0] at hj; cases hj)⟩
  · have h1 := hs.r.m b o e
    have hlt : b < w.heap.size := (Array.getElem?_eq_some_iff.1 h1).1
    rw [hb.block b hlt]; exact h1
  · have e : cond (Nat.beq 0 t) (some (vC (.str r))) none = some sv := e
    obtain ⟨e1, e2⟩ := condS e
    injection e2 with e2; subst e2
    have := Nat.eq_of_beq_eq_true e1
    subst this
    exact ⟨_, rfl, rfl, h1⟩
theorem two {vs : List Value} (h : vs.length = 2) : ∃ a b, vs = [a, b] := by
  match vs, h with
  | [a, b], _ => exact ⟨a, b, rfl⟩
theorem one {vs : List Value} (h : vs.length = 1) : ∃ a, vs = [a] := by
  match vs, h with
  | [a], _ => exact ⟨a, rfl⟩
def digF : Nat → Nat → List UInt8
  | 0, _ => []
  | f + 1, n => cond (Nat.blt n 10) [UInt8.ofNat (48 + n)] (digF f (n / 10) ++ [UInt8.ofNat (48 + n % 10)])
theorem digF_eq : ∀ f n, n < 10 ^ (f + 1) → digF (f + 1) n = Lib.decDigits n
  | 0, n, h => by
    have h : n < 10 := by simpa using h
    have : Nat.blt n 10 = true := by simpa using h
    unfold digF
    rw [this, Lib.decDigits_one h]
    rfl
  | f + 1, n, h => by
    unfold digF
    by_cases h1 : n < 10
    · have : Nat.blt n 10 = true := by simpa using h1
      rw [this, Lib.decDigits_one h1]
      rfl
    · have : Nat.blt n 10 = false := by
        cases e : Nat.blt n 10 with
        | true => simp at e; omega
        | false => rfl
      have e2 : Lib.decDigits n = Lib.decDigits (n / 10) ++ [UInt8.ofNat (48 + n % 10)] := by
        conv => lhs; rw [Lib.decDigits, dif_neg h1]
      rw [this, digF_eq f (n / 10) (by rw [Nat.pow_succ] at h; omega), e2]
      rfl
def itoaF (n : Int) : List UInt8 := cond (decide (n < 0)) (45 :: digF 20 n.natAbs) (digF 20 n.toNat)
theorem itoaF_eq {n : Int} (h0 : -9223372036854775808 ≤ n) (h1 : n ≤ 9223372036854775807) : itoaF n = Lib.itoa n := by
  unfold itoaF Lib.itoa
  by_cases h : n < 0
  · rw [if_pos h, decide_eq_true h]
    exact congrArg (45 :: ·) (digF_eq 19 _ (by omega))
  · rw [if_neg h, decide_eq_false h]
    exact digF_eq 19 _ (by omega)
def p58 : Sch := ⟨[(0, .v (.c (.i .u64))), (1, .v (.c (.ic .i64 10)))], []⟩
def o58 (u : Int) : Option (List UInt8) := some (digF 20 u.toNat)
theorem fo58 : FOk Tryd.prog 58 ⟨p58, rT, fun t => o58 t⟩ := FOk_text fun (t : Int) r st0 hr hc => by
  have e : conT p58 t = some ⟨[(0, vC (.int .u64 t)), (1, vC (.int .i64 10))], []⟩ := rfl
  rw [e] at hc; injection hc with hc; subst hc
  have hr : some (digF 20 t.toNat) = some r := hr
  injection hr with hr; subst hr
  refine ⟨rfl, fun g ρ own vs hR hl => ?_⟩
  obtain ⟨a, b, rfl⟩ := two hl
  obtain ⟨v0, h1, rfl, hk⟩ := hR.slot 0 _ rfl
  obtain ⟨v1, h2, rfl, _⟩ := hR.slot 1 _ rfl
  injection h1 with h1; subst h1
  injection h2 with h2; subst h2
  simp [inK, IntKind.min, IntKind.max, IntKind.signed, IntKind.bits] at hk
  have hu : t.toNat < 18446744073709551616 := by omega
  rw [digF_eq 19 _ (by omega)]
  refine ⟨?_, fun w hw => ?_⟩
  · have := Lib.nDigits_le20 _ hu
    rw [Lib.decDigits_length]; omega
  · have := fmtUP_walk t.toNat hu w hw
    rw [show ((t.toNat : Nat) : Int) = t by omega] at this
    exact this.mono fun e w' ⟨he, k, os, hw⟩ => ⟨he, by subst hw; exact below_grow w k os⟩
def p59 : Sch := ⟨[(0, .v (.c (.i .i64))), (1, .v (.c (.ic .i64 10)))], []⟩
def o59 (u : Int) : Option (List UInt8) := some (itoaF u)
theorem fo59 : FOk Tryd.prog 59 ⟨p59, rT, fun t => o59 t⟩ := FOk_text fun (t : Int) r st0 hr hc => by
  have e : conT p59 t = some ⟨[(0, vC (.int .i64 t)), (1, vC (.int .i64 10))], []⟩ := rfl
  rw [e] at hc; injection hc with hc; subst hc
  have hr : some (itoaF t) = some r := hr
  injection hr with hr; subst hr
  refine ⟨rfl, fun g ρ own vs hR hl => ?_⟩
  obtain ⟨a, b, rfl⟩ := two hl
  obtain ⟨v0, h1, rfl, hk⟩ := hR.slot 0 _ rfl
  obtain ⟨v1, h2, rfl, _⟩ := hR.slot 1 _ rfl
  injection h1 with h1; subst h1
  injection h2 with h2; subst h2
  simp [inK, IntKind.min, IntKind.max, IntKind.signed, IntKind.bits] at hk
  rw [itoaF_eq hk.1 hk.2]
  refine ⟨?_, fun w hw => ?_⟩
  · have := Lib.itoa_length_le t hk.1 hk.2
    omega
  · exact (Any.strconv_FormatInt_10 lays173 t hk.1 hk.2 w hw).mono fun e w' ⟨he, k, os, hw⟩ => ⟨he, by subst hw; exact below_grow w k os⟩
def p60 : Sch := ⟨[(0, .v (.c (.i .i64)))], []⟩
def o60 (u : Int) : Option (List UInt8) := some (itoaF u)
theorem fo60 : FOk Tryd.prog 60 ⟨p60, rT, fun t => o60 t⟩ := FOk_text fun (t : Int) r st0 hr hc => by
  have e : conT p60 t = some ⟨[(0, vC (.int .i64 t))], []⟩ := rfl
  rw [e] at hc; injection hc with hc; subst hc
  have hr : some (itoaF t) = some r := hr
  injection hr with hr; subst hr
  refine ⟨rfl, fun g ρ own vs hR hl => ?_⟩
  obtain ⟨a, rfl⟩ := one hl
  obtain ⟨v0, h1, rfl, hk⟩ := hR.slot 0 _ rfl
  injection h1 with h1; subst h1
  simp [inK, IntKind.min, IntKind.max, IntKind.signed, IntKind.bits] at hk
  rw [itoaF_eq hk.1 hk.2]
  refine ⟨?_, fun w hw => ?_⟩
  · have := Lib.itoa_length_le t hk.1 hk.2
    omega
  · exact (Any.strconv_Itoa lays171 t hk.1 hk.2 w hw).mono fun e w' ⟨he, k, os, hw⟩ => ⟨he, by subst hw; exact below_grow w k os⟩
end Go.Proofs.YtnkmijidneibnaaDoor
namespace Go.Proofs.YtnkmijidneibnaaDoor
set_option linter.unusedVariables false
set_option linter.unusedSimpArgs false
open Go.Shelf Go.RowKit Go.Lib Go.Sort
abbrev Flt := Int × Int × Int × Int
def encF (x : Flt) : List Value := [.int .i64 x.1, .int .u8 x.2.1, .int .i64 x.2.2.1, .int .u64 x.2.2.2]
def cmpI (x y : Int) : Int := if x < y then -1 else if x > y then 1 else 0
theorem isNaN_walk (x : Int) (W : World) : Calls Tryd.prog 67 #[.int .u64 x] W fun e w' => e = .returned (.bool false) ∧ w' = W := by
  go_enter Tryd.func67, Tryd.ntmps67
  go_wp2
  go_ret
  simp
theorem compare_walk (x y : Int) (W : World) : Calls Tryd.prog 41 #[.int .u64 x, .int .u64 y] W fun e w' => e = .returned (.int .i64 (cmpI x y)) ∧ w' = W := by
  have hn := isNaN_walk
  unfold cmpI
  go_enter Tryd.func41, Tryd.ntmps41
  go_wp2_with (go_at_call 67; refine (hn _ _).mono ?_; rintro e w' ⟨rfl, rfl⟩)
  all_goals first | (go_ret; simp_all; done) | skip
theorem closure_walk (x y : Flt) (W : World) : Calls Tryd.prog 40 #[.agg (encF x).toArray, .agg (encF y).toArray] W fun e w' => e = .returned (.int .i64 (cmpI x.2.2.2 y.2.2.2)) ∧ ∃ q os', w' = grow (W.drewN q) os' := by
  have hcon := fun W' => compare_walk x.2.2.2 y.2.2.2 W'
  generalize cmpI x.2.2.2 y.2.2.2 = r at hcon ⊢
  unfold encF
  go_enter Tryd.func40, Tryd.ntmps40
  go_wp2_with (go_at_call 41; refine (hcon _).mono ?_; rintro e w' ⟨rfl, rfl⟩)
  go_ret
  exact ⟨rfl, 0, _, by rw [alloc_eq_grow, alloc_eq_grow, grow_grow]; rfl⟩
end Go.Proofs.YtnkmijidneibnaaDoor
namespace Go.Proofs.YtnkmijidneibnaaDoor
set_option linter.unusedVariables false
set_option linter.unusedSimpArgs false
def insF (f : Flt) : List Flt → List Flt
  | [] => [f]
  | x :: l => cond (decide (f.2.2.2 < x.2.2.2)) (f :: x :: l) (x :: insF f l)
def isortF : List Flt → List Flt
  | [] => []
  | x :: l => insF x (isortF l)
def hasF (n : Int) : List Flt → Bool
  | [] => false
  | x :: l => decide (x.2.2.2 = n) || hasF n l
def distB : List Flt → Bool
  | [] => true
  | x :: l => !(hasF x.2.2.2 l) && distB l
def ltN (x y : Flt) : Prop := x.2.2.2 < y.2.2.2
theorem hasF_iff {n : Int} : ∀ {l : List Flt}, hasF n l = true ↔ ∃ x ∈ l, x.2.2.2 = n
  | [] => by simp [hasF]
  | x :: l => by simp [hasF, hasF_iff (l := l)]
theorem distB_iff : ∀ {l : List Flt}, distB l = true ↔ l.Pairwise (fun x y => x.2.2.2 ≠ y.2.2.2)
  | [] => by simp [distB]
  | x :: l => by
    simp only [distB, Bool.and_eq_true, Bool.not_eq_true', List.pairwise_cons, distB_iff (l := l)]
    refine and_congr_left fun _ => ?_
    rw [← Bool.not_eq_true, hasF_iff]
    constructor
    · intro h y hy e; exact h ⟨y, hy, e.symm⟩
    · rintro h ⟨y, hy, e⟩; exact h y hy e.symm
theorem insF_perm (f : Flt) : ∀ l : List Flt, (insF f l).Perm (f :: l)
  | [] => .refl _
  | x :: l => by
    unfold insF
    cases decide (f.2.2.2 < x.2.2.2)
    · exact ((insF_perm f l).cons x).trans (.swap _ _ _)
    · exact .refl _
theorem isortF_perm : ∀ l : List Flt, (isortF l).Perm l
  | [] => .refl _
  | x :: l => (insF_perm x _).trans ((isortF_perm l).cons x)
theorem insF_le {f : Flt} : ∀ {l : List Flt}, l.Pairwise (fun x y => x.2.2.2 ≤ y.2.2.2) → (insF f l).Pairwise (fun x y => x.2.2.2 ≤ y.2.2.2)
  | [], _ => by simp [insF]
  | x :: l, h => by
    unfold insF
    rw [List.pairwise_cons] at h
    by_cases hc : f.2.2.2 < x.2.2.2
    · rw [decide_eq_true hc]
      refine List.pairwise_cons.2 ⟨fun y hy => ?_, List.pairwise_cons.2 h⟩
      rcases List.mem_cons.1 hy with rfl | hy
      · omega
      · have := h.1 y hy; omega
    · rw [decide_eq_false hc]
      refine List.pairwise_cons.2 ⟨fun y hy => ?_, insF_le h.2⟩
      rcases List.mem_cons.1 ((insF_perm f l).mem_iff.1 hy) with rfl | hy
      · omega
      · exact h.1 y hy
theorem isortF_le : ∀ l : List Flt, (isortF l).Pairwise (fun x y => x.2.2.2 ≤ y.2.2.2)
  | [] => .nil
  | x :: l => insF_le (isortF_le l)
theorem pw_strict : ∀ {l : List Flt}, l.Pairwise (fun x y => x.2.2.2 ≤ y.2.2.2) → l.Pairwise (fun x y => x.2.2.2 ≠ y.2.2.2) → l.Pairwise ltN
  | [], _, _ => .nil
  | x :: l, h, k => by
    rw [List.pairwise_cons] at h k
    refine List.pairwise_cons.2 ⟨fun y hy => ?_, pw_strict h.2 k.2⟩
    have h1 := h.1 y hy
    have h2 := k.1 y hy
    show x.2.2.2 < y.2.2.2
    omega
theorem ne_perm {l m : List Flt} (hp : l.Perm m) (h : m.Pairwise (fun x y => x.2.2.2 ≠ y.2.2.2)) : l.Pairwise (fun x y => x.2.2.2 ≠ y.2.2.2) :=
  (hp.pairwise_iff (fun {a b} h => Ne.symm h)).2 h
theorem isortF_lt {l : List Flt} (h : distB l = true) : (isortF l).Pairwise ltN := pw_strict (isortF_le l) (ne_perm (isortF_perm l) (distB_iff.1 h))
theorem ext_lt : ∀ {l m : List Flt}, l.Pairwise ltN → m.Pairwise ltN → (∀ x, x ∈ l ↔ x ∈ m) → l = m
  | [], [], _, _, _ => rfl
  | [], y :: m, _, _, h => absurd ((h y).2 List.mem_cons_self) (by simp)
  | x :: l, [], _, _, h => absurd ((h x).1 List.mem_cons_self) (by simp)
  | x :: l, y :: m, hl, hm, h => by
    rw [List.pairwise_cons] at hl hm
    have e : x = y := by
      rcases List.mem_cons.1 ((h x).1 List.mem_cons_self) with e | h1
      · exact e
      rcases List.mem_cons.1 ((h y).2 List.mem_cons_self) with e | h2
      · exact e.symm
      have a := hl.1 y h2
      have b := hm.1 x h1
      unfold ltN at a b
      omega
    subst e
    have hn : ∀ {k : List Flt}, (∀ z ∈ k, ltN x z) → x ∉ k := fun hk hx => by
      have := hk x hx
      unfold ltN at this
      omega
    rw [ext_lt hl.2 hm.2 fun z => ?_]
    constructor
    · intro hz
      rcases List.mem_cons.1 ((h z).1 (List.mem_cons_of_mem _ hz)) with e | h1
      · subst e; exact absurd hz (hn hl.1)
      · exact h1
    · intro hz
      rcases List.mem_cons.1 ((h z).2 (List.mem_cons_of_mem _ hz)) with e | h1
      · subst e; exact absurd hz (hn hm.1)
      · exact h1
end Go.Proofs.YtnkmijidneibnaaDoor
namespace Go.Proofs.YtnkmijidneibnaaDoor
set_option linter.unusedVariables false
set_option linter.unusedSimpArgs false
open Go.Shelf Go.RowKit Go.Lib Go.Sort
def laysSort_ren : Go.Shelf.Ren := ⟨fun | 6 => 39 | 15 => 66 | 14 => 65 | 28 => 90 | 29 => 91 | 20 => 82 | 21 => 83 | 22 => 84 | 23 => 85 | 24 => 86 | 25 => 87 | 26 => 88 | 27 => 89 | 46 => 100 | 47 => 101 | 48 => 102 | 49 => 103 | 50 => 104 | 57 => 112 | n => n, fun | 22 => 34 | 24 => 42 | 25 => 91 | 3 => 3 | 39 => 118 | 0 => 0 | 53 => 22 | 55 => 38 | 4 => 4 | 46 => 130 | 45 => 129 | 50 => 103 | 5 => 5 | 9 => 9 | 66 => 144 | 70 => 147 | 76 => 156 | 77 => 157 | n => n, fun | n => n⟩
theorem laysSort : Go.Proofs.SlLaysF0.n6 Tryd.prog laysSort_ren := {
  mixed := by kernel_rfl
  f6 := ⟨Tryd.f39.name, by kernel_rfl, Tryd.func39.trans (congrArg some (by kernel_rfl))⟩
  f14 := ⟨Tryd.f65.name, by kernel_rfl, Tryd.func65.trans (congrArg some (by kernel_rfl))⟩
  f15 := Tryd.func66.trans (congrArg some (by kernel_rfl))
  f20 := ⟨Tryd.f82.name, by kernel_rfl, Tryd.func82.trans (congrArg some (by kernel_rfl))⟩
  f21 := ⟨Tryd.f83.name, by kernel_rfl, Tryd.func83.trans (congrArg some (by kernel_rfl))⟩
  f22 := ⟨Tryd.f84.name, by kernel_rfl, Tryd.func84.trans (congrArg some (by kernel_rfl))⟩
  f23 := ⟨Tryd.f85.name, by kernel_rfl, Tryd.func85.trans (congrArg some (by kernel_rfl))⟩
  f24 := ⟨Tryd.f86.name, by kernel_rfl, Tryd.func86.trans (congrArg some (by kernel_rfl))⟩
  f25 := ⟨Tryd.f87.name, by kernel_rfl, Tryd.func87.trans (congrArg some (by kernel_rfl))⟩
  f26 := ⟨Tryd.f88.name, by kernel_rfl, Tryd.func88.trans (congrArg some (by kernel_rfl))⟩
  f27 := ⟨Tryd.f89.name, by kernel_rfl, Tryd.func89.trans (congrArg some (by kernel_rfl))⟩
  f28 := Tryd.func90.trans (congrArg some (by kernel_rfl))
  f29 := Tryd.func91.trans (congrArg some (by kernel_rfl))
  f46 := ⟨Tryd.f100.name, by kernel_rfl, Tryd.func100.trans (congrArg some (by kernel_rfl))⟩
  f47 := Tryd.func101.trans (congrArg some (by kernel_rfl))
  f48 := Tryd.func102.trans (congrArg some (by kernel_rfl))
  f49 := ⟨Tryd.f103.name, by kernel_rfl, Tryd.func103.trans (congrArg some (by kernel_rfl))⟩
  f50 := ⟨Tryd.f104.name, by kernel_rfl, Tryd.func104.trans (congrArg some (by kernel_rfl))⟩
  f57 := ⟨Tryd.f112.name, by kernel_rfl, Tryd.func112.trans (congrArg some (by kernel_rfl))⟩
  t0 := Tryd.underlying0
  a0 := Tryd.isAgg0
  z0 := Tryd.sizeOf0
  v0 := Tryd.zeroValue0
  t3 := Tryd.underlying3
  a3 := Tryd.isAgg3
  z3 := Tryd.sizeOf3
  v3 := Tryd.zeroValue3
  t4 := Tryd.underlying4
  a4 := Tryd.isAgg4
  z4 := Tryd.sizeOf4
  v4 := Tryd.zeroValue4
  t5 := Tryd.underlying5
  a5 := Tryd.isAgg5
  z5 := Tryd.sizeOf5
  v5 := Tryd.zeroValue5
  t9 := Tryd.underlying9
  a9 := Tryd.isAgg9
  z9 := Tryd.sizeOf9
  v9 := Tryd.zeroValue9
  t22 := Tryd.underlying34
  a22 := Tryd.isAgg34
  z22 := Tryd.sizeOf34
  v22 := Tryd.zeroValue34
  t25 := Tryd.underlying91
  a25 := Tryd.isAgg91
  z25 := Tryd.sizeOf91
  v25 := Tryd.zeroValue91
  t39 := Tryd.underlying118
  a39 := Tryd.isAgg118
  z39 := Tryd.sizeOf118
  v39 := Tryd.zeroValue118
  t45 := Tryd.underlying129
  a45 := Tryd.isAgg129
  z45 := Tryd.sizeOf129
  v45 := Tryd.zeroValue129
  t46 := Tryd.underlying130
  a46 := Tryd.isAgg130
  z46 := Tryd.sizeOf130
  v46 := Tryd.zeroValue130
  t50 := Tryd.underlying103
  a50 := Tryd.isAgg103
  z50 := Tryd.sizeOf103
  v50 := Tryd.zeroValue103
  t53 := Tryd.underlying22
  a53 := Tryd.isAgg22
  z53 := Tryd.sizeOf22
  v53 := Tryd.zeroValue22
  t55 := Tryd.underlying38
  a55 := Tryd.isAgg38
  z55 := Tryd.sizeOf38
  v55 := Tryd.zeroValue38
  t66 := Tryd.underlying144
  a66 := Tryd.isAgg144
  z66 := Tryd.sizeOf144
  v66 := Tryd.zeroValue144
  t70 := Tryd.underlying147
  a70 := Tryd.isAgg147
  z70 := Tryd.sizeOf147
  v70 := Tryd.zeroValue147
  t76 := Tryd.underlying156
  a76 := Tryd.isAgg156
  z76 := Tryd.sizeOf156
  v76 := Tryd.zeroValue156
  t77 := Tryd.underlying157
  a77 := Tryd.isAgg157
  z77 := Tryd.sizeOf157
  v77 := Tryd.zeroValue157 }
def cfF (x y : Flt) : Int := cmpI x.2.2.2 y.2.2.2
theorem ltOf_cfF (x y : Flt) : ltOf cfF x y = decide (x.2.2.2 < y.2.2.2) := by
  unfold ltOf cfF cmpI
  by_cases h : x.2.2.2 < y.2.2.2
  · simp [h]
  · rw [if_neg h]
    by_cases h2 : x.2.2.2 > y.2.2.2
    · rw [if_pos h2]; simp [h]
    · rw [if_neg h2]; simp [h]
theorem swoF : SWO (ltOf cfF) := ⟨fun x => by rw [ltOf_cfF]; simp, fun x y z h1 h2 => by rw [ltOf_cfF] at *; simp at *; omega, fun x y z h1 h2 => by rw [ltOf_cfF] at *; simp at *; omega⟩
theorem closure_cmp (blk off size : Nat) (w : World) : CmpLays Tryd.prog 40 #[] encF 4 cfF blk off size w := fun _ _ _ _ x y => closure_walk x y _
abbrev cF : Cd := .p (.i .i64) (.p (.i .u8) (.p (.i .i64) (.i .u64)))
def okF (x : Flt) : Prop := inK .i64 x.1 ∧ inK .u8 x.2.1 ∧ inK .i64 x.2.2.1 ∧ inK .u64 x.2.2.2
theorem repF {p : Psi} {cs : List Value} {x : Flt} : cF.ty.rep p cs x ↔ cs = encF x ∧ okF x := by
  constructor
  · rintro ⟨c1, c2, rfl, ⟨rfl, h1⟩, d1, d2, rfl, ⟨rfl, h2⟩, e1, e2, rfl, ⟨rfl, h3⟩, ⟨rfl, h4⟩⟩
    exact ⟨rfl, h1, h2, h3, h4⟩
  · rintro ⟨rfl, h1, h2, h3, h4⟩
    exact ⟨[_], [_, _, _], rfl, ⟨rfl, h1⟩, [_], [_, _], rfl, ⟨rfl, h2⟩, [_], [_], rfl, ⟨rfl, h3⟩, rfl, h4⟩
theorem repsF {p : Psi} : ∀ {xs : List Flt} {cs : List Value}, Reps cF.ty p cs xs ↔ cs = xs.flatMap encF ∧ ∀ x ∈ xs, okF x
  | [], cs => by simp [Reps]
  | x :: xs, cs => by
    constructor
    · rintro ⟨c1, c2, rfl, h1, h2⟩
      have h1 := repF.1 h1
      have h2 := repsF.1 h2
      refine ⟨by rw [h1.1, h2.1]; rfl, fun y hy => ?_⟩
      rcases List.mem_cons.1 hy with rfl | hy
      · exact h1.2
      · exact h2.2 y hy
    · rintro ⟨rfl, h⟩
      exact ⟨encF x, xs.flatMap encF, rfl, repF.2 ⟨rfl, h x List.mem_cons_self⟩, repsF.2 ⟨rfl, fun y hy => h y (List.mem_cons_of_mem _ hy)⟩⟩
theorem encF_len (x : Flt) : (encF x).length = 4 := rfl
theorem flatF_len : ∀ xs : List Flt, (xs.flatMap encF).length = xs.length * 4
  | [] => rfl
  | x :: xs => by rw [List.flatMap_cons, List.length_append, flatF_len xs, encF_len, List.length_cons]; omega
theorem flatF_get : ∀ (xs : List Flt) (j : Nat), j < xs.length * 4 → (xs.flatMap encF)[j]? = some ((encF xs[j / 4]!)[j % 4]!)
  | [], j, h => by simp at h
  | x :: xs, j, h => by
    rw [List.flatMap_cons]
    by_cases hj : j < 4
    · rw [List.getElem?_append_left (by rw [encF_len]; exact hj), Nat.div_eq_of_lt hj, Nat.mod_eq_of_lt hj, List.getElem?_eq_getElem (by rw [encF_len]; exact hj)]
      exact congrArg some (getElem!_pos (encF x) j (by rw [encF_len]; exact hj)).symm
    · have h2 : j - 4 < xs.length * 4 := by rw [List.length_cons] at h; omega
      rw [List.getElem?_append_right (by rw [encF_len]; omega), encF_len, flatF_get xs (j - 4) h2]
      obtain ⟨k, rfl⟩ : ∃ k, j = k + 4 := ⟨j - 4, by omega⟩
      rw [Nat.add_sub_cancel, Nat.add_div_right k (by decide), Nat.add_mod_right]
      simp
theorem flatK_get (d : Array Flt) (j : Nat) (h : j < d.size * 4) : (flatK encF 4 d)[j]! = (encF d.toList[j / 4]!)[j % 4]! := by
  have h2 : j / 4 < d.size := by omega
  rw [get_flatK _ _ _ _ h, getElem!_pos d _ h2, getElem!_pos d.toList _ (by simpa using h2)]
  simp
theorem putCells_flat (xs : List Flt) (d : Array Flt) (sp : List Value) (h : d.size = xs.length) : putCells id 0 (flatK encF 4 d) (xs.flatMap encF ++ sp).toArray = (d.toList.flatMap encF ++ sp).toArray := by
  apply Array.ext_getElem?
  intro k
  unfold putCells
  rw [Array.getElem?_mapIdx]
  simp only [List.getElem?_toArray, size_flatK, Nat.zero_le, Nat.zero_add, true_and, Nat.sub_zero, id]
  by_cases hk : k < xs.length * 4
  · rw [List.getElem?_append_left (by rw [flatF_len]; exact hk), List.getElem?_append_left (by rw [flatF_len, Array.length_toList]; omega), flatF_get _ _ hk, flatF_get _ _ (by rw [Array.length_toList]; omega), Option.map_some, if_pos (by omega), flatK_get _ _ (by omega)]
  · have hl : d.toList.length = xs.length := by rw [Array.length_toList]; exact h
    rw [List.getElem?_append_right (by rw [flatF_len]; omega), List.getElem?_append_right (by rw [flatF_len, hl]; omega), flatF_len, flatF_len, hl]
    cases sp[k - xs.length * 4]? with
    | none => rfl
    | some y => rw [Option.map_some, if_neg (by omega)]
def p39 : Sch := ⟨[(0, .v (.c (.own 0))), (1, .v (.c (.fn 40)))], [.row cF 42]⟩
def r39 : List Sch := [⟨[(0, .tup [])], [.row cF 42]⟩]
def o39 (l : List Flt) : Option (List Flt) := gd (distB l) (some (isortF l))
theorem gdS {α : Type} {b : Bool} {x : Option α} {y : α} (h : gd b x = some y) : b = true ∧ x = some y := by
  cases b
  · cases h
  · exact ⟨rfl, h⟩
theorem fo39 : FOk Tryd.prog 39 ⟨p39, r39, fun t => o39 t⟩ := fun (t : List Flt) (r : List Flt) st0 hr hc g ρ own vs hR hl w hs => by
  have e : conT p39 t = some ⟨[(0, .v (.c (.own 0))), (1, .v (.c (.fn 40)))], [.row cF 42 t]⟩ := rfl
  rw [e] at hc; injection hc with hc; subst hc
  obtain ⟨hd, hr⟩ := gdS hr
  injection hr with hr; subst hr
  obtain ⟨a, b, rfl⟩ := two hl
  obtain ⟨v0, h1, hk0⟩ := hR.slot 0 _ rfl
  obtain ⟨v1, h2, hk1⟩ := hR.slot 1 _ rfl
  injection h1 with h1; subst h1
  injection h2 with h2; subst h2
  obtain ⟨_, n, rfl, hn⟩ := hk0
  have hn : n = t.length := hn _ _ rfl rfl
  subst hn
  have hk1 : b = .func (.func 40) #[] #[] := hk1
  subst hk1
  obtain ⟨k, rfl⟩ : ∃ k, own = [k] := by
    have := hR.len
    match own, this with
    | [k], _ => exact ⟨k, rfl⟩
  have hB : Buf g.b cF.ty 42 (.slice (ρ 0).1 t.length (ρ 0).2) k t := hR.blk 0 _ _ rfl rfl
  have hp : (isortF t).Perm t := isortF_perm t
  have hlen : (isortF t).length = t.length := hp.length_eq
  -- what is left to say of the results
  have fin : ∀ k', Buf g.b cF.ty 42 (.slice (ρ 0).1 t.length (ρ 0).2) k' (isortF t) →
      ∃ str ρ', altC r39 (isortF t) = some str ∧ baseSt str = true ∧ Rl (ghB g.b) ρ' str [k'] [(0, .tuple #[])] ∧ ∀ j, j < 1 → ρ' j = ρ j ∧ ∀ (bv : BV) (m : Nat), str.bl[j]? = some bv → bv.len = some m → lenAt [BV.row cF 42 t] j = some m := by
    intro k' hb
    refine ⟨⟨[(0, .tup [])], [.row cF 42 (isortF t)]⟩, ρ, rfl, rfl, ⟨rfl, fun i bv k0 e1 e2 => ?_, fun t0 sv e => ?_, hR.gi⟩, fun j hj => ⟨rfl, fun bv m e1 e2 => ?_⟩⟩
    · match i, e1, e2 with
      | 0, e1, e2 =>
        injection e1 with e1; subst e1
        injection e2 with e2; subst e2
        show Buf g.b cF.ty 42 (.slice (ρ 0).1 (isortF t).length (ρ 0).2) k' (isortF t)
        rw [hlen]; exact hb
      | i + 1, e1, e2 => simp at e1
    · have e : cond (Nat.beq 0 t0) (some (SV.tup [])) none = some sv := e
      obtain ⟨e1, e2⟩ := condS e
      injection e2 with e2; subst e2
      have := Nat.eq_of_beq_eq_true e1
      subst this
      exact ⟨_, rfl, [], rfl, trivial⟩
    · match j, hj with
      | 0, _ =>
        injection e1 with e1; subst e1
        injection e2 with e2; subst e2
        show some t.length = some (isortF t).length
        rw [hlen]
  rcases hB.2 with ⟨h1, h2, h3⟩ | ⟨gb, cap, cs, sp, h1, h2, h3, h4, h5⟩
  · injection h1 with h1 h1a h1b
    rw [h1, h2, h1b]
    refine (AnyF.slices_SortFunc_none (P := Tryd.prog) (ρ := laysSort_ren) laysSort none 0 (.func (.func 40) #[] #[]) w).mono fun e w' ⟨he, hw⟩ => ?_
    subst hw
    refine ⟨_, g, [k], he, .refl g, hs, ?_⟩
    have := fin k (by rw [h2] at hB; rw [h2]; exact hB)
    rw [h2] at this
    exact this
  · injection h1 with h1 h1a h1b
    subst h2
    obtain ⟨rfl, hok⟩ := repsF.1 h3
    have hcell := fun j => hs.has.cell (k := ⟨gb, (42 : Nat), t.flatMap encF ++ sp⟩) (List.mem_cons_self) j
    have hfr := fun j => hs.has.frozen (k := ⟨gb, (42 : Nat), t.flatMap encF ++ sp⟩) (List.mem_cons_self) j
    have hgb : gb < w.heap.size := hs.has.lt (k := ⟨gb, (42 : Nat), t.flatMap encF ++ sp⟩) List.mem_cons_self
    have hobj : w.heap[gb]? = some (.cells (t.flatMap encF ++ sp).toArray 42 (0, 0)) := hs.has ⟨gb, (42 : Nat), t.flatMap encF ++ sp⟩ List.mem_cons_self
    have hH : HoldsK encF 4 w gb 0 t.toArray := fun j hj => by
      rw [size_flatK] at hj
      have hj' : j < t.length * 4 := by simpa using hj
      refine ⟨?_, hfr _⟩
      rw [hcell, Nat.zero_add, List.getElem?_append_left (by rw [flatF_len]; exact hj'), flatF_get _ _ hj', flatK_get _ _ hj]
      rfl
    rw [h1]
    have eg : ∀ args w, (callFunc 40 args).run Tryd.prog w = .ok (.enter 40 args) w := enters_of Tryd.func40 (by kernel_rfl) rfl
    have hsz := hB.1
    have main := AnyQ.slices_SortFunc (P := Tryd.prog) (ρ := laysSort_ren) laysSort 4 Tryd.isAgg42 Tryd.sizeOf42 encF (fun _ => rfl) (fun x v hv => by simp [encF] at hv; rcases hv with rfl | rfl | rfl | rfl <;> rfl) cfF swoF 40 #[] gb 0 (ρ 0).2 t.toArray w eg (closure_cmp gb 0 _ w) hH hgb (by simp; omega)
    refine main.mono fun e w' ⟨he, d', n, os, hpm, hso, hw⟩ => ?_
    have hds : d'.size = t.length := by have := hpm.1; simpa using this
    have hperm : d'.toList.Perm t := by
      have := hpm.2.2
      simp only [List.size_toArray] at this
      rw [show d'.extract 0 t.length = d' by rw [← hds]; simp, show t.toArray.extract 0 t.length = t.toArray by simp] at this
      exact this
    have hle : d'.toList.Pairwise (fun x y => x.2.2.2 ≤ y.2.2.2) := by
      rw [List.pairwise_iff_getElem]
      intro i j hi hj hij
      have hi' : i < d'.size := by simpa using hi
      have hj' : j < d'.size := by simpa using hj
      have := hso i j (Nat.zero_le _) hij (by simp; omega)
      rw [ltOf_cfF, getElem!_pos d' i hi', getElem!_pos d' j hj'] at this
      simp at this ⊢
      exact this
    have hlt : d'.toList.Pairwise ltN := pw_strict hle (ne_perm hperm (distB_iff.1 hd))
    have hd' : d'.toList = isortF t := ext_lt hlt (isortF_lt hd) fun x => hperm.mem_iff.trans hp.mem_iff.symm
    have hheap : w'.heap = (w.heap.modify gb (onCells (putCells id 0 (flatK encF 4 d')))) ++ os := by rw [hw]; rfl
    have hst : St w' g ([some ⟨gb, (42 : Nat), t.flatMap encF ++ sp⟩].set 0 (some ⟨gb, (42 : Nat), (isortF t).flatMap encF ++ sp⟩)) := by
      refine hs.swap (i := 0) rfl _ (by rw [hw]; rfl) (by rw [hw]; rfl) (by rw [hw]; rfl) (fun b hb hne => ?_) (fun k hk => ?_)
      · rw [hheap, Array.getElem?_append_left (by simpa using hb), Array.getElem?_modify, if_neg (fun e => hne _ rfl e.symm)]
      · injection hk with hk; subst hk
        refine ⟨?_, .inl ⟨_, rfl, rfl⟩⟩
        show w'.heap[gb]? = some (.cells ((isortF t).flatMap encF ++ sp).toArray 42 (0, 0))
        rw [hheap, Array.getElem?_append_left (by simpa using hgb), Array.getElem?_modify, if_pos rfl, hobj]
        show some (Obj.cells (putCells id 0 (flatK encF 4 d') (t.flatMap encF ++ sp).toArray) 42 (0, 0)) = _
        rw [putCells_flat _ _ _ hds, hd']
    refine ⟨_, g, _, he, .refl g, hst, fin _ ?_⟩
    have hz : (isortF t).length ≤ 140737488355328 := by rw [hlen]; exact hsz
    refine ⟨hz, .inr ⟨gb, cap, (isortF t).flatMap encF, sp, ?_, rfl, repsF.2 ⟨rfl, fun x hx => hok x (hp.mem_iff.1 hx)⟩, ?_, h5⟩⟩
    · rw [h1, h1b]
      exact congrArg (fun n => Value.slice (some ⟨gb, 0, none⟩) n cap) hlen.symm
    · rw [List.length_append, flatF_len, hlen, ← flatF_len, ← List.length_append]; exact h4
end Go.Proofs.YtnkmijidneibnaaDoor
namespace Go.Proofs.YtnkmijidneibnaaDoor
set_option linter.unusedVariables false
set_option linter.unusedSimpArgs false
set_option maxRecDepth 100000
open Go.RowKit
abbrev T0 : Tbl := []
theorem K0 : TOk Tryd.prog T0 := .nil
noncomputable section
def T1 : Tbl := (58, ⟨p58, rT, fun t => (o58 t)⟩) :: T0
theorem K1 : TOk Tryd.prog T1 := .cons K0 fo58
def T2 : Tbl := (59, ⟨p59, rT, fun t => (o59 t)⟩) :: T1
theorem K2 : TOk Tryd.prog T2 := .cons K1 fo59
def T3 : Tbl := (60, ⟨p60, rT, fun t => (o60 t)⟩) :: T2
theorem K3 : TOk Tryd.prog T3 := .cons K2 fo60
def T4 : Tbl := (39, ⟨p39, r39, fun t => (o39 t)⟩) :: T3
theorem K4 : TOk Tryd.prog T4 := .cons K3 fo39
def o12_s0 : Sch := ⟨[(0, .v (.c (.i .i64))), (9, .v (.c (.b)))], []⟩
def p12 : Sch := ⟨[(0, .v (.c (.i .i64)))], []⟩
def r12 : List Sch := [⟨[(0, .tup [.c (.cst (.pointer none)), .c (.ic .i64 (1))])], []⟩, ⟨[(0, .tup [.c (.ptr 0 0), .c (.ic .i64 (0))])], [.cells 84 [.own 1, .ic .i64 (-1), .b], .row .y 5]⟩]
def o12 (a0 : Int) : Option (Unit ⊕ (Bool × List UInt8)) :=
 (bd (α := (Int × Bool)) (cnd (decide (a0 < (2 : Int))) (some (a0, true)) (some (a0, (decide (a0 > (64 : Int)))))) (fun v1 => (cnd v1.2 (some (Sum.inl ())) (gd (decide ((0 : Int) ≤ (IntKind.wrap .i64 (v1.1 * (30 : Int))) ∧ (IntKind.wrap .i64 (v1.1 * (30 : Int))) * (1 : Int) ≤ (140737488355328 : Int))) (some (Sum.inr (false, (List.replicate (IntKind.wrap .i64 (v1.1 * (30 : Int))).toNat (u8 (0 : Int))))))))))
theorem e12 (t : Int) : evF (stpT Tryd.prog T4 K4) Tryd.f12 p12 r12 (.s .d (.s (.s (.j false [o12_s0] .d) .d) .d)) t = (o12 t) := by kernel_rfl
theorem fo12 : FOk Tryd.prog 12 ⟨p12, r12, fun t => (o12 t)⟩ := FOk.run_eq (evF_ok (h := (.s .d (.s (.s (.j false [o12_s0] .d) .d) .d))) (by kernel_rfl) (by kernel_rfl) (by kernel_rfl)) e12
def T5 : Tbl := (12, ⟨p12, r12, fun t => (o12 t)⟩) :: T4
theorem K5 : TOk Tryd.prog T5 := .cons K4 fo12
def p13 : Sch := ⟨[(0, .v (.c (.cst (.pointer none))))], []⟩
def r13 : List Sch := [⟨[(0, .tup [.c (.cst (.pointer none)), .c (.ic .i64 (1))])], []⟩]
def o13 : Option Unit :=
 (some ())
theorem e13 (t : Unit) : evF (stpT Tryd.prog T5 K5) Tryd.f13 p13 r13 .d t = o13 := by kernel_rfl
theorem fo13 : FOk Tryd.prog 13 ⟨p13, r13, fun t => o13⟩ := FOk.run_eq (evF_ok (h := .d) (by kernel_rfl) (by kernel_rfl) (by kernel_rfl)) e13
def T6 : Tbl := (13, ⟨p13, r13, fun t => o13⟩) :: T5
theorem K6 : TOk Tryd.prog T6 := .cons K5 fo13
def p32 : Sch := ⟨[(0, .v (.c (.ptr 0 0)))], [.lent [.ro .y false, .i .i64, .b]]⟩
def r32 : List Sch := [⟨[(0, .v (.c (.i .i64)))], [.no]⟩]
def o32 (a0 : List UInt8) (a1 : Int) (a2 : Bool) : Option Int :=
 (some (IntKind.wrap .i64 (Int.tdiv ((a0.length : Nat) : Int) (30 : Int))))
theorem e32 (t : List UInt8 × Int × Bool) : evF (stpT Tryd.prog T6 K6) Tryd.f32 p32 r32 .d t = (o32 t.1 t.2.1 t.2.2) := by kernel_rfl
theorem fo32 : FOk Tryd.prog 32 ⟨p32, r32, fun t => (o32 t.1 t.2.1 t.2.2)⟩ := FOk.run_eq (evF_ok (h := .d) (by kernel_rfl) (by kernel_rfl) (by kernel_rfl)) e32
def T7 : Tbl := (32, ⟨p32, r32, fun t => (o32 t.1 t.2.1 t.2.2)⟩) :: T6
theorem K7 : TOk Tryd.prog T7 := .cons K6 fo32
def o111_s0 : Sch := ⟨[(0, .v (.c (.i .u32))), (9, .v (.c (.i .i64)))], []⟩
def p111 : Sch := ⟨[(0, .v (.c (.i .u32))), (1, .v (.c (.i .u8)))], []⟩
def r111 : List Sch := [⟨[(0, .v (.c (.i .u32)))], []⟩]
def o111 (a0 : Int) (a1 : Int) : Option Int :=
 (loopO (σ := Int × Int) fuelN (fun (v2 : Int × Int) => (cnd (decide (v2.2 < (8 : Int))) (cnd ((landK .u32 v2.1 (1 : Int)) == (1 : Int)) (some (Ctl.go ((lxorK .u32 (shrK .u32 v2.1 (1 : Int)) (3988292384 : Int)), (IntKind.wrap .i64 (v2.2 + (1 : Int)))))) (some (Ctl.go ((shrK .u32 v2.1 (1 : Int)), (IntKind.wrap .i64 (v2.2 + (1 : Int))))))) (dnO (some v2.1)))) ((lxorK .u32 a0 (IntKind.wrap .u32 a1)), (0 : Int)))
theorem e111 (t : Int × Int) : evF (stpT Tryd.prog T7 K7) Tryd.f111 p111 r111 (.s .d (.s .d (.s (.s .d (.b (.l o111_s0 .d))) .d))) t = (o111 t.1 t.2) := by kernel_rfl
theorem fo111 : FOk Tryd.prog 111 ⟨p111, r111, fun t => (o111 t.1 t.2)⟩ := FOk.run_eq (evF_ok (h := (.s .d (.s .d (.s (.s .d (.b (.l o111_s0 .d))) .d)))) (by kernel_rfl) (by kernel_rfl) (by kernel_rfl)) e111
def T8 : Tbl := (111, ⟨p111, r111, fun t => (o111 t.1 t.2)⟩) :: T7
theorem K8 : TOk Tryd.prog T8 := .cons K7 fo111
def o99_s0 : Sch := ⟨[(5, .v (.c (.i .u32))), (10, .v (.c (.ro .y false))), (11, .v (.c (.i .i64))), (12, .v (.c (.i .i64)))], []⟩
def p99 : Sch := ⟨[(0, .v (.c (.i .u32))), (1, .v (.c (.ro .y false)))], []⟩
def r99 : List Sch := [⟨[(0, .v (.c (.i .u32)))], []⟩]
def o99 (a0 : Int) (a1 : List UInt8) : Option Int :=
 (loopO (σ := Int × List UInt8 × Int × Int) fuelN (fun (v3 : Int × List UInt8 × Int × Int) => (cnd (decide (v3.2.2.2 < v3.2.2.1)) (gd (decide ((0 : Int) ≤ v3.2.2.2 ∧ v3.2.2.2 < ((v3.2.1.length : Nat) : Int))) (bd (α := Int) (o111 v3.1 ((UInt8.toNat (List.getD v3.2.1 v3.2.2.2.toNat (0 : UInt8)) : Nat) : Int)) (fun v4 => (some (Ctl.go (v4, v3.2.1, v3.2.2.1, (IntKind.wrap .i64 (v3.2.2.2 + (1 : Int))))))))) (dnO (some (lxorK .u32 (4294967295 : Int) v3.1))))) ((lxorK .u32 (4294967295 : Int) a0), a1, ((a1.length : Nat) : Int), (0 : Int)))
theorem e99 (t : Int × List UInt8) : evF (stpT Tryd.prog T8 K8) Tryd.f99 p99 r99 (.s .d (.s .d (.s (.s .d (.b (.l o99_s0 .d))) .d))) t = (o99 t.1 t.2) := by kernel_rfl
theorem fo99 : FOk Tryd.prog 99 ⟨p99, r99, fun t => (o99 t.1 t.2)⟩ := FOk.run_eq (evF_ok (h := (.s .d (.s .d (.s (.s .d (.b (.l o99_s0 .d))) .d)))) (by kernel_rfl) (by kernel_rfl) (by kernel_rfl)) e99
def T9 : Tbl := (99, ⟨p99, r99, fun t => (o99 t.1 t.2)⟩) :: T8
theorem K9 : TOk Tryd.prog T9 := .cons K8 fo99
def p81 : Sch := ⟨[(0, .v (.c (.ro .y false)))], []⟩
def r81 : List Sch := [⟨[(0, .v (.c (.i .u32)))], []⟩]
def o81 (a0 : List UInt8) : Option Int :=
 (bd (α := Int) (o99 (0 : Int) a0) (fun v1 => (some v1)))
theorem e81 (t : List UInt8) : evF (stpT Tryd.prog T9 K9) Tryd.f81 p81 r81 .d t = (o81 t) := by kernel_rfl
theorem fo81 : FOk Tryd.prog 81 ⟨p81, r81, fun t => (o81 t)⟩ := FOk.run_eq (evF_ok (h := .d) (by kernel_rfl) (by kernel_rfl) (by kernel_rfl)) e81
def T10 : Tbl := (81, ⟨p81, r81, fun t => (o81 t)⟩) :: T9
theorem K10 : TOk Tryd.prog T10 := .cons K9 fo81
def p47 : Sch := ⟨[(0, .v (.c (.ro .y false)))], []⟩
def r47 : List Sch := [⟨[(0, .v (.c (.own 0)))], [.row .y 5]⟩]
def o47 (a0 : List UInt8) : Option (List UInt8) :=
 (nlO (List.isEmpty a0) (some ([] : List UInt8)) (gd (decide ((([] : List UInt8).length + a0.length) * 1 ≤ 140737488355328)) (some (([] : List UInt8) ++ a0))))
theorem e47 (t : List UInt8) : evF (stpT Tryd.prog T10 K10) Tryd.f47 p47 r47 .d t = (o47 t) := by kernel_rfl
theorem fo47 : FOk Tryd.prog 47 ⟨p47, r47, fun t => (o47 t)⟩ := FOk.run_eq (evF_ok (h := .d) (by kernel_rfl) (by kernel_rfl) (by kernel_rfl)) e47
def T11 : Tbl := (47, ⟨p47, r47, fun t => (o47 t)⟩) :: T10
theorem K11 : TOk Tryd.prog T11 := .cons K10 fo47
def o63_s0 : Sch := ⟨[(0, .v (.c (.ro .y false))), (4, .v (.c (.i .i64))), (54, .v (.c (.b)))], []⟩
def p63 : Sch := ⟨[(0, .v (.c (.ro .y false)))], []⟩
def r63 : List Sch := [⟨[(0, .tup [.c (.own 0), .c (.i .i64)])], [.row .y 5]⟩]
def o63 (a0 : List UInt8) : Option (Int × List UInt8) :=
 (cnd (decide ((IntKind.wrap .i64 (((a0.length : Nat) : Int) - (4 : Int))) < (0 : Int))) (some ((4 : Int), ([] : List UInt8))) (gd (decide ((0 : Int) ≤ (IntKind.wrap .i64 (((a0.length : Nat) : Int) - (4 : Int))) ∧ (IntKind.wrap .i64 (((a0.length : Nat) : Int) - (4 : Int))) ≤ ((a0.length : Nat) : Int))) (bd (α := Int) (o81 (List.take (IntKind.wrap .i64 (((a0.length : Nat) : Int) - (4 : Int))).toNat a0)) (fun v1 => (bd (α := (List UInt8 × Int × Bool)) (gd (decide ((0 : Int) ≤ (IntKind.wrap .i64 (((a0.length : Nat) : Int) - (4 : Int))) ∧ (IntKind.wrap .i64 (((a0.length : Nat) : Int) - (4 : Int))) < ((a0.length : Nat) : Int))) (cnd (((UInt8.toNat (List.getD a0 (IntKind.wrap .i64 (((a0.length : Nat) : Int) - (4 : Int))).toNat (0 : UInt8)) : Nat) : Int) != (IntKind.wrap .u8 v1)) (some (a0, (IntKind.wrap .i64 (((a0.length : Nat) : Int) - (4 : Int))), true)) (gd (decide ((0 : Int) ≤ (IntKind.wrap .i64 ((IntKind.wrap .i64 (((a0.length : Nat) : Int) - (4 : Int))) + (1 : Int))) ∧ (IntKind.wrap .i64 ((IntKind.wrap .i64 (((a0.length : Nat) : Int) - (4 : Int))) + (1 : Int))) < ((a0.length : Nat) : Int))) (cnd (((UInt8.toNat (List.getD a0 (IntKind.wrap .i64 ((IntKind.wrap .i64 (((a0.length : Nat) : Int) - (4 : Int))) + (1 : Int))).toNat (0 : UInt8)) : Nat) : Int) != (IntKind.wrap .u8 (shrK .u32 v1 (8 : Int)))) (some (a0, (IntKind.wrap .i64 (((a0.length : Nat) : Int) - (4 : Int))), true)) (gd (decide ((0 : Int) ≤ (IntKind.wrap .i64 ((IntKind.wrap .i64 (((a0.length : Nat) : Int) - (4 : Int))) + (2 : Int))) ∧ (IntKind.wrap .i64 ((IntKind.wrap .i64 (((a0.length : Nat) : Int) - (4 : Int))) + (2 : Int))) < ((a0.length : Nat) : Int))) (cnd (((UInt8.toNat (List.getD a0 (IntKind.wrap .i64 ((IntKind.wrap .i64 (((a0.length : Nat) : Int) - (4 : Int))) + (2 : Int))).toNat (0 : UInt8)) : Nat) : Int) != (IntKind.wrap .u8 (shrK .u32 v1 (16 : Int)))) (some (a0, (IntKind.wrap .i64 (((a0.length : Nat) : Int) - (4 : Int))), true)) (gd (decide ((0 : Int) ≤ (IntKind.wrap .i64 ((IntKind.wrap .i64 (((a0.length : Nat) : Int) - (4 : Int))) + (3 : Int))) ∧ (IntKind.wrap .i64 ((IntKind.wrap .i64 (((a0.length : Nat) : Int) - (4 : Int))) + (3 : Int))) < ((a0.length : Nat) : Int))) (some (a0, (IntKind.wrap .i64 (((a0.length : Nat) : Int) - (4 : Int))), (((UInt8.toNat (List.getD a0 (IntKind.wrap .i64 ((IntKind.wrap .i64 (((a0.length : Nat) : Int) - (4 : Int))) + (3 : Int))).toNat (0 : UInt8)) : Nat) : Int) != (IntKind.wrap .u8 (shrK .u32 v1 (24 : Int))))))))))))) (fun v2 => (cnd v2.2.2 (some ((12 : Int), ([] : List UInt8))) (gd (decide ((0 : Int) ≤ v2.2.1 ∧ v2.2.1 ≤ ((v2.1.length : Nat) : Int))) (bd (α := (List UInt8)) (o47 (List.take v2.2.1.toNat v2.1)) (fun v3 => (some ((0 : Int), v3))))))))))))
theorem e63 (t : List UInt8) : evF (stpT Tryd.prog T11 K11) Tryd.f63 p63 r63 (.s .d (.s .d (.s .d (.s .d (.s (.s (.j false [o63_s0] .d) .d) .d))))) t = (o63 t) := by kernel_rfl
theorem fo63 : FOk Tryd.prog 63 ⟨p63, r63, fun t => (o63 t)⟩ := FOk.run_eq (evF_ok (h := (.s .d (.s .d (.s .d (.s .d (.s (.s (.j false [o63_s0] .d) .d) .d)))))) (by kernel_rfl) (by kernel_rfl) (by kernel_rfl)) e63
def T12 : Tbl := (63, ⟨p63, r63, fun t => (o63 t)⟩) :: T11
theorem K12 : TOk Tryd.prog T12 := .cons K11 fo63
def o64_s0 : Sch := ⟨[(0, .v (.c (.ro .y false))), (3, .v (.c (.i .u64))), (5, .v (.c (.i .i64)))], []⟩
def p64 : Sch := ⟨[(0, .v (.c (.ro .y false)))], []⟩
def r64 : List Sch := [⟨[(0, .v (.c (.i .u64)))], []⟩]
def o64 (a0 : List UInt8) : Option Int :=
 (loopO (σ := List UInt8 × Int × Int) fuelN (fun (v2 : List UInt8 × Int × Int) => (cnd (decide (v2.2.2 < (8 : Int))) (gd (decide ((0 : Int) ≤ v2.2.2 ∧ v2.2.2 < ((v2.1.length : Nat) : Int))) (gd (decide ((0 : Int) ≤ (IntKind.wrap .i64 ((8 : Int) * v2.2.2)))) (some (Ctl.go (v2.1, (lorK .u64 v2.2.1 (shlK .u64 (IntKind.wrap .u64 ((UInt8.toNat (List.getD v2.1 v2.2.2.toNat (0 : UInt8)) : Nat) : Int)) (IntKind.wrap .i64 ((8 : Int) * v2.2.2)))), (IntKind.wrap .i64 (v2.2.2 + (1 : Int)))))))) (dnO (some v2.2.1)))) (a0, (0 : Int), (0 : Int)))
theorem e64 (t : List UInt8) : evF (stpT Tryd.prog T12 K12) Tryd.f64 p64 r64 (.s .d (.s .d (.s (.s .d (.b (.l o64_s0 .d))) .d))) t = (o64 t) := by kernel_rfl
theorem fo64 : FOk Tryd.prog 64 ⟨p64, r64, fun t => (o64 t)⟩ := FOk.run_eq (evF_ok (h := (.s .d (.s .d (.s (.s .d (.b (.l o64_s0 .d))) .d)))) (by kernel_rfl) (by kernel_rfl) (by kernel_rfl)) e64
def T13 : Tbl := (64, ⟨p64, r64, fun t => (o64 t)⟩) :: T12
theorem K13 : TOk Tryd.prog T13 := .cons K12 fo64
def o38_s0 : Sch := ⟨[(6, .v (.c (.ptr 0 0))), (7, .v (.c (.b)))], [.cells 42 [.i .i64, .i .u8, .i .i64, .i .u64]]⟩
def p38 : Sch := ⟨[(0, .v (.c (.ro .y false))), (1, .v (.c (.i .i64))), (2, .v (.c (.i .i64)))], []⟩
def r38 : List Sch := [⟨[(0, .tup [.agg [.i .i64, .i .u8, .i .i64, .i .u64], .c (.b)])], []⟩]
def o38 (a0 : List UInt8) (a1 : Int) (a2 : Int) : Option (Int × Int × Int × Int × Bool) :=
 (gd (decide ((0 : Int) ≤ (0 : Int) ∧ (0 : Int) < ((a0.length : Nat) : Int))) (cnd (((UInt8.toNat (List.getD a0 (0 : Int).toNat (0 : UInt8)) : Nat) : Int) != (195 : Int)) (some ((0 : Int), (0 : Int), (0 : Int), (0 : Int), false)) (gd (decide ((0 : Int) ≤ (1 : Int) ∧ (1 : Int) ≤ (30 : Int) ∧ (30 : Int) ≤ ((a0.length : Nat) : Int))) (bd (α := (Int × List UInt8)) (o63 (List.take ((30 : Int).toNat - (1 : Int).toNat) (List.drop (1 : Int).toNat a0))) (fun v1 => (cnd (v1.1 != (0 : Int)) (some ((0 : Int), (0 : Int), (0 : Int), (0 : Int), false)) (bd (α := Int) (o64 v1.2) (fun v5 => (gd (decide ((0 : Int) ≤ (8 : Int) ∧ (8 : Int) ≤ ((v1.2.length : Nat) : Int))) (bd (α := Int) (o64 (List.take (v1.2.length - (8 : Int).toNat) (List.drop ((8 : Int).toNat) v1.2))) (fun v6 => (gd (decide ((0 : Int) ≤ (16 : Int) ∧ (16 : Int) ≤ ((v1.2.length : Nat) : Int))) (bd (α := Int) (o64 (List.take (v1.2.length - (16 : Int).toNat) (List.drop ((16 : Int).toNat) v1.2))) (fun v7 => (gd (decide ((0 : Int) ≤ (24 : Int) ∧ (24 : Int) < ((v1.2.length : Nat) : Int))) (bd (α := (Bool × Int × Int × Int × Int)) (cnd (decide (((UInt8.toNat (List.getD v1.2 ((24 : Int).toNat) (0 : UInt8)) : Nat) : Int) ≥ (1 : Int))) (cnd (decide (((UInt8.toNat (List.getD v1.2 ((24 : Int).toNat) (0 : UInt8)) : Nat) : Int) ≤ (8 : Int))) (cnd (decide (v5 ≥ (1 : Int))) (cnd (decide (v5 ≤ (4611686018427387904 : Int))) (gd (decide ((IntKind.wrap .u64 a2) ≠ 0)) (some (((Int.tmod v5 (IntKind.wrap .u64 a2)) == (IntKind.wrap .u64 a1)), (IntKind.wrap .i64 v7), ((UInt8.toNat (List.getD v1.2 ((24 : Int).toNat) (0 : UInt8)) : Nat) : Int), (IntKind.wrap .i64 v6), v5))) (some (false, (IntKind.wrap .i64 v7), ((UInt8.toNat (List.getD v1.2 ((24 : Int).toNat) (0 : UInt8)) : Nat) : Int), (IntKind.wrap .i64 v6), v5))) (some (false, (IntKind.wrap .i64 v7), ((UInt8.toNat (List.getD v1.2 ((24 : Int).toNat) (0 : UInt8)) : Nat) : Int), (IntKind.wrap .i64 v6), v5))) (some (false, (IntKind.wrap .i64 v7), ((UInt8.toNat (List.getD v1.2 ((24 : Int).toNat) (0 : UInt8)) : Nat) : Int), (IntKind.wrap .i64 v6), v5))) (some (false, (IntKind.wrap .i64 v7), ((UInt8.toNat (List.getD v1.2 ((24 : Int).toNat) (0 : UInt8)) : Nat) : Int), (IntKind.wrap .i64 v6), v5))) (fun v8 => (some (v8.2.1, v8.2.2.1, v8.2.2.2.1, v8.2.2.2.2, v8.1)))))))))))))))))))
theorem e38 (t : List UInt8 × Int × Int) : evF (stpT Tryd.prog T13 K13) Tryd.f38 p38 r38 (.s .d (.s .d (.s .d (.s .d (.s (.r 1) (.s (.j false [o38_s0] .d) .d)))))) t = (o38 t.1 t.2.1 t.2.2) := by kernel_rfl
theorem fo38 : FOk Tryd.prog 38 ⟨p38, r38, fun t => (o38 t.1 t.2.1 t.2.2)⟩ := FOk.run_eq (evF_ok (h := (.s .d (.s .d (.s .d (.s .d (.s (.r 1) (.s (.j false [o38_s0] .d) .d))))))) (by kernel_rfl) (by kernel_rfl) (by kernel_rfl)) e38
def T14 : Tbl := (38, ⟨p38, r38, fun t => (o38 t.1 t.2.1 t.2.2)⟩) :: T13
theorem K14 : TOk Tryd.prog T14 := .cons K13 fo38
def o13v1_s0 : Sch := ⟨[(0, .v (.c (.ptr 0 0))), (4, .v (.c (.ptr 2 0))), (18, .v (.c (.i .i64))), (19, .v (.c (.i .i64)))], [.cells 84 [.own 1, .i .i64, .b], .row .y 5, .cells 86 [.ptr 0 0, .own 3, .i .u64, .b], .row (.p (.i .i64) (.p (.i .u8) (.p (.i .i64) (.i .u64)))) 42]⟩
def p13v1 : Sch := ⟨[(0, .v (.c (.ptr 0 0)))], [.cells 84 [.own 1, .i .i64, .b], .row .y 5]⟩
def r13v1 : List Sch := [⟨[(0, .tup [.c (.cst (.pointer none)), .c (.ic .i64 (19))])], [.cells 84 [.own 1, .i .i64, .b], .row .y 5]⟩, ⟨[(0, .tup [.c (.ptr 2 0), .c (.ic .i64 (0))])], [.cells 84 [.own 1, .i .i64, .b], .row .y 5, .cells 86 [.ptr 0 0, .own 3, .i .u64, .b], .row (.p (.i .i64) (.p (.i .u8) (.p (.i .i64) (.i .u64)))) 42]⟩]
def o13v1 (a0 : Int) (a1 : Bool) (a2 : List UInt8) : Option ((Int × Bool × List UInt8) ⊕ (Int × Bool × List UInt8 × Int × Bool × List (Int × Int × Int × Int))) :=
 (cnd a1 (some (Sum.inl (a0, a1, a2))) (bd (α := Int) (o32 a2 a0 a1) (fun v1 => (loopO (σ := Int × Int × Int × Bool × List UInt8 × Int × Bool × List (Int × Int × Int × Int)) fuelN (fun (v7 : Int × Int × Int × Bool × List UInt8 × Int × Bool × List (Int × Int × Int × Int)) => (cnd (decide (v7.2.1 < v7.1)) (gd (decide ((0 : Int) ≤ (IntKind.wrap .i64 (v7.2.1 * (30 : Int))) ∧ (IntKind.wrap .i64 (v7.2.1 * (30 : Int))) ≤ ((v7.2.2.2.2.1.length : Nat) : Int))) (bd (α := Int) (o32 v7.2.2.2.2.1 v7.2.2.1 v7.2.2.2.1) (fun v10 => (bd (α := (Int × Int × Int × Int × Bool)) (o38 (List.take (v7.2.2.2.2.1.length - (IntKind.wrap .i64 (v7.2.1 * (30 : Int))).toNat) (List.drop ((IntKind.wrap .i64 (v7.2.1 * (30 : Int))).toNat) v7.2.2.2.2.1)) v7.2.1 v10) (fun v11 => (cnd v11.2.2.2.2 (gd (decide ((v7.2.2.2.2.2.2.2.length + ([(v11.1, (v11.2.1, (v11.2.2.1, v11.2.2.2.1)))] : List (Int × Int × Int × Int)).length) * 32 ≤ 140737488355328)) (some (Ctl.go (v7.1, (IntKind.wrap .i64 (v7.2.1 + (1 : Int))), v7.2.2.1, v7.2.2.2.1, v7.2.2.2.2.1, (maxI v7.2.2.2.2.2.1 (IntKind.wrap .u64 (v11.2.2.2.1 + (1 : Int)))), v7.2.2.2.2.2.2.1, (v7.2.2.2.2.2.2.2 ++ ([(v11.1, (v11.2.1, (v11.2.2.1, v11.2.2.2.1)))] : List (Int × Int × Int × Int))))))) (some (Ctl.go (v7.1, (IntKind.wrap .i64 (v7.2.1 + (1 : Int))), v7.2.2.1, v7.2.2.2.1, v7.2.2.2.2.1, v7.2.2.2.2.2.1, v7.2.2.2.2.2.2.1, v7.2.2.2.2.2.2.2))))))))) (dnO (bd (α := (List (Int × Int × Int × Int))) (o39 v7.2.2.2.2.2.2.2) (fun v12 => (some (Sum.inr (v7.2.2.1, v7.2.2.2.1, v7.2.2.2.2.1, v7.2.2.2.2.2.1, v7.2.2.2.2.2.2.1, v12)))))))) (v1, (0 : Int), a0, a1, a2, (1 : Int), false, ([] : List (Int × Int × Int × Int)))))))
theorem e13v1 (t : Int × Bool × List UInt8) : evF (stpT Tryd.prog T14 K14) Tryd.f13 p13v1 r13v1 (.s .d (.s .d (.s .d (.s .d (.s (.s .d (.b (.l o13v1_s0 (.s .d (.s .d (.s (.b (.s .d (.s (.r 1) (.s .d (.c (.s (.r 2) .d) .d))))) .d)))))) .d))))) t = (o13v1 t.1 t.2.1 t.2.2) := by kernel_rfl
theorem fo13v1 : FOk Tryd.prog 13 ⟨p13v1, r13v1, fun t => (o13v1 t.1 t.2.1 t.2.2)⟩ := FOk.run_eq (evF_ok (h := (.s .d (.s .d (.s .d (.s .d (.s (.s .d (.b (.l o13v1_s0 (.s .d (.s .d (.s (.b (.s .d (.s (.r 1) (.s .d (.c (.s (.r 2) .d) .d))))) .d)))))) .d)))))) (by kernel_rfl) (by kernel_rfl) (by kernel_rfl)) e13v1
def T15 : Tbl := (13, ⟨p13v1, r13v1, fun t => (o13v1 t.1 t.2.1 t.2.2)⟩) :: T14
theorem K15 : TOk Tryd.prog T15 := .cons K14 fo13v1
def o42_s0 : Sch := ⟨[(0, .v (.c (.ptr 0 0))), (1, .v (.c (.i .i64))), (7, .v (.c (.i .i64))), (8, .v (.c (.i .u8))), (9, .v (.c (.ro .y false))), (10, .v (.c (.i .i64))), (11, .v (.c (.i .i64)))], [.cells 84 [.own 1, .i .i64, .b], .row .y 5]⟩
def o42_s1 : Sch := ⟨[(0, .v (.c (.ptr 0 0))), (1, .v (.c (.i .i64))), (9, .v (.c (.ro .y false))), (10, .v (.c (.i .i64))), (11, .v (.c (.i .i64)))], [.cells 84 [.own 1, .i .i64, .b], .row .y 5]⟩
def p42 : Sch := ⟨[(0, .v (.c (.ptr 0 0))), (1, .v (.c (.i .i64))), (2, .v (.c (.ro .y false)))], [.cells 84 [.own 1, .i .i64, .b], .row .y 5]⟩
def r42 : List Sch := [⟨[(0, .v (.c (.b)))], [.cells 84 [.own 1, .i .i64, .b], .row .y 5]⟩]
def o42 (a0 : Int) (a1 : List UInt8) (a2 : Int) (a3 : Bool) (a4 : List UInt8) : Option (Bool × Int × Bool × List UInt8) :=
 (loopO (σ := Int × List UInt8 × Int × Int × Int × Bool × List UInt8) fuelN (fun (v3 : Int × List UInt8 × Int × Int × Int × Bool × List UInt8) => (cnd (decide (v3.2.2.2.1 < v3.2.2.1)) (gd (decide ((0 : Int) ≤ v3.2.2.2.1 ∧ v3.2.2.2.1 < ((v3.2.1.length : Nat) : Int))) (cnd v3.2.2.2.2.2.1 (dnO (some (false, v3.2.2.2.2.1, v3.2.2.2.2.2.1, v3.2.2.2.2.2.2))) (cnd (v3.2.2.2.2.1 == (0 : Int)) (dnO (some (false, (-1 : Int), true, v3.2.2.2.2.2.2))) (bd (α := (Int × Int × Int × List UInt8 × Int × Int × Int × Bool × List UInt8)) (cnd (decide (v3.2.2.2.2.1 > (0 : Int))) (some (v3.1, v3.2.2.2.1, ((UInt8.toNat (List.getD v3.2.1 v3.2.2.2.1.toNat (0 : UInt8)) : Nat) : Int), v3.2.1, v3.2.2.1, v3.2.2.2.1, (IntKind.wrap .i64 (v3.2.2.2.2.1 - (1 : Int))), v3.2.2.2.2.2.1, v3.2.2.2.2.2.2)) (some (v3.1, v3.2.2.2.1, ((UInt8.toNat (List.getD v3.2.1 v3.2.2.2.1.toNat (0 : UInt8)) : Nat) : Int), v3.2.1, v3.2.2.1, v3.2.2.2.1, v3.2.2.2.2.1, v3.2.2.2.2.2.1, v3.2.2.2.2.2.2))) (fun v4 => (gd (decide ((0 : Int) ≤ (IntKind.wrap .i64 (v4.1 + v4.2.1)) ∧ (IntKind.wrap .i64 (v4.1 + v4.2.1)) < ((v4.2.2.2.2.2.2.2.2.length : Nat) : Int))) (some (Ctl.go (v4.1, v4.2.2.2.1, v4.2.2.2.2.1, (IntKind.wrap .i64 (v4.2.2.2.2.2.1 + (1 : Int))), v4.2.2.2.2.2.2.1, v4.2.2.2.2.2.2.2.1, (List.set v4.2.2.2.2.2.2.2.2 ((IntKind.wrap .i64 (v4.1 + v4.2.1)).toNat) (u8 v4.2.2.1))))))))))) (dnO (some (true, v3.2.2.2.2.1, v3.2.2.2.2.2.1, v3.2.2.2.2.2.2))))) (a0, a1, ((a1.length : Nat) : Int), (0 : Int), a2, a3, a4))
theorem e42 (t : Int × List UInt8 × Int × Bool × List UInt8) : evF (stpT Tryd.prog T15 K15) Tryd.f42 p42 r42 (.s .d (.s (.s .d (.b (.l o42_s1 (.s .d (.s .d (.s (.b (.s .d (.s .d (.s .d (.j false [o42_s0] .d))))) .d)))))) .d)) t = (o42 t.1 t.2.1 t.2.2.1 t.2.2.2.1 t.2.2.2.2) := by kernel_rfl
theorem fo42 : FOk Tryd.prog 42 ⟨p42, r42, fun t => (o42 t.1 t.2.1 t.2.2.1 t.2.2.2.1 t.2.2.2.2)⟩ := FOk.run_eq (evF_ok (h := (.s .d (.s (.s .d (.b (.l o42_s1 (.s .d (.s .d (.s (.b (.s .d (.s .d (.s .d (.j false [o42_s0] .d))))) .d)))))) .d))) (by kernel_rfl) (by kernel_rfl) (by kernel_rfl)) e42
def T16 : Tbl := (42, ⟨p42, r42, fun t => (o42 t.1 t.2.1 t.2.2.1 t.2.2.2.1 t.2.2.2.2)⟩) :: T15
theorem K16 : TOk Tryd.prog T16 := .cons K15 fo42
def o69_s0 : Sch := ⟨[(0, .v (.c (.i .u64))), (3, .v (.c (.own 0))), (7, .v (.c (.i .i64))), (8, .v (.c (.i .i64)))], [.row .y 5]⟩
def p69 : Sch := ⟨[(0, .v (.c (.i .u64)))], []⟩
def r69 : List Sch := [⟨[(0, .v (.c (.own 0)))], [.row .y 5]⟩]
def o69 (a0 : Int) : Option (List UInt8) :=
 (loopO (σ := Int × Int × Int × List UInt8) fuelN (fun (v2 : Int × Int × Int × List UInt8) => (cnd (decide (v2.2.2.1 < v2.2.1)) (gd (decide ((0 : Int) ≤ (IntKind.wrap .i64 ((8 : Int) * v2.2.2.1)))) (gd (decide ((0 : Int) ≤ v2.2.2.1 ∧ v2.2.2.1 < ((v2.2.2.2.length : Nat) : Int))) (some (Ctl.go (v2.1, v2.2.1, (IntKind.wrap .i64 (v2.2.2.1 + (1 : Int))), (List.set v2.2.2.2 v2.2.2.1.toNat (u8 (IntKind.wrap .u8 (shrK .u64 v2.1 (IntKind.wrap .i64 ((8 : Int) * v2.2.2.1))))))))))) (dnO (some v2.2.2.2)))) (a0, (((List.replicate (8 : Int).toNat (u8 (0 : Int))).length : Nat) : Int), (0 : Int), (List.replicate (8 : Int).toNat (u8 (0 : Int)))))
theorem e69 (t : Int) : evF (stpT Tryd.prog T16 K16) Tryd.f69 p69 r69 (.s .d (.s .d (.s (.s .d (.b (.l o69_s0 .d))) .d))) t = (o69 t) := by kernel_rfl
theorem fo69 : FOk Tryd.prog 69 ⟨p69, r69, fun t => (o69 t)⟩ := FOk.run_eq (evF_ok (h := (.s .d (.s .d (.s (.s .d (.b (.l o69_s0 .d))) .d)))) (by kernel_rfl) (by kernel_rfl) (by kernel_rfl)) e69
def T17 : Tbl := (69, ⟨p69, r69, fun t => (o69 t)⟩) :: T16
theorem K17 : TOk Tryd.prog T17 := .cons K16 fo69
def p92 : Sch := ⟨[(0, .v (.c (.cst (.slice none 0 0)))), (1, .v (.c (.i .i64)))], []⟩
def r92 : List Sch := [⟨[(0, .v (.c (.own 0)))], [.row .y 5]⟩]
def o92 (a0 : Int) : Option (List UInt8) :=
 (cnd (decide (a0 < (0 : Int))) none (cnd (decide ((IntKind.wrap .i64 (a0 - (IntKind.wrap .i64 ((0 : Int) - (0 : Int))))) > (0 : Int))) (gd (decide ((0 : Int) ≤ (0 : Int) ∧ (0 : Int) ≤ ((0 : Nat) : Int))) (gd (decide ((0 : Int) < (IntKind.wrap .i64 (a0 - (IntKind.wrap .i64 ((0 : Int) - (0 : Int))))) ∧ (IntKind.wrap .i64 (a0 - (IntKind.wrap .i64 ((0 : Int) - (0 : Int))))) * (1 : Int) ≤ (140737488355328 : Int))) (gd (decide ((0 : Int) ≤ (0 : Int) ∧ (0 : Int) ≤ (((List.replicate (IntKind.wrap .i64 (a0 - (IntKind.wrap .i64 ((0 : Int) - (0 : Int))))).toNat (u8 (0 : Int))).length : Nat) : Int))) (some (List.take ((0 : Int).toNat) (List.replicate (IntKind.wrap .i64 (a0 - (IntKind.wrap .i64 ((0 : Int) - (0 : Int))))).toNat (u8 (0 : Int)))))))) (some ([] : List UInt8))))
theorem e92 (t : Int) : evF (stpT Tryd.prog T17 K17) Tryd.f92 p92 r92 .d t = (o92 t) := by kernel_rfl
theorem fo92 : FOk Tryd.prog 92 ⟨p92, r92, fun t => (o92 t)⟩ := FOk.run_eq (evF_ok (h := .d) (by kernel_rfl) (by kernel_rfl) (by kernel_rfl)) e92
def T18 : Tbl := (92, ⟨p92, r92, fun t => (o92 t)⟩) :: T17
theorem K18 : TOk Tryd.prog T18 := .cons K17 fo92
def o68_s0 : Sch := ⟨[(0, .v (.c (.ro (.a .y) false))), (3, .v (.c (.i .i64))), (9, .v (.c (.ro (.a .y) false))), (10, .v (.c (.i .i64))), (11, .v (.c (.i .i64)))], []⟩
def o68_s1 : Sch := ⟨[(6, .v (.c (.own 0))), (25, .v (.c (.ro (.a .y) false))), (26, .v (.c (.i .i64))), (27, .v (.c (.i .i64)))], [.row .y 5]⟩
def p68 : Sch := ⟨[(0, .v (.c (.ro (.a .y) false)))], []⟩
def r68 : List Sch := [⟨[(0, .v (.c (.own 0)))], [.row .y 5]⟩]
def o68 (a0 : List (List UInt8)) : Option (List UInt8) :=
 (loopO (σ := List (List UInt8) × Int × List (List UInt8) × Int × Int) fuelN (fun (v2 : List (List UInt8) × Int × List (List UInt8) × Int × Int) => (cnd (decide (v2.2.2.2.2 < v2.2.2.2.1)) (gd (decide ((0 : Int) ≤ v2.2.2.2.2 ∧ v2.2.2.2.2 < ((v2.2.2.1.length : Nat) : Int))) (cnd (decide ((IntKind.wrap .i64 (v2.2.1 + (((List.getD v2.2.2.1 v2.2.2.2.2.toNat ([] : List UInt8)).length : Nat) : Int))) < (0 : Int))) none (some (Ctl.go (v2.1, (IntKind.wrap .i64 (v2.2.1 + (((List.getD v2.2.2.1 v2.2.2.2.2.toNat ([] : List UInt8)).length : Nat) : Int))), v2.2.2.1, v2.2.2.2.1, (IntKind.wrap .i64 (v2.2.2.2.2 + (1 : Int)))))))) (dnO (bd (α := (List UInt8)) (o92 v2.2.1) (fun v3 => (loopO (σ := List (List UInt8) × Int × Int × List UInt8) fuelN (fun (v5 : List (List UInt8) × Int × Int × List UInt8) => (cnd (decide (v5.2.2.1 < v5.2.1)) (gd (decide ((0 : Int) ≤ v5.2.2.1 ∧ v5.2.2.1 < ((v5.1.length : Nat) : Int))) (gd (decide ((v5.2.2.2.length + (List.getD v5.1 v5.2.2.1.toNat ([] : List UInt8)).length) * 1 ≤ 140737488355328)) (some (Ctl.go (v5.1, v5.2.1, (IntKind.wrap .i64 (v5.2.2.1 + (1 : Int))), (v5.2.2.2 ++ (List.getD v5.1 v5.2.2.1.toNat ([] : List UInt8)))))))) (dnO (some v5.2.2.2)))) (v2.1, ((v2.1.length : Nat) : Int), (0 : Int), v3))))))) (a0, (0 : Int), a0, ((a0.length : Nat) : Int), (0 : Int)))
theorem e68 (t : List (List UInt8)) : evF (stpT Tryd.prog T18 K18) Tryd.f68 p68 r68 (.s .d (.s .d (.s (.s .d (.b (.l o68_s0 .d))) (.s .d (.s (.s .d (.b (.l o68_s1 .d))) .d))))) t = (o68 t) := by kernel_rfl
theorem fo68 : FOk Tryd.prog 68 ⟨p68, r68, fun t => (o68 t)⟩ := FOk.run_eq (evF_ok (h := (.s .d (.s .d (.s (.s .d (.b (.l o68_s0 .d))) (.s .d (.s (.s .d (.b (.l o68_s1 .d))) .d)))))) (by kernel_rfl) (by kernel_rfl) (by kernel_rfl)) e68
def T19 : Tbl := (68, ⟨p68, r68, fun t => (o68 t)⟩) :: T18
theorem K19 : TOk Tryd.prog T19 := .cons K18 fo68
def p70 : Sch := ⟨[(0, .v (.c (.ro .y false)))], []⟩
def r70 : List Sch := [⟨[(0, .v (.c (.own 0)))], [.row .y 5]⟩]
def o70 (a0 : List UInt8) : Option (List UInt8) :=
 (bd (α := Int) (o81 a0) (fun v1 => (bd (α := (List UInt8)) (o47 a0) (fun v2 => (gd (decide ((v2.length + ([(u8 (IntKind.wrap .u8 v1)), (u8 (IntKind.wrap .u8 (shrK .u32 v1 (8 : Int)))), (u8 (IntKind.wrap .u8 (shrK .u32 v1 (16 : Int)))), (u8 (IntKind.wrap .u8 (shrK .u32 v1 (24 : Int))))] : List UInt8).length) * 1 ≤ 140737488355328)) (some (v2 ++ ([(u8 (IntKind.wrap .u8 v1)), (u8 (IntKind.wrap .u8 (shrK .u32 v1 (8 : Int)))), (u8 (IntKind.wrap .u8 (shrK .u32 v1 (16 : Int)))), (u8 (IntKind.wrap .u8 (shrK .u32 v1 (24 : Int))))] : List UInt8))))))))
theorem e70 (t : List UInt8) : evF (stpT Tryd.prog T19 K19) Tryd.f70 p70 r70 .d t = (o70 t) := by kernel_rfl
theorem fo70 : FOk Tryd.prog 70 ⟨p70, r70, fun t => (o70 t)⟩ := FOk.run_eq (evF_ok (h := .d) (by kernel_rfl) (by kernel_rfl) (by kernel_rfl)) e70
def T20 : Tbl := (70, ⟨p70, r70, fun t => (o70 t)⟩) :: T19
theorem K20 : TOk Tryd.prog T20 := .cons K19 fo70
def p43 : Sch := ⟨[(0, .v (.agg [.i .i64, .i .u8, .i .i64, .i .u64]))], []⟩
def r43 : List Sch := [⟨[(0, .v (.c (.own 0)))], [.row .y 5]⟩]
def o43 (a0 : Int) (a1 : Int) (a2 : Int) (a3 : Int) : Option (List UInt8) :=
 (bd (α := (List UInt8)) (o69 a3) (fun v5 => (bd (α := (List UInt8)) (o69 (IntKind.wrap .u64 a2)) (fun v6 => (bd (α := (List UInt8)) (o69 (IntKind.wrap .u64 a0)) (fun v7 => (bd (α := (List UInt8)) (o68 ([v5, v6, v7, ([(u8 a1)] : List UInt8)] : List (List UInt8))) (fun v8 => (bd (α := (List UInt8)) (o70 v8) (fun v9 => (some v9)))))))))))
theorem e43 (t : Int × Int × Int × Int) : evF (stpT Tryd.prog T20 K20) Tryd.f43 p43 r43 (.s .d (.s (.r 6) .d)) t = (o43 t.1 t.2.1 t.2.2.1 t.2.2.2) := by kernel_rfl
theorem fo43 : FOk Tryd.prog 43 ⟨p43, r43, fun t => (o43 t.1 t.2.1 t.2.2.1 t.2.2.2)⟩ := FOk.run_eq (evF_ok (h := (.s .d (.s (.r 6) .d))) (by kernel_rfl) (by kernel_rfl) (by kernel_rfl)) e43
def T21 : Tbl := (43, ⟨p43, r43, fun t => (o43 t.1 t.2.1 t.2.2.1 t.2.2.2)⟩) :: T20
theorem K21 : TOk Tryd.prog T21 := .cons K20 fo43
def p45 : Sch := ⟨[(0, .v (.agg [.i .i64, .i .u8, .i .i64, .i .u64])), (1, .v (.c (.ptr 0 0))), (2, .v (.c (.ptr 1 0)))], [.lent [.i .u64], .lent [.i .i64, .i .u8, .i .i64, .i .u64]]⟩
def r45 : List Sch := [⟨[(0, .v (.c (.b)))], [.no, .no]⟩]
def o45 (a0 : Int) (a1 : Int) (a2 : Int) (a3 : Int) (a4 : Int) (a5 : Int) (a6 : Int) (a7 : Int) (a8 : Int) : Option Bool :=
 (gd (decide (a4 ≠ 0)) (gd (decide (a4 ≠ 0)) (some ((Int.tmod a3 a4) == (Int.tmod a8 a4)))))
theorem e45 (t : Int × Int × Int × Int × Int × Int × Int × Int × Int) : evF (stpT Tryd.prog T21 K21) Tryd.f45 p45 r45 .d t = (o45 t.1 t.2.1 t.2.2.1 t.2.2.2.1 t.2.2.2.2.1 t.2.2.2.2.2.1 t.2.2.2.2.2.2.1 t.2.2.2.2.2.2.2.1 t.2.2.2.2.2.2.2.2) := by kernel_rfl
theorem fo45 : FOk Tryd.prog 45 ⟨p45, r45, fun t => (o45 t.1 t.2.1 t.2.2.1 t.2.2.2.1 t.2.2.2.2.1 t.2.2.2.2.2.1 t.2.2.2.2.2.2.1 t.2.2.2.2.2.2.2.1 t.2.2.2.2.2.2.2.2)⟩ := FOk.run_eq (evF_ok (h := .d) (by kernel_rfl) (by kernel_rfl) (by kernel_rfl)) e45
def T22 : Tbl := (45, ⟨p45, r45, fun t => (o45 t.1 t.2.1 t.2.2.1 t.2.2.2.1 t.2.2.2.2.1 t.2.2.2.2.2.1 t.2.2.2.2.2.2.1 t.2.2.2.2.2.2.2.1 t.2.2.2.2.2.2.2.2)⟩) :: T21
theorem K22 : TOk Tryd.prog T22 := .cons K21 fo45
def o71_s0 : Sch := ⟨[(0, .v (.c (.ro (.p (.i .i64) (.p (.i .u8) (.p (.i .i64) (.i .u64)))) false))), (1, .v (.c (.cap (.cap (.fn 45) (.ptr 0 0)) (.ptr 1 0)))), (7, .v (.c (.i .i64))), (8, .v (.c (.i .i64)))], [.cells 38 [.i .u64], .cells 42 [.i .i64, .i .u8, .i .i64, .i .u64]]⟩
def p71 : Sch := ⟨[(0, .v (.c (.ro (.p (.i .i64) (.p (.i .u8) (.p (.i .i64) (.i .u64)))) false))), (1, .v (.c (.cap (.cap (.fn 45) (.ptr 0 0)) (.ptr 1 0))))], [.cells 38 [.i .u64], .cells 42 [.i .i64, .i .u8, .i .i64, .i .u64]]⟩
def r71 : List Sch := [⟨[(0, .v (.c (.i .i64)))], [.cells 38 [.i .u64], .cells 42 [.i .i64, .i .u8, .i .i64, .i .u64]]⟩]
def o71 (a0 : List (Int × Int × Int × Int)) (a1 : Int) (a2 : Int) (a3 : Int) (a4 : Int) (a5 : Int) : Option (Int × Int × Int × Int × Int × Int) :=
 (loopO (σ := List (Int × Int × Int × Int) × Int × Int × Int × Int × Int × Int × Int) fuelN (fun (v3 : List (Int × Int × Int × Int) × Int × Int × Int × Int × Int × Int × Int) => (cnd (decide (v3.2.2.1 < v3.2.1)) (gd (decide ((0 : Int) ≤ v3.2.2.1 ∧ v3.2.2.1 < ((v3.1.length : Nat) : Int))) (bd (α := Bool) (o45 ((List.getD v3.1 v3.2.2.1.toNat ((0 : Int), ((0 : Int), ((0 : Int), (0 : Int))))).1) (((List.getD v3.1 v3.2.2.1.toNat ((0 : Int), ((0 : Int), ((0 : Int), (0 : Int))))).2).1) ((((List.getD v3.1 v3.2.2.1.toNat ((0 : Int), ((0 : Int), ((0 : Int), (0 : Int))))).2).2).1) ((((List.getD v3.1 v3.2.2.1.toNat ((0 : Int), ((0 : Int), ((0 : Int), (0 : Int))))).2).2).2) v3.2.2.2.1 v3.2.2.2.2.1 v3.2.2.2.2.2.1 v3.2.2.2.2.2.2.1 v3.2.2.2.2.2.2.2) (fun v4 => (cnd v4 (dnO (some (v3.2.2.1, v3.2.2.2.1, v3.2.2.2.2.1, v3.2.2.2.2.2.1, v3.2.2.2.2.2.2.1, v3.2.2.2.2.2.2.2))) (some (Ctl.go (v3.1, v3.2.1, (IntKind.wrap .i64 (v3.2.2.1 + (1 : Int))), v3.2.2.2.1, v3.2.2.2.2.1, v3.2.2.2.2.2.1, v3.2.2.2.2.2.2.1, v3.2.2.2.2.2.2.2))))))) (dnO (some ((-1 : Int), v3.2.2.2.1, v3.2.2.2.2.1, v3.2.2.2.2.2.1, v3.2.2.2.2.2.2.1, v3.2.2.2.2.2.2.2))))) (a0, ((a0.length : Nat) : Int), (0 : Int), a1, a2, a3, a4, a5))
theorem e71 (t : List (Int × Int × Int × Int) × Int × Int × Int × Int × Int) : evF (stpT Tryd.prog T22 K22) Tryd.f71 p71 r71 (.s .d (.s (.s .d (.b (.l o71_s0 .d))) .d)) t = (o71 t.1 t.2.1 t.2.2.1 t.2.2.2.1 t.2.2.2.2.1 t.2.2.2.2.2) := by kernel_rfl
theorem fo71 : FOk Tryd.prog 71 ⟨p71, r71, fun t => (o71 t.1 t.2.1 t.2.2.1 t.2.2.2.1 t.2.2.2.2.1 t.2.2.2.2.2)⟩ := FOk.run_eq (evF_ok (h := (.s .d (.s (.s .d (.b (.l o71_s0 .d))) .d))) (by kernel_rfl) (by kernel_rfl) (by kernel_rfl)) e71
def T23 : Tbl := (71, ⟨p71, r71, fun t => (o71 t.1 t.2.1 t.2.2.1 t.2.2.2.1 t.2.2.2.2.1 t.2.2.2.2.2)⟩) :: T22
theorem K23 : TOk Tryd.prog T23 := .cons K22 fo71
def o44_s0 : Sch := ⟨[(0, .v (.c (.own 0))), (1, .v (.c (.cap (.cap (.fn 45) (.ptr 1 0)) (.ptr 2 0)))), (5, .v (.c (.i .i64))), (6, .v (.c (.i .i64)))], [.row (.p (.i .i64) (.p (.i .u8) (.p (.i .i64) (.i .u64)))) 42, .cells 38 [.i .u64], .cells 42 [.i .i64, .i .u8, .i .i64, .i .u64]]⟩
def p44 : Sch := ⟨[(0, .v (.c (.own 0))), (1, .v (.c (.cap (.cap (.fn 45) (.ptr 1 0)) (.ptr 2 0))))], [.row (.p (.i .i64) (.p (.i .u8) (.p (.i .i64) (.i .u64)))) 42, .cells 38 [.i .u64], .cells 42 [.i .i64, .i .u8, .i .i64, .i .u64]]⟩
def r44 : List Sch := [⟨[(0, .v (.c (.own 3)))], [.no, .cells 38 [.i .u64], .cells 42 [.i .i64, .i .u8, .i .i64, .i .u64], .row (.p (.i .i64) (.p (.i .u8) (.p (.i .i64) (.i .u64)))) 42]⟩]
def o44 (a0 : List (Int × Int × Int × Int)) (a1 : Int) (a2 : Int) (a3 : Int) (a4 : Int) (a5 : Int) : Option (Int × Int × Int × Int × Int × List (Int × Int × Int × Int)) :=
 (bd (α := (Int × Int × Int × Int × Int × Int)) (o71 a0 a1 a2 a3 a4 a5) (fun v1 => (cnd (v1.1 == (-1 : Int)) (some (v1.2.1, v1.2.2.1, v1.2.2.2.1, v1.2.2.2.2.1, v1.2.2.2.2.2, a0)) (loopO (σ := Int × Int × List (Int × Int × Int × Int) × Int × Int × Int × Int × Int) fuelN (fun (v2 : Int × Int × List (Int × Int × Int × Int) × Int × Int × Int × Int × Int) => (cnd (decide (v2.2.1 < ((v2.2.2.1.length : Nat) : Int))) (gd (decide ((0 : Int) ≤ v2.2.1 ∧ v2.2.1 < ((v2.2.2.1.length : Nat) : Int))) (bd (α := Bool) (o45 ((List.getD v2.2.2.1 v2.2.1.toNat ((0 : Int), ((0 : Int), ((0 : Int), (0 : Int))))).1) (((List.getD v2.2.2.1 v2.2.1.toNat ((0 : Int), ((0 : Int), ((0 : Int), (0 : Int))))).2).1) ((((List.getD v2.2.2.1 v2.2.1.toNat ((0 : Int), ((0 : Int), ((0 : Int), (0 : Int))))).2).2).1) ((((List.getD v2.2.2.1 v2.2.1.toNat ((0 : Int), ((0 : Int), ((0 : Int), (0 : Int))))).2).2).2) v2.2.2.2.1 v2.2.2.2.2.1 v2.2.2.2.2.2.1 v2.2.2.2.2.2.2.1 v2.2.2.2.2.2.2.2) (fun v3 => (cnd (!v3) (gd (decide ((0 : Int) ≤ v2.1 ∧ v2.1 < ((v2.2.2.1.length : Nat) : Int))) (some (Ctl.go ((IntKind.wrap .i64 (v2.1 + (1 : Int))), (IntKind.wrap .i64 (v2.2.1 + (1 : Int))), (List.set v2.2.2.1 v2.1.toNat ((List.getD v2.2.2.1 v2.2.1.toNat ((0 : Int), ((0 : Int), ((0 : Int), (0 : Int))))).1, (((List.getD v2.2.2.1 v2.2.1.toNat ((0 : Int), ((0 : Int), ((0 : Int), (0 : Int))))).2).1, ((((List.getD v2.2.2.1 v2.2.1.toNat ((0 : Int), ((0 : Int), ((0 : Int), (0 : Int))))).2).2).1, (((List.getD v2.2.2.1 v2.2.1.toNat ((0 : Int), ((0 : Int), ((0 : Int), (0 : Int))))).2).2).2)))), v2.2.2.2.1, v2.2.2.2.2.1, v2.2.2.2.2.2.1, v2.2.2.2.2.2.2.1, v2.2.2.2.2.2.2.2)))) (some (Ctl.go (v2.1, (IntKind.wrap .i64 (v2.2.1 + (1 : Int))), v2.2.2.1, v2.2.2.2.1, v2.2.2.2.2.1, v2.2.2.2.2.2.1, v2.2.2.2.2.2.2.1, v2.2.2.2.2.2.2.2))))))) (dnO (gd (decide ((0 : Int) ≤ v2.1 ∧ v2.1 ≤ ((v2.2.2.1.length : Nat) : Int))) (gd (decide (v2.1.toNat ≤ v2.2.2.1.length ∧ v2.2.2.1.length ≤ v2.2.2.1.length)) (gd (decide ((0 : Int) ≤ v2.1 ∧ v2.1 ≤ (((ovrL v2.2.2.1 v2.1.toNat (List.replicate (v2.2.2.1.length - v2.1.toNat) ((0 : Int), ((0 : Int), ((0 : Int), (0 : Int)))))).length : Nat) : Int))) (some (v2.2.2.2.1, v2.2.2.2.2.1, v2.2.2.2.2.2.1, v2.2.2.2.2.2.2.1, v2.2.2.2.2.2.2.2, (List.take v2.1.toNat (ovrL v2.2.2.1 v2.1.toNat (List.replicate (v2.2.2.1.length - v2.1.toNat) ((0 : Int), ((0 : Int), ((0 : Int), (0 : Int))))))))))))))) (v1.1, (IntKind.wrap .i64 (v1.1 + (1 : Int))), a0, v1.2.1, v1.2.2.1, v1.2.2.2.1, v1.2.2.2.2.1, v1.2.2.2.2.2)))))
theorem e44 (t : List (Int × Int × Int × Int) × Int × Int × Int × Int × Int) : evF (stpT Tryd.prog T23 K23) Tryd.f44 p44 r44 (.s .d (.s .d (.s .d (.s (.s .d (.b (.l o44_s0 .d))) .d)))) t = (o44 t.1 t.2.1 t.2.2.1 t.2.2.2.1 t.2.2.2.2.1 t.2.2.2.2.2) := by kernel_rfl
theorem fo44 : FOk Tryd.prog 44 ⟨p44, r44, fun t => (o44 t.1 t.2.1 t.2.2.1 t.2.2.2.1 t.2.2.2.2.1 t.2.2.2.2.2)⟩ := FOk.run_eq (evF_ok (h := (.s .d (.s .d (.s .d (.s (.s .d (.b (.l o44_s0 .d))) .d))))) (by kernel_rfl) (by kernel_rfl) (by kernel_rfl)) e44
def T24 : Tbl := (44, ⟨p44, r44, fun t => (o44 t.1 t.2.1 t.2.2.1 t.2.2.2.1 t.2.2.2.2.1 t.2.2.2.2.2)⟩) :: T23
theorem K24 : TOk Tryd.prog T24 := .cons K23 fo44
def o16_s0 : Sch := ⟨[(0, .v (.c (.ptr 0 0))), (1, .v (.c (.i .i64))), (2, .v (.c (.i .u8))), (3, .v (.c (.i .i64))), (20, .v (.c (.b)))], [.cells 86 [.ptr 1 0, .own 3, .i .u64, .b], .cells 84 [.own 2, .i .i64, .b], .row .y 5, .row (.p (.i .i64) (.p (.i .u8) (.p (.i .i64) (.i .u64)))) 42]⟩
def o16_s1 : Sch := ⟨[(0, .v (.c (.ptr 0 0))), (10, .v (.c (.ptr 4 0))), (11, .v (.c (.ptr 5 0))), (81, .v (.c (.b)))], [.cells 86 [.ptr 1 0, .own 3, .i .u64, .b], .cells 84 [.own 2, .i .i64, .b], .row .y 5, .row (.p (.i .i64) (.p (.i .u8) (.p (.i .i64) (.i .u64)))) 42, .cells 42 [.i .i64, .i .u8, .i .i64, .i .u64], .cells 38 [.i .u64]]⟩
def p16 : Sch := ⟨[(0, .v (.c (.ptr 0 0))), (1, .v (.c (.i .i64))), (2, .v (.c (.i .u8))), (3, .v (.c (.i .i64)))], [.cells 86 [.ptr 1 0, .own 3, .i .u64, .b], .cells 84 [.own 2, .i .i64, .b], .row .y 5, .row (.p (.i .i64) (.p (.i .u8) (.p (.i .i64) (.i .u64)))) 42]⟩
def r16 : List Sch := [⟨[(0, .tup [.c (.i .u64), .c (.i .i64)])], [.cells 86 [.ptr 1 0, .own 4, .i .u64, .b], .cells 84 [.own 2, .i .i64, .b], .row .y 5, .no, .row (.p (.i .i64) (.p (.i .u8) (.p (.i .i64) (.i .u64)))) 42]⟩]
def o16 (a0 : Int) (a1 : Int) (a2 : Int) (a3 : Int) (a4 : Bool) (a5 : Int) (a6 : Bool) (a7 : List UInt8) (a8 : List (Int × Int × Int × Int)) : Option (Int × Int × Int × Bool × Int × Bool × List UInt8 × List (Int × Int × Int × Int)) :=
 (bd (α := (Int × Int × Int × Bool × Int × Bool × Int × Bool × List UInt8 × List (Int × Int × Int × Int))) (cnd (decide (a1 < (1 : Int))) (some (a0, a1, a2, true, a3, a4, a5, a6, a7, a8)) (some (a0, a1, a2, (decide (a1 > (8 : Int))), a3, a4, a5, a6, a7, a8))) (fun v1 => (cnd v1.2.2.2.1 (some ((0 : Int), (2 : Int), v1.2.2.2.2.1, v1.2.2.2.2.2.1, v1.2.2.2.2.2.2.1, v1.2.2.2.2.2.2.2.1, v1.2.2.2.2.2.2.2.2.1, v1.2.2.2.2.2.2.2.2.2)) (cnd (decide (v1.2.2.2.2.1 > (4611686018427387904 : Int))) (some ((0 : Int), (3 : Int), v1.2.2.2.2.1, v1.2.2.2.2.2.1, v1.2.2.2.2.2.2.1, v1.2.2.2.2.2.2.2.1, v1.2.2.2.2.2.2.2.2.1, v1.2.2.2.2.2.2.2.2.2)) (bd (α := Int) (o32 v1.2.2.2.2.2.2.2.2.1 v1.2.2.2.2.2.2.1 v1.2.2.2.2.2.2.2.1) (fun v2 => (gd (decide ((IntKind.wrap .u64 v2) ≠ 0)) (bd (α := (Bool × Int × Bool × Int × Bool × List UInt8 × List (Int × Int × Int × Int) × Int × Int × Int × Int × Int)) (cnd v1.2.2.2.2.2.1 (some (true, v1.2.2.2.2.1, v1.2.2.2.2.2.1, v1.2.2.2.2.2.2.1, v1.2.2.2.2.2.2.2.1, v1.2.2.2.2.2.2.2.2.1, v1.2.2.2.2.2.2.2.2.2, v1.1, v1.2.1, v1.2.2.1, v1.2.2.2.2.1, (IntKind.wrap .u64 v2))) (bd (α := (Bool × Int × Bool × List UInt8)) (o42 (IntKind.wrap .i64 ((IntKind.wrap .i64 (Int.tmod v1.2.2.2.2.1 (IntKind.wrap .u64 v2))) * (30 : Int))) ([(u8 (0 : Int))] : List UInt8) v1.2.2.2.2.2.2.1 v1.2.2.2.2.2.2.2.1 v1.2.2.2.2.2.2.2.2.1) (fun v7 => (cnd (!v7.1) (some (true, v1.2.2.2.2.1, v1.2.2.2.2.2.1, v7.2.1, v7.2.2.1, v7.2.2.2, v1.2.2.2.2.2.2.2.2.2, v1.1, v1.2.1, v1.2.2.1, v1.2.2.2.2.1, (IntKind.wrap .u64 v2))) (bd (α := (List UInt8)) (o43 v1.1 v1.2.1 v1.2.2.1 v1.2.2.2.2.1) (fun v8 => (bd (α := (Bool × Int × Bool × List UInt8)) (o42 (IntKind.wrap .i64 ((IntKind.wrap .i64 ((IntKind.wrap .i64 (Int.tmod v1.2.2.2.2.1 (IntKind.wrap .u64 v2))) * (30 : Int))) + (1 : Int))) v8 v7.2.1 v7.2.2.1 v7.2.2.2) (fun v9 => (cnd (!v9.1) (some (true, v1.2.2.2.2.1, v1.2.2.2.2.2.1, v9.2.1, v9.2.2.1, v9.2.2.2, v1.2.2.2.2.2.2.2.2.2, v1.1, v1.2.1, v1.2.2.1, v1.2.2.2.2.1, (IntKind.wrap .u64 v2))) (bd (α := (Bool × Int × Bool × List UInt8)) (o42 (IntKind.wrap .i64 ((IntKind.wrap .i64 (Int.tmod v1.2.2.2.2.1 (IntKind.wrap .u64 v2))) * (30 : Int))) ([(u8 (195 : Int))] : List UInt8) v9.2.1 v9.2.2.1 v9.2.2.2) (fun v10 => (some ((!v10.1), v1.2.2.2.2.1, v1.2.2.2.2.2.1, v10.2.1, v10.2.2.1, v10.2.2.2, v1.2.2.2.2.2.2.2.2.2, v1.1, v1.2.1, v1.2.2.1, v1.2.2.2.2.1, (IntKind.wrap .u64 v2)))))))))))))) (fun v11 => (cnd v11.1 (some ((0 : Int), (19 : Int), v11.2.1, true, v11.2.2.2.1, v11.2.2.2.2.1, v11.2.2.2.2.2.1, v11.2.2.2.2.2.2.1)) (bd (α := (Int × Int × Int × Int × Int × List (Int × Int × Int × Int))) (o44 v11.2.2.2.2.2.2.1 v11.2.2.2.2.2.2.2.2.2.2.2 v11.2.2.2.2.2.2.2.1 v11.2.2.2.2.2.2.2.2.1 v11.2.2.2.2.2.2.2.2.2.1 v11.2.2.2.2.2.2.2.2.2.2.1) (fun v12 => (gd (decide ((v12.2.2.2.2.2.length + ([(v12.2.1, (v12.2.2.1, (v12.2.2.2.1, v12.2.2.2.2.1)))] : List (Int × Int × Int × Int)).length) * 32 ≤ 140737488355328)) (some (v12.2.2.2.2.1, (0 : Int), (IntKind.wrap .u64 (v11.2.1 + (1 : Int))), v11.2.2.1, v11.2.2.2.1, v11.2.2.2.2.1, v11.2.2.2.2.2.1, (v12.2.2.2.2.2 ++ ([(v12.2.1, (v12.2.2.1, (v12.2.2.2.1, v12.2.2.2.2.1)))] : List (Int × Int × Int × Int))))))))))))))))))
theorem e16 (t : Int × Int × Int × Int × Bool × Int × Bool × List UInt8 × List (Int × Int × Int × Int)) : evF (stpT Tryd.prog T24 K24) Tryd.f16 p16 r16 (.s .d (.s .d (.s (.s (.j false [o16_s0] .d) .d) (.s .d (.s .d (.s .d (.s .d (.s (.s (.j false [o16_s1] (.r 3)) .d) (.s .d (.s (.r 2) .d)))))))))) t = (o16 t.1 t.2.1 t.2.2.1 t.2.2.2.1 t.2.2.2.2.1 t.2.2.2.2.2.1 t.2.2.2.2.2.2.1 t.2.2.2.2.2.2.2.1 t.2.2.2.2.2.2.2.2) := by kernel_rfl
theorem fo16 : FOk Tryd.prog 16 ⟨p16, r16, fun t => (o16 t.1 t.2.1 t.2.2.1 t.2.2.2.1 t.2.2.2.2.1 t.2.2.2.2.2.1 t.2.2.2.2.2.2.1 t.2.2.2.2.2.2.2.1 t.2.2.2.2.2.2.2.2)⟩ := FOk.run_eq (evF_ok (h := (.s .d (.s .d (.s (.s (.j false [o16_s0] .d) .d) (.s .d (.s .d (.s .d (.s .d (.s (.s (.j false [o16_s1] (.r 3)) .d) (.s .d (.s (.r 2) .d))))))))))) (by kernel_rfl) (by kernel_rfl) (by kernel_rfl)) e16
def T25 : Tbl := (16, ⟨p16, r16, fun t => (o16 t.1 t.2.1 t.2.2.1 t.2.2.2.1 t.2.2.2.2.1 t.2.2.2.2.2.1 t.2.2.2.2.2.2.1 t.2.2.2.2.2.2.2.1 t.2.2.2.2.2.2.2.2)⟩) :: T24
theorem K25 : TOk Tryd.prog T25 := .cons K24 fo16
def p33 : Sch := ⟨[(0, .v (.c (.ptr 0 0)))], [.lent [.ro .y false, .i .i64, .b]]⟩
def r33 : List Sch := [⟨[(0, .v (.c (.ptr 1 0)))], [.no, .cells 84 [.own 2, .i .i64, .b], .row .y 5]⟩]
def o33 (a0 : List UInt8) (a1 : Int) (a2 : Bool) : Option (Int × Bool × List UInt8) :=
 (bd (α := (List UInt8)) (o47 a0) (fun v2 => (some (a1, a2, v2))))
theorem e33 (t : List UInt8 × Int × Bool) : evF (stpT Tryd.prog T25 K25) Tryd.f33 p33 r33 (.s .d (.s .d (.s (.r 2) .d))) t = (o33 t.1 t.2.1 t.2.2) := by kernel_rfl
theorem fo33 : FOk Tryd.prog 33 ⟨p33, r33, fun t => (o33 t.1 t.2.1 t.2.2)⟩ := FOk.run_eq (evF_ok (h := (.s .d (.s .d (.s (.r 2) .d)))) (by kernel_rfl) (by kernel_rfl) (by kernel_rfl)) e33
def T26 : Tbl := (33, ⟨p33, r33, fun t => (o33 t.1 t.2.1 t.2.2)⟩) :: T25
theorem K26 : TOk Tryd.prog T26 := .cons K25 fo33
def p46 : Sch := ⟨[(0, .v (.c (.ro (.p (.i .i64) (.p (.i .u8) (.p (.i .i64) (.i .u64)))) false)))], []⟩
def r46 : List Sch := [⟨[(0, .v (.c (.own 0)))], [.row (.p (.i .i64) (.p (.i .u8) (.p (.i .i64) (.i .u64)))) 42]⟩]
def o46 (a0 : List (Int × Int × Int × Int)) : Option (List (Int × Int × Int × Int)) :=
 (nlO (List.isEmpty a0) (some ([] : List (Int × Int × Int × Int))) (gd (decide ((([] : List (Int × Int × Int × Int)).length + a0.length) * 32 ≤ 140737488355328)) (some (([] : List (Int × Int × Int × Int)) ++ a0))))
theorem e46 (t : List (Int × Int × Int × Int)) : evF (stpT Tryd.prog T26 K26) Tryd.f46 p46 r46 .d t = (o46 t) := by kernel_rfl
theorem fo46 : FOk Tryd.prog 46 ⟨p46, r46, fun t => (o46 t)⟩ := FOk.run_eq (evF_ok (h := .d) (by kernel_rfl) (by kernel_rfl) (by kernel_rfl)) e46
def T27 : Tbl := (46, ⟨p46, r46, fun t => (o46 t)⟩) :: T26
theorem K27 : TOk Tryd.prog T27 := .cons K26 fo46
def p19 : Sch := ⟨[(0, .v (.c (.ptr 0 0)))], [.lent [.ptr 1 0, .ro (.p (.i .i64) (.p (.i .u8) (.p (.i .i64) (.i .u64)))) false, .i .u64, .b], .lent [.ro .y false, .i .i64, .b]]⟩
def r19 : List Sch := [⟨[(0, .v (.c (.own 2)))], [.no, .no, .row (.p (.i .i64) (.p (.i .u8) (.p (.i .i64) (.i .u64)))) 42]⟩]
def o19 (a0 : List (Int × Int × Int × Int)) (a1 : Int) (a2 : Bool) (a3 : List UInt8) (a4 : Int) (a5 : Bool) : Option (List (Int × Int × Int × Int)) :=
 (bd (α := (List (Int × Int × Int × Int))) (o46 a0) (fun v1 => (some v1)))
theorem e19 (t : List (Int × Int × Int × Int) × Int × Bool × List UInt8 × Int × Bool) : evF (stpT Tryd.prog T27 K27) Tryd.f19 p19 r19 .d t = (o19 t.1 t.2.1 t.2.2.1 t.2.2.2.1 t.2.2.2.2.1 t.2.2.2.2.2) := by kernel_rfl
theorem fo19 : FOk Tryd.prog 19 ⟨p19, r19, fun t => (o19 t.1 t.2.1 t.2.2.1 t.2.2.2.1 t.2.2.2.2.1 t.2.2.2.2.2)⟩ := FOk.run_eq (evF_ok (h := .d) (by kernel_rfl) (by kernel_rfl) (by kernel_rfl)) e19
def T28 : Tbl := (19, ⟨p19, r19, fun t => (o19 t.1 t.2.1 t.2.2.1 t.2.2.2.1 t.2.2.2.2.1 t.2.2.2.2.2)⟩) :: T27
theorem K28 : TOk Tryd.prog T28 := .cons K27 fo19
def o36_s0 : Sch := ⟨[(3, .v (.c (.s))), (6, .v (.c (.ro (.p (.i .i64) (.p (.i .u8) (.p (.i .i64) (.i .u64)))) false))), (7, .v (.c (.i .i64))), (8, .v (.c (.i .i64)))], []⟩
def p36 : Sch := ⟨[(0, .v (.c (.ro (.p (.i .i64) (.p (.i .u8) (.p (.i .i64) (.i .u64)))) false)))], []⟩
def r36 : List Sch := [⟨[(0, .v (.c (.s)))], []⟩]
def o36 (a0 : List (Int × Int × Int × Int)) : Option (List UInt8) :=
 (loopO (σ := List UInt8 × List (Int × Int × Int × Int) × Int × Int) fuelN (fun (v10 : List UInt8 × List (Int × Int × Int × Int) × Int × Int) => (cnd (decide (v10.2.2.2 < v10.2.2.1)) (gd (decide ((0 : Int) ≤ v10.2.2.2 ∧ v10.2.2.2 < ((v10.2.1.length : Nat) : Int))) (bd (α := (List UInt8)) (o58 ((((List.getD v10.2.1 v10.2.2.2.toNat ((0 : Int), ((0 : Int), ((0 : Int), (0 : Int))))).2).2).2)) (fun v15 => (gd (decide (v15.length + ([32] : List UInt8).length ≤ 140737488355328)) (bd (α := (List UInt8)) (o59 ((((List.getD v10.2.1 v10.2.2.2.toNat ((0 : Int), ((0 : Int), ((0 : Int), (0 : Int))))).2).2).1)) (fun v16 => (gd (decide ((v15 ++ ([32] : List UInt8)).length + v16.length ≤ 140737488355328)) (gd (decide (((v15 ++ ([32] : List UInt8)) ++ v16).length + ([32] : List UInt8).length ≤ 140737488355328)) (bd (α := (List UInt8)) (o59 ((List.getD v10.2.1 v10.2.2.2.toNat ((0 : Int), ((0 : Int), ((0 : Int), (0 : Int))))).1)) (fun v17 => (gd (decide ((((v15 ++ ([32] : List UInt8)) ++ v16) ++ ([32] : List UInt8)).length + v17.length ≤ 140737488355328)) (gd (decide (((((v15 ++ ([32] : List UInt8)) ++ v16) ++ ([32] : List UInt8)) ++ v17).length + ([32] : List UInt8).length ≤ 140737488355328)) (bd (α := (List UInt8)) (o60 (IntKind.wrap .i64 (((List.getD v10.2.1 v10.2.2.2.toNat ((0 : Int), ((0 : Int), ((0 : Int), (0 : Int))))).2).1))) (fun v18 => (gd (decide ((((((v15 ++ ([32] : List UInt8)) ++ v16) ++ ([32] : List UInt8)) ++ v17) ++ ([32] : List UInt8)).length + v18.length ≤ 140737488355328)) (gd (decide (((((((v15 ++ ([32] : List UInt8)) ++ v16) ++ ([32] : List UInt8)) ++ v17) ++ ([32] : List UInt8)) ++ v18).length + ([10] : List UInt8).length ≤ 140737488355328)) (gd (decide (v10.1.length + (((((((v15 ++ ([32] : List UInt8)) ++ v16) ++ ([32] : List UInt8)) ++ v17) ++ ([32] : List UInt8)) ++ v18) ++ ([10] : List UInt8)).length ≤ 140737488355328)) (some (Ctl.go ((v10.1 ++ (((((((v15 ++ ([32] : List UInt8)) ++ v16) ++ ([32] : List UInt8)) ++ v17) ++ ([32] : List UInt8)) ++ v18) ++ ([10] : List UInt8))), v10.2.1, v10.2.2.1, (IntKind.wrap .i64 (v10.2.2.2 + (1 : Int))))))))))))))))))))))) (dnO (some v10.1)))) (([] : List UInt8), a0, ((a0.length : Nat) : Int), (0 : Int)))
theorem e36 (t : List (Int × Int × Int × Int)) : evF (stpT Tryd.prog T28 K28) Tryd.f36 p36 r36 (.s .d (.s .d (.s (.s .d (.b (.l o36_s0 .d))) .d))) t = (o36 t) := by kernel_rfl
theorem fo36 : FOk Tryd.prog 36 ⟨p36, r36, fun t => (o36 t)⟩ := FOk.run_eq (evF_ok (h := (.s .d (.s .d (.s (.s .d (.b (.l o36_s0 .d))) .d)))) (by kernel_rfl) (by kernel_rfl) (by kernel_rfl)) e36
def T29 : Tbl := (36, ⟨p36, r36, fun t => (o36 t)⟩) :: T28
theorem K29 : TOk Tryd.prog T29 := .cons K28 fo36
def p15 : Sch := ⟨[(0, .v (.c (.ptr 0 0))), (1, .v (.c (.i .i64)))], [.cells 84 [.own 1, .i .i64, .b], .row .y 5]⟩
def r15 : List Sch := [⟨[(0, .tup [])], [.cells 84 [.own 1, .i .i64, .b], .row .y 5]⟩]
def o15 (a0 : Int) (a1 : Int) (a2 : Bool) (a3 : List UInt8) : Option (Int × Bool × List UInt8) :=
 (some ((maxI a0 (0 : Int)), a2, a3))
theorem e15 (t : Int × Int × Bool × List UInt8) : evF (stpT Tryd.prog T29 K29) Tryd.f15 p15 r15 .d t = (o15 t.1 t.2.1 t.2.2.1 t.2.2.2) := by kernel_rfl
theorem fo15 : FOk Tryd.prog 15 ⟨p15, r15, fun t => (o15 t.1 t.2.1 t.2.2.1 t.2.2.2)⟩ := FOk.run_eq (evF_ok (h := .d) (by kernel_rfl) (by kernel_rfl) (by kernel_rfl)) e15
def T30 : Tbl := (15, ⟨p15, r15, fun t => (o15 t.1 t.2.1 t.2.2.1 t.2.2.2)⟩) :: T29
theorem K30 : TOk Tryd.prog T30 := .cons K29 fo15
def p16v1 : Sch := ⟨[(0, .v (.c (.cst (.pointer none)))), (1, .v (.c (.i .i64))), (2, .v (.c (.i .u8))), (3, .v (.c (.i .i64)))], []⟩
def r16v1 : List Sch := [⟨[(0, .tup [.c (.ic .u64 (0)), .c (.ic .i64 (1))])], []⟩]
def o16v1 (a0 : Int) (a1 : Int) (a2 : Int) : Option Unit :=
 (some ())
theorem e16v1 (t : Int × Int × Int) : evF (stpT Tryd.prog T30 K30) Tryd.f16 p16v1 r16v1 .d t = (o16v1 t.1 t.2.1 t.2.2) := by kernel_rfl
theorem fo16v1 : FOk Tryd.prog 16 ⟨p16v1, r16v1, fun t => (o16v1 t.1 t.2.1 t.2.2)⟩ := FOk.run_eq (evF_ok (h := .d) (by kernel_rfl) (by kernel_rfl) (by kernel_rfl)) e16v1
def T31 : Tbl := (16, ⟨p16v1, r16v1, fun t => (o16v1 t.1 t.2.1 t.2.2)⟩) :: T30
theorem K31 : TOk Tryd.prog T31 := .cons K30 fo16v1
def p17 : Sch := ⟨[(0, .v (.c (.ptr 0 0)))], [.cells 84 [.own 1, .i .i64, .b], .row .y 5]⟩
def r17 : List Sch := [⟨[(0, .tup [])], [.cells 84 [.own 1, .ic .i64 (-1), .b], .row .y 5]⟩]
def o17 (a0 : Int) (a1 : Bool) (a2 : List UInt8) : Option (Bool × List UInt8) :=
 (some (false, a2))
theorem e17 (t : Int × Bool × List UInt8) : evF (stpT Tryd.prog T31 K31) Tryd.f17 p17 r17 .d t = (o17 t.1 t.2.1 t.2.2) := by kernel_rfl
theorem fo17 : FOk Tryd.prog 17 ⟨p17, r17, fun t => (o17 t.1 t.2.1 t.2.2)⟩ := FOk.run_eq (evF_ok (h := .d) (by kernel_rfl) (by kernel_rfl) (by kernel_rfl)) e17
def T32 : Tbl := (17, ⟨p17, r17, fun t => (o17 t.1 t.2.1 t.2.2)⟩) :: T31
theorem K32 : TOk Tryd.prog T32 := .cons K31 fo17
def p19v1 : Sch := ⟨[(0, .v (.c (.cst (.pointer none))))], []⟩
def r19v1 : List Sch := [⟨[(0, .v (.c (.cst (.slice none 0 0))))], []⟩]
def o19v1 : Option Unit :=
 (some ())
theorem e19v1 (t : Unit) : evF (stpT Tryd.prog T32 K32) Tryd.f19 p19v1 r19v1 .d t = o19v1 := by kernel_rfl
theorem fo19v1 : FOk Tryd.prog 19 ⟨p19v1, r19v1, fun t => o19v1⟩ := FOk.run_eq (evF_ok (h := .d) (by kernel_rfl) (by kernel_rfl) (by kernel_rfl)) e19v1
def T33 : Tbl := (19, ⟨p19v1, r19v1, fun t => o19v1⟩) :: T32
theorem K33 : TOk Tryd.prog T33 := .cons K32 fo19v1
def o11_s0 : Sch := ⟨[(1, .v (.c (.cst (.pointer none)))), (2, .v (.c (.ic .i64 (1))))], []⟩
def o11_s1 : Sch := ⟨[(1, .v (.c (.ptr 0 0))), (2, .v (.c (.ic .i64 (0))))], [.cells 84 [.own 1, .ic .i64 (-1), .b], .row .y 5]⟩
def o11_s2 : Sch := ⟨[(1, .v (.c (.ptr 0 0))), (2, .v (.c (.ic .i64 (0)))), (3, .v (.c (.cst (.pointer none)))), (4, .v (.c (.ic .i64 (19))))], [.cells 84 [.own 1, .i .i64, .b], .row .y 5]⟩
def o11_s3 : Sch := ⟨[(1, .v (.c (.ptr 0 0))), (2, .v (.c (.ic .i64 (0)))), (3, .v (.c (.ptr 1 0))), (4, .v (.c (.ic .i64 (0))))], [.cells 84 [.own 2, .i .i64, .b], .cells 86 [.ptr 0 0, .own 3, .i .u64, .b], .row .y 5, .row (.p (.i .i64) (.p (.i .u8) (.p (.i .i64) (.i .u64)))) 42]⟩
def o11_s4 : Sch := ⟨[(5, .v (.c (.ptr 0 0))), (57, .v (.c (.b)))], [.cells 84 [.own 1, .i .i64, .b], .row .y 5]⟩
def o11_s5 : Sch := ⟨[(5, .v (.c (.ptr 0 0))), (8, .v (.c (.cst (.pointer none))))], [.cells 84 [.own 1, .i .i64, .b], .row .y 5]⟩
def o11_s6 : Sch := ⟨[(5, .v (.c (.ptr 0 0))), (8, .v (.c (.ptr 1 0)))], [.cells 84 [.own 2, .i .i64, .b], .cells 86 [.ptr 0 0, .own 3, .i .u64, .b], .row .y 5, .row (.p (.i .i64) (.p (.i .u8) (.p (.i .i64) (.i .u64)))) 42]⟩
def o11_s7 : Sch := ⟨[(8, .v (.c (.cst (.pointer none)))), (11, .v (.c (.ic .i64 (1))))], []⟩
def o11_s8 : Sch := ⟨[(8, .v (.c (.ptr 0 0))), (11, .v (.c (.ic .i64 (1))))], [.cells 86 [.ptr 1 0, .own 2, .i .u64, .b], .cells 84 [.own 3, .i .i64, .b], .row (.p (.i .i64) (.p (.i .u8) (.p (.i .i64) (.i .u64)))) 42, .row .y 5]⟩
def o11_s9 : Sch := ⟨[(8, .v (.c (.cst (.pointer none)))), (11, .v (.c (.i .i64)))], []⟩
def o11_s10 : Sch := ⟨[(8, .v (.c (.ptr 0 0))), (11, .v (.c (.i .i64)))], [.cells 86 [.ptr 1 0, .own 2, .i .u64, .b], .cells 84 [.own 3, .i .i64, .b], .row (.p (.i .i64) (.p (.i .u8) (.p (.i .i64) (.i .u64)))) 42, .row .y 5]⟩
def o11_s11 : Sch := ⟨[(0, .v (.c (.b)))], []⟩
def p11 : Sch := ⟨[], []⟩
def r11 : List Sch := [⟨[(0, .v (.c (.b)))], []⟩]
def o11 : Option Bool :=
 (bd (α := Unit ⊕ (Bool × List UInt8)) (bd (α := Unit ⊕ (Bool × List UInt8)) (o12 (2 : Int)) (fun v1 => (sm v1 (fun v2 => (some (Sum.inl ()))) (fun v3 => (some (Sum.inr (v3.1, v3.2))))))) (fun v4 => (sm v4 (fun v5 => (bd (α := Unit) o13 (fun v7 => (some false)))) (fun v6 => (bd (α := (Int × Bool × List UInt8) ⊕ (Int × Bool × Int × Bool × List UInt8 × List (Int × Int × Int × Int))) (bd (α := (Int × Bool × List UInt8) ⊕ (Int × Bool × List UInt8 × Int × Bool × List (Int × Int × Int × Int))) (o13v1 (-1 : Int) v6.1 v6.2) (fun v8 => (sm v8 (fun v9 => (some (Sum.inl (v9.1, v9.2.1, v9.2.2)))) (fun v10 => (some (Sum.inr (v10.1, v10.2.1, v10.2.2.2.1, v10.2.2.2.2.1, v10.2.2.1, v10.2.2.2.2.2))))))) (fun v11 => (sm v11 (fun v12 => (some false)) (fun v13 => (bd (α := (Int × Int × Int × Bool × Int × Bool × List UInt8 × List (Int × Int × Int × Int))) (o16 (7 : Int) (3 : Int) (100 : Int) v13.2.2.1 v13.2.2.2.1 v13.1 v13.2.1 v13.2.2.2.2.1 v13.2.2.2.2.2) (fun v14 => (bd (α := (Int × Int × Int × Bool × Int × Bool × List UInt8 × List (Int × Int × Int × Int))) (o16 (8 : Int) (4 : Int) (200 : Int) v14.2.2.1 v14.2.2.2.1 v14.2.2.2.2.1 v14.2.2.2.2.2.1 v14.2.2.2.2.2.2.1 v14.2.2.2.2.2.2.2) (fun v15 => (bd (α := (Int × Bool × List UInt8)) (o33 v15.2.2.2.2.2.2.1 v15.2.2.2.2.1 v15.2.2.2.2.2.1) (fun v16 => (bd (α := (Int × Int × Int × Bool × Int × Bool × List UInt8 × List (Int × Int × Int × Int))) (o16 (9 : Int) (4 : Int) (300 : Int) v15.2.2.1 v15.2.2.2.1 v15.2.2.2.2.1 v15.2.2.2.2.2.1 v15.2.2.2.2.2.2.1 v15.2.2.2.2.2.2.2) (fun v17 => (bd (α := (Bool × Int × Bool × List UInt8)) (cnd (v17.1 != (3 : Int)) (some (true, v16.1, v16.2.1, v16.2.2)) (cnd (v17.2.1 != (0 : Int)) (some (true, v16.1, v16.2.1, v16.2.2)) (bd (α := (List (Int × Int × Int × Int))) (o19 v17.2.2.2.2.2.2.2 v17.2.2.1 v17.2.2.2.1 v17.2.2.2.2.2.2.1 v17.2.2.2.2.1 v17.2.2.2.2.2.1) (fun v18 => (bd (α := (List UInt8)) (o36 v18) (fun v19 => (some ((!(v19 == ([50, 32, 50, 48, 48, 32, 56, 32, 52, 10, 51, 32, 51, 48, 48, 32, 57, 32, 52, 10] : List UInt8))), v16.1, v16.2.1, v16.2.2)))))))) (fun v20 => (cnd v20.1 (some false) (bd (α := (Int × Bool × List UInt8) ⊕ (Int × Bool × Int × Bool × List UInt8 × List (Int × Int × Int × Int))) (bd (α := (Int × Bool × List UInt8) ⊕ (Int × Bool × List UInt8 × Int × Bool × List (Int × Int × Int × Int))) (o13v1 v20.2.1 v20.2.2.1 v20.2.2.2) (fun v21 => (sm v21 (fun v22 => (some (Sum.inl (v22.1, v22.2.1, v22.2.2)))) (fun v23 => (some (Sum.inr (v23.1, v23.2.1, v23.2.2.2.1, v23.2.2.2.2.1, v23.2.2.1, v23.2.2.2.2.2))))))) (fun v24 => (sm v24 (fun v25 => (bd (α := (Int × Bool × List UInt8)) (o15 (1 : Int) v25.1 v25.2.1 v25.2.2) (fun v27 => (bd (α := Unit) (o16v1 (9 : Int) (4 : Int) (300 : Int)) (fun v28 => (bd (α := (Bool × List UInt8)) (o17 v27.1 v27.2.1 v27.2.2) (fun v29 => (bd (α := Unit ⊕ (Int × Bool × Int × Bool × List (Int × Int × Int × Int) × List UInt8)) (bd (α := (Int × Bool × List UInt8) ⊕ (Int × Bool × List UInt8 × Int × Bool × List (Int × Int × Int × Int))) (o13v1 (-1 : Int) v29.1 v29.2) (fun v30 => (sm v30 (fun v31 => (some (Sum.inl ()))) (fun v32 => (some (Sum.inr (v32.2.2.2.1, v32.2.2.2.2.1, v32.1, v32.2.1, v32.2.2.2.2.2, v32.2.2.1))))))) (fun v33 => (sm v33 (fun v34 => (some false)) (fun v35 => (some false)))))))))))) (fun v26 => (bd (α := (Int × Bool × List UInt8)) (o15 (1 : Int) v26.1 v26.2.1 v26.2.2.2.2.1) (fun v36 => (bd (α := (Int × Int × Int × Bool × Int × Bool × List UInt8 × List (Int × Int × Int × Int))) (o16 (9 : Int) (4 : Int) (300 : Int) v26.2.2.1 v26.2.2.2.1 v36.1 v36.2.1 v36.2.2 v26.2.2.2.2.2) (fun v37 => (bd (α := (Bool × List UInt8)) (o17 v37.2.2.2.2.1 v37.2.2.2.2.2.1 v37.2.2.2.2.2.2.1) (fun v38 => (bd (α := Int ⊕ (Int × Int × Bool × Int × Bool × List (Int × Int × Int × Int) × List UInt8)) (bd (α := (Int × Bool × List UInt8) ⊕ (Int × Bool × List UInt8 × Int × Bool × List (Int × Int × Int × Int))) (o13v1 (-1 : Int) v38.1 v38.2) (fun v39 => (sm v39 (fun v40 => (some (Sum.inl v37.2.1))) (fun v41 => (some (Sum.inr (v37.2.1, v41.2.2.2.1, v41.2.2.2.2.1, v41.1, v41.2.1, v41.2.2.2.2.2, v41.2.2.1))))))) (fun v42 => (sm v42 (fun v43 => (bd (α := Bool) (cnd (v43 == (19 : Int)) (bd (α := Unit) o19v1 (fun v45 => (bd (α := (List UInt8)) (o36 ([] : List (Int × Int × Int × Int))) (fun v46 => (some (v46 == ([50, 32, 50, 48, 48, 32, 56, 32, 52, 10] : List UInt8))))))) (some false)) (fun v47 => (some v47)))) (fun v44 => (bd (α := Bool) (cnd (v44.1 == (19 : Int)) (bd (α := (List (Int × Int × Int × Int))) (o19 v44.2.2.2.2.2.1 v44.2.1 v44.2.2.1 v44.2.2.2.2.2.2 v44.2.2.2.1 v44.2.2.2.2.1) (fun v48 => (bd (α := (List UInt8)) (o36 v48) (fun v49 => (some (v49 == ([50, 32, 50, 48, 48, 32, 56, 32, 52, 10] : List UInt8))))))) (some false)) (fun v50 => (some v50))))))))))))))))))))))))))))))))))))
theorem e11 (t : Unit) : evF (stpT Tryd.prog T33 K33) Tryd.f11 p11 r11 (.s .d (.s (.j false [o11_s0, o11_s1] .d) (.on ⟨[(1, .v (.c (.cst (.pointer none))))], []⟩ .d (.s (.j false [o11_s2, o11_s3] .d) (.on ⟨[(3, .v (.c (.cst (.pointer none))))], []⟩ .d (.s .d (.s .d (.s .d (.s .d (.s .d (.s (.s (.j false [o11_s4] .d) .d) (.s (.j false [o11_s5, o11_s6] .d) (.on ⟨[(8, .v (.c (.cst (.pointer none))))], []⟩ (.s .d (.s .d (.s .d (.s (.j false [o11_s7, o11_s8] .d) .d)))) (.s .d (.s .d (.s .d (.s (.j false [o11_s9, o11_s10] .d) (.s (.j false [o11_s11] .d) .d)))))))))))))))))) t = o11 := by kernel_rfl
theorem fo11 : FOk Tryd.prog 11 ⟨p11, r11, fun t => o11⟩ := FOk.run_eq (evF_ok (h := (.s .d (.s (.j false [o11_s0, o11_s1] .d) (.on ⟨[(1, .v (.c (.cst (.pointer none))))], []⟩ .d (.s (.j false [o11_s2, o11_s3] .d) (.on ⟨[(3, .v (.c (.cst (.pointer none))))], []⟩ .d (.s .d (.s .d (.s .d (.s .d (.s .d (.s (.s (.j false [o11_s4] .d) .d) (.s (.j false [o11_s5, o11_s6] .d) (.on ⟨[(8, .v (.c (.cst (.pointer none))))], []⟩ (.s .d (.s .d (.s .d (.s (.j false [o11_s7, o11_s8] .d) .d)))) (.s .d (.s .d (.s .d (.s (.j false [o11_s9, o11_s10] .d) (.s (.j false [o11_s11] .d) .d))))))))))))))))))) (by kernel_rfl) (by kernel_rfl) (by kernel_rfl)) e11
def T34 : Tbl := (11, ⟨p11, r11, fun t => o11⟩) :: T33
theorem K34 : TOk Tryd.prog T34 := .cons K33 fo11
end
end Go.Proofs.YtnkmijidneibnaaDoor
namespace Go.Proofs.YtnkmijidneibnaaDoor
set_option linter.unusedVariables false
set_option linter.unusedSimpArgs false
set_option maxRecDepth 100000
open Go.RowKit
noncomputable section
def o14_s0 : Sch := ⟨[(0, .v (.c (.ptr 0 0))), (2, .v (.c (.i .u16))), (8, .v (.c (.own 4))), (13, .v (.c (.i .i64))), (14, .v (.c (.i .i64)))], [.cells 86 [.ptr 1 0, .own 5, .i .u64, .b], .cells 84 [.own 2, .i .i64, .b], .row .y 5, .no, .row (.p (.i .i64) (.p (.i .u8) (.p (.i .i64) (.i .u64)))) 42, .row (.p (.i .i64) (.p (.i .u8) (.p (.i .i64) (.i .u64)))) 42]⟩
def p14 : Sch := ⟨[(0, .v (.c (.ptr 0 0))), (1, .v (.c (.i .i64))), (2, .v (.c (.i .u16)))], [.cells 86 [.ptr 1 0, .own 3, .i .u64, .b], .cells 84 [.own 2, .i .i64, .b], .row .y 5, .row (.p (.i .i64) (.p (.i .u8) (.p (.i .i64) (.i .u64)))) 42]⟩
def r14 : List Sch := [⟨[(0, .tup [.c (.own 4), .c (.b)])], [.cells 86 [.ptr 1 0, .own 5, .i .u64, .b], .cells 84 [.own 2, .i .i64, .b], .row .y 5, .no, .row (.p (.i .i64) (.p (.i .u8) (.p (.i .i64) (.i .u64)))) 42, .row (.p (.i .i64) (.p (.i .u8) (.p (.i .i64) (.i .u64)))) 42]⟩]
def o14 (a0 : Int) (a1 : Int) (a2 : Int) (a3 : Bool) (a4 : Int) (a5 : Bool) (a6 : List UInt8) (a7 : List (Int × Int × Int × Int)) : Option (Bool × Int × Bool × Int × Bool × List UInt8 × List (Int × Int × Int × Int) × List (Int × Int × Int × Int)) :=
 (loopO (σ := Int × Int × Int × Int × Bool × Int × Bool × List UInt8 × List (Int × Int × Int × Int) × List (Int × Int × Int × Int)) fuelN (fun (v3 : Int × Int × Int × Int × Bool × Int × Bool × List UInt8 × List (Int × Int × Int × Int) × List (Int × Int × Int × Int)) => (cnd (decide (v3.2.2.1 < v3.2.1)) (bd (α := (Int × Int × Int × Bool × Int × Bool × List UInt8 × List (Int × Int × Int × Int))) (o16 (IntKind.wrap .i64 ((IntKind.wrap .i64 (Int.tmod v3.1 (100 : Int))) - v3.2.2.1)) (IntKind.wrap .u8 (IntKind.wrap .i64 ((Int.tmod (IntKind.wrap .i64 ((IntKind.wrap .i64 v3.1) + v3.2.2.1)) (8 : Int)) + (1 : Int)))) (IntKind.wrap .i64 (v3.2.2.1 * v3.2.2.1)) v3.2.2.2.1 v3.2.2.2.2.1 v3.2.2.2.2.2.1 v3.2.2.2.2.2.2.1 v3.2.2.2.2.2.2.2.1 v3.2.2.2.2.2.2.2.2.2) (fun v4 => (cnd (v4.2.1 != (0 : Int)) (dnO (some (false, v4.2.2.1, v4.2.2.2.1, v4.2.2.2.2.1, v4.2.2.2.2.2.1, v4.2.2.2.2.2.2.1, ([] : List (Int × Int × Int × Int)), v4.2.2.2.2.2.2.2))) (gd (decide ((v3.2.2.2.2.2.2.2.2.1.length + ([((IntKind.wrap .i64 ((IntKind.wrap .i64 (Int.tmod v3.1 (100 : Int))) - v3.2.2.1)), ((IntKind.wrap .u8 (IntKind.wrap .i64 ((Int.tmod (IntKind.wrap .i64 ((IntKind.wrap .i64 v3.1) + v3.2.2.1)) (8 : Int)) + (1 : Int)))), ((IntKind.wrap .i64 (v3.2.2.1 * v3.2.2.1)), v4.1)))] : List (Int × Int × Int × Int)).length) * 32 ≤ 140737488355328)) (some (Ctl.go (v3.1, v3.2.1, (IntKind.wrap .i64 (v3.2.2.1 + (1 : Int))), v4.2.2.1, v4.2.2.2.1, v4.2.2.2.2.1, v4.2.2.2.2.2.1, v4.2.2.2.2.2.2.1, (v3.2.2.2.2.2.2.2.2.1 ++ ([((IntKind.wrap .i64 ((IntKind.wrap .i64 (Int.tmod v3.1 (100 : Int))) - v3.2.2.1)), ((IntKind.wrap .u8 (IntKind.wrap .i64 ((Int.tmod (IntKind.wrap .i64 ((IntKind.wrap .i64 v3.1) + v3.2.2.1)) (8 : Int)) + (1 : Int)))), ((IntKind.wrap .i64 (v3.2.2.1 * v3.2.2.1)), v4.1)))] : List (Int × Int × Int × Int))), v4.2.2.2.2.2.2.2))))))) (dnO (some (true, v3.2.2.2.1, v3.2.2.2.2.1, v3.2.2.2.2.2.1, v3.2.2.2.2.2.2.1, v3.2.2.2.2.2.2.2.1, v3.2.2.2.2.2.2.2.2.1, v3.2.2.2.2.2.2.2.2.2))))) (a1, a0, (0 : Int), a2, a3, a4, a5, a6, ([] : List (Int × Int × Int × Int)), a7))
theorem e14 (t : Int × Int × Int × Bool × Int × Bool × List UInt8 × List (Int × Int × Int × Int)) : evF (stpT Tryd.prog T34 K34) Tryd.f14 p14 r14 (.s .d (.s .d (.s (.s .d (.b (.l o14_s0 .d))) .d))) t = (o14 t.1 t.2.1 t.2.2.1 t.2.2.2.1 t.2.2.2.2.1 t.2.2.2.2.2.1 t.2.2.2.2.2.2.1 t.2.2.2.2.2.2.2) := by kernel_rfl
theorem fo14 : FOk Tryd.prog 14 ⟨p14, r14, fun t => (o14 t.1 t.2.1 t.2.2.1 t.2.2.2.1 t.2.2.2.2.1 t.2.2.2.2.2.1 t.2.2.2.2.2.2.1 t.2.2.2.2.2.2.2)⟩ := FOk.run_eq (evF_ok (h := (.s .d (.s .d (.s (.s .d (.b (.l o14_s0 .d))) .d)))) (by kernel_rfl) (by kernel_rfl) (by kernel_rfl)) e14
def T35 : Tbl := (14, ⟨p14, r14, fun t => (o14 t.1 t.2.1 t.2.2.1 t.2.2.2.1 t.2.2.2.2.1 t.2.2.2.2.2.1 t.2.2.2.2.2.2.1 t.2.2.2.2.2.2.2)⟩) :: T34
theorem K35 : TOk Tryd.prog T35 := .cons K34 fo14
def o18_s0 : Sch := ⟨[(0, .v (.c (.ro (.p (.i .i64) (.p (.i .u8) (.p (.i .i64) (.i .u64)))) false))), (1, .v (.c (.ro (.p (.i .i64) (.p (.i .u8) (.p (.i .i64) (.i .u64)))) false))), (12, .v (.c (.i .i64))), (13, .v (.c (.i .i64)))], []⟩
def p18 : Sch := ⟨[(0, .v (.c (.ro (.p (.i .i64) (.p (.i .u8) (.p (.i .i64) (.i .u64)))) false))), (1, .v (.c (.ro (.p (.i .i64) (.p (.i .u8) (.p (.i .i64) (.i .u64)))) false)))], []⟩
def r18 : List Sch := [⟨[(0, .v (.c (.b)))], []⟩]
def o18 (a0 : List (Int × Int × Int × Int)) (a1 : List (Int × Int × Int × Int)) : Option Bool :=
 (cnd (((a0.length : Nat) : Int) != ((a1.length : Nat) : Int)) (some false) (loopO (σ := List (Int × Int × Int × Int) × List (Int × Int × Int × Int) × Int × Int) fuelN (fun (v2 : List (Int × Int × Int × Int) × List (Int × Int × Int × Int) × Int × Int) => (cnd (decide (v2.2.2.2 < v2.2.2.1)) (gd (decide ((0 : Int) ≤ v2.2.2.2 ∧ v2.2.2.2 < ((v2.1.length : Nat) : Int))) (gd (decide ((0 : Int) ≤ v2.2.2.2 ∧ v2.2.2.2 < ((v2.2.1.length : Nat) : Int))) (cnd (!(((List.getD v2.1 v2.2.2.2.toNat ((0 : Int), ((0 : Int), ((0 : Int), (0 : Int))))).1 == (List.getD v2.2.1 v2.2.2.2.toNat ((0 : Int), ((0 : Int), ((0 : Int), (0 : Int))))).1) && ((((List.getD v2.1 v2.2.2.2.toNat ((0 : Int), ((0 : Int), ((0 : Int), (0 : Int))))).2).1 == ((List.getD v2.2.1 v2.2.2.2.toNat ((0 : Int), ((0 : Int), ((0 : Int), (0 : Int))))).2).1) && (((((List.getD v2.1 v2.2.2.2.toNat ((0 : Int), ((0 : Int), ((0 : Int), (0 : Int))))).2).2).1 == (((List.getD v2.2.1 v2.2.2.2.toNat ((0 : Int), ((0 : Int), ((0 : Int), (0 : Int))))).2).2).1) && ((((List.getD v2.1 v2.2.2.2.toNat ((0 : Int), ((0 : Int), ((0 : Int), (0 : Int))))).2).2).2 == (((List.getD v2.2.1 v2.2.2.2.toNat ((0 : Int), ((0 : Int), ((0 : Int), (0 : Int))))).2).2).2))))) (dnO (some false)) (some (Ctl.go (v2.1, v2.2.1, v2.2.2.1, (IntKind.wrap .i64 (v2.2.2.2 + (1 : Int))))))))) (dnO (some true)))) (a0, a1, ((a0.length : Nat) : Int), (0 : Int))))
theorem e18 (t : List (Int × Int × Int × Int) × List (Int × Int × Int × Int)) : evF (stpT Tryd.prog T35 K35) Tryd.f18 p18 r18 (.s .d (.s .d (.s (.s .d (.b (.l o18_s0 .d))) .d))) t = (o18 t.1 t.2) := by kernel_rfl
theorem fo18 : FOk Tryd.prog 18 ⟨p18, r18, fun t => (o18 t.1 t.2)⟩ := FOk.run_eq (evF_ok (h := (.s .d (.s .d (.s (.s .d (.b (.l o18_s0 .d))) .d)))) (by kernel_rfl) (by kernel_rfl) (by kernel_rfl)) e18
def T36 : Tbl := (18, ⟨p18, r18, fun t => (o18 t.1 t.2)⟩) :: T35
theorem K36 : TOk Tryd.prog T36 := .cons K35 fo18
def p20 : Sch := ⟨[(0, .v (.c (.ptr 0 0)))], [.lent [.ptr 1 0, .ro (.p (.i .i64) (.p (.i .u8) (.p (.i .i64) (.i .u64)))) false, .i .u64, .b], .lent [.ro .y false, .i .i64, .b]]⟩
def r20 : List Sch := [⟨[(0, .v (.c (.i .u64)))], [.no, .no]⟩]
def o20 (a0 : List (Int × Int × Int × Int)) (a1 : Int) (a2 : Bool) (a3 : List UInt8) (a4 : Int) (a5 : Bool) : Option Int :=
 (some a1)
theorem e20 (t : List (Int × Int × Int × Int) × Int × Bool × List UInt8 × Int × Bool) : evF (stpT Tryd.prog T36 K36) Tryd.f20 p20 r20 .d t = (o20 t.1 t.2.1 t.2.2.1 t.2.2.2.1 t.2.2.2.2.1 t.2.2.2.2.2) := by kernel_rfl
theorem fo20 : FOk Tryd.prog 20 ⟨p20, r20, fun t => (o20 t.1 t.2.1 t.2.2.1 t.2.2.2.1 t.2.2.2.2.1 t.2.2.2.2.2)⟩ := FOk.run_eq (evF_ok (h := .d) (by kernel_rfl) (by kernel_rfl) (by kernel_rfl)) e20
def T37 : Tbl := (20, ⟨p20, r20, fun t => (o20 t.1 t.2.1 t.2.2.1 t.2.2.2.1 t.2.2.2.2.1 t.2.2.2.2.2)⟩) :: T36
theorem K37 : TOk Tryd.prog T37 := .cons K36 fo20
def o4_s0 : Sch := ⟨[(1, .v (.c (.i .u16))), (2, .v (.c (.i .u16))), (7, .v (.c (.i .i64))), (8, .v (.c (.cst (.pointer none)))), (9, .v (.c (.ic .i64 (1))))], []⟩
def o4_s1 : Sch := ⟨[(1, .v (.c (.i .u16))), (2, .v (.c (.i .u16))), (7, .v (.c (.i .i64))), (8, .v (.c (.ptr 0 0))), (9, .v (.c (.ic .i64 (0))))], [.cells 84 [.own 1, .ic .i64 (-1), .b], .row .y 5]⟩
def o4_s2 : Sch := ⟨[(1, .v (.c (.i .u16))), (2, .v (.c (.i .u16))), (7, .v (.c (.i .i64))), (8, .v (.c (.ptr 0 0))), (9, .v (.c (.ic .i64 (0)))), (10, .v (.c (.cst (.pointer none)))), (11, .v (.c (.ic .i64 (19))))], [.cells 84 [.own 1, .i .i64, .b], .row .y 5]⟩
def o4_s3 : Sch := ⟨[(1, .v (.c (.i .u16))), (2, .v (.c (.i .u16))), (7, .v (.c (.i .i64))), (8, .v (.c (.ptr 0 0))), (9, .v (.c (.ic .i64 (0)))), (10, .v (.c (.ptr 1 0))), (11, .v (.c (.ic .i64 (0))))], [.cells 84 [.own 2, .i .i64, .b], .cells 86 [.ptr 0 0, .own 3, .i .u64, .b], .row .y 5, .row (.p (.i .i64) (.p (.i .u8) (.p (.i .i64) (.i .u64)))) 42]⟩
def o4_s4 : Sch := ⟨[(10, .v (.c (.ptr 0 0))), (12, .v (.c (.ro (.p (.i .i64) (.p (.i .u8) (.p (.i .i64) (.i .u64)))) true))), (14, .v (.c (.ro (.p (.i .i64) (.p (.i .u8) (.p (.i .i64) (.i .u64)))) true))), (15, .v (.c (.cst (.pointer none)))), (16, .v (.c (.ic .i64 (19))))], [.cells 86 [.ptr 1 0, .own 2, .i .u64, .b], .cells 84 [.own 3, .i .i64, .b], .row (.p (.i .i64) (.p (.i .u8) (.p (.i .i64) (.i .u64)))) 42, .row .y 5]⟩
def o4_s5 : Sch := ⟨[(10, .v (.c (.ptr 0 0))), (12, .v (.c (.ro (.p (.i .i64) (.p (.i .u8) (.p (.i .i64) (.i .u64)))) true))), (14, .v (.c (.ro (.p (.i .i64) (.p (.i .u8) (.p (.i .i64) (.i .u64)))) true))), (15, .v (.c (.ptr 1 0))), (16, .v (.c (.ic .i64 (0))))], [.cells 86 [.ptr 2 0, .own 3, .i .u64, .b], .cells 86 [.ptr 2 0, .own 4, .i .u64, .b], .cells 84 [.own 5, .i .i64, .b], .row (.p (.i .i64) (.p (.i .u8) (.p (.i .i64) (.i .u64)))) 42, .row (.p (.i .i64) (.p (.i .u8) (.p (.i .i64) (.i .u64)))) 42, .row .y 5]⟩
def o4_s6 : Sch := ⟨[(6, .v (.c (.b)))], []⟩
def p4 : Sch := ⟨[(0, .v (.c (.i .u16))), (1, .v (.c (.i .u16))), (2, .v (.c (.i .u16)))], []⟩
def r4 : List Sch := [⟨[(0, .v (.c (.b)))], []⟩]
def o4 (a0 : Int) (a1 : Int) (a2 : Int) : Option Bool :=
 (bd (α := Bool) o11 (fun v1 => (cnd (!v1) (some false) (bd (α := (Int × Int × Int) ⊕ (Int × Int × Int × Bool × List UInt8)) (bd (α := Unit ⊕ (Bool × List UInt8)) (o12 (IntKind.wrap .i64 ((Int.tmod (IntKind.wrap .i64 a0) (30 : Int)) + (2 : Int)))) (fun v2 => (sm v2 (fun v3 => (some (Sum.inl (a1, a2, (IntKind.wrap .i64 ((Int.tmod (IntKind.wrap .i64 a0) (30 : Int)) + (2 : Int))))))) (fun v4 => (some (Sum.inr (a1, a2, (IntKind.wrap .i64 ((Int.tmod (IntKind.wrap .i64 a0) (30 : Int)) + (2 : Int))), v4.1, v4.2))))))) (fun v5 => (sm v5 (fun v6 => (bd (α := Unit) o13 (fun v8 => (some false)))) (fun v7 => (bd (α := (Int × Int × Int × Int × Bool × List UInt8) ⊕ (Int × Int × Int × Int × Bool × Int × Bool × List UInt8 × List (Int × Int × Int × Int))) (bd (α := (Int × Bool × List UInt8) ⊕ (Int × Bool × List UInt8 × Int × Bool × List (Int × Int × Int × Int))) (o13v1 (-1 : Int) v7.2.2.2.1 v7.2.2.2.2) (fun v9 => (sm v9 (fun v10 => (some (Sum.inl (v7.1, v7.2.1, v7.2.2.1, v10.1, v10.2.1, v10.2.2)))) (fun v11 => (some (Sum.inr (v7.1, v7.2.1, v7.2.2.1, v11.1, v11.2.1, v11.2.2.2.1, v11.2.2.2.2.1, v11.2.2.1, v11.2.2.2.2.2))))))) (fun v12 => (sm v12 (fun v13 => (some false)) (fun v14 => (bd (α := (Bool × Int × Bool × Int × Bool × List UInt8 × List (Int × Int × Int × Int) × List (Int × Int × Int × Int))) (o14 (Int.tmod (IntKind.wrap .i64 v14.1) (80 : Int)) v14.2.1 v14.2.2.2.2.2.1 v14.2.2.2.2.2.2.1 v14.2.2.2.1 v14.2.2.2.2.1 v14.2.2.2.2.2.2.2.1 v14.2.2.2.2.2.2.2.2) (fun v15 => (cnd (!v15.1) (some false) (gd (decide ((0 : Int) ≤ (maxI (0 : Int) (IntKind.wrap .i64 (((v15.2.2.2.2.2.2.1.length : Nat) : Int) - v14.2.2.1))) ∧ (maxI (0 : Int) (IntKind.wrap .i64 (((v15.2.2.2.2.2.2.1.length : Nat) : Int) - v14.2.2.1))) ≤ ((v15.2.2.2.2.2.2.1.length : Nat) : Int))) (bd (α := (List (Int × Int × Int × Int) × List (Int × Int × Int × Int) × Int × Bool × Int × Bool × List (Int × Int × Int × Int) × List UInt8) ⊕ (List (Int × Int × Int × Int) × List (Int × Int × Int × Int) × Int × Bool × Int × Bool × Int × Bool × List (Int × Int × Int × Int) × List (Int × Int × Int × Int) × List UInt8)) (bd (α := (Int × Bool × List UInt8) ⊕ (Int × Bool × List UInt8 × Int × Bool × List (Int × Int × Int × Int))) (o13v1 v15.2.2.2.1 v15.2.2.2.2.1 v15.2.2.2.2.2.1) (fun v16 => (sm v16 (fun v17 => (some (Sum.inl (v15.2.2.2.2.2.2.1, (List.take (v15.2.2.2.2.2.2.1.length - (maxI (0 : Int) (IntKind.wrap .i64 (((v15.2.2.2.2.2.2.1.length : Nat) : Int) - v14.2.2.1))).toNat) (List.drop ((maxI (0 : Int) (IntKind.wrap .i64 (((v15.2.2.2.2.2.2.1.length : Nat) : Int) - v14.2.2.1))).toNat) v15.2.2.2.2.2.2.1)), v15.2.1, v15.2.2.1, v17.1, v17.2.1, v15.2.2.2.2.2.2.2, v17.2.2)))) (fun v18 => (some (Sum.inr (v15.2.2.2.2.2.2.1, (List.take (v15.2.2.2.2.2.2.1.length - (maxI (0 : Int) (IntKind.wrap .i64 (((v15.2.2.2.2.2.2.1.length : Nat) : Int) - v14.2.2.1))).toNat) (List.drop ((maxI (0 : Int) (IntKind.wrap .i64 (((v15.2.2.2.2.2.2.1.length : Nat) : Int) - v14.2.2.1))).toNat) v15.2.2.2.2.2.2.1)), v15.2.1, v15.2.2.1, v18.2.2.2.1, v18.2.2.2.2.1, v18.1, v18.2.1, v15.2.2.2.2.2.2.2, v18.2.2.2.2.2, v18.2.2.1))))))) (fun v19 => (sm v19 (fun v20 => (some false)) (fun v21 => (bd (α := Bool) (bd (α := (List (Int × Int × Int × Int))) (o19 v21.2.2.2.2.2.2.2.2.1 v21.2.2.1 v21.2.2.2.1 v21.2.2.2.2.2.2.2.2.2.2 v21.2.2.2.2.2.2.1 v21.2.2.2.2.2.2.2.1) (fun v22 => (bd (α := Bool) (o18 v22 v21.2.1) (fun v23 => (cnd v23 (bd (α := (List (Int × Int × Int × Int))) (o19 v21.2.2.2.2.2.2.2.2.2.1 v21.2.2.2.2.1 v21.2.2.2.2.2.1 v21.2.2.2.2.2.2.2.2.2.2 v21.2.2.2.2.2.2.1 v21.2.2.2.2.2.2.2.1) (fun v24 => (bd (α := Bool) (o18 v24 v21.2.1) (fun v25 => (cnd v25 (bd (α := Int) (o20 v21.2.2.2.2.2.2.2.2.1 v21.2.2.1 v21.2.2.2.1 v21.2.2.2.2.2.2.2.2.2.2 v21.2.2.2.2.2.2.1 v21.2.2.2.2.2.2.2.1) (fun v26 => (cnd (v26 == (IntKind.wrap .u64 (IntKind.wrap .i64 (((v21.1.length : Nat) : Int) + (1 : Int))))) (bd (α := Int) (o20 v21.2.2.2.2.2.2.2.2.2.1 v21.2.2.2.2.1 v21.2.2.2.2.2.1 v21.2.2.2.2.2.2.2.2.2.2 v21.2.2.2.2.2.2.1 v21.2.2.2.2.2.2.2.1) (fun v27 => (bd (α := Int) (o20 v21.2.2.2.2.2.2.2.2.1 v21.2.2.1 v21.2.2.2.1 v21.2.2.2.2.2.2.2.2.2.2 v21.2.2.2.2.2.2.1 v21.2.2.2.2.2.2.2.1) (fun v28 => (some (v27 == v28)))))) (some false)))) (some false)))))) (some false)))))) (fun v29 => (some v29))))))))))))))))))))))
theorem e4 (t : Int × Int × Int) : evF (stpT Tryd.prog T37 K37) Tryd.f4 p4 r4 (.s .d (.s .d (.s .d (.s (.j false [o4_s0, o4_s1] .d) (.on ⟨[(8, .v (.c (.cst (.pointer none))))], []⟩ .d (.s (.j false [o4_s2, o4_s3] .d) (.on ⟨[(10, .v (.c (.cst (.pointer none))))], []⟩ .d (.s .d (.s .d (.s .d (.s .d (.s (.j false [o4_s4, o4_s5] .d) (.on ⟨[(15, .v (.c (.cst (.pointer none))))], []⟩ .d (.s (.j false [o4_s6] .d) .d)))))))))))))) t = (o4 t.1 t.2.1 t.2.2) := by kernel_rfl
theorem fo4 : FOk Tryd.prog 4 ⟨p4, r4, fun t => (o4 t.1 t.2.1 t.2.2)⟩ := FOk.run_eq (evF_ok (h := (.s .d (.s .d (.s .d (.s (.j false [o4_s0, o4_s1] .d) (.on ⟨[(8, .v (.c (.cst (.pointer none))))], []⟩ .d (.s (.j false [o4_s2, o4_s3] .d) (.on ⟨[(10, .v (.c (.cst (.pointer none))))], []⟩ .d (.s .d (.s .d (.s .d (.s .d (.s (.j false [o4_s4, o4_s5] .d) (.on ⟨[(15, .v (.c (.cst (.pointer none))))], []⟩ .d (.s (.j false [o4_s6] .d) .d))))))))))))))) (by kernel_rfl) (by kernel_rfl) (by kernel_rfl)) e4
def T38 : Tbl := (4, ⟨p4, r4, fun t => (o4 t.1 t.2.1 t.2.2)⟩) :: T37
theorem K38 : TOk Tryd.prog T38 := .cons K37 fo4
end
end Go.Proofs.YtnkmijidneibnaaDoor
namespace Go.Proofs.YtnkmijidneibnaaDoor
set_option linter.unusedVariables false
set_option linter.unusedSimpArgs false
open Go.RowKit
def byteAt (n : Int) (i : Nat) : UInt8 := u8 (IntKind.u8.wrap (shrK .i64 n (8 * (i : Int))))
def putB (n : Int) (k : Nat) : List UInt8 := (List.range k).map (byteAt n)
theorem putB_len (n : Int) (k : Nat) : (putB n k).length = k := by simp [putB]
theorem u8_toNat {z : Int} (h : 0 ≤ z ∧ z ≤ 255) : ((u8 z).toNat : Int) = z := by
  unfold u8
  rw [UInt8.toNat_ofNat']
  omega
theorem pow8 (i : Nat) (h : i < 8) : (2 : Int) ^ (min (8 * (i : Int)).toNat 64) = 256 ^ i := by
  have : min (8 * (i : Int)).toNat 64 = 8 * i := by omega
  rw [this, Int.pow_mul]
  rfl
theorem shr_i64 (n : Int) (i : Nat) (h : i < 8) : shrK .i64 n (8 * (i : Int)) = n / 256 ^ i := by
  unfold shrK
  rw [show IntKind.i64.bits = 64 from rfl, pow8 i h, Int.fdiv_eq_ediv_of_nonneg]
  exact Int.pow_nonneg (by decide)
theorem byteAt_toNat (n : Int) (i : Nat) (h : i < 8) : ((byteAt n i).toNat : Int) = n / 256 ^ i % 256 := by
  unfold byteAt
  rw [u8_toNat (wrapU8_rng _), shr_i64 n i h, IntKind.wrap_u8]
def natL (p : List UInt8) : Nat → Nat
  | 0 => 0
  | k + 1 => natL p k + (p.getD k 0).toNat * 256 ^ k
theorem natL_putB (n : Int) : ∀ (k m : Nat) (q : List UInt8), k ≤ m → m ≤ 8 → (natL (putB n m ++ q) k : Int) = n % 256 ^ k
  | 0, m, q, _, _ => by simp [natL, Int.emod_one]
  | k + 1, m, q, h, h8 => by
    have ih := natL_putB n k m q (by omega) h8
    have e : (putB n m ++ q).getD k 0 = byteAt n k := by
      rw [List.getD_eq_getElem?_getD, List.getElem?_append_left (by rw [putB_len]; omega)]
      simp [putB, List.getElem?_range (by omega : k < m)]
    rw [natL, e]
    have hb := byteAt_toNat n k (by omega)
    have : ((natL (putB n m ++ q) k + (byteAt n k).toNat * 256 ^ k : Nat) : Int) = (natL (putB n m ++ q) k : Int) + ((byteAt n k).toNat : Int) * 256 ^ k := by simp
    rw [this, ih, hb, Int.pow_succ]
    have hpos : (0 : Int) < 256 ^ k := Int.pow_pos (by decide)
    rw [Int.mul_comm (256 ^ k) 256]
    have e1 := Int.emod_add_mul_ediv n (256 ^ k)
    have e2 := Int.emod_add_mul_ediv (n / 256 ^ k) 256
    have e3 : n / (256 * 256 ^ k) = n / 256 ^ k / 256 := by rw [Int.mul_comm, Int.ediv_ediv, if_neg (fun h => absurd h.1 (by omega))]; simp
    have e4 := Int.emod_add_mul_ediv n (256 * 256 ^ k)
    rw [e3] at e4
    generalize n / 256 ^ k = q at *
    generalize (256 : Int) ^ k = b at *
    have e5 : b * q = b * (q % 256) + 256 * b * (q / 256) := by
      conv => lhs; rw [← e2]
      rw [Int.mul_add, ← Int.mul_assoc, Int.mul_comm b 256]
    rw [Int.mul_comm (q % 256) b]
    omega
end Go.Proofs.YtnkmijidneibnaaDoor
namespace Go.Proofs.YtnkmijidneibnaaDoor
set_option linter.unusedVariables false
set_option linter.unusedSimpArgs false
open Go.RowKit
theorem dt {p : Prop} [Decidable p] (h : p) : decide p = true := decide_eq_true h
theorem df {p : Prop} [Decidable p] (h : ¬ p) : decide p = false := decide_eq_false h
theorem neq_t {a b : Int} (h : a ≠ b) : (a != b) = true := by simpa using h
theorem neq_f {a b : Int} (h : a = b) : (a != b) = false := by simpa using h
theorem eq_t {a b : Int} (h : a = b) : (a == b) = true := by simpa using h
theorem eq_f {a b : Int} (h : a ≠ b) : (a == b) = false := by simpa using h
theorem dropL {p q : List UInt8} {k : Nat} (h : p.length = k) : (p ++ q).drop k = q := by subst h; simp
end Go.Proofs.YtnkmijidneibnaaDoor
namespace Go.Proofs.YtnkmijidneibnaaDoor
set_option linter.unusedVariables false
set_option linter.unusedSimpArgs false
set_option maxRecDepth 100000
open Go.RowKit
theorem cndT {α : Type} {c : Bool} {x y : α} (h : c = true) : cnd c x y = x := by subst h; rfl
theorem cndF {α : Type} {c : Bool} {x y : α} (h : c = false) : cnd c x y = y := by subst h; rfl
theorem gdT {α : Type} {c : Bool} {x : Option α} (h : c = true) : gd c x = x := by subst h; rfl
theorem bdS {α β : Type} {x : Option α} {t : α} {k : α → Option β} (h : x = some t) : bd x k = k t := by subst h; rfl
theorem bdI {α β : Type} (t : α) (k : α → Option β) : bd (some t) k = k t := rfl
theorem loop_cnt {σ ρ : Type} {B : σ → Option (Ctl σ ρ)} (S : Nat → σ) {r : ρ} {n : Nat} (h : ∀ i, i < n → B (S i) = some (.go (S (i + 1)))) (hd : B (S n) = some (.done r)) (hn : n < 18446744073709551616) : loopO fuelN B (S 0) = some r := by
  have key : ∀ k m, k ≤ n → k < m → loopO m B (S (n - k)) = some r := by
    intro k
    induction k with
    | zero =>
      intro m _ hm
      obtain ⟨j, rfl⟩ : ∃ j, m = j + 1 := ⟨m - 1, by omega⟩
      exact loopO_done hd
    | succ k ih =>
      intro m hk hm
      obtain ⟨j, rfl⟩ : ∃ j, m = j + 1 := ⟨m - 1, by omega⟩
      rw [loopO_go (h (n - (k + 1)) (by omega)), show n - (k + 1) + 1 = n - k by omega]
      exact ih j (by omega) (by omega)
  have := key n fuelN (Nat.le_refl _) (by show n < 18446744073709551616; exact hn)
  rw [Nat.sub_self] at this
  exact this
def crcS (r : Int) : Int := cond ((landK .u32 r 1) == (1 : Int)) (lxorK .u32 (shrK .u32 r 1) 3988292384) (shrK .u32 r 1)
def crcB (r : Int) (b : Int) : Int := crcS (crcS (crcS (crcS (crcS (crcS (crcS (crcS (lxorK .u32 r b))))))))
def crcR (r : Int) (p : List UInt8) : Int := p.foldl (fun r b => crcB r ((b.toNat : Nat) : Int)) r
def crcI (p : List UInt8) : Int := lxorK .u32 4294967295 (crcR (lxorK .u32 4294967295 0) p)
def seal4 (c : Int) : List UInt8 := [u8 (IntKind.u8.wrap c), u8 (IntKind.u8.wrap (shrK .u32 c 8)), u8 (IntKind.u8.wrap (shrK .u32 c 16)), u8 (IntKind.u8.wrap (shrK .u32 c 24))]
def bodyB (c ph t n : Int) : List UInt8 := putB n 8 ++ putB (IntKind.u64.wrap t) 8 ++ putB (IntKind.u64.wrap c) 8 ++ [u8 ph]
theorem bodyB_len (c ph t n : Int) : (bodyB c ph t n).length = 25 := by simp [bodyB, putB_len]
def contB (c ph t n : Int) : List UInt8 := bodyB c ph t n ++ seal4 (crcI (bodyB c ph t n))
theorem contB_len (c ph t n : Int) : (contB c ph t n).length = 29 := by simp [contB, bodyB_len, seal4]
end Go.Proofs.YtnkmijidneibnaaDoor
namespace Go.Proofs.YtnkmijidneibnaaDoor
set_option linter.unusedVariables false
set_option linter.unusedSimpArgs false
set_option maxRecDepth 100000
open Go.RowKit
def rdB (p : List UInt8) (k : Nat) : Int := ((p.getD k 0).toNat : Int)
def bodyF (q : List UInt8) : Flt := (IntKind.i64.wrap (natL (q.drop 16) 8), rdB q 24, IntKind.i64.wrap (natL (q.drop 8) 8), (natL q 8 : Int))
def goodF (f : Flt) (i s : Nat) : Prop := 1 ≤ f.2.1 ∧ f.2.1 ≤ 8 ∧ 1 ≤ f.2.2.2 ∧ f.2.2.2 ≤ 4611686018427387904 ∧ f.2.2.2 % (s : Int) = (i : Int)
instance (f : Flt) (i s : Nat) : Decidable (goodF f i s) := by unfold goodF; exact inferInstance
def rdS (p : List UInt8) (i s : Nat) : Option Flt :=
  if p.head? = some 195 ∧ p.drop 26 = seal4 (crcI ((p.drop 1).take 25)) ∧ goodF (bodyF ((p.drop 1).take 25)) i s then some (bodyF ((p.drop 1).take 25)) else none
end Go.Proofs.YtnkmijidneibnaaDoor
namespace Go.Proofs.YtnkmijidneibnaaDoor
set_option linter.unusedVariables false
set_option linter.unusedSimpArgs false
set_option maxRecDepth 100000
open Go.RowKit
theorem ovr_len {α : Type} {xs ys : List α} {i : Nat} (h : i + ys.length ≤ xs.length) : (ovrL xs i ys).length = xs.length := by simp [ovrL]; omega
theorem ovr_get {α : Type} {xs ys : List α} {i : Nat} (h : i + ys.length ≤ xs.length) (j : Nat) : (ovrL xs i ys)[j]? = if i ≤ j ∧ j < i + ys.length then ys[j - i]? else xs[j]? := by
  unfold ovrL
  by_cases h1 : j < i
  · rw [if_neg (by omega), List.append_assoc, List.getElem?_append_left (by rw [List.length_take]; omega), List.getElem?_take, if_pos h1]
  · by_cases h2 : j < i + ys.length
    · rw [if_pos ⟨by omega, h2⟩, List.append_assoc, List.getElem?_append_right (by rw [List.length_take]; omega), List.getElem?_append_left (by rw [List.length_take]; omega), List.length_take, Nat.min_eq_left (by omega)]
    · rw [if_neg (by omega), List.getElem?_append_right (by rw [List.length_append, List.length_take]; omega), List.getElem?_drop, List.length_append, List.length_take, Nat.min_eq_left (by omega)]
      congr 1
      omega
def slot (d : List UInt8) (i : Nat) : List UInt8 := (d.drop (30 * i)).take 30
theorem slot_get (d : List UInt8) (i j : Nat) : (slot d i)[j]? = if j < 30 then d[30 * i + j]? else none := by
  unfold slot
  rw [List.getElem?_take, List.getElem?_drop]
theorem slot_len {d : List UInt8} {i s : Nat} (h : d.length = 30 * s) (hi : i < s) : (slot d i).length = 30 := by
  unfold slot
  rw [List.length_take, List.length_drop]
  omega
theorem slot_ovr {d p : List UInt8} {k o s : Nat} (hd : d.length = 30 * s) (hk : k < s) (h : o + p.length ≤ 30) (i : Nat) : slot (ovrL d (30 * k + o) p) i = if i = k then ovrL (slot d k) o p else slot d i := by
  refine List.ext_getElem? fun j => ?_
  rw [slot_get, ovr_get (by omega)]
  by_cases hj : j < 30
  · rw [if_pos hj]
    by_cases hi : i = k
    · subst hi
      rw [if_pos rfl, ovr_get (by rw [slot_len hd hk]; exact h), slot_get, if_pos hj]
      by_cases h1 : o ≤ j ∧ j < o + p.length
      · rw [if_pos (by omega), if_pos h1, show 30 * i + j - (30 * i + o) = j - o by omega]
      · rw [if_neg (by omega), if_neg h1]
    · rw [if_neg hi, slot_get, if_pos hj, if_neg (by omega)]
  · rw [if_neg hj]
    by_cases hi : i = k
    · subst hi
      rw [if_pos rfl, List.getElem?_eq_none]
      rw [ovr_len (by rw [slot_len hd hk]; exact h), slot_len hd hk]
      omega
    · rw [if_neg hi, slot_get, if_neg hj]
end Go.Proofs.YtnkmijidneibnaaDoor
namespace Go.Proofs.YtnkmijidneibnaaDoor
set_option linter.unusedVariables false
set_option linter.unusedSimpArgs false
set_option maxRecDepth 100000
open Go.RowKit
def rdL (d : List UInt8) (s : Nat) : Nat → List Flt
  | 0 => []
  | n + 1 => rdL d s n ++ (rdS (slot d n) n s).toList
theorem rdL_mem {d : List UInt8} {s : Nat} {x : Flt} : ∀ {n : Nat}, x ∈ rdL d s n ↔ ∃ i, i < n ∧ rdS (slot d i) i s = some x
  | 0 => by simp [rdL]
  | n + 1 => by
    rw [rdL, List.mem_append, rdL_mem (n := n)]
    constructor
    · rintro (⟨i, hi, h⟩ | h)
      · exact ⟨i, by omega, h⟩
      · exact ⟨n, by omega, by simpa using h⟩
    · rintro ⟨i, hi, h⟩
      by_cases e : i = n
      · subst e; exact .inr (by simpa using h)
      · exact .inl ⟨i, by omega, h⟩
theorem rdS_good {p : List UInt8} {i s : Nat} {x : Flt} (h : rdS p i s = some x) : goodF x i s := by
  unfold rdS at h
  split at h
  · rename_i hh
    injection h with h
    rw [← h]; exact hh.2.2
  · cases h
theorem rdS_head {p : List UInt8} {i s : Nat} (h : p.head? ≠ some 195) : rdS p i s = none := by
  unfold rdS
  rw [if_neg fun e => h e.1]
theorem rdL_dist {d : List UInt8} {s : Nat} : ∀ {n : Nat}, (rdL d s n).Pairwise (fun x y => x.2.2.2 ≠ y.2.2.2)
  | 0 => .nil
  | n + 1 => by
    rw [rdL, List.pairwise_append]
    refine ⟨rdL_dist, by cases rdS (slot d n) n s <;> simp, fun x hx y hy e => ?_⟩
    obtain ⟨i, hi, h⟩ := rdL_mem.1 hx
    have h1 := (rdS_good h).2.2.2.2
    have h2 := (rdS_good (show rdS (slot d n) n s = some y by simpa using hy)).2.2.2.2
    rw [e] at h1
    omega
def memF (d : List UInt8) (s : Nat) : List Flt := isortF (rdL d s s)
theorem memF_mem {d : List UInt8} {s : Nat} {x : Flt} : x ∈ memF d s ↔ ∃ i, i < s ∧ rdS (slot d i) i s = some x := by
  unfold memF
  rw [(isortF_perm _).mem_iff, rdL_mem]
theorem memF_lt (d : List UInt8) (s : Nat) : (memF d s).Pairwise ltN := isortF_lt (distB_iff.2 rdL_dist)
end Go.Proofs.YtnkmijidneibnaaDoor
namespace Go.Proofs.YtnkmijidneibnaaDoor
set_option linter.unusedVariables false
set_option linter.unusedSimpArgs false
set_option maxRecDepth 100000
open Go.RowKit
def i64R (x : Int) : Prop := -9223372036854775808 ≤ x ∧ x ≤ 9223372036854775807
theorem wrap_back {t : Int} (h : i64R t) : IntKind.i64.wrap (IntKind.u64.wrap t % 256 ^ 8) = t := by
  have e : (IntKind.u64.wrap t) % 256 ^ 8 = t % 18446744073709551616 := by
    rw [IntKind.wrap_u64]
    show t % 18446744073709551616 % 18446744073709551616 = _
    omega
  rw [e]
  obtain ⟨h1, h2⟩ := h
  rw [IntKind.wrap_i64]
  omega
theorem bodyF_bodyB {c ph t n : Int} (hc : i64R c) (ht : i64R t) (hp : 0 ≤ ph ∧ ph ≤ 255) (hn : 0 ≤ n ∧ n < 18446744073709551616) : bodyF (bodyB c ph t n) = (c, ph, t, n) := by
  have e0 : ((natL (bodyB c ph t n) 8 : Nat) : Int) = n := by
    unfold bodyB
    rw [List.append_assoc, List.append_assoc, natL_putB n 8 8 _ (Nat.le_refl _) (Nat.le_refl _)]
    show n % 18446744073709551616 = n
    omega
  have e8 : (bodyB c ph t n).drop 8 = putB (IntKind.u64.wrap t) 8 ++ (putB (IntKind.u64.wrap c) 8 ++ [u8 ph]) := by
    unfold bodyB
    rw [List.append_assoc, List.append_assoc, dropL (putB_len _ _)]
  have e16 : (bodyB c ph t n).drop 16 = putB (IntKind.u64.wrap c) 8 ++ [u8 ph] := by
    rw [show 16 = 8 + 8 from rfl, ← List.drop_drop, e8, dropL (putB_len _ _)]
  have e24 : rdB (bodyB c ph t n) 24 = ph := by
    unfold rdB bodyB
    rw [List.getD_eq_getElem?_getD, List.getElem?_append_right (by simp [putB_len])]
    simp only [List.length_append, putB_len]
    show ((([u8 ph] : List UInt8)[24 - 24]?.getD 0).toNat : Int) = ph
    exact u8_toNat hp
  unfold bodyF
  rw [e0, e8, e16, e24, natL_putB _ 8 8 _ (Nat.le_refl _) (Nat.le_refl _), natL_putB _ 8 8 _ (Nat.le_refl _) (Nat.le_refl _), wrap_back hc, wrap_back ht]
def okG (x : Flt) : Prop := i64R x.1 ∧ i64R x.2.2.1
theorem rdS_slot {c ph t n : Int} {k s : Nat} (hg : goodF (c, ph, t, n) k s) (ho : okG (c, ph, t, n)) : rdS (195 :: contB c ph t n) k s = some (c, ph, t, n) := by
  have h1 := hg.1
  have h2 := hg.2.1
  have h3 := hg.2.2.1
  have h4 := hg.2.2.2.1
  dsimp only at h1 h2 h3 h4
  have e : List.take 25 (contB c ph t n) = bodyB c ph t n := by
    unfold contB
    rw [List.take_append_of_le_length (by rw [bodyB_len]; omega), List.take_of_length_le (by rw [bodyB_len]; omega)]
  have e2 : List.drop 25 (contB c ph t n) = seal4 (crcI (bodyB c ph t n)) := by
    unfold contB
    exact dropL (bodyB_len _ _ _ _)
  unfold rdS
  have h5 : List.drop 26 (195 :: contB c ph t n) = seal4 (crcI (bodyB c ph t n)) := e2
  have h6 : List.take 25 (List.drop 1 (195 :: contB c ph t n)) = bodyB c ph t n := e
  rw [h6, h5, bodyF_bodyB ho.1 ho.2 (by omega) (by omega), if_pos ⟨rfl, rfl, hg⟩]
structure MemS (d : List UInt8) (s : Nat) (F : List Flt) : Prop where
  len : d.length = 30 * s
  s2 : 2 ≤ s
  s64 : s ≤ 64
  srt : F.Pairwise ltN
  mem : ∀ i x, i < s → (rdS (slot d i) i s = some x ↔ x ∈ F ∧ x.2.2.2 % (s : Int) = (i : Int))
theorem idx {s : Nat} (h : 2 ≤ s) (n : Int) : ∃ i : Nat, i < s ∧ n % (s : Int) = (i : Int) := by
  have h1 := Int.emod_nonneg n (show (s : Int) ≠ 0 by omega)
  have h2 := Int.emod_lt_of_pos n (show (0 : Int) < (s : Int) by omega)
  exact ⟨(n % (s : Int)).toNat, by omega, by omega⟩
theorem MemS.memF {d : List UInt8} {s : Nat} {F : List Flt} (h : MemS d s F) : memF d s = F := by
  refine ext_lt (memF_lt d s) h.srt fun x => ?_
  rw [memF_mem]
  constructor
  · rintro ⟨i, hi, k⟩
    exact ((h.mem i x hi).1 k).1
  · intro k
    obtain ⟨i, hi, e⟩ := idx h.s2 x.2.2.2
    exact ⟨i, hi, (h.mem i x hi).2 ⟨k, e⟩⟩
theorem MemS.of {d : List UInt8} {s : Nat} (h : d.length = 30 * s) (h2 : 2 ≤ s) (h64 : s ≤ 64) : MemS d s (Go.Proofs.YtnkmijidneibnaaDoor.memF d s) := by
  refine ⟨h, h2, h64, memF_lt d s, fun i x hi => ⟨fun k => ⟨memF_mem.2 ⟨i, hi, k⟩, (rdS_good k).2.2.2.2⟩, fun ⟨k, e⟩ => ?_⟩⟩
  obtain ⟨j, hj, k⟩ := memF_mem.1 k
  have e2 := (rdS_good k).2.2.2.2
  rw [e] at e2
  have : j = i := by omega
  subst this
  exact k
theorem ovr_all {α : Type} {xs ys : List α} (h : ys.length = xs.length) : ovrL xs 0 ys = ys := by
  unfold ovrL
  rw [List.take_zero, List.nil_append, Nat.zero_add, h, List.drop_length, List.append_nil]
def others (F : List Flt) (s k : Nat) : List Flt := F.filter fun x => decide (x.2.2.2 % (s : Int) ≠ (k : Int))
theorem mem_others {F : List Flt} {s k : Nat} {x : Flt} : x ∈ others F s k ↔ x ∈ F ∧ x.2.2.2 % (s : Int) ≠ (k : Int) := by
  unfold others
  rw [List.mem_filter, decide_eq_true_eq]
theorem MemS.cut {d : List UInt8} {s : Nat} {F : List Flt} (h : MemS d s F) {k : Nat} (hk : k < s) {p : List UInt8} (hp : p.length ≤ 29) : MemS (ovrL d (30 * k) (0 :: p)) s (others F s k) := by
  have hl := h.len
  have hp' : 30 * k + (0 :: p : List UInt8).length ≤ d.length := by rw [List.length_cons]; omega
  refine ⟨by rw [ovr_len hp']; exact hl, h.s2, h.s64, h.srt.filter _, fun i x hi => ?_⟩
  rw [mem_others]
  have e := slot_ovr (p := 0 :: p) (o := 0) hl hk (by rw [List.length_cons]; omega) i
  rw [Nat.add_zero] at e
  rw [e]
  by_cases c : i = k
  · subst c
    rw [if_pos rfl, rdS_head]
    · constructor
      · intro h; cases h
      · rintro ⟨⟨_, a⟩, b⟩; exact absurd b a
    · unfold ovrL
      simp
  · rw [if_neg c, h.mem i x hi]
    constructor
    · rintro ⟨a, b⟩; exact ⟨⟨a, by rw [b]; omega⟩, b⟩
    · rintro ⟨⟨a, _⟩, b⟩; exact ⟨a, b⟩
theorem MemS.app {d : List UInt8} {s : Nat} {F : List Flt} (h : MemS d s F) {c ph t n : Int} {k : Nat} (hk : k < s) (hg : goodF (c, ph, t, n) k s) (ho : okG (c, ph, t, n)) (hn : ∀ x ∈ F, x.2.2.2 < n) :
    MemS (ovrL d (30 * k) (195 :: contB c ph t n)) s (others F s k ++ [(c, ph, t, n)]) := by
  have hl := h.len
  have hp : (195 :: contB c ph t n).length = 30 := by rw [List.length_cons, contB_len]
  refine ⟨by rw [ovr_len (by rw [hp]; omega)]; exact hl, h.s2, h.s64, ?_, fun i x hi => ?_⟩
  · rw [List.pairwise_append]
    refine ⟨h.srt.filter _, by simp, fun x hx y hy => ?_⟩
    have : y = (c, ph, t, n) := by simpa using hy
    subst this
    exact hn x (mem_others.1 hx).1
  · have e := slot_ovr (p := 195 :: contB c ph t n) (o := 0) hl hk (by omega) i
    rw [Nat.add_zero] at e
    rw [e, List.mem_append, mem_others, List.mem_singleton]
    by_cases c : i = k
    · subst c
      rw [if_pos rfl, ovr_all (by rw [hp, slot_len hl hi]), rdS_slot hg ho]
      constructor
      · intro e; injection e with e; subst e; exact ⟨.inr rfl, hg.2.2.2.2⟩
      · rintro ⟨⟨_, a⟩ | a, b⟩
        · exact absurd b a
        · rw [a]
    · rw [if_neg c, h.mem i x hi]
      constructor
      · rintro ⟨a, b⟩; exact ⟨.inl ⟨a, by rw [b]; omega⟩, b⟩
      · rintro ⟨⟨a, _⟩ | a, b⟩
        · exact ⟨a, b⟩
        · subst a
          have := hg.2.2.2.2
          dsimp only at this b
          omega
end Go.Proofs.YtnkmijidneibnaaDoor
namespace Go.Proofs.YtnkmijidneibnaaDoor
set_option linter.unusedVariables false
set_option linter.unusedSimpArgs false
set_option maxRecDepth 100000
open Go.RowKit
theorem getD_of {α : Type} {l : List α} {i : Nat} {d : α} (h : i < l.length) : l.getD i d = l[i] := by
  rw [List.getD_eq_getElem?_getD, List.getElem?_eq_getElem h]; rfl
end Go.Proofs.YtnkmijidneibnaaDoor
namespace Go.Proofs.YtnkmijidneibnaaDoor
set_option linter.unusedVariables false
set_option linter.unusedSimpArgs false
set_option maxRecDepth 100000
open Go.RowKit
theorem MemS.zero {s : Nat} (h2 : 2 ≤ s) (h64 : s ≤ 64) : MemS (List.replicate (30 * s) 0) s [] := by
  refine ⟨List.length_replicate, h2, h64, .nil, fun i x hi => ?_⟩
  rw [rdS_head]
  · simp
  · unfold slot
    rw [List.drop_replicate, List.take_replicate]
    obtain ⟨m, hm⟩ : ∃ m, min 30 (30 * s - 30 * i) = m + 1 := ⟨29, by omega⟩
    rw [hm, List.replicate_succ]
    simp
end Go.Proofs.YtnkmijidneibnaaDoor
namespace Go.Proofs.YtnkmijidneibnaaDoor
set_option linter.unusedVariables false
set_option linter.unusedSimpArgs false
set_option maxRecDepth 100000
open Go.RowKit
end Go.Proofs.YtnkmijidneibnaaDoor
namespace Go.Proofs.YtnkmijidneibnaaDoor
set_option linter.unusedVariables false
set_option maxRecDepth 100000
theorem awake_yes : o11 = some true := by kernel_rfl
end Go.Proofs.YtnkmijidneibnaaDoor
namespace Go.Proofs.YtnkmijidneibnaaDoor
set_option linter.unusedVariables false
set_option linter.unusedSimpArgs false
set_option maxRecDepth 100000
open Go.RowKit
theorem cnd_t {α : Type} (x y : α) : cnd true x y = x := rfl
theorem cnd_f {α : Type} (x y : α) : cnd false x y = y := rfl
theorem gd_t {α : Type} (x : Option α) : gd true x = x := rfl
theorem mx {l : List Flt} {s : Nat} (hl : l.length ≤ 1000) (hs : s ≤ 1000) : maxI 0 (IntKind.i64.wrap (((l.length : Nat) : Int) - (s : Int))) = ((l.length - s : Nat) : Int) := by
  rw [wr64 (by omega)]
  unfold maxI
  split <;> omega
end Go.Proofs.YtnkmijidneibnaaDoor
namespace Go.Proofs.YtnkmijidneibnaaDoor
set_option linter.unusedVariables false
set_option linter.unusedSimpArgs false
set_option maxRecDepth 100000
open Go.RowKit
end Go.Proofs.YtnkmijidneibnaaDoor
namespace Go.Proofs.YtnkmijidneibnaaDoor
set_option linter.unusedVariables false
set_option linter.unusedSimpArgs false
open Go.Shelf Go.RowKit Go.Lib
set_option maxHeartbeats 1000000 in
set_option maxRecDepth 100000 in
theorem ins_shift_core {w W1 W2 : World} {b vb n c i vc : Nat} {v1 v2 : Value} (hi : i < n) (hroom : n + 1 ≤ c) (hcb : c ≤ 9223372036854775807)
    (hov : ∀ lb cb, (callFunc 76 #[.slice (some ⟨vb, 0, none⟩) 1 vc, .slice (some ⟨b, (i + 1) * 5, none⟩) lb cb]).run Tryd.prog w = .ok (.value (.bool false)) w)
    (hcp1 : ∀ ty dc sc, (Builtin.copy_ #[74, 74] ty #[.slice (some ⟨b, (i + 1) * 5, none⟩) (n - i) dc, .slice (some ⟨b, i * 5, none⟩) (n + 1 - i) sc]).run Tryd.prog w.drew = .ok v1 W1)
    (hcp2 : ∀ ty dc, (Builtin.copy_ #[74, 74] ty #[.slice (some ⟨b, i * 5, none⟩) (n + 1 - i) dc, .slice (some ⟨vb, 0, none⟩) 1 vc]).run Tryd.prog W1 = .ok v2 W2) :
    Calls Tryd.prog 57 #[.slice (some ⟨b, 0, none⟩) n c, .int .i64 i, .slice (some ⟨vb, 0, none⟩) 1 vc] w fun e w' => e = .returned (.slice (some ⟨b, 0, none⟩) (n + 1) c) ∧ w' = W2 := by
  have mixed : Tryd.prog.follows Departure.mixedOrders = true := by kernel_rfl
  have t74 := Tryd.underlying74
  have t3 := Tryd.underlying3
  have hz2 : ¬ ((i : Int) = (n : Int)) := by omega
  have hw1 : IntKind.i64.wrap ((i : Int) + 1) = (i : Int) + 1 := by rw [IntKind.wrap_i64]; omega
  have hw2 : IntKind.i64.wrap ((n : Int) + 1) = (n : Int) + 1 := by rw [IntKind.wrap_i64]; omega
  have hb1 : (0 : Int) ≤ (i : Int) + 1 := by omega
  have hin : i ≤ n := by omega
  have htn : ((i : Int) + 1).toNat = i + 1 := by omega
  have htn2 : ((n : Int) + 1).toNat = n + 1 := by omega
  have hb2 : ¬ (c = i + 1) := by omega
  have hb3 : (i : Int) ≤ (n : Int) + 1 := by omega
  have hb4 : ¬ (c = i) := by omega
  go_enter Tryd.func57, Tryd.ntmps57
  go_wp2_with (simp only [hov])
  go_region_law_o (refine step_copy_runI rfl _ _ 74 74 rfl _ _ (by simp [Act.eval, Act.put]) (by simp [Act.eval, Act.put]) (hcp1 _ _ _) ?_)
  go_wp2_with (at_builtin; refine wpList_copy_runI _ rfl _ _ 74 74 rfl _ _ rfl rfl (hcp2 _ _) ?_)
  go_ret
  exact ⟨rfl, rfl⟩
set_option maxHeartbeats 1000000 in
set_option maxRecDepth 100000 in
theorem ins_grow_core {w W1 W2 W3 : World} {b vb N n c i vc G : Nat} {v1 v2 : Value} (hi : i < n) (hnc : n ≤ c) (hroom : c < n + 1) (hcb : n + 1 ≤ 9223372036854775807) (hG : n + 1 ≤ G) (hGb : G ≤ 9223372036854775807)
    (hrz : ∀ ty, (Builtin.append_ #[74, 3] ty #[.slice (some ⟨b, 0, none⟩) i c, .int .i64 ((n : Int) + 1 - (i : Int))]).run Tryd.prog w = .ok (.slice (some ⟨N, 0, none⟩) (n + 1) G) W1)
    (hcp1 : ∀ ty dc, (Builtin.copy_ #[74, 74] ty #[.slice (some ⟨N, i * 5, none⟩) (n + 1 - i) dc, .slice (some ⟨vb, 0, none⟩) 1 vc]).run Tryd.prog W1 = .ok v1 W2)
    (hcp2 : ∀ ty dc sc, (Builtin.copy_ #[74, 74] ty #[.slice (some ⟨N, (i + 1) * 5, none⟩) (n - i) dc, .slice (some ⟨b, i * 5, none⟩) (n - i) sc]).run Tryd.prog W2.drew = .ok v2 W3) :
    Calls Tryd.prog 57 #[.slice (some ⟨b, 0, none⟩) n c, .int .i64 i, .slice (some ⟨vb, 0, none⟩) 1 vc] w fun e w' => e = .returned (.slice (some ⟨N, 0, none⟩) (n + 1) G) ∧ w' = W3 := by
  have mixed : Tryd.prog.follows Departure.mixedOrders = true := by kernel_rfl
  have t74 := Tryd.underlying74
  have t3 := Tryd.underlying3
  have hz2 : ¬ ((i : Int) = (n : Int)) := by omega
  have hw1 : IntKind.i64.wrap ((i : Int) + 1) = (i : Int) + 1 := by rw [IntKind.wrap_i64]; omega
  have hw2 : IntKind.i64.wrap ((n : Int) + 1) = (n : Int) + 1 := by rw [IntKind.wrap_i64]; omega
  have hw3 : IntKind.i64.wrap ((n : Int) + 1 - (i : Int)) = (n : Int) + 1 - (i : Int) := by rw [IntKind.wrap_i64]; omega
  have hb1 : (0 : Int) ≤ (i : Int) + 1 := by omega
  have hin : i ≤ n := by omega
  have htn : ((i : Int) + 1).toNat = i + 1 := by omega
  have htn2 : ((n : Int) + 1).toNat = n + 1 := by omega
  have hb2 : ¬ (G = i + 1) := by omega
  have hb3 : (i : Int) ≤ (n : Int) + 1 := by omega
  have hb4 : ¬ (G = i) := by omega
  have hb5 : ¬ (c = i) := by omega
  go_enter Tryd.func57, Tryd.ntmps57
  go_wp2_with (first
    | (at_builtin; refine Lib.wpList_append_run _ rfl _ _ _ _ rfl _ _ rfl rfl _ _ (hrz _) ?_)
    | (at_builtin; refine wpList_copy_runI _ rfl _ _ 74 74 rfl _ _ rfl rfl (hcp1 _ _) ?_))
  go_region_law_o (refine step_copy_runI rfl _ _ 74 74 rfl _ _ (by simp [Act.eval, Act.put]) (by simp [Act.eval, Act.put]) (hcp2 _ _ _) ?_)
  go_wp2
  go_ret
  exact ⟨rfl, rfl⟩
end Go.Proofs.YtnkmijidneibnaaDoor
namespace Go.Proofs.YtnkmijidneibnaaDoor
set_option linter.unusedVariables false
set_option linter.unusedSimpArgs false
set_option maxRecDepth 100000
open Go.RowKit
abbrev T057 : Tbl := []
theorem K057 : TOk Tryd.prog T057 := .nil
noncomputable section
def p57 : Sch := ⟨[(0, .v (.c (.own 0))), (1, .v (.c (.i .i64))), (2, .v (.c (.own 1)))], [.row (.p (.i .i64) (.p (.i .i64) (.p (.i .u16) (.p (.i .i64) (.i .i64))))) 80, .row (.p (.i .i64) (.p (.i .i64) (.p (.i .u16) (.p (.i .i64) (.i .i64))))) 80]⟩
def r57 : List Sch := [⟨[(0, .v (.c (.own 2)))], [.no, .row (.p (.i .i64) (.p (.i .i64) (.p (.i .u16) (.p (.i .i64) (.i .i64))))) 80, .row (.p (.i .i64) (.p (.i .i64) (.p (.i .u16) (.p (.i .i64) (.i .i64))))) 80]⟩]
def o57e (a0 : Int) (a1 : List (Int × Int × Int × Int × Int)) (a2 : List (Int × Int × Int × Int × Int)) : Option (List (Int × Int × Int × Int × Int) × List (Int × Int × Int × Int × Int)) :=
 (gd (decide ((0 : Int) ≤ a0 ∧ a0 ≤ ((a1.length : Nat) : Int))) (cnd (((a2.length : Nat) : Int) == (0 : Int)) (some (a2, a1)) (cnd (a0 == ((a1.length : Nat) : Int)) (gd (decide ((a1.length + a2.length) * 40 ≤ 140737488355328)) (some (a2, (a1 ++ a2)))) none)))
theorem e57x (t : Int × List (Int × Int × Int × Int × Int) × List (Int × Int × Int × Int × Int)) : evF (stpT Tryd.prog T057 K057) Tryd.f57 p57 r57 (.s .d (.s .d (.s .d (.s .d (.s .d (.s .d .cut)))))) t = (o57e t.1 t.2.1 t.2.2) := by kernel_rfl
theorem fo57x : FOk Tryd.prog 57 ⟨p57, r57, fun t => (o57e t.1 t.2.1 t.2.2)⟩ := FOk.run_eq (evF_ok (h := (.s .d (.s .d (.s .d (.s .d (.s .d (.s .d .cut))))))) (by kernel_rfl) (by kernel_rfl) (by kernel_rfl)) e57x
end
end Go.Proofs.YtnkmijidneibnaaDoor
namespace Go.Proofs.YtnkmijidneibnaaDoor
set_option linter.unusedVariables false
set_option linter.unusedSimpArgs false
set_option maxRecDepth 100000
open Go.Shelf Go.RowKit Go.Lib
theorem put_row {cs sp vs : List Value} {i n : Nat} (hi : i ≤ n) (hc : cs.length = n * 5) (hs : 5 ≤ sp.length) (hv : vs.length = 5) : setRow (setRow (cs ++ sp) ((i + 1) * 5) (cs.drop (i * 5))) (i * 5) vs = (cs.take (i * 5) ++ vs ++ cs.drop (i * 5)) ++ sp.drop 5 := by
  have hl : (cs.drop (i * 5)).length = n * 5 - i * 5 := by rw [List.length_drop, hc]
  have e1 : (i + 1) * 5 + (cs.drop (i * 5)).length = cs.length + 5 := by omega
  have e2 : (cs ++ sp).drop (cs.length + 5) = sp.drop 5 := by rw [List.drop_append]; simp
  have e3 : ((cs ++ sp).take ((i + 1) * 5)).length = (i + 1) * 5 := by rw [List.length_take, List.length_append]; omega
  have e4 : ((cs ++ sp).take ((i + 1) * 5) ++ cs.drop (i * 5) ++ sp.drop 5).take (i * 5) = cs.take (i * 5) := by
    rw [List.append_assoc, List.take_append_of_le_length (by omega), List.take_take, Nat.min_eq_left (by omega), List.take_append_of_le_length (by omega)]
  have e5 : ((cs ++ sp).take ((i + 1) * 5) ++ cs.drop (i * 5) ++ sp.drop 5).drop (i * 5 + 5) = cs.drop (i * 5) ++ sp.drop 5 := by
    rw [List.append_assoc, show i * 5 + 5 = (i + 1) * 5 by omega, List.drop_append_of_le_length (by omega), List.drop_of_length_le (by omega), List.nil_append]
  have e6 : setRow (cs ++ sp) ((i + 1) * 5) (cs.drop (i * 5)) = (cs ++ sp).take ((i + 1) * 5) ++ cs.drop (i * 5) ++ sp.drop 5 := by
    rw [setRow_eq _ _ _ (by rw [List.length_append]; omega), e1, e2]
  rw [e6, setRow_eq _ _ _ (by simp only [List.length_append, List.length_drop] at *; omega), hv, e4, e5]
  simp [List.append_assoc]
theorem drop_plus {A B : List Value} {k x : Nat} (h : A.length = k) : (A ++ B).drop (k + x) = B.drop x := by subst h; rw [List.drop_append]; simp
theorem drop_all {A B : List Value} {k : Nat} (h : A.length = k) : (A ++ B).drop k = B := by subst h; simp
theorem lt_of {cs : List Value} {j : Nat} {u : Value} (h : cs[j]? = some u) : j < cs.length := (List.getElem?_eq_some_iff.1 h).1
theorem put_new {cs vs Z Y : List Value} {i n : Nat} (hi : i ≤ n) (hc : cs.length = n * 5) (hz : Z.length = (n + 1 - i) * 5) (hv : vs.length = 5) : setRow (setRow (cs.take (i * 5) ++ Z ++ Y) (i * 5) vs) ((i + 1) * 5) (cs.drop (i * 5)) = (cs.take (i * 5) ++ vs ++ cs.drop (i * 5)) ++ Y := by
  have h1 : (cs.take (i * 5)).length = i * 5 := by rw [List.length_take]; omega
  have hl : (cs.drop (i * 5)).length = n * 5 - i * 5 := by rw [List.length_drop, hc]
  have e1 : setRow (cs.take (i * 5) ++ Z ++ Y) (i * 5) vs = cs.take (i * 5) ++ vs ++ (Z.drop 5 ++ Y) := by
    rw [setRow_eq _ _ _ (by simp only [List.length_append]; omega), hv]
    congr 1
    · congr 1
      rw [List.append_assoc, List.take_append_of_le_length (by omega), List.take_of_length_le (by omega)]
    · rw [List.append_assoc, List.drop_append, h1, show i * 5 + 5 - i * 5 = 5 by omega, List.drop_of_length_le (by omega), List.nil_append, List.drop_append_of_le_length (by omega)]
  have h2 : (cs.take (i * 5) ++ vs).length = (i + 1) * 5 := by rw [List.length_append]; omega
  rw [e1, setRow_eq _ _ _ (by simp only [List.length_append, List.length_drop]; omega)]
  rw [show (cs.take (i * 5) ++ vs ++ (Z.drop 5 ++ Y)).take ((i + 1) * 5) = cs.take (i * 5) ++ vs by rw [List.take_append_of_le_length (by omega), List.take_of_length_le (by omega)]]
  rw [drop_plus h2, drop_all (by rw [List.length_drop, hz, hl]; omega)]
theorem cells80 : cellsOfT Tryd.prog 80 = some 5 := by kernel_rfl
theorem loads {w : World} {b : Nat} {cs ds : List Value} {o : Nat} (h : ∀ k, w.cell? ⟨b, k, none⟩ = ds[k]?) (hd : ∀ j u, cs[j]? = some u → ds[o + j]? = some u) (hp : 0 < cs.length) : ∃ ad, (some ⟨b, o, none⟩ : Option Addr) = some ad ∧ ∀ j u, cs[j]? = some u → w.cell? (ad.add j) = some u :=
  ⟨_, rfl, fun j u hj => by rw [addr_add, h]; exact hd j u hj⟩
section
variable {w : World} {g : Gh} {b vb n c i vc : Nat} {cs sp vs vsp : List Value}
theorem ins_shift (hs : St w g [some ⟨b, (80 : Nat), cs ++ sp⟩, some ⟨vb, (80 : Nat), vs ++ vsp⟩]) (hi : i < n) (hroom : n + 1 ≤ c) (hcb : c ≤ 9223372036854775807) (hcl : cs.length = n * 5)
    (hsl : (cs ++ sp).length = c * 5) (hvl : vs.length = 5) (h1c : cs.all one1 = true) (h1v : vs.all one1 = true) :
    Calls Tryd.prog 57 #[.slice (some ⟨b, 0, none⟩) n c, .int .i64 i, .slice (some ⟨vb, 0, none⟩) 1 vc] w fun e w' =>
      e = .returned (.slice (some ⟨b, 0, none⟩) (n + 1) c) ∧ St w' g [some ⟨b, (80 : Nat), (cs.take (i * 5) ++ vs ++ cs.drop (i * 5)) ++ sp.drop 5⟩, some ⟨vb, (80 : Nat), vs ++ vsp⟩] := by
  have hne : vb ≠ b := fun e => by
    subst e
    have := hs.nodup
    simp [Own.ids] at this
  have hob : w.heap[b]? = some (.cells (cs ++ sp).toArray 80 (0, 0)) := hs.has ⟨b, (80 : Nat), cs ++ sp⟩ List.mem_cons_self
  have hov1 : w.heap[vb]? = some (.cells (vs ++ vsp).toArray 80 (0, 0)) := hs.has ⟨vb, (80 : Nat), vs ++ vsp⟩ (List.mem_cons_of_mem _ List.mem_cons_self)
  have hsa : w.shape? vb = some (80, (vs ++ vsp).length) := by unfold World.shape?; rw [hov1]; simp
  have hsb : w.shape? b = some (80, c * 5) := by unfold World.shape?; rw [hob, ← hsl]; simp
  have hfa : ∀ k, w.frozen? ⟨vb, k, none⟩ = false := fun k => by unfold World.frozen?; rw [hov1]; simp
  have hov : ∀ lb cb, (callFunc 76 #[.slice (some ⟨vb, 0, none⟩) 1 vc, .slice (some ⟨b, (i + 1) * 5, none⟩) lb cb]).run Tryd.prog w = .ok (.value (.bool false)) w := fun lb cb => by
    rw [run_callFunc_extern Tryd.func76 (by kernel_rfl) (by kernel_rfl) (by kernel_rfl) (e := Extern.SlicesOverlaps.overlaps #[74, 74] #[4]) (by kernel_rfl),
      Lib.run_overlaps_apart w 74 4 80 Tryd.underlying74 5 Tryd.sizeOf80 ⟨vb, 0, none⟩ ⟨b, (i + 1) * 5, none⟩ 1 vc lb cb hne 80 80 _ _ hsa hsb (by omega) (hfa _) (hfa _)]
    rfl
  have hspl : sp.length = c * 5 - n * 5 := by rw [List.length_append] at hsl; omega
  have hdl : (cs.drop (i * 5)).length = (n - i) * 5 := by rw [List.length_drop]; omega
  have hs0 := hs.drew
  obtain ⟨W1, r1, hs1⟩ := run_storeCells_own (P := Tryd.prog) (i := 0) (k := ⟨b, (80 : Nat), cs ++ sp⟩) (vs := cs.drop (i * 5)) (off := (i + 1) * 5) (cs ++ sp) 0 hs0 rfl (fun v hv => List.all_eq_true.1 h1c v (List.mem_of_mem_drop hv)) (by rw [hdl, hsl]; omega)
  have hs1 : St W1 g [some ⟨b, (80 : Nat), setRow (cs ++ sp) ((i + 1) * 5) (cs.drop (i * 5))⟩, some ⟨vb, (80 : Nat), vs ++ vsp⟩] := hs1
  obtain ⟨W2, r2, hs2⟩ := run_storeCells_own (P := Tryd.prog) (i := 0) (k := ⟨b, (80 : Nat), setRow (cs ++ sp) ((i + 1) * 5) (cs.drop (i * 5))⟩) (vs := vs) (off := i * 5) _ 0 hs1 rfl (fun v hv => List.all_eq_true.1 h1v v hv) (by rw [setRow_length, hvl, hsl]; omega)
  have hs2 : St W2 g [some ⟨b, (80 : Nat), setRow (setRow (cs ++ sp) ((i + 1) * 5) (cs.drop (i * 5))) (i * 5) vs⟩, some ⟨vb, (80 : Nat), vs ++ vsp⟩] := hs2
  rw [put_row (n := n) (by omega) hcl (by omega) hvl] at hs2
  have m1 : Nat.min (n + 1 - i) (n - i) = n - i := Nat.min_eq_right (by omega)
  have m2 : Nat.min 1 (n + 1 - i) = 1 := Nat.min_eq_left (by omega)
  refine (ins_shift_core (W1 := W1) (W2 := W2) hi hroom hcb hov (fun ty dc sc => run_copy_ (k := 5) (cs := cs.drop (i * 5)) Tryd.underlying74 cells80 (fun _ => ?_) (by rw [m1]; exact hdl) (fun h => by rw [m1] at h; omega) (fun _ => ⟨_, rfl, r1⟩) (by decide))
    (fun ty dc => run_copy_ (k := 5) (cs := vs) Tryd.underlying74 cells80 (fun _ => ?_) (by rw [m2]; exact hvl) (fun h => by rw [m2] at h; omega) (fun _ => ⟨_, rfl, r2⟩) (by decide))).mono fun e w' ⟨h1, h2⟩ => ⟨h1, by rw [h2]; exact hs2⟩
  · exact loads (ds := cs ++ sp) (fun k => hs0.has.cell (k := ⟨b, (80 : Nat), cs ++ sp⟩) List.mem_cons_self k) (fun j u hj => by
      rw [List.getElem?_drop] at hj
      rw [List.getElem?_append_left (lt_of hj)]
      exact hj) (by omega)
  · exact loads (ds := vs ++ vsp) (fun k => hs1.has.cell (k := ⟨vb, (80 : Nat), vs ++ vsp⟩) (List.mem_cons_of_mem _ List.mem_cons_self) k) (fun j u hj => by
      rw [Nat.zero_add, List.getElem?_append_left (lt_of hj)]
      exact hj) (by omega)
theorem ins_grow (hs : St w g [some ⟨b, (80 : Nat), cs ++ sp⟩, some ⟨vb, (80 : Nat), vs ++ vsp⟩]) (hi : i < n) (hnc : n ≤ c) (hroom : c < n + 1) (hcb : n ≤ 1000000) (hcl : cs.length = n * 5)
    (hvl : vs.length = 5) (h1c : cs.all one1 = true) (h1v : vs.all one1 = true) :
    Calls Tryd.prog 57 #[.slice (some ⟨b, 0, none⟩) n c, .int .i64 i, .slice (some ⟨vb, 0, none⟩) 1 vc] w fun e w' => ∃ N G Y,
      e = .returned (.slice (some ⟨N, 0, none⟩) (n + 1) G) ∧ St w' g [some ⟨N, (80 : Nat), (cs.take (i * 5) ++ vs ++ cs.drop (i * 5)) ++ Y⟩, some ⟨b, (80 : Nat), cs ++ sp⟩, some ⟨vb, (80 : Nat), vs ++ vsp⟩] ∧
        ((cs.take (i * 5) ++ vs ++ cs.drop (i * 5)) ++ Y).length = G * 5 ∧ G ≤ maxLen := by
  have hs0 := hs.drew
  have hdl : (cs.drop (i * 5)).length = (n - i) * 5 := by rw [List.length_drop]; omega
  obtain ⟨i0, hi0⟩ : ∃ i0, Tryd.prog.info? 80 = some i0 ∧ i0.size = 5 ∧ i0.bytes = 40 ∧ ∃ z, i0.zero = some z ∧ z.cells.size = 5 := by
    have h : (Tryd.prog.info? 80).any (fun i0 => Nat.beq i0.size 5 && (Nat.beq i0.bytes 40 && (match i0.zero with | some z => Nat.beq z.cells.size 5 | none => false))) = true := by kernel_rfl
    cases hq : Tryd.prog.info? 80 with
    | none => rw [hq] at h; cases h
    | some i0 =>
      rw [hq] at h
      simp only [Option.any_some, Bool.and_eq_true] at h
      obtain ⟨h1, h2, h3⟩ := h
      refine ⟨i0, rfl, Nat.eq_of_beq_eq_true h1, Nat.eq_of_beq_eq_true h2, ?_⟩
      cases hz : i0.zero with
      | none => rw [hz] at h3; cases h3
      | some z => rw [hz] at h3; exact ⟨z, rfl, Nat.eq_of_beq_eq_true h3⟩
  obtain ⟨hinf, hsz, hby, z, hz, hzl⟩ := hi0
  have hold : (Builtin.firstCells i0.size i (.slice (some ⟨b, 0, none⟩) i c)).run Tryd.prog w.drew = .ok (cs.take (i * 5)).toArray w.drew := by
    rw [hsz]
    refine run_firstCells_some w.drew 5 i ⟨b, 0, none⟩ i c _ (by rw [List.length_take]; omega) (fun j v hj => ?_)
    rw [addr_add, Nat.zero_add, hs0.has.cell (k := ⟨b, (80 : Nat), cs ++ sp⟩) List.mem_cons_self]
    rw [List.getElem?_take] at hj
    split at hj
    · rw [List.getElem?_append_left (lt_of hj)]; exact hj
    · cases hj
  have hrz := fun ty => run_append_grow_zeros (P := Tryd.prog) w 74 3 ty 80 i0 z .i64 .i64 Tryd.underlying74 Tryd.underlying3 hinf hz (some ⟨b, 0, none⟩) i c _ hold (n + 1 - i) (by omega) (by omega) (by omega) (by omega) (by rw [hby]; omega)
    (by rw [hby]; exact growslice_fits_wide (by omega) (by omega))
  have e1 : i + (n + 1 - i) = n + 1 := by omega
  have e2 : ((n + 1 - i : Nat) : Int) = (n : Int) + 1 - (i : Int) := by omega
  rw [e1] at hrz
  simp only [e2] at hrz
  have hG1 : n + 1 ≤ grownCap w (n + 1) c 80 := grownCap_ge w _ _ _
  have hG2 : grownCap w (n + 1) c 80 ≤ maxLen := grownCap_le_maxLen w _ _ _ (by unfold maxLen; omega)
  generalize grownCap w (n + 1) c 80 = G at *
  obtain ⟨Z, hZ, hZl⟩ : ∃ Z : List Value, Builtin.zeroCells z.cells (n + 1 - i) = Z.toArray ∧ Z.length = (n + 1 - i) * 5 := ⟨(Builtin.zeroCells z.cells (n + 1 - i)).toList, by simp, by simp [Builtin.zeroCells, hzl]⟩
  obtain ⟨Y, hY, hYl⟩ : ∃ Y : List Value, Builtin.zeroCells z.cells (G - (n + 1)) = Y.toArray ∧ Y.length = (G - (n + 1)) * 5 := ⟨(Builtin.zeroCells z.cells (G - (n + 1))).toList, by simp, by simp [Builtin.zeroCells, hzl]⟩
  rw [hZ, hY] at hrz
  have hrow : (cs.take (i * 5)).toArray ++ Z.toArray ++ Y.toArray = (cs.take (i * 5) ++ Z ++ Y).toArray := by simp
  rw [hrow] at hrz
  have hsA : St (w.drew.alloc (.cells (cs.take (i * 5) ++ Z ++ Y).toArray 80)) g (some ⟨w.heap.size, (80 : Nat), cs.take (i * 5) ++ Z ++ Y⟩ :: [some ⟨b, (80 : Nat), cs ++ sp⟩, some ⟨vb, (80 : Nat), vs ++ vsp⟩]) := hs0.alloc 80 _
  generalize w.drew.alloc (.cells (cs.take (i * 5) ++ Z ++ Y).toArray 80) = W1 at *
  generalize w.heap.size = N at *
  have htl : (cs.take (i * 5)).length = i * 5 := by rw [List.length_take]; omega
  have hrl : (cs.take (i * 5) ++ Z ++ Y).length = G * 5 := by simp only [List.length_append]; omega
  obtain ⟨W2, r2, hs2⟩ := run_storeCells_own (P := Tryd.prog) (i := 0) (k := ⟨N, (80 : Nat), cs.take (i * 5) ++ Z ++ Y⟩) (vs := vs) (off := i * 5) _ 0 hsA rfl (fun v hv => List.all_eq_true.1 h1v v hv) (by rw [hvl, hrl]; omega)
  have hs2 : St W2 g [some ⟨N, (80 : Nat), setRow (cs.take (i * 5) ++ Z ++ Y) (i * 5) vs⟩, some ⟨b, (80 : Nat), cs ++ sp⟩, some ⟨vb, (80 : Nat), vs ++ vsp⟩] := hs2
  have hs2d := hs2.drew
  obtain ⟨W3, r3, hs3⟩ := run_storeCells_own (P := Tryd.prog) (i := 0) (k := ⟨N, (80 : Nat), setRow (cs.take (i * 5) ++ Z ++ Y) (i * 5) vs⟩) (vs := cs.drop (i * 5)) (off := (i + 1) * 5) _ 0 hs2d rfl (fun v hv => List.all_eq_true.1 h1c v (List.mem_of_mem_drop hv)) (by rw [setRow_length, hdl, hrl]; omega)
  have hs3 : St W3 g [some ⟨N, (80 : Nat), setRow (setRow (cs.take (i * 5) ++ Z ++ Y) (i * 5) vs) ((i + 1) * 5) (cs.drop (i * 5))⟩, some ⟨b, (80 : Nat), cs ++ sp⟩, some ⟨vb, (80 : Nat), vs ++ vsp⟩] := hs3
  rw [put_new (n := n) (by omega) hcl hZl hvl] at hs3
  have m1 : Nat.min 1 (n + 1 - i) = 1 := Nat.min_eq_left (by omega)
  have m2 : Nat.min (n - i) (n - i) = n - i := Nat.min_self _
  refine (ins_grow_core (W1 := W1) (W2 := W2) (W3 := W3) (N := N) (G := G) hi hnc hroom (by omega) hG1 (by unfold maxLen at hG2; omega) hrz
    (fun ty dc => run_copy_ (k := 5) (cs := vs) Tryd.underlying74 cells80 (fun _ => ?_) (by rw [m1]; exact hvl) (fun h => by rw [m1] at h; omega) (fun _ => ⟨_, rfl, r2⟩) (by decide))
    (fun ty dc sc => run_copy_ (k := 5) (cs := cs.drop (i * 5)) Tryd.underlying74 cells80 (fun _ => ?_) (by rw [m2]; exact hdl) (fun h => by rw [m2] at h; omega) (fun _ => ⟨_, rfl, r3⟩) (by decide))).mono fun e w' ⟨h1, h2⟩ => ⟨N, G, Y, h1, by rw [h2]; exact hs3, ?_, hG2⟩
  · exact loads (ds := vs ++ vsp) (fun k => hsA.has.cell (k := ⟨vb, (80 : Nat), vs ++ vsp⟩) (by simp) k) (fun j u hj => by
      rw [Nat.zero_add, List.getElem?_append_left (lt_of hj)]
      exact hj) (by omega)
  · exact loads (ds := cs ++ sp) (fun k => hs2d.has.cell (k := ⟨b, (80 : Nat), cs ++ sp⟩) (by simp) k) (fun j u hj => by
      rw [List.getElem?_drop] at hj
      rw [List.getElem?_append_left (lt_of hj)]
      exact hj) (by omega)
  · simp only [List.length_append, hvl, hYl, htl, hdl]; omega
end
abbrev Sm := Int × Int × Int × Int × Int
abbrev cSm : Cd := .p (.i .i64) (.p (.i .i64) (.p (.i .u16) (.p (.i .i64) (.i .i64))))
def insC (i : Int) (l : List Sm) (v : List Sm) : Bool := decide (0 ≤ i ∧ i ≤ (l.length : Int) ∧ l.length ≤ 1000000 ∧ v.length = 1)
def o57 (i : Int) (l : List Sm) (v : List Sm) : Option (List Sm × List Sm) := gd (insC i l v) (some (v, (l.take i.toNat ++ v) ++ l.drop i.toNat))
theorem two_ {α : Type} {l : List α} (h : l.length = 3) : ∃ a b c, l = [a, b, c] := match l, h with
  | [a, b, c], _ => ⟨a, b, c, rfl⟩
theorem fo57 : FOk Tryd.prog 57 ⟨p57, r57, fun t => o57 t.1 t.2.1 t.2.2⟩ := fun (t : Int × List Sm × List Sm) (r : List Sm × List Sm) st0 hr hc g ρ own vs hR hl => by
  obtain ⟨ti, l, v⟩ := t
  obtain ⟨hg, hr'⟩ := gdS hr
  have hg : insC ti l v = true := hg
  have hr' : some (v, (l.take ti.toNat ++ v) ++ l.drop ti.toNat) = some r := hr'
  have hc : conT p57 (ti, l, v) = some st0 := hc
  have hcnd : 0 ≤ ti ∧ ti ≤ (l.length : Int) ∧ l.length ≤ 1000000 ∧ v.length = 1 := of_decide_eq_true hg
  obtain ⟨hi0, hi1, hlen, hv1⟩ := hcnd
  by_cases hend : ti = (l.length : Int)
  · refine fo57x (ti, l, v) r st0 ?_ hc g ρ own vs hR hl
    injection hr' with hr'
    show o57e ti l v = some r
    have e1 : ti.toNat = l.length := by omega
    rw [← hr', e1, List.take_length, List.drop_length, List.append_nil]
    unfold o57e
    have g1 : decide ((0 : Int) ≤ ti ∧ ti ≤ ((l.length : Nat) : Int)) = true := decide_eq_true ⟨hi0, hi1⟩
    have g2 : (((v.length : Nat) : Int) == (0 : Int)) = false := by rw [hv1]; rfl
    have g3 : (ti == ((l.length : Nat) : Int)) = true := by simpa using hend
    have g4 : decide ((l.length + v.length) * 40 ≤ 140737488355328) = true := decide_eq_true (by omega)
    rw [g1, g2, g3, g4]
    rfl
  · intro w hs
    have e : conT p57 (ti, l, v) = some ⟨[(0, .v (.c (.own 0))), (1, .v (.c (.int .i64 ti))), (2, .v (.c (.own 1)))], [.row cSm 80 l, .row cSm 80 v]⟩ := rfl
    rw [e] at hc; injection hc with hc; subst hc
    injection hr' with hr'; subst hr'
    obtain ⟨v0, v1, v2, rfl⟩ := two_ hl
    obtain ⟨u0, h0, hk0⟩ := hR.slot 0 _ rfl
    obtain ⟨u1, h1, hk1⟩ := hR.slot 1 _ rfl
    obtain ⟨u2, h2, hk2⟩ := hR.slot 2 _ rfl
    injection h0 with h0; subst h0
    injection h1 with h1; subst h1
    injection h2 with h2; subst h2
    obtain ⟨_, n0, rfl, hn0⟩ := hk0
    have hn0 : n0 = l.length := hn0 _ _ rfl rfl
    subst hn0
    obtain ⟨_, n2, rfl, hn2⟩ := hk2
    have hn2 : n2 = v.length := hn2 _ _ rfl rfl
    subst hn2
    obtain ⟨rfl, hik⟩ := hk1
    obtain ⟨k0, k1, rfl⟩ : ∃ k0 k1, own = [k0, k1] := by
      have := hR.len
      match own, this with
      | [k0, k1], _ => exact ⟨k0, k1, rfl⟩
    have hB0 : Buf g.b cSm.ty 80 (.slice (ρ 0).1 l.length (ρ 0).2) k0 l := hR.blk 0 _ _ rfl rfl
    have hB1 : Buf g.b cSm.ty 80 (.slice (ρ 1).1 v.length (ρ 1).2) k1 v := hR.blk 1 _ _ rfl rfl
    obtain ⟨i, rfl⟩ : ∃ i : Nat, ti = (i : Int) := ⟨ti.toNat, by omega⟩
    have hin : i < l.length := by omega
    rcases hB0.2 with ⟨_, h0, _⟩ | ⟨b, c, cs, sp, q1, q2, q3, q4, q5⟩
    · have h0 : l = [] := h0
      subst h0
      exact absurd hin (Nat.not_lt_zero i)
    rcases hB1.2 with ⟨_, h0, _⟩ | ⟨vb, vc, ws, wsp, x1, x2, x3, x4, x5⟩
    · have h0 : v = [] := h0
      subst h0
      cases hv1
    injection q1 with q1a q1b q1c
    injection x1 with x1a x1b x1c
    subst q2 x2
    have hcl : cs.length = l.length * 5 := q3.len
    have hwl1 : ws.length = v.length * 5 := x3.len
    have hwl : ws.length = 5 := by omega
    have q4 : (cs ++ sp).length = c * 5 := q4
    have hnc : l.length ≤ c := by rw [List.length_append] at q4; omega
    have ht : ((i : Nat) : Int).toNat = i := Int.toNat_natCast i
    -- the new row holds
    have hrep : Reps cSm.ty g.b (cs.take (i * 5) ++ ws ++ cs.drop (i * 5)) ((l.take i ++ v) ++ l.drop i) := ((q3.take i).append x3).append (q3.drop i)
    have hrl : ((l.take i ++ v) ++ l.drop i).length = l.length + 1 := by simp only [List.length_append, List.length_take, List.length_drop]; omega
    have hrl2 : ((l.take i ++ v) ++ l.drop i).length ≤ 140737488355328 := by rw [hrl]; omega
    have fin : ∀ (N G : Nat) (k : Bk), Buf g.b cSm.ty 80 (.slice (some ⟨N, 0, none⟩) (l.length + 1) G) (some k) ((l.take i ++ v) ++ l.drop i) →
        ∃ str ρ', altC r57 (v, (l.take i ++ v) ++ l.drop i) = some str ∧ baseSt str = true ∧ Rl (ghB g.b) ρ' str [none, some ⟨vb, (80 : Nat), ws ++ wsp⟩, some k] [(0, .slice (some ⟨N, 0, none⟩) (l.length + 1) G)] ∧
          ∀ j, j < 2 → ρ' j = ρ j ∧ ∀ (bv : BV) (m : Nat), str.bl[j]? = some bv → bv.len = some m → lenAt [BV.row cSm 80 l, BV.row cSm 80 v] j = some m := by
      intro N G k hb
      refine ⟨⟨[(0, .v (.c (.own 2)))], [.no, .row cSm 80 v, .row cSm 80 ((l.take i ++ v) ++ l.drop i)]⟩, fun j => if j = 2 then (some ⟨N, 0, none⟩, G) else ρ j, rfl, rfl, ⟨rfl, fun j bv k0 e1 e2 => ?_, fun t0 sv e => ?_, hR.gi⟩, fun j hj => ⟨if_neg (by omega), fun bv m e1 e2 => ?_⟩⟩
      · match j, e1, e2 with
        | 0, e1, e2 =>
          injection e1 with e1; subst e1
          injection e2 with e2; subst e2
          rfl
        | 1, e1, e2 =>
          injection e1 with e1; subst e1
          injection e2 with e2; subst e2
          exact hB1
        | 2, e1, e2 =>
          injection e1 with e1; subst e1
          injection e2 with e2; subst e2
          show Buf g.b cSm.ty 80 (.slice (some ⟨N, 0, none⟩) ((l.take i ++ v) ++ l.drop i).length G) (some k) _
          rw [hrl]
          exact hb
        | j + 3, e1, e2 => simp at e1
      · have e : cond (Nat.beq 0 t0) (some (SV.v (.c (.own 2)))) none = some sv := e
        obtain ⟨e1, e2⟩ := condS e
        injection e2 with e2; subst e2
        have := Nat.eq_of_beq_eq_true e1
        subst this
        refine ⟨_, rfl, ⟨_, rfl, rfl⟩, l.length + 1, rfl, fun bv m e1 e2 => ?_⟩
        injection e1 with e1; subst e1
        injection e2 with e2
        exact hrl.symm.trans e2
      · match j, hj with
        | 0, _ =>
          injection e1 with e1; subst e1
          cases e2
        | 1, _ =>
          injection e1 with e1; subst e1
          exact e2
    rw [q1a, q1c, x1a, x1c, hv1, ht]
    by_cases hroom : l.length + 1 ≤ c
    · refine (ins_shift (c := c) (vc := vc) hs hin hroom (by unfold maxLen at q5; omega) hcl q4 hwl q3.one x3.one).mono fun e w' ⟨he, hw⟩ => ?_
      refine ⟨_, g, _, he, .refl g, hw.fewer (own' := [none, some ⟨vb, (80 : Nat), ws ++ wsp⟩, some ⟨b, (80 : Nat), (cs.take (i * 5) ++ ws ++ cs.drop (i * 5)) ++ sp.drop 5⟩]) ?_ (fun k hk => ?_), fin b c _ ⟨hrl2, .inr ⟨b, c, _, sp.drop 5, congrArg (fun m => Value.slice (some ⟨b, 0, none⟩) m c) hrl.symm, rfl, hrep, ?_, q5⟩⟩⟩
      · have := hw.nodup
        simp only [Own.ids, List.filterMap_cons, List.filterMap_nil, Option.map_some, Option.map_none, List.nodup_cons, List.mem_cons, List.not_mem_nil, or_false, not_false_eq_true, List.nodup_nil, and_true, and_self] at this ⊢
        exact fun e => this e.symm
      · simp only [List.mem_cons, List.not_mem_nil, or_false] at hk ⊢
        rcases hk with hk | hk | hk
        · cases hk
        · exact .inr hk
        · exact .inl hk
      · show _ = c * 5
        rw [List.length_append] at q4
        simp only [List.length_append, List.length_take, List.length_drop]
        omega
    · refine (ins_grow (c := c) (vc := vc) hs hin hnc (by omega) hlen hcl hwl q3.one x3.one).mono fun e w' ⟨N, G, Y, he, hw, hG, hGm⟩ => ?_
      refine ⟨_, g, _, he, .refl g, hw.fewer (own' := [none, some ⟨vb, (80 : Nat), ws ++ wsp⟩, some ⟨N, (80 : Nat), (cs.take (i * 5) ++ ws ++ cs.drop (i * 5)) ++ Y⟩]) ?_ (fun k hk => ?_), fin N G _ ⟨hrl2, .inr ⟨N, G, _, Y, congrArg (fun m => Value.slice (some ⟨N, 0, none⟩) m G) hrl.symm, rfl, hrep, hG, hGm⟩⟩⟩
      · have := hw.nodup
        simp only [Own.ids, List.filterMap_cons, List.filterMap_nil, Option.map_some, Option.map_none, List.nodup_cons, List.mem_cons, List.not_mem_nil, or_false, not_false_eq_true, List.nodup_nil, and_true, and_self] at this ⊢
        exact fun e => this.1 (.inr e.symm)
      · simp only [List.mem_cons, List.not_mem_nil, or_false] at hk ⊢
        rcases hk with hk | hk | hk
        · cases hk
        · exact .inr (.inr hk)
        · exact .inl hk
end Go.Proofs.YtnkmijidneibnaaDoor
