/-
MaintlogNil returns true for every input. Conditions: none.
-/
import Derived.Test.YtnkmijidneibnaaDoorM2
import Derived.ArgAppend
import Derived.Shelf.Strconv.Itoa4
import Derived.Lib.ItoaLen
import Derived.Test.YtnkmijidneibnaaDoorProg
import Derived.Test.YtnkmijidneibnaaDoorRows
import Derived.LaidMore
import Derived.Stop.Joined
import Derived.Stop.LaidErr
import Derived.Test.YtnkmijidneibnaaDoorTie
import Derived.Test.YtnkmijidneibnaaDoorCards
import Derived.SevenTiedAt
namespace Go.Proofs.YtnkmijidneibnaaDoor
set_option linter.unusedVariables false
set_option linter.unusedSimpArgs false
open Go.RowKit
theorem setRow_front : ∀ (vs b : List Value), vs.length ≤ b.length → setRow b 0 vs = vs ++ b.drop vs.length
  | [], b, _ => by simp [setRow]
  | v :: vs, [], h => by simp at h
  | v :: vs, x :: b, h => by
    have h1 := setRow_pre vs [v] b 0
    have h2 := setRow_front vs b (by simpa using h)
    simp only [List.length_singleton, Nat.add_zero, List.singleton_append] at h1
    show setRow (v :: b) (0 + 1) vs = _
    rw [Nat.zero_add, h1, h2]
    rfl
theorem setRow_eq (vs cs : List Value) (off : Nat) (h : off + vs.length ≤ cs.length) : setRow cs off vs = cs.take off ++ vs ++ cs.drop (off + vs.length) := by
  have h1 := setRow_pre vs (cs.take off) (cs.drop off) 0
  rw [List.take_append_drop, List.length_take, Nat.min_eq_left (by omega), Nat.add_zero] at h1
  rw [h1, setRow_front _ _ (by rw [List.length_drop]; omega), List.drop_drop, List.append_assoc]
section
variable {α : Type} {P : Program} {n : Nat} {T : Ty α} {p : Psi} {g : Gh} {own : Own} {sl : Sl} {ty : TypeId}
theorem Reps.many {xs ys : List α} {cs ds : List Value} {i : Nat} (h : Reps T p cs xs) (k : Reps T p ds ys) (hi : i + ys.length ≤ xs.length) : Reps T p (setRow cs (i * T.n) ds) (xs.take i ++ ys ++ xs.drop (i + ys.length)) := by
  have hl : i * T.n + ds.length = (i + ys.length) * T.n := by rw [k.len, Nat.add_mul]
  rw [setRow_eq _ _ _ (by rw [hl, h.len]; exact Nat.mul_le_mul_right _ hi), hl]
  exact ((h.take i).append k).append (h.drop (i + ys.length))
theorem Buf.many {et : TypeId} {A : Option Addr} {c : Nat} {kb : Bk} {xs ys : List α} {ds : List Value} {i : Nat} (h : Buf p T et (.slice A xs.length c) (some kb) xs) (k : Reps T p ds ys) (hi : i + ys.length ≤ xs.length) :
    A = some ⟨kb.g, 0, none⟩ ∧ i * T.n + ds.length ≤ kb.cs.length ∧ Buf p T et (.slice A (xs.take i ++ ys ++ xs.drop (i + ys.length)).length c) (some ⟨kb.g, kb.t, setRow kb.cs (i * T.n) ds⟩) (xs.take i ++ ys ++ xs.drop (i + ys.length)) := by
  obtain ⟨h0, h⟩ := h
  have hlen : (xs.take i ++ ys ++ xs.drop (i + ys.length)).length = xs.length := by
    simp only [List.length_append, List.length_take, List.length_drop]; omega
  rcases h with ⟨_, _, h3⟩ | ⟨b, cap, cs, sp, h1, h2, h3, h4, h5⟩
  · cases h3
  · injection h2 with h2
    subst h2
    injection h1 with e1 e2 e3
    subst e1; subst e3
    have hds : i * T.n + ds.length ≤ cs.length := by
      rw [k.len, h3.len, ← Nat.add_mul]; exact Nat.mul_le_mul_right _ hi
    refine ⟨rfl, by rw [List.length_append]; omega, by rw [hlen]; exact h0, .inr ⟨b, c, setRow cs (i * T.n) ds, sp, rfl, ?_, h3.many k hi, by rw [List.length_append, setRow_length, ← List.length_append]; exact h4, h5⟩⟩
    rw [setRow_app _ _ _ _ hds]
theorem e_many {op : Op} {et : TypeId} {A B : Option Addr} {c io i : Nat} {k : Option Bk} {xs ys : List α} {ds : List Value} {r : Value} (hi : own[io]? = some k) (hb : Buf p T et (.slice A xs.length c) k xs) (hd : Reps T p ds ys) (hl : i + ys.length ≤ xs.length)
    (hB : 0 < ys.length → B = offA A c i T.n)
    (hrun : ∀ (o : Oper) (a : Act) (w w' : World), o.op = op → o.type = ty → Fr n a sl → St w g own → (ys.length = 0 → w' = w) → (0 < ys.length → ∃ ad, B = some ad ∧ (storeCells ad ds).run P w = .ok () w') → (execOp a.eval o).run P w = .ok (.value r) w') :
    Eff P n g own sl op ty (fun v' g' own' => v' = r ∧ g = g' ∧ ∃ k', own' = own.set io k' ∧ Buf p T et (.slice A (xs.take i ++ ys ++ xs.drop (i + ys.length)).length c) k' (xs.take i ++ ys ++ xs.drop (i + ys.length))) := by
  intro o a w Q K h1 h2 hf hs h
  rcases Nat.eq_zero_or_pos ys.length with h0 | h0
  · have : ys = [] := List.length_eq_zero_iff.1 h0
    subst this
    have e := hrun o a w w h1 h2 hf hs (fun _ => rfl) (fun h => absurd h (by simp))
    unfold Oper.wp
    rw [e]
    refine h _ g (own.set io k) w (.refl g) (by rw [set_same hi]; exact hs) ⟨rfl, rfl, k, rfl, ?_⟩
    simpa using hb
  · cases k with
    | none =>
      rcases hb.2 with ⟨_, e, _⟩ | ⟨_, _, _, _, _, e, _⟩
      · subst e
        have hl : i + ys.length ≤ 0 := hl
        omega
      · cases e
    | some kb =>
      obtain ⟨e1, e2, e3⟩ := hb.many hd hl
      have hBe : B = some ⟨kb.g, i * T.n, none⟩ := by
        rw [hB h0, e1]
        unfold offA
        rw [if_neg]
        · show some (Addr.add ⟨kb.g, 0, none⟩ (i * T.n)) = _
          simp [Addr.add]
          try exact fun e => e.symm
        · have := hb.val
          obtain ⟨_, _, e4, e5⟩ := this
          injection e4 with _ _ e6
          omega
      obtain ⟨w', hst, hs'⟩ := run_storeCells_own (P := P) (g := g) (i := io) (k := kb) (vs := ds) (own := own) (off := i * T.n) kb.cs 0 hs hi (by simpa using hd.one) (by omega)
      have e := hrun o a w w' h1 h2 hf hs (fun h => absurd h (by omega)) (fun _ => ⟨_, hBe, hst⟩)
      unfold Oper.wp
      rw [e]
      exact h _ g _ w' (.refl g) hs' ⟨rfl, rfl, _, rfl, e3⟩
end
section
variable {P : Program} {n : Nat} {ty : TypeId} {sl : List (Nat × SV)} {bl bl' : List BV} {v : SV} {f : Nat} {g : Gh} {ρ : Env} {own : Own} {fr : Sl}
theorem set_len {α : Type} {xs ys : List α} {i : Nat} (h : i + ys.length ≤ xs.length) : (xs.take i ++ ys ++ xs.drop (i + ys.length)).length = xs.length := by
  simp only [List.length_append, List.length_take, List.length_drop]; omega
theorem effH_many {op : Op} {b : Nat} {d : Cd} {et : TypeId} {xs ys : List d.den} {i : Nat} {r : SV} (hb : bl[b]? = some (.row d et xs)) (hl : i + ys.length ≤ xs.length)
    (h : ∀ g ρ own fr, Rl g ρ ⟨sl, bl⟩ own fr → ∀ k, own[b]? = some k → Buf g.b d.ty et (.slice (ρ b).1 xs.length (ρ b).2) k xs → ∃ rv, RealS g ρ (bl.set b (.row d et (xs.take i ++ ys ++ xs.drop (i + ys.length)))) r rv ∧ Eff P n g own fr op ty (fun v' g' own' => v' = rv ∧ g = g' ∧ ∃ k', own' = own.set b k' ∧ Buf g.b d.ty et (.slice (ρ b).1 (xs.take i ++ ys ++ xs.drop (i + ys.length)).length (ρ b).2) k' (xs.take i ++ ys ++ xs.drop (i + ys.length)))) :
    EffH P n op ty sl bl (bl.set b (.row d et (xs.take i ++ ys ++ xs.drop (i + ys.length)))) r := by
  intro o a w Q K g ρ own fr h1 h2 hr hfr hs hk
  obtain ⟨k0, hk0, hB⟩ := hr.own_at hb
  obtain ⟨rv, hrv, he⟩ := h g ρ own fr hr k0 hk0 hB
  refine he o a w Q K h1 h2 hfr hs fun v g' own' w' hg hs' ⟨e1, e2, k', e3, hB'⟩ => ?_
  subst e1; subst e2; subst e3
  obtain ⟨hx, hr'⟩ := setB_ok hb (bv1 := .row d et (xs.take i ++ ys ++ xs.drop (i + ys.length))) (k := k') hr (.refl g) rfl (fun m hm => by
    have hm : some (xs.take i ++ ys ++ xs.drop (i + ys.length)).length = some m := hm
    rw [set_len hl] at hm; exact hm) hB'
  exact hk v g ρ _ w' (.refl g) hx hs' hr' hrv
def ovrL {α : Type} (xs : List α) (i : Nat) (ys : List α) : List α := xs.take i ++ ys ++ xs.drop (i + ys.length)
def tClear (P : Program) (sl : List (Nat × SV)) (t : TypeId) (x : Operand) : Tr := match rowOf P t, evH sl x with
  | some (c, et, _), some (.v (.c (.vw b cv l r))) => (match zeroOf P et with
    | some zs => (match constL zs.toList with
      | some cl => encC c cl fun u _ => .need b fun
        | .row d et' xs => (match d.same c, d.same cv, Nat.beq et' et with
          | some h, some _, true => .grd (decide (l ≤ r ∧ r ≤ xs.length)) (.done ⟨.any, [(b, .row d et' (ovrL xs l (List.replicate (r - l) (h.down ▸ u))))], []⟩)
          | _, _, _ => .no)
        | _ => .no
      | none => .no)
    | none => .no)
  | _, _ => .no
theorem zero_len {c : Cd} {et t : TypeId} {bytes : Nat} {zs : Array Value} (happ : appT P t et = some (c.ty.n, bytes)) (hzs : zeroOf P et = some zs) : zs.toList.length = c.n := by
  have h1 := happ
  unfold appT at h1
  unfold zeroOf at hzs
  split at h1
  · rename_i e' i hu' hi
    split at h1
    · rename_i z0 hz0
      split at h1
      · rename_i hcnd
        simp only [Option.some.injEq, Prod.mk.injEq] at h1
        rw [hi] at hzs
        simp only [Option.bind_some, hz0, Option.map_some, Option.some.injEq] at hzs
        rw [← hzs, Array.length_toList, hcnd.2, h1.1, c.ty_n]
      · cases h1
    · cases h1
  · cases h1
theorem run_clear_ {t et : TypeId} {B : Option Addr} {m cap k bytes : Nat} {zs : List Value} {w w' : World} (ha : appT P t et = some (k, bytes)) (hz : zeroOf P et = some zs.toArray) (h0 : m = 0 → w' = w)
    (h1 : 0 < m → ∃ ad, B = some ad ∧ (storeCells ad (madeCells zs.toArray (m * k)).toList).run P w = .ok () w') : (Builtin.clear_ #[t] ty #[.slice B m cap]).run P w = .ok (.tuple #[]) w' := by
  obtain ⟨inf, z0, ht, hinf, hz0, hsz, hby, hzs⟩ := (AppT.of ha).out
  have hzc : (z0.cells : Array Value) = zs.toArray := by
    unfold zeroOf at hz
    rw [hinf] at hz
    simpa [hz0] using hz
  have hzv : ∀ w, (zeroValue et).run P w = .ok z0 w := fun w => by simp [zeroValue, typeInfo, program, Sem.run, bind, Sem.bind, hinf, hz0, pure]
  have e : Builtin.zeroCells z0.cells m = madeCells zs.toArray (m * k) := by
    rw [← hzs, hzc]
    rfl
  rcases Nat.eq_zero_or_pos m with hm | hm
  · subst hm
    rw [h0 rfl]
    cases B <;> simp [Builtin.clear_, run_underlying ht]
  · obtain ⟨ad, rfl, hst⟩ := h1 hm
    rw [← e] at hst
    obtain ⟨m, rfl⟩ : ∃ q, m = q + 1 := ⟨m - 1, by omega⟩
    simp [Builtin.clear_, run_underlying ht, hzv, hst]
theorem tClear_ok {t : TypeId} {x : Operand} (h : Told f (tClear P sl t x) bl bl' v) : EffH P n (.call { callee := .builtin .clear, args := #[x], argTypes := #[t] }) ty sl bl bl' v := by
  unfold tClear at h
  split at h
  · rename_i c et by_ b cv l r hrow ex
    obtain ⟨hu, happ, _, hby⟩ := rowOf_ok hrow
    split at h
    · rename_i zs hzs
      split at h
      · rename_i cl hcl
        obtain ⟨u, r0, bl1, h2, hfz, henc⟩ := encC_told c h
        clear h
        obtain ⟨bv, hb, h⟩ := h2
        dsimp only at h
        split at h
        · rename_i d et' xs
          split at h
          · rename_i hk1 hk2 _ _ het
            obtain ⟨hk1⟩ := hk1; obtain ⟨hk2⟩ := hk2; subst hk1; subst hk2
            have het := Nat.eq_of_beq_eq_true het
            subst het
            obtain ⟨hg, rfl, rfl⟩ := h
            obtain ⟨hlr, hrx⟩ := of_decide_eq_true hg
            have hyl : l + (List.replicate (r - l) u).length ≤ xs.length := by rw [List.length_replicate]; omega
            refine EffH.frz hfz (effH_many (r := .any) (i := l) (ys := List.replicate (r - l) u) hb hyl fun g ρ own fr hr k hk hB => ⟨.tuple #[], (trivial : True), ?_⟩)
            obtain ⟨vx, hx1, hkn, rfl, hl⟩ := evH_real hr ex
            have hall := constL_real (g := g) (ρ := ρ) (bl := bl1) hcl
            obtain ⟨c1, c2, e1, e2, e3⟩ := henc.real hr d hall
            have hl1 := zero_len happ hzs
            have hl2 : c1.length = d.n := by rw [d.ty.len e2, d.ty_n]
            have hc20 : c2 = [] := by
              have : zs.toList.length = c1.length + c2.length := by rw [e1, List.length_append]
              exact List.eq_nil_of_length_eq_zero (by omega)
            rw [hc20, List.append_nil] at e1
            have hzs' : zeroOf P et' = some c1.toArray := by rw [hzs, ← e1]
            refine e_many (T := d.ty) (B := offA (ρ b).1 (ρ b).2 l d.n) (i := l) (ds := (madeCells c1.toArray ((r - l) * d.ty.n)).toList) hk hB (made_reps e2 (r - l)) hyl (fun _ => by rw [d.ty_n]) fun o a w w' q1 q2 hf hs q3 q4 => ?_
            rw [List.length_replicate] at q3 q4
            have := run_clear_ (P := P) (ty := o.type) (cap := (ρ b).2 - l) happ hzs' q3 q4
            simp [execOp, q1, resolve, invoke, builtin, hf.ev hx1, this]
          · exact h.elim
        · exact h.elim
      · exact h.elim
    · exact h.elim
  · exact h.elim
def dstT (sl : List (Nat × SV)) (x : Operand) (K : (b : Nat) → (d : Cd) → TypeId → List d.den → (l r : Nat) → Tr) : Tr := match evH sl x with
  | some (.v (.c (.own b))) => .need b fun | .row d et xs => K b d et xs 0 xs.length | _ => .no
  | some (.v (.c (.vw b cv l r))) => .need b fun | .row d et xs => (match d.same cv with | some _ => K b d et xs l r | none => .no) | _ => .no
  | _ => .no
theorem dstT_told {x : Operand} {K : (b : Nat) → (d : Cd) → TypeId → List d.den → (l r : Nat) → Tr} (h : Told f (dstT sl x K) bl bl' v) : ∃ b d et xs l r, bl[b]? = some (.row d et xs) ∧ Told f (K b d et xs l r) bl bl' v ∧
    ∀ g ρ own fr, Rl g ρ ⟨sl, bl⟩ own fr → l ≤ r ∧ r ≤ xs.length ∧ ∃ cap, evS fr x = some (.slice (offA (ρ b).1 (ρ b).2 l d.n) (r - l) cap) := by
  unfold dstT at h
  split at h
  · rename_i b ex
    obtain ⟨bv, hb, h⟩ := h
    dsimp only at h
    split at h
    · rename_i d et xs
      refine ⟨b, d, et, xs, 0, xs.length, hb, h, fun g ρ own fr hr => ?_⟩
      obtain ⟨vx, hx1, hkn, l, rfl, hl⟩ := evH_real hr ex
      have hl := hl _ _ hb rfl
      subst hl
      exact ⟨Nat.zero_le _, Nat.le_refl _, (ρ b).2, by rw [offA_zero, Nat.sub_zero]; exact hx1⟩
    · exact h.elim
  · rename_i b cv l r ex
    obtain ⟨bv, hb, h⟩ := h
    dsimp only at h
    split at h
    · rename_i d et xs
      split at h
      · rename_i hk _; obtain ⟨hk⟩ := hk; subst hk
        refine ⟨b, d, et, xs, l, r, hb, h, fun g ρ own fr hr => ?_⟩
        obtain ⟨vx, hx1, hkn, rfl, hl⟩ := evH_real hr ex
        obtain ⟨h1, h2⟩ := hl _ _ hb rfl
        exact ⟨h1, h2, _, hx1⟩
      · exact h.elim
    · exact h.elim
  · exact h.elim
def tCopy (P : Program) (sl : List (Nat × SV)) (t : TypeId) (x y : Operand) : Tr := match rowOf P t with
  | some (c, et, _) => dstT sl x fun b d et' xs l r => (match d.same c, Nat.beq et' et with
    | some _, true => srcT sl d b y fun ys => .done ⟨vC (.int .i64 ((ys.take (r - l)).length : Int)), [(b, .row d et' (ovrL xs l (ys.take (r - l))))], []⟩
    | _, _ => .no)
  | none => .no
theorem run_copy_ {t t' et : TypeId} {A B : Option Addr} {m m' cap cap' k : Nat} {cs : List Value} {w w' : World} (hu : P.underlying t = some (.slice et)) (hsz : cellsOfT P et = some k) (hs : 0 < Nat.min m' m * k → ∃ ad, A = some ad ∧ ∀ j u, cs[j]? = some u → w.cell? (ad.add j) = some u)
    (hl : cs.length = Nat.min m' m * k) (h0 : Nat.min m' m = 0 → w' = w) (h1 : 0 < Nat.min m' m → ∃ ad, B = some ad ∧ (storeCells ad cs).run P w = .ok () w') (hk : 0 < k) : (Builtin.copy_ #[t, t'] ty #[.slice B m cap, .slice A m' cap']).run P w = .ok (.int .i64 (Nat.min m' m : Int)) w' := by
  have hfc : (Builtin.firstCells k (Nat.min m' m) (.slice A m' cap')).run P w = .ok cs.toArray w := by
    rcases Nat.eq_zero_or_pos (Nat.min m' m * k) with h | h
    · rw [h] at hl
      have := List.length_eq_zero_iff.1 hl
      subst this
      cases A with
      | none => simp [Builtin.firstCells]
      | some ad =>
        have := run_loadCells_list (P := P) w ad [] (fun j v e => by simp at e)
        simp only [Builtin.firstCells, h]
        simpa using this
    · obtain ⟨ad, rfl, hc⟩ := hs h
      have := run_loadCells_list (P := P) w ad cs hc
      rw [hl] at this
      simp only [Builtin.firstCells]
      exact this
  have hsz' := run_sizeOf_of hsz w
  simp only [Builtin.copy_]
  simp [run_underlying hu, Builtin.lenOf, hsz', hfc]
  rcases Nat.eq_zero_or_pos (Nat.min m' m) with h | h
  · rw [h0 h]
    rw [h, Nat.zero_mul] at hl
    have := List.length_eq_zero_iff.1 hl
    subst this
    cases B <;> simp [storeCells, goInt]
  · obtain ⟨ad, rfl, hst⟩ := h1 h
    simp [hst, goInt]
theorem tCopy_ok {t t' : TypeId} {x y : Operand} (h : Told f (tCopy P sl t x y) bl bl' v) : EffH P n (.call { callee := .builtin .copy, args := #[x, y], argTypes := #[t, t'] }) ty sl bl bl' v := by
  unfold tCopy at h
  split at h
  · rename_i c et by_ hrow
    obtain ⟨hu, happ, hsz, hby⟩ := rowOf_ok hrow
    obtain ⟨b, d, et', xs, l, r, hb, h2, hdst⟩ := dstT_told h
    clear h
    split at h2
    · rename_i hk1 _ het
      obtain ⟨hk1⟩ := hk1; subst hk1
      have het := Nat.eq_of_beq_eq_true het
      subst het
      obtain ⟨ys, h3, hsrc⟩ := srcT_told h2
      clear h2
      obtain ⟨rfl, rfl⟩ := h3
      intro o a w Q K g ρ own fr
      by_cases hyl : l + (ys.take (r - l)).length ≤ xs.length
      · revert o a w Q K g ρ own fr
        refine effH_many (i := l) (ys := ys.take (r - l)) hb hyl fun g ρ own fr hr k hk hB => ?_
        obtain ⟨hlr, hrx, cap, hx1⟩ := hdst g ρ own fr hr
        obtain ⟨hyl2, A, cap', news, hy1, hy2, hy3⟩ := hsrc g ρ own fr hr
        have hmin : Nat.min ys.length (r - l) = (ys.take (r - l)).length := by rw [List.length_take]; exact Nat.min_comm _ _
        have hnl : (news.take ((ys.take (r - l)).length * d.ty.n)).length = Nat.min ys.length (r - l) * d.ty.n := by
          rw [hmin, List.length_take, hy2.len]
          exact Nat.min_eq_left (Nat.mul_le_mul_right _ (by rw [List.length_take]; exact Nat.min_le_right _ _))
        have hrep : Reps d.ty g.b (news.take ((ys.take (r - l)).length * d.ty.n)) (ys.take (r - l)) := by
          have := hy2.take (ys.take (r - l)).length
          rw [show ys.take (ys.take (r - l)).length = ys.take (r - l) by rw [List.length_take, List.take_eq_take_iff]; omega] at this
          exact this
        refine ⟨.int .i64 ((ys.take (r - l)).length : Int), ⟨rfl, inK_len (by rw [List.length_take]; omega)⟩, ?_⟩
        refine e_many (T := d.ty) (B := offA (ρ b).1 (ρ b).2 l d.n) (i := l) hk hB hrep hyl (fun _ => by rw [d.ty_n]) fun o a w w' q1 q2 hf hs q3 q4 => ?_
        have hs3 := hy3 w hs
        have := run_copy_ (P := P) (ty := o.type) (t' := t') (cap := cap) (cap' := cap') (A := A) (w := w) (cs := news.take ((ys.take (r - l)).length * d.ty.n)) hu hsz (fun hp => by
          have h0 : 0 < ys.length := by
            rcases Nat.eq_zero_or_pos ys.length with h | h
            · rw [h] at hp; simp at hp
            · exact h
          obtain ⟨ad, e1, e2⟩ := hs3 h0
          exact ⟨ad, e1, fun j u hu => e2 j u (by rw [List.getElem?_take] at hu; split at hu; exact hu; cases hu)⟩) hnl (fun h => q3 (by rw [← hmin]; exact h)) (fun h => q4 (by rw [← hmin]; exact h)) d.ty.pos
        rw [hmin] at this
        simp [execOp, q1, resolve, invoke, builtin, hf.ev hx1, hf.ev hy1, this]
      · intro h1 h2 hr hf hs hk
        obtain ⟨hlr, hrx, _⟩ := hdst g ρ own fr hr
        exact absurd (by rw [List.length_take]; omega) hyl
    · exact h2.elim
  · exact h.elim
end
end Go.Proofs.YtnkmijidneibnaaDoor
namespace Go.Proofs.YtnkmijidneibnaaDoor
set_option linter.unusedVariables false
set_option linter.unusedSimpArgs false
open Go.RowKit
section
variable {α : Type} {P : Program} {n : Nat} {T : Ty α} {p : Psi} {g : Gh} {own : Own} {sl : Sl} {ty : TypeId}
theorem run_append_view {w : World} {t ty' et : TypeId} {bytes : Nat} (ha : AppT P t et T.n bytes) (hs : St w g own) {i : Nat} {A : Option Addr} {c : Nat} {k : Option Bk} {xs : List α} (hi : own[i]? = some k) (hb : Buf p T et (.slice A xs.length c) k xs)
    {l r : Nat} (hl : 0 < l) (hlr : l ≤ r) (hr : r ≤ xs.length) {A2 : Option Addr} {m c2 : Nat} {news : List Value} {ys : List α} (hm : m = ys.length) (hsrc : Src w A2 m news) (hrep : Reps T p news ys) (hbytes : (r + ys.length) * bytes ≤ 140737488355328) (hlen : r + ys.length ≤ 140737488355328) :
    ∃ A' c' w' k', (Builtin.append_ #[t, t] ty' #[.slice (offA A c l T.n) (r - l) (c - l), .slice A2 m c2]).run P w = .ok (.slice A' (r - l + ys.length) c') w' ∧ St w' g (own.set i k') ∧
      ((A' = offA A c l T.n ∧ c' = c - l ∧ Buf p T et (.slice A (xs.take r ++ ys).length c) k' (xs.take r ++ ys)) ∨ Buf p T et (.slice A' ((xs.drop l).take (r - l) ++ ys).length c') k' ((xs.drop l).take (r - l) ++ ys)) := by
  obtain ⟨inf, z, ht, hinf, hz, hsz, hby, hzs⟩ := ha.out
  have hcell : cellsOfT P et = some T.n := by simp [cellsOfT, hinf, hsz]
  have hcap : xs.length ≤ c := by
    obtain ⟨_, _, e4, e5⟩ := hb.val
    injection e4 with _ _ e6
    omega
  have hlr2 : (xs.take r).length = r := by rw [List.length_take]; omega
  subst hm
  by_cases hy : ys = []
  · subst hy
    refine ⟨offA A c l T.n, c - l, w, k, ?_, by rw [set_same hi]; exact hs, .inl ⟨rfl, rfl, by rw [List.append_nil]; exact hb.cut r hr⟩⟩
    have hle : r - l ≤ c - l := by omega
    cases A2 with
    | none => exact run_append_none ht hcell hle
    | some ad => cases (offA A c l T.n) <;> simp [Builtin.append_, run_underlying ht, run_sizeOf_of hcell, Builtin.lenOf, hle, Builtin.firstCells, loadCells, loadCellsFrom, storeCells]
  · have hpos : 0 < ys.length := List.length_pos_iff.2 hy
    obtain ⟨ad, rfl, hnews⟩ := hsrc hpos
    obtain ⟨h0, hb'⟩ := hb
    rcases hb' with ⟨h1, h2, h3⟩ | ⟨b, cap, cs, sp, h1, h2, h3, h4, h5⟩
    · subst h2
      have hr : r ≤ 0 := hr
      omega
    · injection h1 with e1 e2 e3
      subst e1; subst e3; subst h2
      have hnl : news.length = ys.length * T.n := hrep.len
      have hcs := h3.len
      have hrn : r * T.n ≤ cs.length := by rw [hcs]; exact Nat.mul_le_mul_right _ hr
      have hold : ∀ j u, ((cs.drop (l * T.n)).take ((r - l) * T.n))[j]? = some u → w.cell? ⟨b, l * T.n + j, none⟩ = some u := fun j u hu => by
        have := hs.has _ (List.mem_of_getElem? hi)
        rw [List.getElem?_take] at hu
        split at hu
        · rw [List.getElem?_drop] at hu
          simp [World.cell?, this, Bk.obj_ty]
          rw [List.getElem?_append_left (by rcases Nat.lt_or_ge (l * T.n + j) cs.length with h | h; exact h; rw [List.getElem?_eq_none h] at hu; cases hu)]
          exact hu
        · cases hu
      by_cases hroom : r - l + ys.length ≤ c - l
      · have hne : ¬ c = l := by omega
        have hoff : offA (some (⟨b, 0, none⟩ : Addr)) c l T.n = some ⟨b, l * T.n, none⟩ := by
          unfold offA
          rw [if_neg hne]
          simp [addr_add]
        have hfit : r * T.n + news.length ≤ (cs ++ sp).length := by
          rw [h4, hnl, ← Nat.add_mul]
          exact Nat.mul_le_mul_right _ (by omega)
        obtain ⟨w', hst, hs'⟩ := run_storeCells_own (P := P) (g := g) (i := i) (k := ⟨b, et, cs ++ sp⟩) (vs := news) (own := own) (off := r * T.n) (cs ++ sp) 0 hs hi (by simpa using hrep.one) (by omega)
        have hadd : l * T.n + (r - l) * T.n = r * T.n := by rw [← Nat.add_mul]; congr 1; omega
        have hf := run_firstCells_some (P := P) w T.n ys.length ad ys.length c2 news (by rw [hnl]) hnews
        refine ⟨offA (some ⟨b, 0, none⟩) c l T.n, c - l, w', _, ?_, hs', .inl ⟨rfl, rfl, ?_⟩⟩
        · rw [hoff]
          have hst' : (storeCells ⟨b, l * T.n + (r - l) * T.n, none⟩ news).run P w = .ok () w' := by rw [hadd]; exact hst
          simp [Builtin.append_, run_underlying ht, run_sizeOf_of hcell, Builtin.lenOf, hroom, hf, addr_add, hst']
        · refine ⟨by rw [List.length_append, hlr2]; exact hlen, .inr ⟨b, c, cs.take (r * T.n) ++ news, (cs ++ sp).drop (r * T.n + news.length), by rw [List.length_append], ?_, (h3.take r).append hrep, ?_, h5⟩⟩
          · rw [Nat.add_zero, setRow_eq _ _ _ hfit, List.take_append_of_le_length hrn]
          · rw [List.length_append, List.length_append, List.length_take, List.length_drop, Nat.min_eq_left hrn]
            omega
      · have hoff : ∃ a, offA (some (⟨b, 0, none⟩ : Addr)) c l T.n = some a ∧ (0 < r - l → a = ⟨b, l * T.n, none⟩) := by
          unfold offA
          by_cases h : c = l
          · exact ⟨⟨b, 0, none⟩, by rw [if_pos h], fun h' => by omega⟩
          · refine ⟨⟨b, l * T.n, none⟩, by rw [if_neg h]; simp [addr_add], fun _ => rfl⟩
        obtain ⟨a0, ea, hab⟩ := hoff
        have holen : ((cs.drop (l * T.n)).take ((r - l) * T.n)).length = (r - l) * T.n := by
          rw [List.length_take, List.length_drop]
          have : l * T.n + (r - l) * T.n = r * T.n := by rw [← Nat.add_mul]; congr 1; omega
          omega
        have hbig : (r - l + ys.length) * inf.bytes ≤ 140737488355328 := by
          rw [hby]
          exact Nat.le_trans (Nat.mul_le_mul_right _ (by omega)) hbytes
        obtain ⟨v', w', hrun, how', hgrow⟩ := run_append_arg_grows (P := P) w t ty' et inf z T.n inf.bytes ht hinf hz hsz rfl hzs T.pos a0 (r - l) (c - l) ((cs.drop (l * T.n)).take ((r - l) * T.n)) holen (fun j u hu => by
            have h0 : 0 < r - l := by
              rcases Nat.eq_zero_or_pos (r - l) with h | h
              · rw [h] at hu; simp at hu
              · exact h
            rw [hab h0, addr_add]
            exact hold j u hu) ad ys.length c2 news hnl hnews (by omega) (by simp only [maxLen]; omega) hbig
        have hlenpos : 0 < r - l + ys.length := by omega
        rcases how'.2 with ⟨rfl, hz0⟩ | ⟨b', cap', cur, rfl, hge, hheap, hnc, hcm, hcsz, htake⟩
        · omega
        · refine ⟨some ⟨b', 0, none⟩, cap', w', some ⟨b', et, cur.toList⟩, by rw [ea]; exact hrun, ?_, .inr ?_⟩
          · refine hs.swap hi _ hgrow.os hgrow.tape hgrow.output (fun b hb hne => hgrow.block b hb fun e => by cases e) fun k' hk' => ?_
            injection hk' with hk'
            subst hk'
            exact ⟨by simpa [Bk.obj_ty] using hheap, .inr hge⟩
          · have hpl : ((xs.drop l).take (r - l)).length = r - l := part_len hr
            have hc2 : cur.toList = (((cs.drop (l * T.n)).take ((r - l) * T.n)) ++ news) ++ cur.toList.drop ((r - l + ys.length) * T.n) := by rw [← htake, List.take_append_drop]
            refine ⟨by rw [List.length_append, hpl]; omega, .inr ⟨b', cap', ((cs.drop (l * T.n)).take ((r - l) * T.n)) ++ news, cur.toList.drop ((r - l + ys.length) * T.n), by rw [List.length_append, hpl], by rw [← hc2], (((h3.drop l).take (r - l)).append hrep), ?_, hcm⟩⟩
            rw [← hc2]
            simpa using hcsz
end
section
variable {P : Program} {n : Nat} {ty : TypeId} {sl : List (Nat × SV)} {bl bl' : List BV} {v : SV} {f : Nat} {g : Gh} {ρ : Env} {own : Own} {fr : Sl}
def tAppV (P : Program) (sl : List (Nat × SV)) (t t' : TypeId) (s x : Operand) : Tr := match rowOf P t, Nat.beq t t', evH sl s with
  | some (c, et, bytes), true, some (.v (.c (.vw b cv l r))) => .need b fun
      | .row d et' xs => (match d.same c, d.same cv, Nat.beq et' et && Nat.ble 1 l with
        | some _, some _, true => srcT sl d b x fun ys => .grd (decide ((r + ys.length) * bytes ≤ 140737488355328)) (.done ⟨vC (.ro d ((xs.drop l).take (r - l) ++ ys) true), [(b, .no)], []⟩)
        | _, _, _ => .no)
      | _ => .no
  | _, _, _ => .no
theorem tAppV_ok {t t' : TypeId} {s x : Operand} (h : Told f (tAppV P sl t t' s x) bl bl' v) :
    EffH P n (.call { callee := .builtin .append, args := #[s, x], argTypes := #[t, t'] }) ty sl bl bl' v := by
  unfold tAppV at h
  split at h
  · rename_i c et bytes b cv l r hrow htt es
    have htt := Nat.eq_of_beq_eq_true htt
    subst htt
    obtain ⟨hu, happ, _, hby⟩ := rowOf_ok hrow
    obtain ⟨bv, hb, h⟩ := h
    dsimp only at h
    split at h
    · rename_i d et' xs
      split at h
      · rename_i hk0 hk2 _ _ he
        obtain ⟨hk0⟩ := hk0; obtain ⟨hk2⟩ := hk2; subst hk0; subst hk2
        simp only [Bool.and_eq_true] at he
        obtain ⟨he, hl1⟩ := he
        have he := Nat.eq_of_beq_eq_true he
        have hl1 := Nat.le_of_ble_eq_true hl1
        subst he
        obtain ⟨ys, h2, hsrc⟩ := srcT_told h
        clear h
        obtain ⟨hg, rfl, rfl⟩ := h2
        have hg := of_decide_eq_true hg
        intro o a w Q K g ρ own fr h1 h2 hr hfr hs hk
        obtain ⟨vs', hs1, hkn, rfl, hl⟩ := evH_real hr es
        obtain ⟨hlr, hrx⟩ := hl _ _ hb rfl
        obtain ⟨k0, hk0, hB⟩ := hr.own_at hb
        have hB : Buf g.b d.ty et' (.slice (ρ b).1 xs.length (ρ b).2) k0 xs := hB
        obtain ⟨hyl, A2, cap2, news, hx1, hx2, hx3⟩ := hsrc g ρ own fr hr
        have hlb := get_lt hk0
        have hpl : ((xs.drop l).take (r - l)).length = r - l := part_len hrx
        obtain ⟨A', c', w', k', hrun, hs', hres⟩ := run_append_view (P := P) (ty' := o.type) (c2 := cap2) (AppT.of happ) hs hk0 hB (l := l) (r := r) (by omega) hlr hrx rfl (hx3 w hs) hx2 hg (le_mul_bytes hby hg)
        have key : ∃ g', g.le g' ∧ St w' g' ((own.set b k').set b none) ∧ Arr g'.b d.ty A' c' ((xs.drop l).take (r - l) ++ ys) := by
          have hi' : (own.set b k')[b]? = some k' := by simp [List.getElem?_set, hlb]
          rcases hres with ⟨rfl, rfl, hB'⟩ | hB'
          · have key : ∃ g' , g.le g' ∧ St w' g' ((own.set b k').set b none) ∧ Arr g'.b d.ty (ρ b).1 (ρ b).2 (xs.take r ++ ys) :=
              wpq_freeze (K := fun _ w' => ∃ g' , g.le g' ∧ St w' g' ((own.set b k').set b none) ∧ Arr g'.b d.ty (ρ b).1 (ρ b).2 (xs.take r ++ ys)) (n := 0) (sl := []) b hi' hB' (fun g' h1 h2 a w' _ h3 => ⟨g', h1, h3, h2⟩) ⟨#[], []⟩ w' ⟨rfl, rfl, fun _ _ h => by cases h⟩ hs'
            obtain ⟨g', h1, h2, h3⟩ := key
            refine ⟨g', h1, h2, ?_⟩
            have h4 := h3.cut_from l (by rw [List.length_append, List.length_take]; omega)
            rw [List.drop_append_of_le_length (by rw [List.length_take]; omega), List.drop_take] at h4
            exact h4
          · exact wpq_freeze (K := fun _ w' => ∃ g' , g.le g' ∧ St w' g' ((own.set b k').set b none) ∧ Arr g'.b d.ty A' c' ((xs.drop l).take (r - l) ++ ys)) (n := 0) (sl := []) b hi' hB' (fun g' h1 h2 a w' _ h3 => ⟨g', h1, h3, h2⟩) ⟨#[], []⟩ w' ⟨rfl, rfl, fun _ _ h => by cases h⟩ hs'
        obtain ⟨g', hg1, hs2, harr⟩ := key
        rw [List.set_set] at hs2
        have hx : Ext ρ bl ρ (bl.set b .no) := Ext.set_at hb rfl fun m hm => by cases hm
        have hr1 := hr.setB (g' := g') (bv1 := .no) (k := none) hg1 hb rfl (fun m hm => by cases hm) rfl
        have hrun' : (execOp a.eval o).run P w = .ok (.value (.slice A' (r - l + ys.length) c')) w' := by
          have hs1' : evS fr s = some (.slice (offA (ρ b).1 (ρ b).2 l d.ty.n) (r - l) ((ρ b).2 - l)) := by rw [d.ty_n]; exact hs1
          simp [execOp, h1, resolve, invoke, builtin, hfr.ev hs1', hfr.ev hx1, hrun]
        unfold Oper.wp
        rw [hrun']
        refine hk _ g' ρ _ w' hg1 hx hs2 hr1 ⟨A', c', by rw [List.length_append, hpl], harr⟩
      · exact h.elim
    · exact h.elim
  · exact h.elim
end
end Go.Proofs.YtnkmijidneibnaaDoor
namespace Go.Proofs.YtnkmijidneibnaaDoor
set_option linter.unusedVariables false
set_option linter.unusedSimpArgs false
open Go.RowKit
def mxNew (S : FSp) : List Sch → Nat
  | [] => 0
  | s :: l => Nat.max (s.bl.length - S.ps.bl.length) (mxNew S l)
def mxL : List FSp → Nat
  | [] => 0
  | S :: l => Nat.max (mxNew S S.rs) (mxL l)
def stepM (tbl : FuncId → List FSp) (sl : List (Nat × SV)) : Op → Nat
  | .alloc _ => 1
  | .box _ _ => 1
  | .buildSlice _ _ _ => 1
  | .makeSlice _ _ _ => 1
  | .call c => match c.callee with
    | .builtin .append => 1
    | .value x => (match evH sl x with
      | some (.v (.c fv)) => (match fnOf fv with | some (f, _) => mxL (tbl f) | none => 0)
      | _ => 0)
    | _ => 0
  | _ => 0
def isView (sl : List (Nat × SV)) (s : Operand) : Bool := match evH sl s with
  | some (.v (.c (.vw _ _ l _))) => Nat.ble 1 l
  | _ => false
def stepC (P : Program) (tbl : FuncId → List FSp) (sl : List (Nat × SV)) (f m : Nat) (cl : Callee) (args : List Operand) (ats : List TypeId) : Tr := match cl with
  | .value x => tCall P tbl sl f m x args
  | .builtin b => (match b, args, ats with
    | .append, [s, x], [t, t'] => (match P.underlying t' with | some (.int _) => tAppZ P sl f t t' s x | _ => (match isView sl s with | true => tAppV P sl t t' s x | false => tApp P sl f t t' s x))
    | .len, [x], [t] => tLen P sl t x
    | .cap, [x], [t] => tCap P sl t x
    | .clear, [x], [t] => tClear P sl t x
    | .copy, [x, y], [t, _] => tCopy P sl t x y
    | b, [x, y], _ => tMM b sl x y
    | _, _, _ => .no)
  | _ => .no
def stepH (P : Program) (tbl : FuncId → List FSp) (sl : List (Nat × SV)) (f : Nat) (op : Op) (ty : TypeId) : Tr := match op with
  | .move x => tMove sl x
  | .assign x => tMove sl x
  | .pick c x y => tPick sl c x y
  | .alloc t => tAlloc P f t
  | .box t x => tBox sl f t x
  | .build t parts => tBuild P sl t parts.toList
  | .buildSlice t len parts => tLit P sl f t len parts.toList
  | .load t x => tLoad P sl t x
  | .store t x y => tStore P sl t x y
  | .nilCheck x => tNil sl x
  | .binOp op t x y _ => tBin P sl op t x y
  | .unOp op _ x => tUn sl op x
  | .convert s d x => tText P sl s d x
  | .makeFunc fn first captured => tFn sl fn first.toList captured.toList
  | .makeSlice t x y => tMake P sl f t x y
  | .slice t x lo hi none => tSlice P sl t x lo hi
  | .fieldAddr t x i => tFieldA P sl t x i
  | .field t x i => tField P sl t x i
  | .indexAddr t x i => tIndexA P sl t x i
  | .index t x i => tIndex P sl t x i
  | .extract x i => tExtract sl x i
  | .call c => stepC P tbl sl f (stepM tbl sl op) c.callee c.args.toList c.argTypes.toList
  | _ => .no
section
variable {P : Program} {n : Nat} {ty : TypeId} {sl : List (Nat × SV)} {bl bl' : List BV} {v : SV} {f : Nat}
theorem stepC_ok {tbl : FuncId → List FSp} (hT : ∀ f S, S ∈ tbl f → FOk P f S) {c : Call} (hf : ∀ i, i < stepM tbl sl (.call c) → bl[f + i]? = some .hole) (h : Told f (stepC P tbl sl f (stepM tbl sl (.call c)) c.callee c.args.toList c.argTypes.toList) bl bl' v) : EffH P n (.call c) ty sl bl bl' v := by
  obtain ⟨cl, args, ats⟩ := c
  cases cl with
  | value x =>
    have := tCall_ok (n := n) (ty := ty) (ats := ats) hT hf h
    simpa using this
  | invoke _ _ => exact h.elim
  | builtin b =>
    simp only [stepC] at h
    split at h
    · rename_i s x t t' ha ht
      have ha : args = #[s, x] := by rw [← Array.toArray_toList (xs := args), ha]
      have ht : ats = #[t, t'] := by rw [← Array.toArray_toList (xs := ats), ht]
      subst ha; subst ht
      split at h
      · exact tAppZ_ok (by have := hf 0 (by simp [stepM]); simpa using this) h
      · split at h
        · exact tAppV_ok h
        · exact tApp_ok (by have := hf 0 (by simp [stepM]); simpa using this) h
    · rename_i x t ha ht
      have ha : args = #[x] := by rw [← Array.toArray_toList (xs := args), ha]
      have ht : ats = #[t] := by rw [← Array.toArray_toList (xs := ats), ht]
      subst ha; subst ht
      exact tLen_ok h
    · rename_i x t ha ht
      have ha : args = #[x] := by rw [← Array.toArray_toList (xs := args), ha]
      have ht : ats = #[t] := by rw [← Array.toArray_toList (xs := ats), ht]
      subst ha; subst ht
      exact tCap_ok h
    · rename_i x t ha ht
      have ha : args = #[x] := by rw [← Array.toArray_toList (xs := args), ha]
      have ht : ats = #[t] := by rw [← Array.toArray_toList (xs := ats), ht]
      subst ha; subst ht
      exact tClear_ok h
    · rename_i x y t t' ha ht
      have ha : args = #[x, y] := by rw [← Array.toArray_toList (xs := args), ha]
      have ht : ats = #[t, t'] := by rw [← Array.toArray_toList (xs := ats), ht]
      subst ha; subst ht
      exact tCopy_ok h
    · rename_i x y ha _ _
      have ha : args = #[x, y] := by rw [← Array.toArray_toList (xs := args), ha]
      subst ha
      exact tMM_ok h
    · exact h.elim
theorem stepH_ok {tbl : FuncId → List FSp} (hT : ∀ f S, S ∈ tbl f → FOk P f S) {op : Op} (hf : ∀ i, i < stepM tbl sl op → bl[f + i]? = some .hole) (h : Told f (stepH P tbl sl f op ty) bl bl' v) : EffH P n op ty sl bl bl' v := by
  have h1 : 0 < stepM tbl sl op → bl[f]? = some .hole := fun h0 => by simpa using hf 0 h0
  cases op with
  | move x => exact (tMove_ok h).1
  | assign x => exact (tMove_ok h).2
  | pick c x y => exact tPick_ok h
  | alloc t => exact tAlloc_ok (h1 (by simp [stepM])) h
  | box t x => exact tBox_ok (h1 (by simp [stepM])) h
  | build t parts => simpa using tBuild_ok (n := n) (ty := ty) h
  | buildSlice t len parts => simpa using tLit_ok (n := n) (ty := ty) (h1 (by simp [stepM])) h
  | load t x => exact tLoad_ok h
  | store t x y => exact tStore_ok h
  | nilCheck x => exact tNil_ok h
  | binOp op t x y u => exact tBin_ok h
  | unOp op t x => exact tUn_ok h
  | convert s d x => exact tText_ok h
  | makeFunc fn first captured => simpa using tFn_ok (n := n) (ty := ty) h
  | makeSlice t x y => exact tMake_ok (h1 (by simp [stepM])) h
  | slice t x lo hi mx => cases mx with
    | none => exact tSlice_ok h
    | some _ => exact h.elim
  | fieldAddr t x i => exact tFieldA_ok h
  | field t x i => exact tField_ok h
  | indexAddr t x i => exact tIndexA_ok h
  | index t x i => exact tIndex_ok h
  | extract x i => exact tExtract_ok h
  | call c => exact stepC_ok hT hf h
  | _ => exact h.elim
end
abbrev Tbl := List (FuncId × FSp)
def lkT : Tbl → FuncId → List FSp
  | [], _ => []
  | (f, S) :: l, g => cond (Nat.beq f g) (S :: lkT l g) (lkT l g)
structure TOk (P : Program) (T : Tbl) : Prop where
  ok : ∀ f S, S ∈ lkT T f → FOk P f S
theorem TOk.nil {P : Program} : TOk P [] := ⟨fun f S h => by cases h⟩
theorem TOk.cons {P : Program} {T : Tbl} {f : FuncId} {S : FSp} (h : TOk P T) (k : FOk P f S) : TOk P ((f, S) :: T) := ⟨fun g S' hm => by
  unfold lkT at hm
  cases hb : Nat.beq f g with
  | true =>
    rw [hb] at hm
    have := Nat.eq_of_beq_eq_true hb
    subst this
    rcases List.mem_cons.1 hm with rfl | hm
    · exact k
    · exact h.ok _ _ hm
  | false => rw [hb] at hm; exact h.ok _ _ hm⟩
def stpT (P : Program) (T : Tbl) (h : TOk P T) : Stp P := ⟨stepH P (lkT T), stepM (lkT T), fun hf hT => stepH_ok h.ok hf hT⟩
theorem FOk.run_eq {P : Program} {f : FuncId} {ps : Sch} {rs : List Sch} {r1 r2 : HL ps.lv → Option (ALT rs)} (h : FOk P f ⟨ps, rs, r1⟩) (e : ∀ t, r1 t = r2 t) : FOk P f ⟨ps, rs, r2⟩ := by
  have : r1 = r2 := funext e
  rwa [← this]
theorem FOk.of_none {P : Program} {f : FuncId} {S : FSp} (h : ∀ t, S.run t = none) : FOk P f S := fun t r st0 hr => by rw [h t] at hr; cases hr
end Go.Proofs.YtnkmijidneibnaaDoor
namespace Go.Proofs.YtnkmijidneibnaaDoor
set_option linter.unusedVariables false
set_option linter.unusedSimpArgs false
open Go.Shelf Go.RowKit Go.Sort Go.Lib
def lays171_ren : Go.Shelf.Ren := ⟨fun | 171 => 60 | 243 => 80 | 246 => 79 | 283 => 95 | 284 => 96 | 285 => 97 | 286 => 98 | 129 => 91 | 317 => 107 | 318 => 108 | 319 => 109 | 320 => 110 | 337 => 113 | 338 => 114 | n => n, fun | 3 => 3 | 9 => 9 | 2 => 2 | 4 => 4 | 171 => 140 | 0 => 0 | 53 => 38 | 37 => 50 | 5 => 5 | 173 => 142 | 212 => 153 | 51 => 22 | 20 => 20 | 213 => 154 | 46 => 118 | 232 => 159 | 233 => 160 | n => n, fun | 17 => 0 | 18 => 1 | 19 => 2 | n => n⟩
theorem lays171 : Go.Proofs.LaysM.n171 Tryd.prog lays171_ren := {
  mixed := by kernel_rfl
  f129 := Tryd.func91.trans (congrArg some (by kernel_rfl))
  f171 := Tryd.func60.trans (congrArg some (by kernel_rfl))
  f243 := Tryd.func80.trans (congrArg some (by kernel_rfl))
  f246 := Tryd.func79.trans (congrArg some (by kernel_rfl))
  f283 := Tryd.func95.trans (congrArg some (by kernel_rfl))
  f284 := Tryd.func96.trans (congrArg some (by kernel_rfl))
  f285 := Tryd.func97.trans (congrArg some (by kernel_rfl))
  f286 := Tryd.func98.trans (congrArg some (by kernel_rfl))
  f317 := Tryd.func107.trans (congrArg some (by kernel_rfl))
  f318 := Tryd.func108.trans (congrArg some (by kernel_rfl))
  f319 := Tryd.func109.trans (congrArg some (by kernel_rfl))
  f320 := Tryd.func110.trans (congrArg some (by kernel_rfl))
  f337 := Tryd.func113.trans (congrArg some (by kernel_rfl))
  f338 := Tryd.func114.trans (congrArg some (by kernel_rfl))
  t0 := Tryd.underlying0
  a0 := Tryd.isAgg0
  z0 := Tryd.sizeOf0
  v0 := Tryd.zeroValue0
  t2 := Tryd.underlying2
  a2 := Tryd.isAgg2
  z2 := Tryd.sizeOf2
  v2 := Tryd.zeroValue2
  t3 := Tryd.underlying3
  a3 := Tryd.isAgg3
  z3 := Tryd.sizeOf3
  v3 := Tryd.zeroValue3
  t4 := Tryd.underlying4
  a4 := Tryd.isAgg4
  z4 := Tryd.sizeOf4
  v4 := Tryd.zeroValue4
  t5 := Tryd.underlying5
  a5 := Tryd.isAgg5
  z5 := Tryd.sizeOf5
  v5 := Tryd.zeroValue5
  t9 := Tryd.underlying9
  a9 := Tryd.isAgg9
  z9 := Tryd.sizeOf9
  v9 := Tryd.zeroValue9
  t20 := Tryd.underlying20
  a20 := Tryd.isAgg20
  z20 := Tryd.sizeOf20
  v20 := Tryd.zeroValue20
  t37 := Tryd.underlying50
  a37 := Tryd.isAgg50
  z37 := Tryd.sizeOf50
  v37 := Tryd.zeroValue50
  t46 := Tryd.underlying118
  a46 := Tryd.isAgg118
  z46 := Tryd.sizeOf118
  v46 := Tryd.zeroValue118
  t51 := Tryd.underlying22
  a51 := Tryd.isAgg22
  z51 := Tryd.sizeOf22
  v51 := Tryd.zeroValue22
  t53 := Tryd.underlying38
  a53 := Tryd.isAgg38
  z53 := Tryd.sizeOf38
  v53 := Tryd.zeroValue38
  t171 := Tryd.underlying140
  a171 := Tryd.isAgg140
  z171 := Tryd.sizeOf140
  v171 := Tryd.zeroValue140
  t173 := Tryd.underlying142
  a173 := Tryd.isAgg142
  z173 := Tryd.sizeOf142
  v173 := Tryd.zeroValue142
  t212 := Tryd.underlying153
  a212 := Tryd.isAgg153
  z212 := Tryd.sizeOf153
  v212 := Tryd.zeroValue153
  t213 := Tryd.underlying154
  a213 := Tryd.isAgg154
  z213 := Tryd.sizeOf154
  t232 := Tryd.underlying159
  a232 := Tryd.isAgg159
  z232 := Tryd.sizeOf159
  v232 := Tryd.zeroValue159
  t233 := Tryd.underlying160
  a233 := Tryd.isAgg160
  z233 := Tryd.sizeOf160
  v233 := Tryd.zeroValue160
  g17 := by kernel_rfl
  g18 := by kernel_rfl
  g19 := by kernel_rfl
  i0 := by kernel_rfl
  i2 := by kernel_rfl
  i3 := by kernel_rfl
  i4 := by kernel_rfl
  i5 := by kernel_rfl
  i9 := by kernel_rfl
  i20 := by kernel_rfl
  i37 := by kernel_rfl
  i46 := by kernel_rfl
  i51 := by kernel_rfl
  i53 := by kernel_rfl
  i171 := by kernel_rfl
  i173 := by kernel_rfl
  i212 := by kernel_rfl
  i232 := by kernel_rfl
  i233 := by kernel_rfl
  m17 := by kernel_rfl
  m18 := by kernel_rfl
  m19 := by kernel_rfl }
def lays173_ren : Go.Shelf.Ren := ⟨fun | 173 => 59 | 246 => 79 | 283 => 95 | 284 => 96 | 285 => 97 | 286 => 98 | 129 => 91 | 317 => 107 | 318 => 108 | 319 => 109 | 320 => 110 | 337 => 113 | 338 => 114 | n => n, fun | 2 => 2 | 3 => 3 | 9 => 9 | 4 => 4 | 171 => 140 | 0 => 0 | 53 => 38 | 37 => 50 | 5 => 5 | 173 => 142 | 212 => 153 | 51 => 22 | 20 => 20 | 213 => 154 | 46 => 118 | 232 => 159 | 233 => 160 | n => n, fun | 17 => 0 | 18 => 1 | 19 => 2 | n => n⟩
theorem lays173 : Go.Proofs.LaysM.n173 Tryd.prog lays173_ren := {
  mixed := by kernel_rfl
  f129 := Tryd.func91.trans (congrArg some (by kernel_rfl))
  f173 := Tryd.func59.trans (congrArg some (by kernel_rfl))
  f246 := Tryd.func79.trans (congrArg some (by kernel_rfl))
  f283 := Tryd.func95.trans (congrArg some (by kernel_rfl))
  f284 := Tryd.func96.trans (congrArg some (by kernel_rfl))
  f285 := Tryd.func97.trans (congrArg some (by kernel_rfl))
  f286 := Tryd.func98.trans (congrArg some (by kernel_rfl))
  f317 := Tryd.func107.trans (congrArg some (by kernel_rfl))
  f318 := Tryd.func108.trans (congrArg some (by kernel_rfl))
  f319 := Tryd.func109.trans (congrArg some (by kernel_rfl))
  f320 := Tryd.func110.trans (congrArg some (by kernel_rfl))
  f337 := Tryd.func113.trans (congrArg some (by kernel_rfl))
  f338 := Tryd.func114.trans (congrArg some (by kernel_rfl))
  t0 := Tryd.underlying0
  a0 := Tryd.isAgg0
  z0 := Tryd.sizeOf0
  v0 := Tryd.zeroValue0
  t2 := Tryd.underlying2
  a2 := Tryd.isAgg2
  z2 := Tryd.sizeOf2
  v2 := Tryd.zeroValue2
  t3 := Tryd.underlying3
  a3 := Tryd.isAgg3
  z3 := Tryd.sizeOf3
  v3 := Tryd.zeroValue3
  t4 := Tryd.underlying4
  a4 := Tryd.isAgg4
  z4 := Tryd.sizeOf4
  v4 := Tryd.zeroValue4
  t5 := Tryd.underlying5
  a5 := Tryd.isAgg5
  z5 := Tryd.sizeOf5
  v5 := Tryd.zeroValue5
  t9 := Tryd.underlying9
  a9 := Tryd.isAgg9
  z9 := Tryd.sizeOf9
  v9 := Tryd.zeroValue9
  t20 := Tryd.underlying20
  a20 := Tryd.isAgg20
  z20 := Tryd.sizeOf20
  v20 := Tryd.zeroValue20
  t37 := Tryd.underlying50
  a37 := Tryd.isAgg50
  z37 := Tryd.sizeOf50
  v37 := Tryd.zeroValue50
  t46 := Tryd.underlying118
  a46 := Tryd.isAgg118
  z46 := Tryd.sizeOf118
  v46 := Tryd.zeroValue118
  t51 := Tryd.underlying22
  a51 := Tryd.isAgg22
  z51 := Tryd.sizeOf22
  v51 := Tryd.zeroValue22
  t53 := Tryd.underlying38
  a53 := Tryd.isAgg38
  z53 := Tryd.sizeOf38
  v53 := Tryd.zeroValue38
  t171 := Tryd.underlying140
  a171 := Tryd.isAgg140
  z171 := Tryd.sizeOf140
  v171 := Tryd.zeroValue140
  t173 := Tryd.underlying142
  a173 := Tryd.isAgg142
  z173 := Tryd.sizeOf142
  v173 := Tryd.zeroValue142
  t212 := Tryd.underlying153
  a212 := Tryd.isAgg153
  z212 := Tryd.sizeOf153
  v212 := Tryd.zeroValue153
  t213 := Tryd.underlying154
  a213 := Tryd.isAgg154
  z213 := Tryd.sizeOf154
  t232 := Tryd.underlying159
  a232 := Tryd.isAgg159
  z232 := Tryd.sizeOf159
  v232 := Tryd.zeroValue159
  t233 := Tryd.underlying160
  a233 := Tryd.isAgg160
  z233 := Tryd.sizeOf160
  v233 := Tryd.zeroValue160
  g17 := by kernel_rfl
  g18 := by kernel_rfl
  g19 := by kernel_rfl
  i0 := by kernel_rfl
  i2 := by kernel_rfl
  i3 := by kernel_rfl
  i4 := by kernel_rfl
  i5 := by kernel_rfl
  i9 := by kernel_rfl
  i20 := by kernel_rfl
  i37 := by kernel_rfl
  i46 := by kernel_rfl
  i51 := by kernel_rfl
  i53 := by kernel_rfl
  i171 := by kernel_rfl
  i173 := by kernel_rfl
  i212 := by kernel_rfl
  i232 := by kernel_rfl
  i233 := by kernel_rfl
  m17 := by kernel_rfl
  m18 := by kernel_rfl
  m19 := by kernel_rfl }
theorem finU (w : World) (o : Obj) (dk : Array UInt8) (k : Nat) : ∃ os, (putRow (fun (b : UInt8) => Value.int .u8 (b.toNat : Int)) (w.alloc o) w.heap.size 0 dk).drewN k = grow (w.drewN k) os := by
  rw [alloc_eq_grow]
  obtain ⟨os', _, e⟩ := putRow_grow_new (fun (b : UInt8) => Value.int .u8 (b.toNat : Int)) w #[o] w.heap.size 0 dk (Nat.le_refl _)
  exact ⟨os', by rw [e]; rfl⟩
set_option maxHeartbeats 6400000 in
set_option maxRecDepth 100000 in
theorem fmtU_walk (u : Nat) (hu64 : u < 18446744073709551616) (w : World) (htab : GW w) :
    Calls Tryd.prog 78 #[.int .u64 u, .int .i64 10] w fun e w' => e = .returned (.string ⟨(Lib.decDigits u).toArray⟩) ∧ ∃ k os, w' = grow (w.drewN k) os := by
  by_cases hs : u < 100
  · have hwr : IntKind.i64.wrap (u : Int) = (u : Int) := by rw [IntKind.wrap_i64]; omega
    go_enter Tryd.func78, Tryd.ntmps78
    go_wp2_with (go_at_call 95; refine (Any.internal_strconv_small { lays173 with } u hs _).mono ?_; rintro e w' ⟨rfl, rfl⟩)
    go_ret
    refine ⟨?_, 0, #[], by simp [World.drewN_zero]⟩
    rfl
  · have hu1 : 1 ≤ u := by omega
    have hnd20 : Lib.nDigits u ≤ 20 := by have := Lib.numDigits_eq u hu1 hu64; split at this <;> omega
    have hb3 : Lib.nDigits u ≤ 24 := by omega
    have hal : Tryd.prog.arrayLen 140 = 24 := by simp [Program.arrayLen, Tryd.underlying140]
    have hsl1 : ∀ W, (Instr.sliceAt 140 (.pointer (some ⟨w.heap.size, 0, none⟩)) none (some (.int .i64 (Lib.nDigits u : Int))) none).run Tryd.prog W = .ok (.slice (some ⟨w.heap.size, 0, none⟩) (Lib.nDigits u) 24) W := fun W => by
      rw [run_sliceAt_array_h W 140 ⟨w.heap.size, 0, none⟩ (by simp [Program.arrayLen, Program.elem, Tryd.underlying140]) .i64 (Lib.nDigits u : Int) (by omega) (by rw [hal]; omega)]
      go_simp
    have hH0 : Holds (fun (b : UInt8) => Value.int .u8 (b.toNat : Int)) (w.alloc (.cells Lib.zeros24 140)) w.heap.size 0 (Array.replicate (Lib.nDigits u) (0 : UInt8)) := fun j hj => by
      have hj' : j < Lib.nDigits u := by simpa using hj
      refine ⟨?_, World.frozen?_alloc_new _ _ _ _⟩
      rw [World.cell?_alloc_new, Lib.zeros24_at _ (by omega), getElem!_pos _ j hj]
      simp
    have hfmt := Any.internal_strconv_formatBase10 { lays173 with } w.heap.size 0 24 u (Array.replicate (Lib.nDigits u) 0) (w.alloc (.cells Lib.zeros24 140)) hH0 (by rw [Array.size_replicate]; exact Lib.lt_pow_nDigits u) hu64 (by rw [Array.size_replicate]; omega)
    rw [Array.size_replicate] at hfmt
    have HH0 := Lib.hid hH0
    clear hH0 hal
    go_enter Tryd.func78, Tryd.ntmps78
    go_wp2_with (first
      | (go_at_call 96; refine (Any.internal_strconv_numDigits { lays173 with } u hu1 hu64 _ (Lib.tabIs_alloc htab _)).mono ?_; rintro e w' ⟨rfl, rfl⟩))
    go_at_call 97
    refine hfmt.mono ?_
    rintro e w' ⟨rfl, k, v', dk, rfl, hF⟩
    have hcv : (convert 50 9 (.slice (some ⟨w.heap.size, 0, none⟩) (Lib.nDigits u) 24)).run Tryd.prog ((putRow (fun (b : UInt8) => Value.int .u8 (b.toNat : Int)) (w.alloc (.cells Lib.zeros24 140)) w.heap.size 0 dk).drewN k) = .ok (.string ⟨(Lib.decDigits u).toArray⟩) ((putRow (fun (b : UInt8) => Value.int .u8 (b.toNat : Int)) (w.alloc (.cells Lib.zeros24 140)) w.heap.size 0 dk).drewN k) := by
      have h := run_convert_bytes_back (P := Tryd.prog) ((putRow (fun (b : UInt8) => Value.int .u8 (b.toNat : Int)) (w.alloc (.cells Lib.zeros24 140)) w.heap.size 0 dk).drewN k) 50 9 5 ⟨w.heap.size, 0, none⟩ 24 (Lib.decDigits u) Tryd.underlying50 Tryd.underlying5 Tryd.underlying9 (fun j hj => by
        rw [Lib.row_is_numeral hF j hj, Lib.add_plain, World.cell?_drewN]
        exact cell?_putRow (fun (b : UInt8) => Value.int .u8 (b.toNat : Int)) _ w.heap.size 0 _ dk HH0.out (by rw [hF.size, Array.size_replicate]) j (by rw [hF.size]; rw [Lib.decDigits_length] at hj; exact hj))
      rw [Lib.decDigits_length] at h
      exact h
    go_wp2
    go_ret
    obtain ⟨os, eo⟩ := finU w (.cells Lib.zeros24 140) dk k
    refine ⟨?_, k, os, eo⟩
    rfl
theorem fmtUP_walk (u : Nat) (hu64 : u < 18446744073709551616) (w : World) (htab : GW w) :
    Calls Tryd.prog 58 #[.int .u64 u, .int .i64 10] w fun e w' => e = .returned (.string ⟨(Lib.decDigits u).toArray⟩) ∧ ∃ k os, w' = grow (w.drewN k) os := by
  go_enter Tryd.func58, Tryd.ntmps58
  go_wp2_with (go_at_call 78; refine (fmtU_walk u hu64 _ htab).mono ?_; rintro e w' ⟨rfl, k, os, rfl⟩)
  go_ret
  exact ⟨rfl, k, os, rfl⟩
end Go.Proofs.YtnkmijidneibnaaDoor
namespace Go.Proofs.YtnkmijidneibnaaDoor
set_option linter.unusedVariables false
set_option linter.unusedSimpArgs false
open Go.RowKit
def rT : List Sch := [⟨[(0, .v (.c .s))], []⟩]
theorem below_grow (w : World) (k : Nat) (os : Array Obj) : Below w.heap.size w (Sort.grow (w.drewN k) os) :=
  ⟨rfl, rfl, rfl, by show w.heap.size ≤ (w.heap ++ os).size; rw [Array.size_append]; omega, fun j hj => by
    show (w.heap ++ os)[j]? = w.heap[j]?
    rw [Array.getElem?_append, if_pos hj]⟩
theorem FOk_text {P : Program} {f : FuncId} {ps : Sch} {run : HL ps.lv → Option (List UInt8)}
    (h : ∀ t r st0, run t = some r → conT ps t = some st0 → st0.bl = [] ∧ ∀ g ρ own vs, Rl g ρ st0 own (argS 0 vs) → vs.length = ps.sl.length → r.length ≤ 140737488355328 ∧ ∀ w, GW w → Calls P f vs.toArray w fun e w' => e = .returned (.string (mkS r)) ∧ Below w.heap.size w w') : FOk P f ⟨ps, rT, run⟩ := by
  intro t r st0 hr hc g ρ own vs hR hl w hs
  obtain ⟨h0, h⟩ := h t r st0 hr hc
  obtain ⟨h1, h2⟩ := h g ρ own vs hR hl
  refine (h2 w (hR.gi w (hs.r.of_le g.br))).mono fun e w' ⟨he, hb⟩ => ⟨_, g, [], he, .refl g, ⟨⟨hb.os.trans hs.r.os, hb.tape.trans hs.r.tape, hb.output.trans hs.r.out, fun b o e => ?_⟩, List.nodup_nil, fun k hk => (by cases hk), fun k hk => (by cases hk)⟩, ⟨[(0, vC (.str r))], []⟩, ρ, rfl, rfl, ⟨rfl, fun i bv k e => (by cases e), fun t sv e => ?_, hR.gi⟩, fun j hj => (by rw [h0] at hj; cases hj)⟩
  · have h1 := hs.r.m b o e
    have hlt : b < w.heap.size := (Array.getElem?_eq_some_iff.1 h1).1
    rw [hb.block b hlt]; exact h1
  · have e : cond (Nat.beq 0 t) (some (vC (.str r))) none = some sv := e
    obtain ⟨e1, e2⟩ := condS e
    injection e2 with e2; subst e2
    have := Nat.eq_of_beq_eq_true e1
    subst this
    exact ⟨_, rfl, rfl, h1⟩
theorem two {vs : List Value} (h : vs.length = 2) : ∃ a b, vs = [a, b] := by
  match vs, h with
  | [a, b], _ => exact ⟨a, b, rfl⟩
theorem one {vs : List Value} (h : vs.length = 1) : ∃ a, vs = [a] := by
  match vs, h with
  | [a], _ => exact ⟨a, rfl⟩
def digF : Nat → Nat → List UInt8
  | 0, _ => []
  | f + 1, n => cond (Nat.blt n 10) [UInt8.ofNat (48 + n)] (digF f (n / 10) ++ [UInt8.ofNat (48 + n % 10)])
theorem digF_eq : ∀ f n, n < 10 ^ (f + 1) → digF (f + 1) n = Lib.decDigits n
  | 0, n, h => by
    have h : n < 10 := by simpa using h
    have : Nat.blt n 10 = true := by simpa using h
    unfold digF
    rw [this, Lib.decDigits_one h]
    rfl
  | f + 1, n, h => by
    unfold digF
    by_cases h1 : n < 10
    · have : Nat.blt n 10 = true := by simpa using h1
      rw [this, Lib.decDigits_one h1]
      rfl
    · have : Nat.blt n 10 = false := by
        cases e : Nat.blt n 10 with
        | true => simp at e; omega
        | false => rfl
      have e2 : Lib.decDigits n = Lib.decDigits (n / 10) ++ [UInt8.ofNat (48 + n % 10)] := by
        conv => lhs; rw [Lib.decDigits, dif_neg h1]
      rw [this, digF_eq f (n / 10) (by rw [Nat.pow_succ] at h; omega), e2]
      rfl
def itoaF (n : Int) : List UInt8 := cond (decide (n < 0)) (45 :: digF 20 n.natAbs) (digF 20 n.toNat)
theorem itoaF_eq {n : Int} (h0 : -9223372036854775808 ≤ n) (h1 : n ≤ 9223372036854775807) : itoaF n = Lib.itoa n := by
  unfold itoaF Lib.itoa
  by_cases h : n < 0
  · rw [if_pos h, decide_eq_true h]
    exact congrArg (45 :: ·) (digF_eq 19 _ (by omega))
  · rw [if_neg h, decide_eq_false h]
    exact digF_eq 19 _ (by omega)
def p58 : Sch := ⟨[(0, .v (.c (.i .u64))), (1, .v (.c (.ic .i64 10)))], []⟩
def o58 (u : Int) : Option (List UInt8) := some (digF 20 u.toNat)
theorem fo58 : FOk Tryd.prog 58 ⟨p58, rT, fun t => o58 t⟩ := FOk_text fun (t : Int) r st0 hr hc => by
  have e : conT p58 t = some ⟨[(0, vC (.int .u64 t)), (1, vC (.int .i64 10))], []⟩ := rfl
  rw [e] at hc; injection hc with hc; subst hc
  have hr : some (digF 20 t.toNat) = some r := hr
  injection hr with hr; subst hr
  refine ⟨rfl, fun g ρ own vs hR hl => ?_⟩
  obtain ⟨a, b, rfl⟩ := two hl
  obtain ⟨v0, h1, rfl, hk⟩ := hR.slot 0 _ rfl
  obtain ⟨v1, h2, rfl, _⟩ := hR.slot 1 _ rfl
  injection h1 with h1; subst h1
  injection h2 with h2; subst h2
  simp [inK, IntKind.min, IntKind.max, IntKind.signed, IntKind.bits] at hk
  have hu : t.toNat < 18446744073709551616 := by omega
  rw [digF_eq 19 _ (by omega)]
  refine ⟨?_, fun w hw => ?_⟩
  · have := Lib.nDigits_le20 _ hu
    rw [Lib.decDigits_length]; omega
  · have := fmtUP_walk t.toNat hu w hw
    rw [show ((t.toNat : Nat) : Int) = t by omega] at this
    exact this.mono fun e w' ⟨he, k, os, hw⟩ => ⟨he, by subst hw; exact below_grow w k os⟩
def p59 : Sch := ⟨[(0, .v (.c (.i .i64))), (1, .v (.c (.ic .i64 10)))], []⟩
def o59 (u : Int) : Option (List UInt8) := some (itoaF u)
theorem fo59 : FOk Tryd.prog 59 ⟨p59, rT, fun t => o59 t⟩ := FOk_text fun (t : Int) r st0 hr hc => by
  have e : conT p59 t = some ⟨[(0, vC (.int .i64 t)), (1, vC (.int .i64 10))], []⟩ := rfl
  rw [e] at hc; injection hc with hc; subst hc
  have hr : some (itoaF t) = some r := hr
  injection hr with hr; subst hr
  refine ⟨rfl, fun g ρ own vs hR hl => ?_⟩
  obtain ⟨a, b, rfl⟩ := two hl
  obtain ⟨v0, h1, rfl, hk⟩ := hR.slot 0 _ rfl
  obtain ⟨v1, h2, rfl, _⟩ := hR.slot 1 _ rfl
  injection h1 with h1; subst h1
  injection h2 with h2; subst h2
  simp [inK, IntKind.min, IntKind.max, IntKind.signed, IntKind.bits] at hk
  rw [itoaF_eq hk.1 hk.2]
  refine ⟨?_, fun w hw => ?_⟩
  · have := Lib.itoa_length_le t hk.1 hk.2
    omega
  · exact (Any.strconv_FormatInt_10 lays173 t hk.1 hk.2 w hw).mono fun e w' ⟨he, k, os, hw⟩ => ⟨he, by subst hw; exact below_grow w k os⟩
def p60 : Sch := ⟨[(0, .v (.c (.i .i64)))], []⟩
def o60 (u : Int) : Option (List UInt8) := some (itoaF u)
theorem fo60 : FOk Tryd.prog 60 ⟨p60, rT, fun t => o60 t⟩ := FOk_text fun (t : Int) r st0 hr hc => by
  have e : conT p60 t = some ⟨[(0, vC (.int .i64 t))], []⟩ := rfl
  rw [e] at hc; injection hc with hc; subst hc
  have hr : some (itoaF t) = some r := hr
  injection hr with hr; subst hr
  refine ⟨rfl, fun g ρ own vs hR hl => ?_⟩
  obtain ⟨a, rfl⟩ := one hl
  obtain ⟨v0, h1, rfl, hk⟩ := hR.slot 0 _ rfl
  injection h1 with h1; subst h1
  simp [inK, IntKind.min, IntKind.max, IntKind.signed, IntKind.bits] at hk
  rw [itoaF_eq hk.1 hk.2]
  refine ⟨?_, fun w hw => ?_⟩
  · have := Lib.itoa_length_le t hk.1 hk.2
    omega
  · exact (Any.strconv_Itoa lays171 t hk.1 hk.2 w hw).mono fun e w' ⟨he, k, os, hw⟩ => ⟨he, by subst hw; exact below_grow w k os⟩
end Go.Proofs.YtnkmijidneibnaaDoor
namespace Go.Proofs.YtnkmijidneibnaaDoor
set_option linter.unusedVariables false
set_option linter.unusedSimpArgs false
set_option maxRecDepth 100000
open Go.RowKit
abbrev T0 : Tbl := []
theorem K0 : TOk Tryd.prog T0 := .nil
noncomputable section
def T1 : Tbl := (58, ⟨p58, rT, fun t => (o58 t)⟩) :: T0
theorem K1 : TOk Tryd.prog T1 := .cons K0 fo58
def T2 : Tbl := (59, ⟨p59, rT, fun t => (o59 t)⟩) :: T1
theorem K2 : TOk Tryd.prog T2 := .cons K1 fo59
def T3 : Tbl := (60, ⟨p60, rT, fun t => (o60 t)⟩) :: T2
theorem K3 : TOk Tryd.prog T3 := .cons K2 fo60
def o12_s0 : Sch := ⟨[(0, .v (.c (.i .i64))), (9, .v (.c (.b)))], []⟩
def p12 : Sch := ⟨[(0, .v (.c (.i .i64)))], []⟩
def r12 : List Sch := [⟨[(0, .tup [.c (.cst (.pointer none)), .c (.ic .i64 (1))])], []⟩, ⟨[(0, .tup [.c (.ptr 0 0), .c (.ic .i64 (0))])], [.cells 84 [.own 1, .ic .i64 (-1), .b], .row .y 5]⟩]
def o12 (a0 : Int) : Option (Unit ⊕ (Bool × List UInt8)) :=
 (bd (α := (Int × Bool)) (cnd (decide (a0 < (2 : Int))) (some (a0, true)) (some (a0, (decide (a0 > (64 : Int)))))) (fun v1 => (cnd v1.2 (some (Sum.inl ())) (gd (decide ((0 : Int) ≤ (IntKind.wrap .i64 (v1.1 * (30 : Int))) ∧ (IntKind.wrap .i64 (v1.1 * (30 : Int))) * (1 : Int) ≤ (140737488355328 : Int))) (some (Sum.inr (false, (List.replicate (IntKind.wrap .i64 (v1.1 * (30 : Int))).toNat (u8 (0 : Int))))))))))
theorem e12 (t : Int) : evF (stpT Tryd.prog T3 K3) Tryd.f12 p12 r12 (.s .d (.s (.s (.j false [o12_s0] .d) .d) .d)) t = (o12 t) := by kernel_rfl
theorem fo12 : FOk Tryd.prog 12 ⟨p12, r12, fun t => (o12 t)⟩ := FOk.run_eq (evF_ok (h := (.s .d (.s (.s (.j false [o12_s0] .d) .d) .d))) (by kernel_rfl) (by kernel_rfl) (by kernel_rfl)) e12
def T4 : Tbl := (12, ⟨p12, r12, fun t => (o12 t)⟩) :: T3
theorem K4 : TOk Tryd.prog T4 := .cons K3 fo12
def p13 : Sch := ⟨[(0, .v (.c (.cst (.pointer none))))], []⟩
def r13 : List Sch := [⟨[(0, .tup [.c (.cst (.pointer none)), .c (.ic .i64 (1))])], []⟩]
def o13 : Option Unit :=
 (some ())
theorem e13 (t : Unit) : evF (stpT Tryd.prog T4 K4) Tryd.f13 p13 r13 .d t = o13 := by kernel_rfl
theorem fo13 : FOk Tryd.prog 13 ⟨p13, r13, fun t => o13⟩ := FOk.run_eq (evF_ok (h := .d) (by kernel_rfl) (by kernel_rfl) (by kernel_rfl)) e13
def T5 : Tbl := (13, ⟨p13, r13, fun t => o13⟩) :: T4
theorem K5 : TOk Tryd.prog T5 := .cons K4 fo13
def p32 : Sch := ⟨[(0, .v (.c (.ptr 0 0)))], [.lent [.ro .y false, .i .i64, .b]]⟩
def r32 : List Sch := [⟨[(0, .v (.c (.i .i64)))], [.no]⟩]
def o32 (a0 : List UInt8) (a1 : Int) (a2 : Bool) : Option Int :=
 (some (IntKind.wrap .i64 (Int.tdiv ((a0.length : Nat) : Int) (30 : Int))))
theorem e32 (t : List UInt8 × Int × Bool) : evF (stpT Tryd.prog T5 K5) Tryd.f32 p32 r32 .d t = (o32 t.1 t.2.1 t.2.2) := by kernel_rfl
theorem fo32 : FOk Tryd.prog 32 ⟨p32, r32, fun t => (o32 t.1 t.2.1 t.2.2)⟩ := FOk.run_eq (evF_ok (h := .d) (by kernel_rfl) (by kernel_rfl) (by kernel_rfl)) e32
def T6 : Tbl := (32, ⟨p32, r32, fun t => (o32 t.1 t.2.1 t.2.2)⟩) :: T5
theorem K6 : TOk Tryd.prog T6 := .cons K5 fo32
def o111_s0 : Sch := ⟨[(0, .v (.c (.i .u32))), (9, .v (.c (.i .i64)))], []⟩
def p111 : Sch := ⟨[(0, .v (.c (.i .u32))), (1, .v (.c (.i .u8)))], []⟩
def r111 : List Sch := [⟨[(0, .v (.c (.i .u32)))], []⟩]
def o111 (a0 : Int) (a1 : Int) : Option Int :=
 (loopO (σ := Int × Int) fuelN (fun (v2 : Int × Int) => (cnd (decide (v2.2 < (8 : Int))) (cnd ((landK .u32 v2.1 (1 : Int)) == (1 : Int)) (some (Ctl.go ((lxorK .u32 (shrK .u32 v2.1 (1 : Int)) (3988292384 : Int)), (IntKind.wrap .i64 (v2.2 + (1 : Int)))))) (some (Ctl.go ((shrK .u32 v2.1 (1 : Int)), (IntKind.wrap .i64 (v2.2 + (1 : Int))))))) (dnO (some v2.1)))) ((lxorK .u32 a0 (IntKind.wrap .u32 a1)), (0 : Int)))
theorem e111 (t : Int × Int) : evF (stpT Tryd.prog T6 K6) Tryd.f111 p111 r111 (.s .d (.s .d (.s (.s .d (.b (.l o111_s0 .d))) .d))) t = (o111 t.1 t.2) := by kernel_rfl
theorem fo111 : FOk Tryd.prog 111 ⟨p111, r111, fun t => (o111 t.1 t.2)⟩ := FOk.run_eq (evF_ok (h := (.s .d (.s .d (.s (.s .d (.b (.l o111_s0 .d))) .d)))) (by kernel_rfl) (by kernel_rfl) (by kernel_rfl)) e111
def T7 : Tbl := (111, ⟨p111, r111, fun t => (o111 t.1 t.2)⟩) :: T6
theorem K7 : TOk Tryd.prog T7 := .cons K6 fo111
def o99_s0 : Sch := ⟨[(5, .v (.c (.i .u32))), (10, .v (.c (.ro .y false))), (11, .v (.c (.i .i64))), (12, .v (.c (.i .i64)))], []⟩
def p99 : Sch := ⟨[(0, .v (.c (.i .u32))), (1, .v (.c (.ro .y false)))], []⟩
def r99 : List Sch := [⟨[(0, .v (.c (.i .u32)))], []⟩]
def o99 (a0 : Int) (a1 : List UInt8) : Option Int :=
 (loopO (σ := Int × List UInt8 × Int × Int) fuelN (fun (v3 : Int × List UInt8 × Int × Int) => (cnd (decide (v3.2.2.2 < v3.2.2.1)) (gd (decide ((0 : Int) ≤ v3.2.2.2 ∧ v3.2.2.2 < ((v3.2.1.length : Nat) : Int))) (bd (α := Int) (o111 v3.1 ((UInt8.toNat (List.getD v3.2.1 v3.2.2.2.toNat (0 : UInt8)) : Nat) : Int)) (fun v4 => (some (Ctl.go (v4, v3.2.1, v3.2.2.1, (IntKind.wrap .i64 (v3.2.2.2 + (1 : Int))))))))) (dnO (some (lxorK .u32 (4294967295 : Int) v3.1))))) ((lxorK .u32 (4294967295 : Int) a0), a1, ((a1.length : Nat) : Int), (0 : Int)))
theorem e99 (t : Int × List UInt8) : evF (stpT Tryd.prog T7 K7) Tryd.f99 p99 r99 (.s .d (.s .d (.s (.s .d (.b (.l o99_s0 .d))) .d))) t = (o99 t.1 t.2) := by kernel_rfl
theorem fo99 : FOk Tryd.prog 99 ⟨p99, r99, fun t => (o99 t.1 t.2)⟩ := FOk.run_eq (evF_ok (h := (.s .d (.s .d (.s (.s .d (.b (.l o99_s0 .d))) .d)))) (by kernel_rfl) (by kernel_rfl) (by kernel_rfl)) e99
def T8 : Tbl := (99, ⟨p99, r99, fun t => (o99 t.1 t.2)⟩) :: T7
theorem K8 : TOk Tryd.prog T8 := .cons K7 fo99
def p81 : Sch := ⟨[(0, .v (.c (.ro .y false)))], []⟩
def r81 : List Sch := [⟨[(0, .v (.c (.i .u32)))], []⟩]
def o81 (a0 : List UInt8) : Option Int :=
 (bd (α := Int) (o99 (0 : Int) a0) (fun v1 => (some v1)))
theorem e81 (t : List UInt8) : evF (stpT Tryd.prog T8 K8) Tryd.f81 p81 r81 .d t = (o81 t) := by kernel_rfl
theorem fo81 : FOk Tryd.prog 81 ⟨p81, r81, fun t => (o81 t)⟩ := FOk.run_eq (evF_ok (h := .d) (by kernel_rfl) (by kernel_rfl) (by kernel_rfl)) e81
def T9 : Tbl := (81, ⟨p81, r81, fun t => (o81 t)⟩) :: T8
theorem K9 : TOk Tryd.prog T9 := .cons K8 fo81
def p47 : Sch := ⟨[(0, .v (.c (.ro .y false)))], []⟩
def r47 : List Sch := [⟨[(0, .v (.c (.own 0)))], [.row .y 5]⟩]
def o47 (a0 : List UInt8) : Option (List UInt8) :=
 (nlO (List.isEmpty a0) (some ([] : List UInt8)) (gd (decide ((([] : List UInt8).length + a0.length) * 1 ≤ 140737488355328)) (some (([] : List UInt8) ++ a0))))
theorem e47 (t : List UInt8) : evF (stpT Tryd.prog T9 K9) Tryd.f47 p47 r47 .d t = (o47 t) := by kernel_rfl
theorem fo47 : FOk Tryd.prog 47 ⟨p47, r47, fun t => (o47 t)⟩ := FOk.run_eq (evF_ok (h := .d) (by kernel_rfl) (by kernel_rfl) (by kernel_rfl)) e47
def T10 : Tbl := (47, ⟨p47, r47, fun t => (o47 t)⟩) :: T9
theorem K10 : TOk Tryd.prog T10 := .cons K9 fo47
def o63_s0 : Sch := ⟨[(0, .v (.c (.ro .y false))), (4, .v (.c (.i .i64))), (54, .v (.c (.b)))], []⟩
def p63 : Sch := ⟨[(0, .v (.c (.ro .y false)))], []⟩
def r63 : List Sch := [⟨[(0, .tup [.c (.own 0), .c (.i .i64)])], [.row .y 5]⟩]
def o63 (a0 : List UInt8) : Option (Int × List UInt8) :=
 (cnd (decide ((IntKind.wrap .i64 (((a0.length : Nat) : Int) - (4 : Int))) < (0 : Int))) (some ((4 : Int), ([] : List UInt8))) (gd (decide ((0 : Int) ≤ (IntKind.wrap .i64 (((a0.length : Nat) : Int) - (4 : Int))) ∧ (IntKind.wrap .i64 (((a0.length : Nat) : Int) - (4 : Int))) ≤ ((a0.length : Nat) : Int))) (bd (α := Int) (o81 (List.take (IntKind.wrap .i64 (((a0.length : Nat) : Int) - (4 : Int))).toNat a0)) (fun v1 => (bd (α := (List UInt8 × Int × Bool)) (gd (decide ((0 : Int) ≤ (IntKind.wrap .i64 (((a0.length : Nat) : Int) - (4 : Int))) ∧ (IntKind.wrap .i64 (((a0.length : Nat) : Int) - (4 : Int))) < ((a0.length : Nat) : Int))) (cnd (((UInt8.toNat (List.getD a0 (IntKind.wrap .i64 (((a0.length : Nat) : Int) - (4 : Int))).toNat (0 : UInt8)) : Nat) : Int) != (IntKind.wrap .u8 v1)) (some (a0, (IntKind.wrap .i64 (((a0.length : Nat) : Int) - (4 : Int))), true)) (gd (decide ((0 : Int) ≤ (IntKind.wrap .i64 ((IntKind.wrap .i64 (((a0.length : Nat) : Int) - (4 : Int))) + (1 : Int))) ∧ (IntKind.wrap .i64 ((IntKind.wrap .i64 (((a0.length : Nat) : Int) - (4 : Int))) + (1 : Int))) < ((a0.length : Nat) : Int))) (cnd (((UInt8.toNat (List.getD a0 (IntKind.wrap .i64 ((IntKind.wrap .i64 (((a0.length : Nat) : Int) - (4 : Int))) + (1 : Int))).toNat (0 : UInt8)) : Nat) : Int) != (IntKind.wrap .u8 (shrK .u32 v1 (8 : Int)))) (some (a0, (IntKind.wrap .i64 (((a0.length : Nat) : Int) - (4 : Int))), true)) (gd (decide ((0 : Int) ≤ (IntKind.wrap .i64 ((IntKind.wrap .i64 (((a0.length : Nat) : Int) - (4 : Int))) + (2 : Int))) ∧ (IntKind.wrap .i64 ((IntKind.wrap .i64 (((a0.length : Nat) : Int) - (4 : Int))) + (2 : Int))) < ((a0.length : Nat) : Int))) (cnd (((UInt8.toNat (List.getD a0 (IntKind.wrap .i64 ((IntKind.wrap .i64 (((a0.length : Nat) : Int) - (4 : Int))) + (2 : Int))).toNat (0 : UInt8)) : Nat) : Int) != (IntKind.wrap .u8 (shrK .u32 v1 (16 : Int)))) (some (a0, (IntKind.wrap .i64 (((a0.length : Nat) : Int) - (4 : Int))), true)) (gd (decide ((0 : Int) ≤ (IntKind.wrap .i64 ((IntKind.wrap .i64 (((a0.length : Nat) : Int) - (4 : Int))) + (3 : Int))) ∧ (IntKind.wrap .i64 ((IntKind.wrap .i64 (((a0.length : Nat) : Int) - (4 : Int))) + (3 : Int))) < ((a0.length : Nat) : Int))) (some (a0, (IntKind.wrap .i64 (((a0.length : Nat) : Int) - (4 : Int))), (((UInt8.toNat (List.getD a0 (IntKind.wrap .i64 ((IntKind.wrap .i64 (((a0.length : Nat) : Int) - (4 : Int))) + (3 : Int))).toNat (0 : UInt8)) : Nat) : Int) != (IntKind.wrap .u8 (shrK .u32 v1 (24 : Int))))))))))))) (fun v2 => (cnd v2.2.2 (some ((12 : Int), ([] : List UInt8))) (gd (decide ((0 : Int) ≤ v2.2.1 ∧ v2.2.1 ≤ ((v2.1.length : Nat) : Int))) (bd (α := (List UInt8)) (o47 (List.take v2.2.1.toNat v2.1)) (fun v3 => (some ((0 : Int), v3))))))))))))
theorem e63 (t : List UInt8) : evF (stpT Tryd.prog T10 K10) Tryd.f63 p63 r63 (.s .d (.s .d (.s .d (.s .d (.s (.s (.j false [o63_s0] .d) .d) .d))))) t = (o63 t) := by kernel_rfl
theorem fo63 : FOk Tryd.prog 63 ⟨p63, r63, fun t => (o63 t)⟩ := FOk.run_eq (evF_ok (h := (.s .d (.s .d (.s .d (.s .d (.s (.s (.j false [o63_s0] .d) .d) .d)))))) (by kernel_rfl) (by kernel_rfl) (by kernel_rfl)) e63
def T11 : Tbl := (63, ⟨p63, r63, fun t => (o63 t)⟩) :: T10
theorem K11 : TOk Tryd.prog T11 := .cons K10 fo63
def o64_s0 : Sch := ⟨[(0, .v (.c (.ro .y false))), (3, .v (.c (.i .u64))), (5, .v (.c (.i .i64)))], []⟩
def p64 : Sch := ⟨[(0, .v (.c (.ro .y false)))], []⟩
def r64 : List Sch := [⟨[(0, .v (.c (.i .u64)))], []⟩]
def o64 (a0 : List UInt8) : Option Int :=
 (loopO (σ := List UInt8 × Int × Int) fuelN (fun (v2 : List UInt8 × Int × Int) => (cnd (decide (v2.2.2 < (8 : Int))) (gd (decide ((0 : Int) ≤ v2.2.2 ∧ v2.2.2 < ((v2.1.length : Nat) : Int))) (gd (decide ((0 : Int) ≤ (IntKind.wrap .i64 ((8 : Int) * v2.2.2)))) (some (Ctl.go (v2.1, (lorK .u64 v2.2.1 (shlK .u64 (IntKind.wrap .u64 ((UInt8.toNat (List.getD v2.1 v2.2.2.toNat (0 : UInt8)) : Nat) : Int)) (IntKind.wrap .i64 ((8 : Int) * v2.2.2)))), (IntKind.wrap .i64 (v2.2.2 + (1 : Int)))))))) (dnO (some v2.2.1)))) (a0, (0 : Int), (0 : Int)))
theorem e64 (t : List UInt8) : evF (stpT Tryd.prog T11 K11) Tryd.f64 p64 r64 (.s .d (.s .d (.s (.s .d (.b (.l o64_s0 .d))) .d))) t = (o64 t) := by kernel_rfl
theorem fo64 : FOk Tryd.prog 64 ⟨p64, r64, fun t => (o64 t)⟩ := FOk.run_eq (evF_ok (h := (.s .d (.s .d (.s (.s .d (.b (.l o64_s0 .d))) .d)))) (by kernel_rfl) (by kernel_rfl) (by kernel_rfl)) e64
def T12 : Tbl := (64, ⟨p64, r64, fun t => (o64 t)⟩) :: T11
theorem K12 : TOk Tryd.prog T12 := .cons K11 fo64
def o38_s0 : Sch := ⟨[(6, .v (.c (.ptr 0 0))), (7, .v (.c (.b)))], [.cells 42 [.i .i64, .i .u8, .i .i64, .i .u64]]⟩
def p38 : Sch := ⟨[(0, .v (.c (.ro .y false))), (1, .v (.c (.i .i64))), (2, .v (.c (.i .i64)))], []⟩
def r38 : List Sch := [⟨[(0, .tup [.agg [.i .i64, .i .u8, .i .i64, .i .u64], .c (.b)])], []⟩]
def o38 (a0 : List UInt8) (a1 : Int) (a2 : Int) : Option (Int × Int × Int × Int × Bool) :=
 (gd (decide ((0 : Int) ≤ (0 : Int) ∧ (0 : Int) < ((a0.length : Nat) : Int))) (cnd (((UInt8.toNat (List.getD a0 (0 : Int).toNat (0 : UInt8)) : Nat) : Int) != (195 : Int)) (some ((0 : Int), (0 : Int), (0 : Int), (0 : Int), false)) (gd (decide ((0 : Int) ≤ (1 : Int) ∧ (1 : Int) ≤ (30 : Int) ∧ (30 : Int) ≤ ((a0.length : Nat) : Int))) (bd (α := (Int × List UInt8)) (o63 (List.take ((30 : Int).toNat - (1 : Int).toNat) (List.drop (1 : Int).toNat a0))) (fun v1 => (cnd (v1.1 != (0 : Int)) (some ((0 : Int), (0 : Int), (0 : Int), (0 : Int), false)) (bd (α := Int) (o64 v1.2) (fun v5 => (gd (decide ((0 : Int) ≤ (8 : Int) ∧ (8 : Int) ≤ ((v1.2.length : Nat) : Int))) (bd (α := Int) (o64 (List.take (v1.2.length - (8 : Int).toNat) (List.drop ((8 : Int).toNat) v1.2))) (fun v6 => (gd (decide ((0 : Int) ≤ (16 : Int) ∧ (16 : Int) ≤ ((v1.2.length : Nat) : Int))) (bd (α := Int) (o64 (List.take (v1.2.length - (16 : Int).toNat) (List.drop ((16 : Int).toNat) v1.2))) (fun v7 => (gd (decide ((0 : Int) ≤ (24 : Int) ∧ (24 : Int) < ((v1.2.length : Nat) : Int))) (bd (α := (Bool × Int × Int × Int × Int)) (cnd (decide (((UInt8.toNat (List.getD v1.2 ((24 : Int).toNat) (0 : UInt8)) : Nat) : Int) ≥ (1 : Int))) (cnd (decide (((UInt8.toNat (List.getD v1.2 ((24 : Int).toNat) (0 : UInt8)) : Nat) : Int) ≤ (8 : Int))) (cnd (decide (v5 ≥ (1 : Int))) (cnd (decide (v5 ≤ (4611686018427387904 : Int))) (gd (decide ((IntKind.wrap .u64 a2) ≠ 0)) (some (((Int.tmod v5 (IntKind.wrap .u64 a2)) == (IntKind.wrap .u64 a1)), (IntKind.wrap .i64 v7), ((UInt8.toNat (List.getD v1.2 ((24 : Int).toNat) (0 : UInt8)) : Nat) : Int), (IntKind.wrap .i64 v6), v5))) (some (false, (IntKind.wrap .i64 v7), ((UInt8.toNat (List.getD v1.2 ((24 : Int).toNat) (0 : UInt8)) : Nat) : Int), (IntKind.wrap .i64 v6), v5))) (some (false, (IntKind.wrap .i64 v7), ((UInt8.toNat (List.getD v1.2 ((24 : Int).toNat) (0 : UInt8)) : Nat) : Int), (IntKind.wrap .i64 v6), v5))) (some (false, (IntKind.wrap .i64 v7), ((UInt8.toNat (List.getD v1.2 ((24 : Int).toNat) (0 : UInt8)) : Nat) : Int), (IntKind.wrap .i64 v6), v5))) (some (false, (IntKind.wrap .i64 v7), ((UInt8.toNat (List.getD v1.2 ((24 : Int).toNat) (0 : UInt8)) : Nat) : Int), (IntKind.wrap .i64 v6), v5))) (fun v8 => (some (v8.2.1, v8.2.2.1, v8.2.2.2.1, v8.2.2.2.2, v8.1)))))))))))))))))))
theorem e38 (t : List UInt8 × Int × Int) : evF (stpT Tryd.prog T12 K12) Tryd.f38 p38 r38 (.s .d (.s .d (.s .d (.s .d (.s (.r 1) (.s (.j false [o38_s0] .d) .d)))))) t = (o38 t.1 t.2.1 t.2.2) := by kernel_rfl
theorem fo38 : FOk Tryd.prog 38 ⟨p38, r38, fun t => (o38 t.1 t.2.1 t.2.2)⟩ := FOk.run_eq (evF_ok (h := (.s .d (.s .d (.s .d (.s .d (.s (.r 1) (.s (.j false [o38_s0] .d) .d))))))) (by kernel_rfl) (by kernel_rfl) (by kernel_rfl)) e38
def T13 : Tbl := (38, ⟨p38, r38, fun t => (o38 t.1 t.2.1 t.2.2)⟩) :: T12
theorem K13 : TOk Tryd.prog T13 := .cons K12 fo38
def o91_s0 : Sch := ⟨[(0, .v (.c (.i .u64))), (2, .v (.c (.i .i64)))], []⟩
def p91 : Sch := ⟨[(0, .v (.c (.i .u64)))], []⟩
def r91 : List Sch := [⟨[(0, .v (.c (.i .i64)))], []⟩]
def o91 (a0 : Int) : Option Int :=
 (bd (α := (Int × Int)) (cnd (decide (a0 ≥ (4294967296 : Int))) (some ((shrK .u64 a0 (32 : Int)), (32 : Int))) (some (a0, (0 : Int)))) (fun v1 => (bd (α := (Int × Int)) (cnd (decide (v1.1 ≥ (65536 : Int))) (some ((shrK .u64 v1.1 (16 : Int)), (IntKind.wrap .i64 (v1.2 + (16 : Int))))) (some (v1.1, v1.2))) (fun v2 => (bd (α := (Int × Int)) (cnd (decide (v2.1 ≥ (256 : Int))) (some ((shrK .u64 v2.1 (8 : Int)), (IntKind.wrap .i64 (v2.2 + (8 : Int))))) (some (v2.1, v2.2))) (fun v3 => (gd (decide ((0 : Int) ≤ (IntKind.wrap .u8 v3.1) ∧ (IntKind.wrap .u8 v3.1) < ((([0, 1, 2, 2, 3, 3, 3, 3, 4, 4, 4, 4, 4, 4, 4, 4, 5, 5, 5, 5, 5, 5, 5, 5, 5, 5, 5, 5, 5, 5, 5, 5, 6, 6, 6, 6, 6, 6, 6, 6, 6, 6, 6, 6, 6, 6, 6, 6, 6, 6, 6, 6, 6, 6, 6, 6, 6, 6, 6, 6, 6, 6, 6, 6, 7, 7, 7, 7, 7, 7, 7, 7, 7, 7, 7, 7, 7, 7, 7, 7, 7, 7, 7, 7, 7, 7, 7, 7, 7, 7, 7, 7, 7, 7, 7, 7, 7, 7, 7, 7, 7, 7, 7, 7, 7, 7, 7, 7, 7, 7, 7, 7, 7, 7, 7, 7, 7, 7, 7, 7, 7, 7, 7, 7, 7, 7, 7, 7, 8, 8, 8, 8, 8, 8, 8, 8, 8, 8, 8, 8, 8, 8, 8, 8, 8, 8, 8, 8, 8, 8, 8, 8, 8, 8, 8, 8, 8, 8, 8, 8, 8, 8, 8, 8, 8, 8, 8, 8, 8, 8, 8, 8, 8, 8, 8, 8, 8, 8, 8, 8, 8, 8, 8, 8, 8, 8, 8, 8, 8, 8, 8, 8, 8, 8, 8, 8, 8, 8, 8, 8, 8, 8, 8, 8, 8, 8, 8, 8, 8, 8, 8, 8, 8, 8, 8, 8, 8, 8, 8, 8, 8, 8, 8, 8, 8, 8, 8, 8, 8, 8, 8, 8, 8, 8, 8, 8, 8, 8, 8, 8, 8, 8, 8, 8, 8, 8, 8, 8, 8, 8, 8, 8, 8, 8, 8, 8] : List UInt8).length : Nat) : Int))) (some (IntKind.wrap .i64 (v3.2 + (IntKind.wrap .i64 (((List.getD ([0, 1, 2, 2, 3, 3, 3, 3, 4, 4, 4, 4, 4, 4, 4, 4, 5, 5, 5, 5, 5, 5, 5, 5, 5, 5, 5, 5, 5, 5, 5, 5, 6, 6, 6, 6, 6, 6, 6, 6, 6, 6, 6, 6, 6, 6, 6, 6, 6, 6, 6, 6, 6, 6, 6, 6, 6, 6, 6, 6, 6, 6, 6, 6, 7, 7, 7, 7, 7, 7, 7, 7, 7, 7, 7, 7, 7, 7, 7, 7, 7, 7, 7, 7, 7, 7, 7, 7, 7, 7, 7, 7, 7, 7, 7, 7, 7, 7, 7, 7, 7, 7, 7, 7, 7, 7, 7, 7, 7, 7, 7, 7, 7, 7, 7, 7, 7, 7, 7, 7, 7, 7, 7, 7, 7, 7, 7, 7, 8, 8, 8, 8, 8, 8, 8, 8, 8, 8, 8, 8, 8, 8, 8, 8, 8, 8, 8, 8, 8, 8, 8, 8, 8, 8, 8, 8, 8, 8, 8, 8, 8, 8, 8, 8, 8, 8, 8, 8, 8, 8, 8, 8, 8, 8, 8, 8, 8, 8, 8, 8, 8, 8, 8, 8, 8, 8, 8, 8, 8, 8, 8, 8, 8, 8, 8, 8, 8, 8, 8, 8, 8, 8, 8, 8, 8, 8, 8, 8, 8, 8, 8, 8, 8, 8, 8, 8, 8, 8, 8, 8, 8, 8, 8, 8, 8, 8, 8, 8, 8, 8, 8, 8, 8, 8, 8, 8, 8, 8, 8, 8, 8, 8, 8, 8, 8, 8, 8, 8, 8, 8, 8, 8, 8, 8, 8, 8] : List UInt8) (IntKind.wrap .u8 v3.1).toNat 0).toNat : Nat) : Int))))))))))))
theorem e91 (t : Int) : evF (stpT Tryd.prog T13 K13) Tryd.f91 p91 r91 (.s .d (.j false [o91_s0] (.s .d (.j false [o91_s0] (.s .d (.j false [o91_s0] .d)))))) t = (o91 t) := by kernel_rfl
theorem fo91 : FOk Tryd.prog 91 ⟨p91, r91, fun t => (o91 t)⟩ := FOk.run_eq (evF_ok (h := (.s .d (.j false [o91_s0] (.s .d (.j false [o91_s0] (.s .d (.j false [o91_s0] .d))))))) (by kernel_rfl) (by kernel_rfl) (by kernel_rfl)) e91
def T14 : Tbl := (91, ⟨p91, r91, fun t => (o91 t)⟩) :: T13
theorem K14 : TOk Tryd.prog T14 := .cons K13 fo91
def p66 : Sch := ⟨[(0, .v (.c (.i .u64)))], []⟩
def r66 : List Sch := [⟨[(0, .v (.c (.i .i64)))], []⟩]
def o66 (a0 : Int) : Option Int :=
 (bd (α := Int) (o91 a0) (fun v1 => (some v1)))
theorem e66 (t : Int) : evF (stpT Tryd.prog T14 K14) Tryd.f66 p66 r66 .d t = (o66 t) := by kernel_rfl
theorem fo66 : FOk Tryd.prog 66 ⟨p66, r66, fun t => (o66 t)⟩ := FOk.run_eq (evF_ok (h := .d) (by kernel_rfl) (by kernel_rfl) (by kernel_rfl)) e66
def T15 : Tbl := (66, ⟨p66, r66, fun t => (o66 t)⟩) :: T14
theorem K15 : TOk Tryd.prog T15 := .cons K14 fo66
def p67 : Sch := ⟨[(0, .v (.c (.i .u64)))], []⟩
def r67 : List Sch := [⟨[(0, .v (.c (.b)))], []⟩]
def o67 (a0 : Int) : Option Bool :=
 (some (a0 != a0))
theorem e67 (t : Int) : evF (stpT Tryd.prog T15 K15) Tryd.f67 p67 r67 .d t = (o67 t) := by kernel_rfl
theorem fo67 : FOk Tryd.prog 67 ⟨p67, r67, fun t => (o67 t)⟩ := FOk.run_eq (evF_ok (h := .d) (by kernel_rfl) (by kernel_rfl) (by kernel_rfl)) e67
def T16 : Tbl := (67, ⟨p67, r67, fun t => (o67 t)⟩) :: T15
theorem K16 : TOk Tryd.prog T16 := .cons K15 fo67
def p41 : Sch := ⟨[(0, .v (.c (.i .u64))), (1, .v (.c (.i .u64)))], []⟩
def r41 : List Sch := [⟨[(0, .v (.c (.i .i64)))], []⟩]
def o41 (a0 : Int) (a1 : Int) : Option Int :=
 (bd (α := Bool) (o67 a0) (fun v1 => (bd (α := Bool) (o67 a1) (fun v2 => (cnd v1 (cnd v2 (some (0 : Int)) (some (-1 : Int))) (cnd v2 (some (1 : Int)) (cnd (decide (a0 < a1)) (some (-1 : Int)) (cnd (decide (a0 > a1)) (some (1 : Int)) (some (0 : Int))))))))))
theorem e41 (t : Int × Int) : evF (stpT Tryd.prog T16 K16) Tryd.f41 p41 r41 .d t = (o41 t.1 t.2) := by kernel_rfl
theorem fo41 : FOk Tryd.prog 41 ⟨p41, r41, fun t => (o41 t.1 t.2)⟩ := FOk.run_eq (evF_ok (h := .d) (by kernel_rfl) (by kernel_rfl) (by kernel_rfl)) e41
def T17 : Tbl := (41, ⟨p41, r41, fun t => (o41 t.1 t.2)⟩) :: T16
theorem K17 : TOk Tryd.prog T17 := .cons K16 fo41
def p40 : Sch := ⟨[(0, .v (.agg [.i .i64, .i .u8, .i .i64, .i .u64])), (1, .v (.agg [.i .i64, .i .u8, .i .i64, .i .u64]))], []⟩
def r40 : List Sch := [⟨[(0, .v (.c (.i .i64)))], []⟩]
def o40 (a0 : Int) (a1 : Int) (a2 : Int) (a3 : Int) (a4 : Int) (a5 : Int) (a6 : Int) (a7 : Int) : Option Int :=
 (bd (α := Int) (o41 a3 a7) (fun v1 => (some v1)))
theorem e40 (t : Int × Int × Int × Int × Int × Int × Int × Int) : evF (stpT Tryd.prog T17 K17) Tryd.f40 p40 r40 .d t = (o40 t.1 t.2.1 t.2.2.1 t.2.2.2.1 t.2.2.2.2.1 t.2.2.2.2.2.1 t.2.2.2.2.2.2.1 t.2.2.2.2.2.2.2) := by kernel_rfl
theorem fo40 : FOk Tryd.prog 40 ⟨p40, r40, fun t => (o40 t.1 t.2.1 t.2.2.1 t.2.2.2.1 t.2.2.2.2.1 t.2.2.2.2.2.1 t.2.2.2.2.2.2.1 t.2.2.2.2.2.2.2)⟩ := FOk.run_eq (evF_ok (h := .d) (by kernel_rfl) (by kernel_rfl) (by kernel_rfl)) e40
def T18 : Tbl := (40, ⟨p40, r40, fun t => (o40 t.1 t.2.1 t.2.2.1 t.2.2.2.1 t.2.2.2.2.1 t.2.2.2.2.2.1 t.2.2.2.2.2.2.1 t.2.2.2.2.2.2.2)⟩) :: T17
theorem K18 : TOk Tryd.prog T18 := .cons K17 fo40
def o82_s0 : Sch := ⟨[(0, .v (.c (.own 0))), (1, .v (.c (.i .i64))), (2, .v (.c (.i .i64))), (3, .v (.c (.fn 40))), (8, .v (.c (.i .i64))), (9, .v (.c (.i .i64))), (34, .v (.c (.b)))], [.row (.p (.i .i64) (.p (.i .u8) (.p (.i .i64) (.i .u64)))) 42]⟩
def o82_s1 : Sch := ⟨[(0, .v (.c (.own 0))), (1, .v (.c (.i .i64))), (2, .v (.c (.i .i64))), (3, .v (.c (.fn 40))), (8, .v (.c (.i .i64))), (9, .v (.c (.i .i64)))], [.row (.p (.i .i64) (.p (.i .u8) (.p (.i .i64) (.i .u64)))) 42]⟩
def o82_s2 : Sch := ⟨[(0, .v (.c (.own 0))), (1, .v (.c (.i .i64))), (2, .v (.c (.i .i64))), (3, .v (.c (.fn 40))), (8, .v (.c (.i .i64)))], [.row (.p (.i .i64) (.p (.i .u8) (.p (.i .i64) (.i .u64)))) 42]⟩
def p82 : Sch := ⟨[(0, .v (.c (.own 0))), (1, .v (.c (.i .i64))), (2, .v (.c (.i .i64))), (3, .v (.c (.fn 40)))], [.row (.p (.i .i64) (.p (.i .u8) (.p (.i .i64) (.i .u64)))) 42]⟩
def r82 : List Sch := [⟨[(0, .tup [])], [.row (.p (.i .i64) (.p (.i .u8) (.p (.i .i64) (.i .u64)))) 42]⟩]
def o82 (a0 : Int) (a1 : Int) (a2 : List (Int × Int × Int × Int)) : Option (List (Int × Int × Int × Int)) :=
 (loopO (σ := Int × Int × Int × List (Int × Int × Int × Int)) fuelN (fun (v1 : Int × Int × Int × List (Int × Int × Int × Int)) => (cnd (decide (v1.2.2.1 < v1.2.1)) (loopO (σ := Int × Int × Int × Int × List (Int × Int × Int × Int)) fuelN (fun (v2 : Int × Int × Int × Int × List (Int × Int × Int × Int)) => (bd (α := (Int × Int × Int × Int × Bool × List (Int × Int × Int × Int))) (cnd (decide (v2.2.2.2.1 > v2.1)) (gd (decide ((0 : Int) ≤ v2.2.2.2.1 ∧ v2.2.2.2.1 < ((v2.2.2.2.2.length : Nat) : Int))) (gd (decide ((0 : Int) ≤ (IntKind.wrap .i64 (v2.2.2.2.1 - (1 : Int))) ∧ (IntKind.wrap .i64 (v2.2.2.2.1 - (1 : Int))) < ((v2.2.2.2.2.length : Nat) : Int))) (bd (α := Int) (o40 ((List.getD v2.2.2.2.2 v2.2.2.2.1.toNat ((0 : Int), ((0 : Int), ((0 : Int), (0 : Int))))).1) (((List.getD v2.2.2.2.2 v2.2.2.2.1.toNat ((0 : Int), ((0 : Int), ((0 : Int), (0 : Int))))).2).1) ((((List.getD v2.2.2.2.2 v2.2.2.2.1.toNat ((0 : Int), ((0 : Int), ((0 : Int), (0 : Int))))).2).2).1) ((((List.getD v2.2.2.2.2 v2.2.2.2.1.toNat ((0 : Int), ((0 : Int), ((0 : Int), (0 : Int))))).2).2).2) ((List.getD v2.2.2.2.2 ((IntKind.wrap .i64 (v2.2.2.2.1 - (1 : Int))).toNat) ((0 : Int), ((0 : Int), ((0 : Int), (0 : Int))))).1) (((List.getD v2.2.2.2.2 ((IntKind.wrap .i64 (v2.2.2.2.1 - (1 : Int))).toNat) ((0 : Int), ((0 : Int), ((0 : Int), (0 : Int))))).2).1) ((((List.getD v2.2.2.2.2 ((IntKind.wrap .i64 (v2.2.2.2.1 - (1 : Int))).toNat) ((0 : Int), ((0 : Int), ((0 : Int), (0 : Int))))).2).2).1) ((((List.getD v2.2.2.2.2 ((IntKind.wrap .i64 (v2.2.2.2.1 - (1 : Int))).toNat) ((0 : Int), ((0 : Int), ((0 : Int), (0 : Int))))).2).2).2)) (fun v4 => (some (v2.1, v2.2.1, v2.2.2.1, v2.2.2.2.1, (decide (v4 < (0 : Int))), v2.2.2.2.2)))))) (some (v2.1, v2.2.1, v2.2.2.1, v2.2.2.2.1, false, v2.2.2.2.2))) (fun v5 => (cnd v5.2.2.2.2.1 (gd (decide ((0 : Int) ≤ (IntKind.wrap .i64 (v5.2.2.2.1 - (1 : Int))) ∧ (IntKind.wrap .i64 (v5.2.2.2.1 - (1 : Int))) < ((v5.2.2.2.2.2.length : Nat) : Int))) (gd (decide ((0 : Int) ≤ v5.2.2.2.1 ∧ v5.2.2.2.1 < ((v5.2.2.2.2.2.length : Nat) : Int))) (gd (decide ((0 : Int) ≤ v5.2.2.2.1 ∧ v5.2.2.2.1 < ((v5.2.2.2.2.2.length : Nat) : Int))) (gd (decide ((0 : Int) ≤ (IntKind.wrap .i64 (v5.2.2.2.1 - (1 : Int))) ∧ (IntKind.wrap .i64 (v5.2.2.2.1 - (1 : Int))) < (((List.set v5.2.2.2.2.2 v5.2.2.2.1.toNat ((List.getD v5.2.2.2.2.2 ((IntKind.wrap .i64 (v5.2.2.2.1 - (1 : Int))).toNat) ((0 : Int), ((0 : Int), ((0 : Int), (0 : Int))))).1, (((List.getD v5.2.2.2.2.2 ((IntKind.wrap .i64 (v5.2.2.2.1 - (1 : Int))).toNat) ((0 : Int), ((0 : Int), ((0 : Int), (0 : Int))))).2).1, ((((List.getD v5.2.2.2.2.2 ((IntKind.wrap .i64 (v5.2.2.2.1 - (1 : Int))).toNat) ((0 : Int), ((0 : Int), ((0 : Int), (0 : Int))))).2).2).1, (((List.getD v5.2.2.2.2.2 ((IntKind.wrap .i64 (v5.2.2.2.1 - (1 : Int))).toNat) ((0 : Int), ((0 : Int), ((0 : Int), (0 : Int))))).2).2).2)))).length : Nat) : Int))) (some (Ctl.go (v5.1, v5.2.1, v5.2.2.1, (IntKind.wrap .i64 (v5.2.2.2.1 - (1 : Int))), (List.set (List.set v5.2.2.2.2.2 v5.2.2.2.1.toNat ((List.getD v5.2.2.2.2.2 ((IntKind.wrap .i64 (v5.2.2.2.1 - (1 : Int))).toNat) ((0 : Int), ((0 : Int), ((0 : Int), (0 : Int))))).1, (((List.getD v5.2.2.2.2.2 ((IntKind.wrap .i64 (v5.2.2.2.1 - (1 : Int))).toNat) ((0 : Int), ((0 : Int), ((0 : Int), (0 : Int))))).2).1, ((((List.getD v5.2.2.2.2.2 ((IntKind.wrap .i64 (v5.2.2.2.1 - (1 : Int))).toNat) ((0 : Int), ((0 : Int), ((0 : Int), (0 : Int))))).2).2).1, (((List.getD v5.2.2.2.2.2 ((IntKind.wrap .i64 (v5.2.2.2.1 - (1 : Int))).toNat) ((0 : Int), ((0 : Int), ((0 : Int), (0 : Int))))).2).2).2)))) ((IntKind.wrap .i64 (v5.2.2.2.1 - (1 : Int))).toNat) ((List.getD v5.2.2.2.2.2 v5.2.2.2.1.toNat ((0 : Int), ((0 : Int), ((0 : Int), (0 : Int))))).1, (((List.getD v5.2.2.2.2.2 v5.2.2.2.1.toNat ((0 : Int), ((0 : Int), ((0 : Int), (0 : Int))))).2).1, ((((List.getD v5.2.2.2.2.2 v5.2.2.2.1.toNat ((0 : Int), ((0 : Int), ((0 : Int), (0 : Int))))).2).2).1, (((List.getD v5.2.2.2.2.2 v5.2.2.2.1.toNat ((0 : Int), ((0 : Int), ((0 : Int), (0 : Int))))).2).2).2))))))))))) (dnO (some (Ctl.go (v5.1, v5.2.1, (IntKind.wrap .i64 (v5.2.2.1 + (1 : Int))), v5.2.2.2.2.2)))))))) (v1.1, v1.2.1, v1.2.2.1, v1.2.2.1, v1.2.2.2)) (dnO (some v1.2.2.2)))) (a0, a1, (IntKind.wrap .i64 (a0 + (1 : Int))), a2))
theorem e82 (t : Int × Int × List (Int × Int × Int × Int)) : evF (stpT Tryd.prog T18 K18) Tryd.f82 p82 r82 (.s .d (.b (.l o82_s2 (.s .d (.s (.b (.s .d (.b (.l o82_s1 (.s (.s (.j false [o82_s0] .d) .d) .d))))) .d))))) t = (o82 t.1 t.2.1 t.2.2) := by kernel_rfl
theorem fo82 : FOk Tryd.prog 82 ⟨p82, r82, fun t => (o82 t.1 t.2.1 t.2.2)⟩ := FOk.run_eq (evF_ok (h := (.s .d (.b (.l o82_s2 (.s .d (.s (.b (.s .d (.b (.l o82_s1 (.s (.s (.j false [o82_s0] .d) .d) .d))))) .d)))))) (by kernel_rfl) (by kernel_rfl) (by kernel_rfl)) e82
def T19 : Tbl := (82, ⟨p82, r82, fun t => (o82 t.1 t.2.1 t.2.2)⟩) :: T18
theorem K19 : TOk Tryd.prog T19 := .cons K18 fo82
def o100_s0 : Sch := ⟨[(0, .v (.c (.own 0))), (2, .v (.c (.i .i64))), (3, .v (.c (.i .i64))), (4, .v (.c (.fn 40))), (10, .v (.c (.i .i64))), (11, .v (.c (.i .i64))), (40, .v (.c (.b)))], [.row (.p (.i .i64) (.p (.i .u8) (.p (.i .i64) (.i .u64)))) 42]⟩
def o100_s1 : Sch := ⟨[(0, .v (.c (.own 0))), (2, .v (.c (.i .i64))), (3, .v (.c (.i .i64))), (4, .v (.c (.fn 40))), (10, .v (.c (.i .i64))), (11, .v (.c (.i .i64)))], [.row (.p (.i .i64) (.p (.i .u8) (.p (.i .i64) (.i .u64)))) 42]⟩
def o100_s2 : Sch := ⟨[(0, .v (.c (.own 0))), (2, .v (.c (.i .i64))), (3, .v (.c (.i .i64))), (4, .v (.c (.fn 40))), (10, .v (.c (.i .i64)))], [.row (.p (.i .i64) (.p (.i .u8) (.p (.i .i64) (.i .u64)))) 42]⟩
def p100 : Sch := ⟨[(0, .v (.c (.own 0))), (1, .v (.c (.i .i64))), (2, .v (.c (.i .i64))), (3, .v (.c (.i .i64))), (4, .v (.c (.fn 40)))], [.row (.p (.i .i64) (.p (.i .u8) (.p (.i .i64) (.i .u64)))) 42]⟩
def r100 : List Sch := [⟨[(0, .tup [])], [.row (.p (.i .i64) (.p (.i .u8) (.p (.i .i64) (.i .u64)))) 42]⟩]
def o100 (a0 : Int) (a1 : Int) (a2 : Int) (a3 : List (Int × Int × Int × Int)) : Option (List (Int × Int × Int × Int)) :=
 (loopO (σ := Int × Int × Int × List (Int × Int × Int × Int)) fuelN (fun (v1 : Int × Int × Int × List (Int × Int × Int × Int)) => (cnd (decide ((IntKind.wrap .i64 ((IntKind.wrap .i64 ((2 : Int) * v1.2.2.1)) + (1 : Int))) ≥ v1.1)) (dnO (some v1.2.2.2)) (bd (α := (Int × Int × Int × Int × List (Int × Int × Int × Int))) (bd (α := (Int × Int × Int × Int × Bool × List (Int × Int × Int × Int))) (cnd (decide ((IntKind.wrap .i64 ((IntKind.wrap .i64 ((IntKind.wrap .i64 ((2 : Int) * v1.2.2.1)) + (1 : Int))) + (1 : Int))) < v1.1)) (gd (decide ((0 : Int) ≤ (IntKind.wrap .i64 (v1.2.1 + (IntKind.wrap .i64 ((IntKind.wrap .i64 ((2 : Int) * v1.2.2.1)) + (1 : Int))))) ∧ (IntKind.wrap .i64 (v1.2.1 + (IntKind.wrap .i64 ((IntKind.wrap .i64 ((2 : Int) * v1.2.2.1)) + (1 : Int))))) < ((v1.2.2.2.length : Nat) : Int))) (gd (decide ((0 : Int) ≤ (IntKind.wrap .i64 ((IntKind.wrap .i64 (v1.2.1 + (IntKind.wrap .i64 ((IntKind.wrap .i64 ((2 : Int) * v1.2.2.1)) + (1 : Int))))) + (1 : Int))) ∧ (IntKind.wrap .i64 ((IntKind.wrap .i64 (v1.2.1 + (IntKind.wrap .i64 ((IntKind.wrap .i64 ((2 : Int) * v1.2.2.1)) + (1 : Int))))) + (1 : Int))) < ((v1.2.2.2.length : Nat) : Int))) (bd (α := Int) (o40 ((List.getD v1.2.2.2 ((IntKind.wrap .i64 (v1.2.1 + (IntKind.wrap .i64 ((IntKind.wrap .i64 ((2 : Int) * v1.2.2.1)) + (1 : Int))))).toNat) ((0 : Int), ((0 : Int), ((0 : Int), (0 : Int))))).1) (((List.getD v1.2.2.2 ((IntKind.wrap .i64 (v1.2.1 + (IntKind.wrap .i64 ((IntKind.wrap .i64 ((2 : Int) * v1.2.2.1)) + (1 : Int))))).toNat) ((0 : Int), ((0 : Int), ((0 : Int), (0 : Int))))).2).1) ((((List.getD v1.2.2.2 ((IntKind.wrap .i64 (v1.2.1 + (IntKind.wrap .i64 ((IntKind.wrap .i64 ((2 : Int) * v1.2.2.1)) + (1 : Int))))).toNat) ((0 : Int), ((0 : Int), ((0 : Int), (0 : Int))))).2).2).1) ((((List.getD v1.2.2.2 ((IntKind.wrap .i64 (v1.2.1 + (IntKind.wrap .i64 ((IntKind.wrap .i64 ((2 : Int) * v1.2.2.1)) + (1 : Int))))).toNat) ((0 : Int), ((0 : Int), ((0 : Int), (0 : Int))))).2).2).2) ((List.getD v1.2.2.2 ((IntKind.wrap .i64 ((IntKind.wrap .i64 (v1.2.1 + (IntKind.wrap .i64 ((IntKind.wrap .i64 ((2 : Int) * v1.2.2.1)) + (1 : Int))))) + (1 : Int))).toNat) ((0 : Int), ((0 : Int), ((0 : Int), (0 : Int))))).1) (((List.getD v1.2.2.2 ((IntKind.wrap .i64 ((IntKind.wrap .i64 (v1.2.1 + (IntKind.wrap .i64 ((IntKind.wrap .i64 ((2 : Int) * v1.2.2.1)) + (1 : Int))))) + (1 : Int))).toNat) ((0 : Int), ((0 : Int), ((0 : Int), (0 : Int))))).2).1) ((((List.getD v1.2.2.2 ((IntKind.wrap .i64 ((IntKind.wrap .i64 (v1.2.1 + (IntKind.wrap .i64 ((IntKind.wrap .i64 ((2 : Int) * v1.2.2.1)) + (1 : Int))))) + (1 : Int))).toNat) ((0 : Int), ((0 : Int), ((0 : Int), (0 : Int))))).2).2).1) ((((List.getD v1.2.2.2 ((IntKind.wrap .i64 ((IntKind.wrap .i64 (v1.2.1 + (IntKind.wrap .i64 ((IntKind.wrap .i64 ((2 : Int) * v1.2.2.1)) + (1 : Int))))) + (1 : Int))).toNat) ((0 : Int), ((0 : Int), ((0 : Int), (0 : Int))))).2).2).2)) (fun v3 => (some (v1.1, v1.2.1, v1.2.2.1, (IntKind.wrap .i64 ((IntKind.wrap .i64 ((2 : Int) * v1.2.2.1)) + (1 : Int))), (decide (v3 < (0 : Int))), v1.2.2.2)))))) (some (v1.1, v1.2.1, v1.2.2.1, (IntKind.wrap .i64 ((IntKind.wrap .i64 ((2 : Int) * v1.2.2.1)) + (1 : Int))), false, v1.2.2.2))) (fun v4 => (cnd v4.2.2.2.2.1 (some (v4.1, v4.2.1, v4.2.2.1, (IntKind.wrap .i64 (v4.2.2.2.1 + (1 : Int))), v4.2.2.2.2.2)) (some (v4.1, v4.2.1, v4.2.2.1, v4.2.2.2.1, v4.2.2.2.2.2))))) (fun v5 => (gd (decide ((0 : Int) ≤ (IntKind.wrap .i64 (v5.2.1 + v5.2.2.1)) ∧ (IntKind.wrap .i64 (v5.2.1 + v5.2.2.1)) < ((v5.2.2.2.2.length : Nat) : Int))) (gd (decide ((0 : Int) ≤ (IntKind.wrap .i64 (v5.2.1 + v5.2.2.2.1)) ∧ (IntKind.wrap .i64 (v5.2.1 + v5.2.2.2.1)) < ((v5.2.2.2.2.length : Nat) : Int))) (bd (α := Int) (o40 ((List.getD v5.2.2.2.2 ((IntKind.wrap .i64 (v5.2.1 + v5.2.2.1)).toNat) ((0 : Int), ((0 : Int), ((0 : Int), (0 : Int))))).1) (((List.getD v5.2.2.2.2 ((IntKind.wrap .i64 (v5.2.1 + v5.2.2.1)).toNat) ((0 : Int), ((0 : Int), ((0 : Int), (0 : Int))))).2).1) ((((List.getD v5.2.2.2.2 ((IntKind.wrap .i64 (v5.2.1 + v5.2.2.1)).toNat) ((0 : Int), ((0 : Int), ((0 : Int), (0 : Int))))).2).2).1) ((((List.getD v5.2.2.2.2 ((IntKind.wrap .i64 (v5.2.1 + v5.2.2.1)).toNat) ((0 : Int), ((0 : Int), ((0 : Int), (0 : Int))))).2).2).2) ((List.getD v5.2.2.2.2 ((IntKind.wrap .i64 (v5.2.1 + v5.2.2.2.1)).toNat) ((0 : Int), ((0 : Int), ((0 : Int), (0 : Int))))).1) (((List.getD v5.2.2.2.2 ((IntKind.wrap .i64 (v5.2.1 + v5.2.2.2.1)).toNat) ((0 : Int), ((0 : Int), ((0 : Int), (0 : Int))))).2).1) ((((List.getD v5.2.2.2.2 ((IntKind.wrap .i64 (v5.2.1 + v5.2.2.2.1)).toNat) ((0 : Int), ((0 : Int), ((0 : Int), (0 : Int))))).2).2).1) ((((List.getD v5.2.2.2.2 ((IntKind.wrap .i64 (v5.2.1 + v5.2.2.2.1)).toNat) ((0 : Int), ((0 : Int), ((0 : Int), (0 : Int))))).2).2).2)) (fun v7 => (cnd (!(decide (v7 < (0 : Int)))) (dnO (some v5.2.2.2.2)) (gd (decide ((0 : Int) ≤ (IntKind.wrap .i64 (v5.2.1 + v5.2.2.2.1)) ∧ (IntKind.wrap .i64 (v5.2.1 + v5.2.2.2.1)) < ((v5.2.2.2.2.length : Nat) : Int))) (gd (decide ((0 : Int) ≤ (IntKind.wrap .i64 (v5.2.1 + v5.2.2.1)) ∧ (IntKind.wrap .i64 (v5.2.1 + v5.2.2.1)) < ((v5.2.2.2.2.length : Nat) : Int))) (gd (decide ((0 : Int) ≤ (IntKind.wrap .i64 (v5.2.1 + v5.2.2.1)) ∧ (IntKind.wrap .i64 (v5.2.1 + v5.2.2.1)) < ((v5.2.2.2.2.length : Nat) : Int))) (gd (decide ((0 : Int) ≤ (IntKind.wrap .i64 (v5.2.1 + v5.2.2.2.1)) ∧ (IntKind.wrap .i64 (v5.2.1 + v5.2.2.2.1)) < (((List.set v5.2.2.2.2 ((IntKind.wrap .i64 (v5.2.1 + v5.2.2.1)).toNat) ((List.getD v5.2.2.2.2 ((IntKind.wrap .i64 (v5.2.1 + v5.2.2.2.1)).toNat) ((0 : Int), ((0 : Int), ((0 : Int), (0 : Int))))).1, (((List.getD v5.2.2.2.2 ((IntKind.wrap .i64 (v5.2.1 + v5.2.2.2.1)).toNat) ((0 : Int), ((0 : Int), ((0 : Int), (0 : Int))))).2).1, ((((List.getD v5.2.2.2.2 ((IntKind.wrap .i64 (v5.2.1 + v5.2.2.2.1)).toNat) ((0 : Int), ((0 : Int), ((0 : Int), (0 : Int))))).2).2).1, (((List.getD v5.2.2.2.2 ((IntKind.wrap .i64 (v5.2.1 + v5.2.2.2.1)).toNat) ((0 : Int), ((0 : Int), ((0 : Int), (0 : Int))))).2).2).2)))).length : Nat) : Int))) (some (Ctl.go (v5.1, v5.2.1, v5.2.2.2.1, (List.set (List.set v5.2.2.2.2 ((IntKind.wrap .i64 (v5.2.1 + v5.2.2.1)).toNat) ((List.getD v5.2.2.2.2 ((IntKind.wrap .i64 (v5.2.1 + v5.2.2.2.1)).toNat) ((0 : Int), ((0 : Int), ((0 : Int), (0 : Int))))).1, (((List.getD v5.2.2.2.2 ((IntKind.wrap .i64 (v5.2.1 + v5.2.2.2.1)).toNat) ((0 : Int), ((0 : Int), ((0 : Int), (0 : Int))))).2).1, ((((List.getD v5.2.2.2.2 ((IntKind.wrap .i64 (v5.2.1 + v5.2.2.2.1)).toNat) ((0 : Int), ((0 : Int), ((0 : Int), (0 : Int))))).2).2).1, (((List.getD v5.2.2.2.2 ((IntKind.wrap .i64 (v5.2.1 + v5.2.2.2.1)).toNat) ((0 : Int), ((0 : Int), ((0 : Int), (0 : Int))))).2).2).2)))) ((IntKind.wrap .i64 (v5.2.1 + v5.2.2.2.1)).toNat) ((List.getD v5.2.2.2.2 ((IntKind.wrap .i64 (v5.2.1 + v5.2.2.1)).toNat) ((0 : Int), ((0 : Int), ((0 : Int), (0 : Int))))).1, (((List.getD v5.2.2.2.2 ((IntKind.wrap .i64 (v5.2.1 + v5.2.2.1)).toNat) ((0 : Int), ((0 : Int), ((0 : Int), (0 : Int))))).2).1, ((((List.getD v5.2.2.2.2 ((IntKind.wrap .i64 (v5.2.1 + v5.2.2.1)).toNat) ((0 : Int), ((0 : Int), ((0 : Int), (0 : Int))))).2).2).1, (((List.getD v5.2.2.2.2 ((IntKind.wrap .i64 (v5.2.1 + v5.2.2.1)).toNat) ((0 : Int), ((0 : Int), ((0 : Int), (0 : Int))))).2).2).2)))))))))))))))))))) (a1, a2, a0, a3))
theorem e100 (t : Int × Int × Int × List (Int × Int × Int × Int)) : evF (stpT Tryd.prog T19 K19) Tryd.f100 p100 r100 (.s .d (.b (.l o100_s2 (.b (.s .d (.s .d (.j false [o100_s1] (.s (.s (.j false [o100_s0] .d) .d) .d)))))))) t = (o100 t.1 t.2.1 t.2.2.1 t.2.2.2) := by kernel_rfl
theorem fo100 : FOk Tryd.prog 100 ⟨p100, r100, fun t => (o100 t.1 t.2.1 t.2.2.1 t.2.2.2)⟩ := FOk.run_eq (evF_ok (h := (.s .d (.b (.l o100_s2 (.b (.s .d (.s .d (.j false [o100_s1] (.s (.s (.j false [o100_s0] .d) .d) .d))))))))) (by kernel_rfl) (by kernel_rfl) (by kernel_rfl)) e100
def T20 : Tbl := (100, ⟨p100, r100, fun t => (o100 t.1 t.2.1 t.2.2.1 t.2.2.2)⟩) :: T19
theorem K20 : TOk Tryd.prog T20 := .cons K19 fo100
def o83_s0 : Sch := ⟨[(0, .v (.c (.own 0))), (3, .v (.c (.fn 40))), (8, .v (.c (.i .i64))), (9, .v (.c (.ic .i64 (0)))), (10, .v (.c (.i .i64))), (11, .v (.c (.i .i64)))], [.row (.p (.i .i64) (.p (.i .u8) (.p (.i .i64) (.i .u64)))) 42]⟩
def o83_s1 : Sch := ⟨[(0, .v (.c (.own 0))), (3, .v (.c (.fn 40))), (8, .v (.c (.i .i64))), (9, .v (.c (.ic .i64 (0)))), (12, .v (.c (.i .i64)))], [.row (.p (.i .i64) (.p (.i .u8) (.p (.i .i64) (.i .u64)))) 42]⟩
def p83 : Sch := ⟨[(0, .v (.c (.own 0))), (1, .v (.c (.i .i64))), (2, .v (.c (.i .i64))), (3, .v (.c (.fn 40)))], [.row (.p (.i .i64) (.p (.i .u8) (.p (.i .i64) (.i .u64)))) 42]⟩
def r83 : List Sch := [⟨[(0, .tup [])], [.row (.p (.i .i64) (.p (.i .u8) (.p (.i .i64) (.i .u64)))) 42]⟩]
def o83 (a0 : Int) (a1 : Int) (a2 : List (Int × Int × Int × Int)) : Option (List (Int × Int × Int × Int)) :=
 (loopO (σ := Int × Int × Int × List (Int × Int × Int × Int)) fuelN (fun (v1 : Int × Int × Int × List (Int × Int × Int × Int)) => (cnd (decide (v1.2.2.1 ≥ (0 : Int))) (bd (α := (List (Int × Int × Int × Int))) (o100 v1.2.2.1 v1.2.1 v1.1 v1.2.2.2) (fun v2 => (some (Ctl.go (v1.1, v1.2.1, (IntKind.wrap .i64 (v1.2.2.1 - (1 : Int))), v2))))) (dnO (loopO (σ := Int × Int × List (Int × Int × Int × Int)) fuelN (fun (v3 : Int × Int × List (Int × Int × Int × Int)) => (cnd (decide (v3.2.1 ≥ (0 : Int))) (gd (decide ((0 : Int) ≤ (IntKind.wrap .i64 (v3.1 + v3.2.1)) ∧ (IntKind.wrap .i64 (v3.1 + v3.2.1)) < ((v3.2.2.length : Nat) : Int))) (gd (decide ((0 : Int) ≤ v3.1 ∧ v3.1 < ((v3.2.2.length : Nat) : Int))) (gd (decide ((0 : Int) ≤ v3.1 ∧ v3.1 < ((v3.2.2.length : Nat) : Int))) (gd (decide ((0 : Int) ≤ (IntKind.wrap .i64 (v3.1 + v3.2.1)) ∧ (IntKind.wrap .i64 (v3.1 + v3.2.1)) < (((List.set v3.2.2 v3.1.toNat ((List.getD v3.2.2 ((IntKind.wrap .i64 (v3.1 + v3.2.1)).toNat) ((0 : Int), ((0 : Int), ((0 : Int), (0 : Int))))).1, (((List.getD v3.2.2 ((IntKind.wrap .i64 (v3.1 + v3.2.1)).toNat) ((0 : Int), ((0 : Int), ((0 : Int), (0 : Int))))).2).1, ((((List.getD v3.2.2 ((IntKind.wrap .i64 (v3.1 + v3.2.1)).toNat) ((0 : Int), ((0 : Int), ((0 : Int), (0 : Int))))).2).2).1, (((List.getD v3.2.2 ((IntKind.wrap .i64 (v3.1 + v3.2.1)).toNat) ((0 : Int), ((0 : Int), ((0 : Int), (0 : Int))))).2).2).2)))).length : Nat) : Int))) (bd (α := (List (Int × Int × Int × Int))) (o100 (0 : Int) v3.2.1 v3.1 (List.set (List.set v3.2.2 v3.1.toNat ((List.getD v3.2.2 ((IntKind.wrap .i64 (v3.1 + v3.2.1)).toNat) ((0 : Int), ((0 : Int), ((0 : Int), (0 : Int))))).1, (((List.getD v3.2.2 ((IntKind.wrap .i64 (v3.1 + v3.2.1)).toNat) ((0 : Int), ((0 : Int), ((0 : Int), (0 : Int))))).2).1, ((((List.getD v3.2.2 ((IntKind.wrap .i64 (v3.1 + v3.2.1)).toNat) ((0 : Int), ((0 : Int), ((0 : Int), (0 : Int))))).2).2).1, (((List.getD v3.2.2 ((IntKind.wrap .i64 (v3.1 + v3.2.1)).toNat) ((0 : Int), ((0 : Int), ((0 : Int), (0 : Int))))).2).2).2)))) ((IntKind.wrap .i64 (v3.1 + v3.2.1)).toNat) ((List.getD v3.2.2 v3.1.toNat ((0 : Int), ((0 : Int), ((0 : Int), (0 : Int))))).1, (((List.getD v3.2.2 v3.1.toNat ((0 : Int), ((0 : Int), ((0 : Int), (0 : Int))))).2).1, ((((List.getD v3.2.2 v3.1.toNat ((0 : Int), ((0 : Int), ((0 : Int), (0 : Int))))).2).2).1, (((List.getD v3.2.2 v3.1.toNat ((0 : Int), ((0 : Int), ((0 : Int), (0 : Int))))).2).2).2))))) (fun v4 => (some (Ctl.go (v3.1, (IntKind.wrap .i64 (v3.2.1 - (1 : Int))), v4))))))))) (dnO (some v3.2.2)))) (v1.1, (IntKind.wrap .i64 (v1.2.1 - (1 : Int))), v1.2.2.2))))) (a0, (IntKind.wrap .i64 (a1 - a0)), (IntKind.wrap .i64 (Int.tdiv (IntKind.wrap .i64 ((IntKind.wrap .i64 (a1 - a0)) - (1 : Int))) (2 : Int))), a2))
theorem e83 (t : Int × Int × List (Int × Int × Int × Int)) : evF (stpT Tryd.prog T20 K20) Tryd.f83 p83 r83 (.s .d (.s .d (.s .d (.s (.s .d (.b (.l o83_s0 .d))) (.s .d (.b (.l o83_s1 .d))))))) t = (o83 t.1 t.2.1 t.2.2) := by kernel_rfl
theorem fo83 : FOk Tryd.prog 83 ⟨p83, r83, fun t => (o83 t.1 t.2.1 t.2.2)⟩ := FOk.run_eq (evF_ok (h := (.s .d (.s .d (.s .d (.s (.s .d (.b (.l o83_s0 .d))) (.s .d (.b (.l o83_s1 .d)))))))) (by kernel_rfl) (by kernel_rfl) (by kernel_rfl)) e83
def T21 : Tbl := (83, ⟨p83, r83, fun t => (o83 t.1 t.2.1 t.2.2)⟩) :: T20
theorem K21 : TOk Tryd.prog T21 := .cons K20 fo83
def p101 : Sch := ⟨[(0, .v (.c (.i .i64)))], []⟩
def r101 : List Sch := [⟨[(0, .v (.c (.i .u64)))], []⟩]
def o101 (a0 : Int) : Option Int :=
 (bd (α := Int) (o66 (IntKind.wrap .u64 a0)) (fun v1 => (gd (decide ((0 : Int) ≤ v1)) (some (shlK .u64 (1 : Int) v1)))))
theorem e101 (t : Int) : evF (stpT Tryd.prog T21 K21) Tryd.f101 p101 r101 .d t = (o101 t) := by kernel_rfl
theorem fo101 : FOk Tryd.prog 101 ⟨p101, r101, fun t => (o101 t)⟩ := FOk.run_eq (evF_ok (h := .d) (by kernel_rfl) (by kernel_rfl) (by kernel_rfl)) e101
def T22 : Tbl := (101, ⟨p101, r101, fun t => (o101 t)⟩) :: T21
theorem K22 : TOk Tryd.prog T22 := .cons K21 fo101
def p102 : Sch := ⟨[(0, .v (.c (.ptr 0 0)))], [.cells 144 [.i .u64]]⟩
def r102 : List Sch := [⟨[(0, .v (.c (.i .u64)))], [.cells 144 [.i .u64]]⟩]
def o102 (a0 : Int) : Option (Int × Int) :=
 (some ((lxorK .u64 (lxorK .u64 (lxorK .u64 a0 (shlK .u64 a0 (13 : Int))) (shrK .u64 (lxorK .u64 a0 (shlK .u64 a0 (13 : Int))) (7 : Int))) (shlK .u64 (lxorK .u64 (lxorK .u64 a0 (shlK .u64 a0 (13 : Int))) (shrK .u64 (lxorK .u64 a0 (shlK .u64 a0 (13 : Int))) (7 : Int))) (17 : Int))), (lxorK .u64 (lxorK .u64 (lxorK .u64 a0 (shlK .u64 a0 (13 : Int))) (shrK .u64 (lxorK .u64 a0 (shlK .u64 a0 (13 : Int))) (7 : Int))) (shlK .u64 (lxorK .u64 (lxorK .u64 a0 (shlK .u64 a0 (13 : Int))) (shrK .u64 (lxorK .u64 a0 (shlK .u64 a0 (13 : Int))) (7 : Int))) (17 : Int)))))
theorem e102 (t : Int) : evF (stpT Tryd.prog T22 K22) Tryd.f102 p102 r102 .d t = (o102 t) := by kernel_rfl
theorem fo102 : FOk Tryd.prog 102 ⟨p102, r102, fun t => (o102 t)⟩ := FOk.run_eq (evF_ok (h := .d) (by kernel_rfl) (by kernel_rfl) (by kernel_rfl)) e102
def T23 : Tbl := (102, ⟨p102, r102, fun t => (o102 t)⟩) :: T22
theorem K23 : TOk Tryd.prog T23 := .cons K22 fo102
def o84_s0 : Sch := ⟨[(0, .v (.c (.own 0))), (1, .v (.c (.i .i64))), (8, .v (.c (.i .i64))), (9, .v (.c (.ptr 1 0))), (10, .v (.c (.i .u64))), (11, .v (.c (.i .i64))), (12, .v (.c (.i .i64)))], [.row (.p (.i .i64) (.p (.i .u8) (.p (.i .i64) (.i .u64)))) 42, .cells 144 [.i .u64]]⟩
def o84_s1 : Sch := ⟨[(0, .v (.c (.own 0))), (1, .v (.c (.i .i64))), (8, .v (.c (.i .i64))), (9, .v (.c (.ptr 1 0))), (10, .v (.c (.i .u64))), (11, .v (.c (.i .i64)))], [.row (.p (.i .i64) (.p (.i .u8) (.p (.i .i64) (.i .u64)))) 42, .cells 144 [.i .u64]]⟩
def p84 : Sch := ⟨[(0, .v (.c (.own 0))), (1, .v (.c (.i .i64))), (2, .v (.c (.i .i64))), (3, .v (.c (.fn 40)))], [.row (.p (.i .i64) (.p (.i .u8) (.p (.i .i64) (.i .u64)))) 42]⟩
def r84 : List Sch := [⟨[(0, .tup [])], [.row (.p (.i .i64) (.p (.i .u8) (.p (.i .i64) (.i .u64)))) 42]⟩]
def o84 (a0 : Int) (a1 : Int) (a2 : List (Int × Int × Int × Int)) : Option (List (Int × Int × Int × Int)) :=
 (cnd (decide ((IntKind.wrap .i64 (a1 - a0)) ≥ (8 : Int))) (bd (α := Int) (o101 (IntKind.wrap .i64 (a1 - a0))) (fun v1 => (loopO (σ := Int × Int × Int × Int × List (Int × Int × Int × Int) × Int) fuelN (fun (v2 : Int × Int × Int × Int × List (Int × Int × Int × Int) × Int) => (cnd (decide (v2.2.2.2.1 ≤ (IntKind.wrap .i64 ((IntKind.wrap .i64 (v2.1 + (IntKind.wrap .i64 ((IntKind.wrap .i64 (Int.tdiv v2.2.1 (4 : Int))) * (2 : Int))))) + (1 : Int))))) (bd (α := (Int × Int)) (o102 v2.2.2.2.2.2) (fun v3 => (bd (α := (Int × Int × Int × Int × Int × List (Int × Int × Int × Int) × Int)) (cnd (decide ((IntKind.wrap .i64 (landK .u64 v3.1 (IntKind.wrap .u64 (v2.2.2.1 - (1 : Int))))) ≥ v2.2.1)) (some (v2.1, v2.2.1, v2.2.2.1, v2.2.2.2.1, (IntKind.wrap .i64 ((IntKind.wrap .i64 (landK .u64 v3.1 (IntKind.wrap .u64 (v2.2.2.1 - (1 : Int))))) - v2.2.1)), v2.2.2.2.2.1, v3.2)) (some (v2.1, v2.2.1, v2.2.2.1, v2.2.2.2.1, (IntKind.wrap .i64 (landK .u64 v3.1 (IntKind.wrap .u64 (v2.2.2.1 - (1 : Int))))), v2.2.2.2.2.1, v3.2))) (fun v4 => (gd (decide ((0 : Int) ≤ (IntKind.wrap .i64 (v4.1 + v4.2.2.2.2.1)) ∧ (IntKind.wrap .i64 (v4.1 + v4.2.2.2.2.1)) < ((v4.2.2.2.2.2.1.length : Nat) : Int))) (gd (decide ((0 : Int) ≤ v4.2.2.2.1 ∧ v4.2.2.2.1 < ((v4.2.2.2.2.2.1.length : Nat) : Int))) (gd (decide ((0 : Int) ≤ v4.2.2.2.1 ∧ v4.2.2.2.1 < ((v4.2.2.2.2.2.1.length : Nat) : Int))) (gd (decide ((0 : Int) ≤ (IntKind.wrap .i64 (v4.1 + v4.2.2.2.2.1)) ∧ (IntKind.wrap .i64 (v4.1 + v4.2.2.2.2.1)) < (((List.set v4.2.2.2.2.2.1 v4.2.2.2.1.toNat ((List.getD v4.2.2.2.2.2.1 ((IntKind.wrap .i64 (v4.1 + v4.2.2.2.2.1)).toNat) ((0 : Int), ((0 : Int), ((0 : Int), (0 : Int))))).1, (((List.getD v4.2.2.2.2.2.1 ((IntKind.wrap .i64 (v4.1 + v4.2.2.2.2.1)).toNat) ((0 : Int), ((0 : Int), ((0 : Int), (0 : Int))))).2).1, ((((List.getD v4.2.2.2.2.2.1 ((IntKind.wrap .i64 (v4.1 + v4.2.2.2.2.1)).toNat) ((0 : Int), ((0 : Int), ((0 : Int), (0 : Int))))).2).2).1, (((List.getD v4.2.2.2.2.2.1 ((IntKind.wrap .i64 (v4.1 + v4.2.2.2.2.1)).toNat) ((0 : Int), ((0 : Int), ((0 : Int), (0 : Int))))).2).2).2)))).length : Nat) : Int))) (some (Ctl.go (v4.1, v4.2.1, v4.2.2.1, (IntKind.wrap .i64 (v4.2.2.2.1 + (1 : Int))), (List.set (List.set v4.2.2.2.2.2.1 v4.2.2.2.1.toNat ((List.getD v4.2.2.2.2.2.1 ((IntKind.wrap .i64 (v4.1 + v4.2.2.2.2.1)).toNat) ((0 : Int), ((0 : Int), ((0 : Int), (0 : Int))))).1, (((List.getD v4.2.2.2.2.2.1 ((IntKind.wrap .i64 (v4.1 + v4.2.2.2.2.1)).toNat) ((0 : Int), ((0 : Int), ((0 : Int), (0 : Int))))).2).1, ((((List.getD v4.2.2.2.2.2.1 ((IntKind.wrap .i64 (v4.1 + v4.2.2.2.2.1)).toNat) ((0 : Int), ((0 : Int), ((0 : Int), (0 : Int))))).2).2).1, (((List.getD v4.2.2.2.2.2.1 ((IntKind.wrap .i64 (v4.1 + v4.2.2.2.2.1)).toNat) ((0 : Int), ((0 : Int), ((0 : Int), (0 : Int))))).2).2).2)))) ((IntKind.wrap .i64 (v4.1 + v4.2.2.2.2.1)).toNat) ((List.getD v4.2.2.2.2.2.1 v4.2.2.2.1.toNat ((0 : Int), ((0 : Int), ((0 : Int), (0 : Int))))).1, (((List.getD v4.2.2.2.2.2.1 v4.2.2.2.1.toNat ((0 : Int), ((0 : Int), ((0 : Int), (0 : Int))))).2).1, ((((List.getD v4.2.2.2.2.2.1 v4.2.2.2.1.toNat ((0 : Int), ((0 : Int), ((0 : Int), (0 : Int))))).2).2).1, (((List.getD v4.2.2.2.2.2.1 v4.2.2.2.1.toNat ((0 : Int), ((0 : Int), ((0 : Int), (0 : Int))))).2).2).2)))), v4.2.2.2.2.2.2))))))))))) (dnO (some v2.2.2.2.2.1)))) (a0, (IntKind.wrap .i64 (a1 - a0)), v1, (IntKind.wrap .i64 ((IntKind.wrap .i64 (a0 + (IntKind.wrap .i64 ((IntKind.wrap .i64 (Int.tdiv (IntKind.wrap .i64 (a1 - a0)) (4 : Int))) * (2 : Int))))) - (1 : Int))), a2, (IntKind.wrap .u64 (IntKind.wrap .i64 (a1 - a0))))))) (some a2))
theorem e84 (t : Int × Int × List (Int × Int × Int × Int)) : evF (stpT Tryd.prog T23 K23) Tryd.f84 p84 r84 (.s .d (.s .d (.c (.s .d (.s .d (.s .d (.b (.l o84_s1 (.s .d (.s (.b (.s .d (.j false [o84_s0] .d))) .d))))))) .d))) t = (o84 t.1 t.2.1 t.2.2) := by kernel_rfl
theorem fo84 : FOk Tryd.prog 84 ⟨p84, r84, fun t => (o84 t.1 t.2.1 t.2.2)⟩ := FOk.run_eq (evF_ok (h := (.s .d (.s .d (.c (.s .d (.s .d (.s .d (.b (.l o84_s1 (.s .d (.s (.b (.s .d (.j false [o84_s0] .d))) .d))))))) .d)))) (by kernel_rfl) (by kernel_rfl) (by kernel_rfl)) e84
def T24 : Tbl := (84, ⟨p84, r84, fun t => (o84 t.1 t.2.1 t.2.2)⟩) :: T23
theorem K24 : TOk Tryd.prog T24 := .cons K23 fo84
def p112 : Sch := ⟨[(0, .v (.c (.ro (.p (.i .i64) (.p (.i .u8) (.p (.i .i64) (.i .u64)))) false))), (1, .v (.c (.i .i64))), (2, .v (.c (.i .i64))), (3, .v (.c (.ptr 0 0))), (4, .v (.c (.fn 40)))], [.cells 3 [.i .i64]]⟩
def r112 : List Sch := [⟨[(0, .tup [.c (.i .i64), .c (.i .i64)])], [.cells 3 [.i .i64]]⟩]
def o112 (a0 : List (Int × Int × Int × Int)) (a1 : Int) (a2 : Int) (a3 : Int) : Option (Int × Int × Int) :=
 (gd (decide ((0 : Int) ≤ a2 ∧ a2 < ((a0.length : Nat) : Int))) (gd (decide ((0 : Int) ≤ a1 ∧ a1 < ((a0.length : Nat) : Int))) (bd (α := Int) (o40 ((List.getD a0 a2.toNat ((0 : Int), ((0 : Int), ((0 : Int), (0 : Int))))).1) (((List.getD a0 a2.toNat ((0 : Int), ((0 : Int), ((0 : Int), (0 : Int))))).2).1) ((((List.getD a0 a2.toNat ((0 : Int), ((0 : Int), ((0 : Int), (0 : Int))))).2).2).1) ((((List.getD a0 a2.toNat ((0 : Int), ((0 : Int), ((0 : Int), (0 : Int))))).2).2).2) ((List.getD a0 a1.toNat ((0 : Int), ((0 : Int), ((0 : Int), (0 : Int))))).1) (((List.getD a0 a1.toNat ((0 : Int), ((0 : Int), ((0 : Int), (0 : Int))))).2).1) ((((List.getD a0 a1.toNat ((0 : Int), ((0 : Int), ((0 : Int), (0 : Int))))).2).2).1) ((((List.getD a0 a1.toNat ((0 : Int), ((0 : Int), ((0 : Int), (0 : Int))))).2).2).2)) (fun v2 => (cnd (decide (v2 < (0 : Int))) (some (a2, a1, (IntKind.wrap .i64 (a3 + (1 : Int))))) (some (a1, a2, a3)))))))
theorem e112 (t : List (Int × Int × Int × Int) × Int × Int × Int) : evF (stpT Tryd.prog T24 K24) Tryd.f112 p112 r112 .d t = (o112 t.1 t.2.1 t.2.2.1 t.2.2.2) := by kernel_rfl
theorem fo112 : FOk Tryd.prog 112 ⟨p112, r112, fun t => (o112 t.1 t.2.1 t.2.2.1 t.2.2.2)⟩ := FOk.run_eq (evF_ok (h := .d) (by kernel_rfl) (by kernel_rfl) (by kernel_rfl)) e112
def T25 : Tbl := (112, ⟨p112, r112, fun t => (o112 t.1 t.2.1 t.2.2.1 t.2.2.2)⟩) :: T24
theorem K25 : TOk Tryd.prog T25 := .cons K24 fo112
def p104 : Sch := ⟨[(0, .v (.c (.ro (.p (.i .i64) (.p (.i .u8) (.p (.i .i64) (.i .u64)))) false))), (1, .v (.c (.i .i64))), (2, .v (.c (.i .i64))), (3, .v (.c (.i .i64))), (4, .v (.c (.ptr 0 0))), (5, .v (.c (.fn 40)))], [.cells 3 [.i .i64]]⟩
def r104 : List Sch := [⟨[(0, .v (.c (.i .i64)))], [.cells 3 [.i .i64]]⟩]
def o104 (a0 : List (Int × Int × Int × Int)) (a1 : Int) (a2 : Int) (a3 : Int) (a4 : Int) : Option (Int × Int) :=
 (bd (α := (Int × Int × Int)) (o112 a0 a1 a2 a4) (fun v1 => (bd (α := (Int × Int × Int)) (o112 a0 v1.2.1 a3 v1.2.2) (fun v2 => (bd (α := (Int × Int × Int)) (o112 a0 v1.1 v2.1 v2.2.2) (fun v3 => (some (v3.2.1, v3.2.2))))))))
theorem e104 (t : List (Int × Int × Int × Int) × Int × Int × Int × Int) : evF (stpT Tryd.prog T25 K25) Tryd.f104 p104 r104 .d t = (o104 t.1 t.2.1 t.2.2.1 t.2.2.2.1 t.2.2.2.2) := by kernel_rfl
theorem fo104 : FOk Tryd.prog 104 ⟨p104, r104, fun t => (o104 t.1 t.2.1 t.2.2.1 t.2.2.2.1 t.2.2.2.2)⟩ := FOk.run_eq (evF_ok (h := .d) (by kernel_rfl) (by kernel_rfl) (by kernel_rfl)) e104
def T26 : Tbl := (104, ⟨p104, r104, fun t => (o104 t.1 t.2.1 t.2.2.1 t.2.2.2.1 t.2.2.2.2)⟩) :: T25
theorem K26 : TOk Tryd.prog T26 := .cons K25 fo104
def p103 : Sch := ⟨[(0, .v (.c (.ro (.p (.i .i64) (.p (.i .u8) (.p (.i .i64) (.i .u64)))) false))), (1, .v (.c (.i .i64))), (2, .v (.c (.ptr 0 0))), (3, .v (.c (.fn 40)))], [.cells 3 [.i .i64]]⟩
def r103 : List Sch := [⟨[(0, .v (.c (.i .i64)))], [.cells 3 [.i .i64]]⟩]
def o103 (a0 : List (Int × Int × Int × Int)) (a1 : Int) (a2 : Int) : Option (Int × Int) :=
 (bd (α := (Int × Int)) (o104 a0 (IntKind.wrap .i64 (a1 - (1 : Int))) a1 (IntKind.wrap .i64 (a1 + (1 : Int))) a2) (fun v1 => (some (v1.1, v1.2))))
theorem e103 (t : List (Int × Int × Int × Int) × Int × Int) : evF (stpT Tryd.prog T26 K26) Tryd.f103 p103 r103 .d t = (o103 t.1 t.2.1 t.2.2) := by kernel_rfl
theorem fo103 : FOk Tryd.prog 103 ⟨p103, r103, fun t => (o103 t.1 t.2.1 t.2.2)⟩ := FOk.run_eq (evF_ok (h := .d) (by kernel_rfl) (by kernel_rfl) (by kernel_rfl)) e103
def T27 : Tbl := (103, ⟨p103, r103, fun t => (o103 t.1 t.2.1 t.2.2)⟩) :: T26
theorem K27 : TOk Tryd.prog T27 := .cons K26 fo103
def o85_s0 : Sch := ⟨[(0, .v (.c (.ro (.p (.i .i64) (.p (.i .u8) (.p (.i .i64) (.i .u64)))) false))), (3, .v (.c (.fn 40))), (11, .v (.c (.ptr 0 0))), (12, .v (.c (.i .i64))), (13, .v (.c (.i .i64))), (14, .v (.c (.i .i64)))], [.cells 3 [.i .i64]]⟩
def o85_s1 : Sch := ⟨[(11, .v (.c (.ptr 0 0))), (13, .v (.c (.i .i64)))], [.cells 3 [.i .i64]]⟩
def p85 : Sch := ⟨[(0, .v (.c (.ro (.p (.i .i64) (.p (.i .u8) (.p (.i .i64) (.i .u64)))) false))), (1, .v (.c (.i .i64))), (2, .v (.c (.i .i64))), (3, .v (.c (.fn 40)))], []⟩
def r85 : List Sch := [⟨[(0, .tup [.c (.i .i64), .c (.i .i64)])], []⟩]
def o85 (a0 : List (Int × Int × Int × Int)) (a1 : Int) (a2 : Int) : Option (Int × Int) :=
 (bd (α := (Int × Int)) (cnd (decide ((IntKind.wrap .i64 (a2 - a1)) ≥ (8 : Int))) (bd (α := (List (Int × Int × Int × Int) × Int × Int × Int × Int)) (cnd (decide ((IntKind.wrap .i64 (a2 - a1)) ≥ (50 : Int))) (bd (α := (Int × Int)) (o103 a0 (IntKind.wrap .i64 (a1 + (IntKind.wrap .i64 ((IntKind.wrap .i64 (Int.tdiv (IntKind.wrap .i64 (a2 - a1)) (4 : Int))) * (1 : Int))))) (0 : Int)) (fun v1 => (bd (α := (Int × Int)) (o103 a0 (IntKind.wrap .i64 (a1 + (IntKind.wrap .i64 ((IntKind.wrap .i64 (Int.tdiv (IntKind.wrap .i64 (a2 - a1)) (4 : Int))) * (2 : Int))))) v1.2) (fun v2 => (bd (α := (Int × Int)) (o103 a0 (IntKind.wrap .i64 (a1 + (IntKind.wrap .i64 ((IntKind.wrap .i64 (Int.tdiv (IntKind.wrap .i64 (a2 - a1)) (4 : Int))) * (3 : Int))))) v2.2) (fun v3 => (some (a0, v1.1, v2.1, v3.1, v3.2)))))))) (some (a0, (IntKind.wrap .i64 (a1 + (IntKind.wrap .i64 ((IntKind.wrap .i64 (Int.tdiv (IntKind.wrap .i64 (a2 - a1)) (4 : Int))) * (1 : Int))))), (IntKind.wrap .i64 (a1 + (IntKind.wrap .i64 ((IntKind.wrap .i64 (Int.tdiv (IntKind.wrap .i64 (a2 - a1)) (4 : Int))) * (2 : Int))))), (IntKind.wrap .i64 (a1 + (IntKind.wrap .i64 ((IntKind.wrap .i64 (Int.tdiv (IntKind.wrap .i64 (a2 - a1)) (4 : Int))) * (3 : Int))))), (0 : Int)))) (fun v4 => (bd (α := (Int × Int)) (o104 v4.1 v4.2.1 v4.2.2.1 v4.2.2.2.1 v4.2.2.2.2) (fun v5 => (some (v5.1, v5.2)))))) (some ((IntKind.wrap .i64 (a1 + (IntKind.wrap .i64 ((IntKind.wrap .i64 (Int.tdiv (IntKind.wrap .i64 (a2 - a1)) (4 : Int))) * (2 : Int))))), (0 : Int)))) (fun v6 => (cnd (v6.2 == (0 : Int)) (some (v6.1, (1 : Int))) (cnd (v6.2 == (12 : Int)) (some (v6.1, (2 : Int))) (some (v6.1, (0 : Int)))))))
theorem e85 (t : List (Int × Int × Int × Int) × Int × Int) : evF (stpT Tryd.prog T27 K27) Tryd.f85 p85 r85 (.s .d (.s .d (.s .d (.s .d (.s .d (.s .d (.j false [o85_s1] (.s (.s .d (.c (.j false [o85_s0] .d) .d)) .d)))))))) t = (o85 t.1 t.2.1 t.2.2) := by kernel_rfl
theorem fo85 : FOk Tryd.prog 85 ⟨p85, r85, fun t => (o85 t.1 t.2.1 t.2.2)⟩ := FOk.run_eq (evF_ok (h := (.s .d (.s .d (.s .d (.s .d (.s .d (.s .d (.j false [o85_s1] (.s (.s .d (.c (.j false [o85_s0] .d) .d)) .d))))))))) (by kernel_rfl) (by kernel_rfl) (by kernel_rfl)) e85
def T28 : Tbl := (85, ⟨p85, r85, fun t => (o85 t.1 t.2.1 t.2.2)⟩) :: T27
theorem K28 : TOk Tryd.prog T28 := .cons K27 fo85
def o86_s0 : Sch := ⟨[(0, .v (.c (.own 0))), (8, .v (.c (.i .i64))), (9, .v (.c (.i .i64)))], [.row (.p (.i .i64) (.p (.i .u8) (.p (.i .i64) (.i .u64)))) 42]⟩
def p86 : Sch := ⟨[(0, .v (.c (.own 0))), (1, .v (.c (.i .i64))), (2, .v (.c (.i .i64))), (3, .v (.c (.fn 40)))], [.row (.p (.i .i64) (.p (.i .u8) (.p (.i .i64) (.i .u64)))) 42]⟩
def r86 : List Sch := [⟨[(0, .tup [])], [.row (.p (.i .i64) (.p (.i .u8) (.p (.i .i64) (.i .u64)))) 42]⟩]
def o86 (a0 : Int) (a1 : Int) (a2 : List (Int × Int × Int × Int)) : Option (List (Int × Int × Int × Int)) :=
 (loopO (σ := Int × Int × List (Int × Int × Int × Int)) fuelN (fun (v1 : Int × Int × List (Int × Int × Int × Int)) => (cnd (decide (v1.1 < v1.2.1)) (gd (decide ((0 : Int) ≤ v1.2.1 ∧ v1.2.1 < ((v1.2.2.length : Nat) : Int))) (gd (decide ((0 : Int) ≤ v1.1 ∧ v1.1 < ((v1.2.2.length : Nat) : Int))) (gd (decide ((0 : Int) ≤ v1.1 ∧ v1.1 < ((v1.2.2.length : Nat) : Int))) (gd (decide ((0 : Int) ≤ v1.2.1 ∧ v1.2.1 < (((List.set v1.2.2 v1.1.toNat ((List.getD v1.2.2 v1.2.1.toNat ((0 : Int), ((0 : Int), ((0 : Int), (0 : Int))))).1, (((List.getD v1.2.2 v1.2.1.toNat ((0 : Int), ((0 : Int), ((0 : Int), (0 : Int))))).2).1, ((((List.getD v1.2.2 v1.2.1.toNat ((0 : Int), ((0 : Int), ((0 : Int), (0 : Int))))).2).2).1, (((List.getD v1.2.2 v1.2.1.toNat ((0 : Int), ((0 : Int), ((0 : Int), (0 : Int))))).2).2).2)))).length : Nat) : Int))) (some (Ctl.go ((IntKind.wrap .i64 (v1.1 + (1 : Int))), (IntKind.wrap .i64 (v1.2.1 - (1 : Int))), (List.set (List.set v1.2.2 v1.1.toNat ((List.getD v1.2.2 v1.2.1.toNat ((0 : Int), ((0 : Int), ((0 : Int), (0 : Int))))).1, (((List.getD v1.2.2 v1.2.1.toNat ((0 : Int), ((0 : Int), ((0 : Int), (0 : Int))))).2).1, ((((List.getD v1.2.2 v1.2.1.toNat ((0 : Int), ((0 : Int), ((0 : Int), (0 : Int))))).2).2).1, (((List.getD v1.2.2 v1.2.1.toNat ((0 : Int), ((0 : Int), ((0 : Int), (0 : Int))))).2).2).2)))) v1.2.1.toNat ((List.getD v1.2.2 v1.1.toNat ((0 : Int), ((0 : Int), ((0 : Int), (0 : Int))))).1, (((List.getD v1.2.2 v1.1.toNat ((0 : Int), ((0 : Int), ((0 : Int), (0 : Int))))).2).1, ((((List.getD v1.2.2 v1.1.toNat ((0 : Int), ((0 : Int), ((0 : Int), (0 : Int))))).2).2).1, (((List.getD v1.2.2 v1.1.toNat ((0 : Int), ((0 : Int), ((0 : Int), (0 : Int))))).2).2).2))))))))))) (dnO (some v1.2.2)))) (a0, (IntKind.wrap .i64 (a1 - (1 : Int))), a2))
theorem e86 (t : Int × Int × List (Int × Int × Int × Int)) : evF (stpT Tryd.prog T28 K28) Tryd.f86 p86 r86 (.s .d (.s .d (.b (.l o86_s0 .d)))) t = (o86 t.1 t.2.1 t.2.2) := by kernel_rfl
theorem fo86 : FOk Tryd.prog 86 ⟨p86, r86, fun t => (o86 t.1 t.2.1 t.2.2)⟩ := FOk.run_eq (evF_ok (h := (.s .d (.s .d (.b (.l o86_s0 .d))))) (by kernel_rfl) (by kernel_rfl) (by kernel_rfl)) e86
def T29 : Tbl := (86, ⟨p86, r86, fun t => (o86 t.1 t.2.1 t.2.2)⟩) :: T28
theorem K29 : TOk Tryd.prog T29 := .cons K28 fo86
def o87_s0 : Sch := ⟨[(0, .v (.c (.own 0))), (1, .v (.c (.i .i64))), (2, .v (.c (.i .i64))), (3, .v (.c (.fn 40))), (9, .v (.c (.i .i64))), (10, .v (.c (.i .i64))), (36, .v (.c (.b)))], [.row (.p (.i .i64) (.p (.i .u8) (.p (.i .i64) (.i .u64)))) 42]⟩
def o87_s1 : Sch := ⟨[(0, .v (.c (.own 0))), (1, .v (.c (.i .i64))), (2, .v (.c (.i .i64))), (3, .v (.c (.fn 40))), (9, .v (.c (.i .i64))), (10, .v (.c (.i .i64)))], [.row (.p (.i .i64) (.p (.i .u8) (.p (.i .i64) (.i .u64)))) 42]⟩
def o87_s2 : Sch := ⟨[(0, .v (.c (.own 0))), (1, .v (.c (.i .i64))), (2, .v (.c (.i .i64))), (3, .v (.c (.fn 40))), (9, .v (.c (.i .i64))), (10, .v (.c (.i .i64))), (11, .v (.c (.i .i64)))], [.row (.p (.i .i64) (.p (.i .u8) (.p (.i .i64) (.i .u64)))) 42]⟩
def o87_s3 : Sch := ⟨[(0, .v (.c (.own 0))), (1, .v (.c (.i .i64))), (2, .v (.c (.i .i64))), (3, .v (.c (.fn 40))), (9, .v (.c (.i .i64))), (10, .v (.c (.i .i64))), (12, .v (.c (.i .i64)))], [.row (.p (.i .i64) (.p (.i .u8) (.p (.i .i64) (.i .u64)))) 42]⟩
def p87 : Sch := ⟨[(0, .v (.c (.own 0))), (1, .v (.c (.i .i64))), (2, .v (.c (.i .i64))), (3, .v (.c (.fn 40)))], [.row (.p (.i .i64) (.p (.i .u8) (.p (.i .i64) (.i .u64)))) 42]⟩
def r87 : List Sch := [⟨[(0, .v (.c (.b)))], [.row (.p (.i .i64) (.p (.i .u8) (.p (.i .i64) (.i .u64)))) 42]⟩]
def o87 (a0 : Int) (a1 : Int) (a2 : List (Int × Int × Int × Int)) : Option (Bool × List (Int × Int × Int × Int)) :=
 (loopO (σ := Int × Int × Int × Int × List (Int × Int × Int × Int)) fuelN (fun (v13 : Int × Int × Int × Int × List (Int × Int × Int × Int)) => (cnd (decide (v13.2.2.2.1 < (5 : Int))) (loopO (σ := Int × Int × Int × Int × List (Int × Int × Int × Int)) fuelN (fun (v14 : Int × Int × Int × Int × List (Int × Int × Int × Int)) => (bd (α := (Int × Int × Int × Int × Bool × List (Int × Int × Int × Int))) (cnd (decide (v14.2.2.1 < v14.2.1)) (gd (decide ((0 : Int) ≤ v14.2.2.1 ∧ v14.2.2.1 < ((v14.2.2.2.2.length : Nat) : Int))) (gd (decide ((0 : Int) ≤ (IntKind.wrap .i64 (v14.2.2.1 - (1 : Int))) ∧ (IntKind.wrap .i64 (v14.2.2.1 - (1 : Int))) < ((v14.2.2.2.2.length : Nat) : Int))) (bd (α := Int) (o40 ((List.getD v14.2.2.2.2 v14.2.2.1.toNat ((0 : Int), ((0 : Int), ((0 : Int), (0 : Int))))).1) (((List.getD v14.2.2.2.2 v14.2.2.1.toNat ((0 : Int), ((0 : Int), ((0 : Int), (0 : Int))))).2).1) ((((List.getD v14.2.2.2.2 v14.2.2.1.toNat ((0 : Int), ((0 : Int), ((0 : Int), (0 : Int))))).2).2).1) ((((List.getD v14.2.2.2.2 v14.2.2.1.toNat ((0 : Int), ((0 : Int), ((0 : Int), (0 : Int))))).2).2).2) ((List.getD v14.2.2.2.2 ((IntKind.wrap .i64 (v14.2.2.1 - (1 : Int))).toNat) ((0 : Int), ((0 : Int), ((0 : Int), (0 : Int))))).1) (((List.getD v14.2.2.2.2 ((IntKind.wrap .i64 (v14.2.2.1 - (1 : Int))).toNat) ((0 : Int), ((0 : Int), ((0 : Int), (0 : Int))))).2).1) ((((List.getD v14.2.2.2.2 ((IntKind.wrap .i64 (v14.2.2.1 - (1 : Int))).toNat) ((0 : Int), ((0 : Int), ((0 : Int), (0 : Int))))).2).2).1) ((((List.getD v14.2.2.2.2 ((IntKind.wrap .i64 (v14.2.2.1 - (1 : Int))).toNat) ((0 : Int), ((0 : Int), ((0 : Int), (0 : Int))))).2).2).2)) (fun v16 => (some (v14.1, v14.2.1, v14.2.2.1, v14.2.2.2.1, (!(decide (v16 < (0 : Int)))), v14.2.2.2.2)))))) (some (v14.1, v14.2.1, v14.2.2.1, v14.2.2.2.1, false, v14.2.2.2.2))) (fun v17 => (cnd v17.2.2.2.2.1 (some (Ctl.go (v17.1, v17.2.1, (IntKind.wrap .i64 (v17.2.2.1 + (1 : Int))), v17.2.2.2.1, v17.2.2.2.2.2))) (dnO (cnd (v17.2.2.1 == v17.2.1) (dnO (some (true, v17.2.2.2.2.2))) (cnd (decide ((IntKind.wrap .i64 (v17.2.1 - v17.1)) < (50 : Int))) (dnO (some (false, v17.2.2.2.2.2))) (gd (decide ((0 : Int) ≤ (IntKind.wrap .i64 (v17.2.2.1 - (1 : Int))) ∧ (IntKind.wrap .i64 (v17.2.2.1 - (1 : Int))) < ((v17.2.2.2.2.2.length : Nat) : Int))) (gd (decide ((0 : Int) ≤ v17.2.2.1 ∧ v17.2.2.1 < ((v17.2.2.2.2.2.length : Nat) : Int))) (gd (decide ((0 : Int) ≤ v17.2.2.1 ∧ v17.2.2.1 < ((v17.2.2.2.2.2.length : Nat) : Int))) (gd (decide ((0 : Int) ≤ (IntKind.wrap .i64 (v17.2.2.1 - (1 : Int))) ∧ (IntKind.wrap .i64 (v17.2.2.1 - (1 : Int))) < (((List.set v17.2.2.2.2.2 v17.2.2.1.toNat ((List.getD v17.2.2.2.2.2 ((IntKind.wrap .i64 (v17.2.2.1 - (1 : Int))).toNat) ((0 : Int), ((0 : Int), ((0 : Int), (0 : Int))))).1, (((List.getD v17.2.2.2.2.2 ((IntKind.wrap .i64 (v17.2.2.1 - (1 : Int))).toNat) ((0 : Int), ((0 : Int), ((0 : Int), (0 : Int))))).2).1, ((((List.getD v17.2.2.2.2.2 ((IntKind.wrap .i64 (v17.2.2.1 - (1 : Int))).toNat) ((0 : Int), ((0 : Int), ((0 : Int), (0 : Int))))).2).2).1, (((List.getD v17.2.2.2.2.2 ((IntKind.wrap .i64 (v17.2.2.1 - (1 : Int))).toNat) ((0 : Int), ((0 : Int), ((0 : Int), (0 : Int))))).2).2).2)))).length : Nat) : Int))) (bd (α := (Int × Int × Int × Int × List (Int × Int × Int × Int))) (cnd (decide ((IntKind.wrap .i64 (v17.2.2.1 - v17.1)) ≥ (2 : Int))) (loopO (σ := Int × Int × Int × Int × Int × List (Int × Int × Int × Int)) fuelN (fun (v18 : Int × Int × Int × Int × Int × List (Int × Int × Int × Int)) => (cnd (decide (v18.2.2.2.2.1 ≥ (1 : Int))) (gd (decide ((0 : Int) ≤ v18.2.2.2.2.1 ∧ v18.2.2.2.2.1 < ((v18.2.2.2.2.2.length : Nat) : Int))) (gd (decide ((0 : Int) ≤ (IntKind.wrap .i64 (v18.2.2.2.2.1 - (1 : Int))) ∧ (IntKind.wrap .i64 (v18.2.2.2.2.1 - (1 : Int))) < ((v18.2.2.2.2.2.length : Nat) : Int))) (bd (α := Int) (o40 ((List.getD v18.2.2.2.2.2 v18.2.2.2.2.1.toNat ((0 : Int), ((0 : Int), ((0 : Int), (0 : Int))))).1) (((List.getD v18.2.2.2.2.2 v18.2.2.2.2.1.toNat ((0 : Int), ((0 : Int), ((0 : Int), (0 : Int))))).2).1) ((((List.getD v18.2.2.2.2.2 v18.2.2.2.2.1.toNat ((0 : Int), ((0 : Int), ((0 : Int), (0 : Int))))).2).2).1) ((((List.getD v18.2.2.2.2.2 v18.2.2.2.2.1.toNat ((0 : Int), ((0 : Int), ((0 : Int), (0 : Int))))).2).2).2) ((List.getD v18.2.2.2.2.2 ((IntKind.wrap .i64 (v18.2.2.2.2.1 - (1 : Int))).toNat) ((0 : Int), ((0 : Int), ((0 : Int), (0 : Int))))).1) (((List.getD v18.2.2.2.2.2 ((IntKind.wrap .i64 (v18.2.2.2.2.1 - (1 : Int))).toNat) ((0 : Int), ((0 : Int), ((0 : Int), (0 : Int))))).2).1) ((((List.getD v18.2.2.2.2.2 ((IntKind.wrap .i64 (v18.2.2.2.2.1 - (1 : Int))).toNat) ((0 : Int), ((0 : Int), ((0 : Int), (0 : Int))))).2).2).1) ((((List.getD v18.2.2.2.2.2 ((IntKind.wrap .i64 (v18.2.2.2.2.1 - (1 : Int))).toNat) ((0 : Int), ((0 : Int), ((0 : Int), (0 : Int))))).2).2).2)) (fun v20 => (cnd (!(decide (v20 < (0 : Int)))) (dnO (some (v18.1, v18.2.1, v18.2.2.1, v18.2.2.2.1, v18.2.2.2.2.2))) (gd (decide ((0 : Int) ≤ (IntKind.wrap .i64 (v18.2.2.2.2.1 - (1 : Int))) ∧ (IntKind.wrap .i64 (v18.2.2.2.2.1 - (1 : Int))) < ((v18.2.2.2.2.2.length : Nat) : Int))) (gd (decide ((0 : Int) ≤ v18.2.2.2.2.1 ∧ v18.2.2.2.2.1 < ((v18.2.2.2.2.2.length : Nat) : Int))) (gd (decide ((0 : Int) ≤ v18.2.2.2.2.1 ∧ v18.2.2.2.2.1 < ((v18.2.2.2.2.2.length : Nat) : Int))) (gd (decide ((0 : Int) ≤ (IntKind.wrap .i64 (v18.2.2.2.2.1 - (1 : Int))) ∧ (IntKind.wrap .i64 (v18.2.2.2.2.1 - (1 : Int))) < (((List.set v18.2.2.2.2.2 v18.2.2.2.2.1.toNat ((List.getD v18.2.2.2.2.2 ((IntKind.wrap .i64 (v18.2.2.2.2.1 - (1 : Int))).toNat) ((0 : Int), ((0 : Int), ((0 : Int), (0 : Int))))).1, (((List.getD v18.2.2.2.2.2 ((IntKind.wrap .i64 (v18.2.2.2.2.1 - (1 : Int))).toNat) ((0 : Int), ((0 : Int), ((0 : Int), (0 : Int))))).2).1, ((((List.getD v18.2.2.2.2.2 ((IntKind.wrap .i64 (v18.2.2.2.2.1 - (1 : Int))).toNat) ((0 : Int), ((0 : Int), ((0 : Int), (0 : Int))))).2).2).1, (((List.getD v18.2.2.2.2.2 ((IntKind.wrap .i64 (v18.2.2.2.2.1 - (1 : Int))).toNat) ((0 : Int), ((0 : Int), ((0 : Int), (0 : Int))))).2).2).2)))).length : Nat) : Int))) (some (Ctl.go (v18.1, v18.2.1, v18.2.2.1, v18.2.2.2.1, (IntKind.wrap .i64 (v18.2.2.2.2.1 - (1 : Int))), (List.set (List.set v18.2.2.2.2.2 v18.2.2.2.2.1.toNat ((List.getD v18.2.2.2.2.2 ((IntKind.wrap .i64 (v18.2.2.2.2.1 - (1 : Int))).toNat) ((0 : Int), ((0 : Int), ((0 : Int), (0 : Int))))).1, (((List.getD v18.2.2.2.2.2 ((IntKind.wrap .i64 (v18.2.2.2.2.1 - (1 : Int))).toNat) ((0 : Int), ((0 : Int), ((0 : Int), (0 : Int))))).2).1, ((((List.getD v18.2.2.2.2.2 ((IntKind.wrap .i64 (v18.2.2.2.2.1 - (1 : Int))).toNat) ((0 : Int), ((0 : Int), ((0 : Int), (0 : Int))))).2).2).1, (((List.getD v18.2.2.2.2.2 ((IntKind.wrap .i64 (v18.2.2.2.2.1 - (1 : Int))).toNat) ((0 : Int), ((0 : Int), ((0 : Int), (0 : Int))))).2).2).2)))) ((IntKind.wrap .i64 (v18.2.2.2.2.1 - (1 : Int))).toNat) ((List.getD v18.2.2.2.2.2 v18.2.2.2.2.1.toNat ((0 : Int), ((0 : Int), ((0 : Int), (0 : Int))))).1, (((List.getD v18.2.2.2.2.2 v18.2.2.2.2.1.toNat ((0 : Int), ((0 : Int), ((0 : Int), (0 : Int))))).2).1, ((((List.getD v18.2.2.2.2.2 v18.2.2.2.2.1.toNat ((0 : Int), ((0 : Int), ((0 : Int), (0 : Int))))).2).2).1, (((List.getD v18.2.2.2.2.2 v18.2.2.2.2.1.toNat ((0 : Int), ((0 : Int), ((0 : Int), (0 : Int))))).2).2).2)))))))))))))))) (dnO (some (v18.1, v18.2.1, v18.2.2.1, v18.2.2.2.1, v18.2.2.2.2.2))))) (v17.1, v17.2.1, v17.2.2.1, v17.2.2.2.1, (IntKind.wrap .i64 (v17.2.2.1 - (1 : Int))), (List.set (List.set v17.2.2.2.2.2 v17.2.2.1.toNat ((List.getD v17.2.2.2.2.2 ((IntKind.wrap .i64 (v17.2.2.1 - (1 : Int))).toNat) ((0 : Int), ((0 : Int), ((0 : Int), (0 : Int))))).1, (((List.getD v17.2.2.2.2.2 ((IntKind.wrap .i64 (v17.2.2.1 - (1 : Int))).toNat) ((0 : Int), ((0 : Int), ((0 : Int), (0 : Int))))).2).1, ((((List.getD v17.2.2.2.2.2 ((IntKind.wrap .i64 (v17.2.2.1 - (1 : Int))).toNat) ((0 : Int), ((0 : Int), ((0 : Int), (0 : Int))))).2).2).1, (((List.getD v17.2.2.2.2.2 ((IntKind.wrap .i64 (v17.2.2.1 - (1 : Int))).toNat) ((0 : Int), ((0 : Int), ((0 : Int), (0 : Int))))).2).2).2)))) ((IntKind.wrap .i64 (v17.2.2.1 - (1 : Int))).toNat) ((List.getD v17.2.2.2.2.2 v17.2.2.1.toNat ((0 : Int), ((0 : Int), ((0 : Int), (0 : Int))))).1, (((List.getD v17.2.2.2.2.2 v17.2.2.1.toNat ((0 : Int), ((0 : Int), ((0 : Int), (0 : Int))))).2).1, ((((List.getD v17.2.2.2.2.2 v17.2.2.1.toNat ((0 : Int), ((0 : Int), ((0 : Int), (0 : Int))))).2).2).1, (((List.getD v17.2.2.2.2.2 v17.2.2.1.toNat ((0 : Int), ((0 : Int), ((0 : Int), (0 : Int))))).2).2).2)))))) (some (v17.1, v17.2.1, v17.2.2.1, v17.2.2.2.1, (List.set (List.set v17.2.2.2.2.2 v17.2.2.1.toNat ((List.getD v17.2.2.2.2.2 ((IntKind.wrap .i64 (v17.2.2.1 - (1 : Int))).toNat) ((0 : Int), ((0 : Int), ((0 : Int), (0 : Int))))).1, (((List.getD v17.2.2.2.2.2 ((IntKind.wrap .i64 (v17.2.2.1 - (1 : Int))).toNat) ((0 : Int), ((0 : Int), ((0 : Int), (0 : Int))))).2).1, ((((List.getD v17.2.2.2.2.2 ((IntKind.wrap .i64 (v17.2.2.1 - (1 : Int))).toNat) ((0 : Int), ((0 : Int), ((0 : Int), (0 : Int))))).2).2).1, (((List.getD v17.2.2.2.2.2 ((IntKind.wrap .i64 (v17.2.2.1 - (1 : Int))).toNat) ((0 : Int), ((0 : Int), ((0 : Int), (0 : Int))))).2).2).2)))) ((IntKind.wrap .i64 (v17.2.2.1 - (1 : Int))).toNat) ((List.getD v17.2.2.2.2.2 v17.2.2.1.toNat ((0 : Int), ((0 : Int), ((0 : Int), (0 : Int))))).1, (((List.getD v17.2.2.2.2.2 v17.2.2.1.toNat ((0 : Int), ((0 : Int), ((0 : Int), (0 : Int))))).2).1, ((((List.getD v17.2.2.2.2.2 v17.2.2.1.toNat ((0 : Int), ((0 : Int), ((0 : Int), (0 : Int))))).2).2).1, (((List.getD v17.2.2.2.2.2 v17.2.2.1.toNat ((0 : Int), ((0 : Int), ((0 : Int), (0 : Int))))).2).2).2))))))) (fun v21 => (cnd (decide ((IntKind.wrap .i64 (v21.2.1 - v21.2.2.1)) ≥ (2 : Int))) (loopO (σ := Int × Int × Int × Int × Int × List (Int × Int × Int × Int)) fuelN (fun (v22 : Int × Int × Int × Int × Int × List (Int × Int × Int × Int)) => (cnd (decide (v22.2.2.2.2.1 < v22.2.1)) (gd (decide ((0 : Int) ≤ v22.2.2.2.2.1 ∧ v22.2.2.2.2.1 < ((v22.2.2.2.2.2.length : Nat) : Int))) (gd (decide ((0 : Int) ≤ (IntKind.wrap .i64 (v22.2.2.2.2.1 - (1 : Int))) ∧ (IntKind.wrap .i64 (v22.2.2.2.2.1 - (1 : Int))) < ((v22.2.2.2.2.2.length : Nat) : Int))) (bd (α := Int) (o40 ((List.getD v22.2.2.2.2.2 v22.2.2.2.2.1.toNat ((0 : Int), ((0 : Int), ((0 : Int), (0 : Int))))).1) (((List.getD v22.2.2.2.2.2 v22.2.2.2.2.1.toNat ((0 : Int), ((0 : Int), ((0 : Int), (0 : Int))))).2).1) ((((List.getD v22.2.2.2.2.2 v22.2.2.2.2.1.toNat ((0 : Int), ((0 : Int), ((0 : Int), (0 : Int))))).2).2).1) ((((List.getD v22.2.2.2.2.2 v22.2.2.2.2.1.toNat ((0 : Int), ((0 : Int), ((0 : Int), (0 : Int))))).2).2).2) ((List.getD v22.2.2.2.2.2 ((IntKind.wrap .i64 (v22.2.2.2.2.1 - (1 : Int))).toNat) ((0 : Int), ((0 : Int), ((0 : Int), (0 : Int))))).1) (((List.getD v22.2.2.2.2.2 ((IntKind.wrap .i64 (v22.2.2.2.2.1 - (1 : Int))).toNat) ((0 : Int), ((0 : Int), ((0 : Int), (0 : Int))))).2).1) ((((List.getD v22.2.2.2.2.2 ((IntKind.wrap .i64 (v22.2.2.2.2.1 - (1 : Int))).toNat) ((0 : Int), ((0 : Int), ((0 : Int), (0 : Int))))).2).2).1) ((((List.getD v22.2.2.2.2.2 ((IntKind.wrap .i64 (v22.2.2.2.2.1 - (1 : Int))).toNat) ((0 : Int), ((0 : Int), ((0 : Int), (0 : Int))))).2).2).2)) (fun v24 => (cnd (!(decide (v24 < (0 : Int)))) (dnO (some (Ctl.go (v22.1, v22.2.1, v22.2.2.1, (IntKind.wrap .i64 (v22.2.2.2.1 + (1 : Int))), v22.2.2.2.2.2)))) (gd (decide ((0 : Int) ≤ (IntKind.wrap .i64 (v22.2.2.2.2.1 - (1 : Int))) ∧ (IntKind.wrap .i64 (v22.2.2.2.2.1 - (1 : Int))) < ((v22.2.2.2.2.2.length : Nat) : Int))) (gd (decide ((0 : Int) ≤ v22.2.2.2.2.1 ∧ v22.2.2.2.2.1 < ((v22.2.2.2.2.2.length : Nat) : Int))) (gd (decide ((0 : Int) ≤ v22.2.2.2.2.1 ∧ v22.2.2.2.2.1 < ((v22.2.2.2.2.2.length : Nat) : Int))) (gd (decide ((0 : Int) ≤ (IntKind.wrap .i64 (v22.2.2.2.2.1 - (1 : Int))) ∧ (IntKind.wrap .i64 (v22.2.2.2.2.1 - (1 : Int))) < (((List.set v22.2.2.2.2.2 v22.2.2.2.2.1.toNat ((List.getD v22.2.2.2.2.2 ((IntKind.wrap .i64 (v22.2.2.2.2.1 - (1 : Int))).toNat) ((0 : Int), ((0 : Int), ((0 : Int), (0 : Int))))).1, (((List.getD v22.2.2.2.2.2 ((IntKind.wrap .i64 (v22.2.2.2.2.1 - (1 : Int))).toNat) ((0 : Int), ((0 : Int), ((0 : Int), (0 : Int))))).2).1, ((((List.getD v22.2.2.2.2.2 ((IntKind.wrap .i64 (v22.2.2.2.2.1 - (1 : Int))).toNat) ((0 : Int), ((0 : Int), ((0 : Int), (0 : Int))))).2).2).1, (((List.getD v22.2.2.2.2.2 ((IntKind.wrap .i64 (v22.2.2.2.2.1 - (1 : Int))).toNat) ((0 : Int), ((0 : Int), ((0 : Int), (0 : Int))))).2).2).2)))).length : Nat) : Int))) (some (Ctl.go (v22.1, v22.2.1, v22.2.2.1, v22.2.2.2.1, (IntKind.wrap .i64 (v22.2.2.2.2.1 + (1 : Int))), (List.set (List.set v22.2.2.2.2.2 v22.2.2.2.2.1.toNat ((List.getD v22.2.2.2.2.2 ((IntKind.wrap .i64 (v22.2.2.2.2.1 - (1 : Int))).toNat) ((0 : Int), ((0 : Int), ((0 : Int), (0 : Int))))).1, (((List.getD v22.2.2.2.2.2 ((IntKind.wrap .i64 (v22.2.2.2.2.1 - (1 : Int))).toNat) ((0 : Int), ((0 : Int), ((0 : Int), (0 : Int))))).2).1, ((((List.getD v22.2.2.2.2.2 ((IntKind.wrap .i64 (v22.2.2.2.2.1 - (1 : Int))).toNat) ((0 : Int), ((0 : Int), ((0 : Int), (0 : Int))))).2).2).1, (((List.getD v22.2.2.2.2.2 ((IntKind.wrap .i64 (v22.2.2.2.2.1 - (1 : Int))).toNat) ((0 : Int), ((0 : Int), ((0 : Int), (0 : Int))))).2).2).2)))) ((IntKind.wrap .i64 (v22.2.2.2.2.1 - (1 : Int))).toNat) ((List.getD v22.2.2.2.2.2 v22.2.2.2.2.1.toNat ((0 : Int), ((0 : Int), ((0 : Int), (0 : Int))))).1, (((List.getD v22.2.2.2.2.2 v22.2.2.2.2.1.toNat ((0 : Int), ((0 : Int), ((0 : Int), (0 : Int))))).2).1, ((((List.getD v22.2.2.2.2.2 v22.2.2.2.2.1.toNat ((0 : Int), ((0 : Int), ((0 : Int), (0 : Int))))).2).2).1, (((List.getD v22.2.2.2.2.2 v22.2.2.2.2.1.toNat ((0 : Int), ((0 : Int), ((0 : Int), (0 : Int))))).2).2).2)))))))))))))))) (dnO (some (Ctl.go (v22.1, v22.2.1, v22.2.2.1, (IntKind.wrap .i64 (v22.2.2.2.1 + (1 : Int))), v22.2.2.2.2.2)))))) (v21.1, v21.2.1, v21.2.2.1, v21.2.2.2.1, (IntKind.wrap .i64 (v21.2.2.1 + (1 : Int))), v21.2.2.2.2)) (some (Ctl.go (v21.1, v21.2.1, v21.2.2.1, (IntKind.wrap .i64 (v21.2.2.2.1 + (1 : Int))), v21.2.2.2.2))))))))))))))))) (v13.1, v13.2.1, v13.2.2.1, v13.2.2.2.1, v13.2.2.2.2)) (dnO (some (false, v13.2.2.2.2))))) (a0, a1, (IntKind.wrap .i64 (a0 + (1 : Int))), (0 : Int), a2))
theorem e87 (t : Int × Int × List (Int × Int × Int × Int)) : evF (stpT Tryd.prog T29 K29) Tryd.f87 p87 r87 (.s .d (.s .d (.s (.s .d (.b (.l o87_s1 (.s .d (.s (.b (.s (.b (.l o87_s1 (.s (.s (.j false [o87_s0] .d) .d) .d))) (.s .d (.s .d (.s .d (.j false [o87_s1] (.s (.s .d (.c (.s .d (.b (.l o87_s2 .d))) .d)) (.s .d (.c (.s .d (.b (.l o87_s3 .d))) .d))))))))) .d))))) .d))) t = (o87 t.1 t.2.1 t.2.2) := by kernel_rfl
theorem fo87 : FOk Tryd.prog 87 ⟨p87, r87, fun t => (o87 t.1 t.2.1 t.2.2)⟩ := FOk.run_eq (evF_ok (h := (.s .d (.s .d (.s (.s .d (.b (.l o87_s1 (.s .d (.s (.b (.s (.b (.l o87_s1 (.s (.s (.j false [o87_s0] .d) .d) .d))) (.s .d (.s .d (.s .d (.j false [o87_s1] (.s (.s .d (.c (.s .d (.b (.l o87_s2 .d))) .d)) (.s .d (.c (.s .d (.b (.l o87_s3 .d))) .d))))))))) .d))))) .d)))) (by kernel_rfl) (by kernel_rfl) (by kernel_rfl)) e87
def T30 : Tbl := (87, ⟨p87, r87, fun t => (o87 t.1 t.2.1 t.2.2)⟩) :: T29
theorem K30 : TOk Tryd.prog T30 := .cons K29 fo87
def o88_s0 : Sch := ⟨[(0, .v (.c (.own 0))), (1, .v (.c (.i .i64))), (4, .v (.c (.fn 40))), (11, .v (.c (.i .i64))), (12, .v (.c (.i .i64))), (47, .v (.c (.b)))], [.row (.p (.i .i64) (.p (.i .u8) (.p (.i .i64) (.i .u64)))) 42]⟩
def o88_s1 : Sch := ⟨[(0, .v (.c (.own 0))), (1, .v (.c (.i .i64))), (4, .v (.c (.fn 40))), (11, .v (.c (.i .i64))), (12, .v (.c (.i .i64)))], [.row (.p (.i .i64) (.p (.i .u8) (.p (.i .i64) (.i .u64)))) 42]⟩
def o88_s2 : Sch := ⟨[(0, .v (.c (.own 0))), (1, .v (.c (.i .i64))), (4, .v (.c (.fn 40))), (11, .v (.c (.i .i64))), (12, .v (.c (.i .i64))), (65, .v (.c (.b)))], [.row (.p (.i .i64) (.p (.i .u8) (.p (.i .i64) (.i .u64)))) 42]⟩
def p88 : Sch := ⟨[(0, .v (.c (.own 0))), (1, .v (.c (.i .i64))), (2, .v (.c (.i .i64))), (3, .v (.c (.i .i64))), (4, .v (.c (.fn 40)))], [.row (.p (.i .i64) (.p (.i .u8) (.p (.i .i64) (.i .u64)))) 42]⟩
def r88 : List Sch := [⟨[(0, .v (.c (.i .i64)))], [.row (.p (.i .i64) (.p (.i .u8) (.p (.i .i64) (.i .u64)))) 42]⟩]
def o88 (a0 : Int) (a1 : Int) (a2 : Int) (a3 : List (Int × Int × Int × Int)) : Option (Int × List (Int × Int × Int × Int)) :=
 (gd (decide ((0 : Int) ≤ a2 ∧ a2 < ((a3.length : Nat) : Int))) (gd (decide ((0 : Int) ≤ a0 ∧ a0 < ((a3.length : Nat) : Int))) (gd (decide ((0 : Int) ≤ a0 ∧ a0 < ((a3.length : Nat) : Int))) (gd (decide ((0 : Int) ≤ a2 ∧ a2 < (((List.set a3 a0.toNat ((List.getD a3 a2.toNat ((0 : Int), ((0 : Int), ((0 : Int), (0 : Int))))).1, (((List.getD a3 a2.toNat ((0 : Int), ((0 : Int), ((0 : Int), (0 : Int))))).2).1, ((((List.getD a3 a2.toNat ((0 : Int), ((0 : Int), ((0 : Int), (0 : Int))))).2).2).1, (((List.getD a3 a2.toNat ((0 : Int), ((0 : Int), ((0 : Int), (0 : Int))))).2).2).2)))).length : Nat) : Int))) (loopO (σ := Int × Int × Int × List (Int × Int × Int × Int)) fuelN (fun (v1 : Int × Int × Int × List (Int × Int × Int × Int)) => (loopO (σ := Int × Int × Int × List (Int × Int × Int × Int)) fuelN (fun (v2 : Int × Int × Int × List (Int × Int × Int × Int)) => (bd (α := (Int × Int × Int × Bool × List (Int × Int × Int × Int))) (cnd (decide (v2.2.1 ≤ v2.2.2.1)) (gd (decide ((0 : Int) ≤ v2.1 ∧ v2.1 < ((v2.2.2.2.length : Nat) : Int))) (gd (decide ((0 : Int) ≤ v2.2.1 ∧ v2.2.1 < ((v2.2.2.2.length : Nat) : Int))) (bd (α := Int) (o40 ((List.getD v2.2.2.2 v2.1.toNat ((0 : Int), ((0 : Int), ((0 : Int), (0 : Int))))).1) (((List.getD v2.2.2.2 v2.1.toNat ((0 : Int), ((0 : Int), ((0 : Int), (0 : Int))))).2).1) ((((List.getD v2.2.2.2 v2.1.toNat ((0 : Int), ((0 : Int), ((0 : Int), (0 : Int))))).2).2).1) ((((List.getD v2.2.2.2 v2.1.toNat ((0 : Int), ((0 : Int), ((0 : Int), (0 : Int))))).2).2).2) ((List.getD v2.2.2.2 v2.2.1.toNat ((0 : Int), ((0 : Int), ((0 : Int), (0 : Int))))).1) (((List.getD v2.2.2.2 v2.2.1.toNat ((0 : Int), ((0 : Int), ((0 : Int), (0 : Int))))).2).1) ((((List.getD v2.2.2.2 v2.2.1.toNat ((0 : Int), ((0 : Int), ((0 : Int), (0 : Int))))).2).2).1) ((((List.getD v2.2.2.2 v2.2.1.toNat ((0 : Int), ((0 : Int), ((0 : Int), (0 : Int))))).2).2).2)) (fun v4 => (some (v2.1, v2.2.1, v2.2.2.1, (!(decide (v4 < (0 : Int)))), v2.2.2.2)))))) (some (v2.1, v2.2.1, v2.2.2.1, false, v2.2.2.2))) (fun v5 => (cnd v5.2.2.2.1 (some (Ctl.go (v5.1, (IntKind.wrap .i64 (v5.2.1 + (1 : Int))), v5.2.2.1, v5.2.2.2.2))) (dnO (loopO (σ := Int × Int × Int × List (Int × Int × Int × Int)) fuelN (fun (v6 : Int × Int × Int × List (Int × Int × Int × Int)) => (bd (α := (Int × Int × Int × Bool × List (Int × Int × Int × Int))) (cnd (decide (v6.2.1 ≤ v6.2.2.1)) (gd (decide ((0 : Int) ≤ v6.1 ∧ v6.1 < ((v6.2.2.2.length : Nat) : Int))) (gd (decide ((0 : Int) ≤ v6.2.2.1 ∧ v6.2.2.1 < ((v6.2.2.2.length : Nat) : Int))) (bd (α := Int) (o40 ((List.getD v6.2.2.2 v6.1.toNat ((0 : Int), ((0 : Int), ((0 : Int), (0 : Int))))).1) (((List.getD v6.2.2.2 v6.1.toNat ((0 : Int), ((0 : Int), ((0 : Int), (0 : Int))))).2).1) ((((List.getD v6.2.2.2 v6.1.toNat ((0 : Int), ((0 : Int), ((0 : Int), (0 : Int))))).2).2).1) ((((List.getD v6.2.2.2 v6.1.toNat ((0 : Int), ((0 : Int), ((0 : Int), (0 : Int))))).2).2).2) ((List.getD v6.2.2.2 v6.2.2.1.toNat ((0 : Int), ((0 : Int), ((0 : Int), (0 : Int))))).1) (((List.getD v6.2.2.2 v6.2.2.1.toNat ((0 : Int), ((0 : Int), ((0 : Int), (0 : Int))))).2).1) ((((List.getD v6.2.2.2 v6.2.2.1.toNat ((0 : Int), ((0 : Int), ((0 : Int), (0 : Int))))).2).2).1) ((((List.getD v6.2.2.2 v6.2.2.1.toNat ((0 : Int), ((0 : Int), ((0 : Int), (0 : Int))))).2).2).2)) (fun v8 => (some (v6.1, v6.2.1, v6.2.2.1, (decide (v8 < (0 : Int))), v6.2.2.2)))))) (some (v6.1, v6.2.1, v6.2.2.1, false, v6.2.2.2))) (fun v9 => (cnd v9.2.2.2.1 (some (Ctl.go (v9.1, v9.2.1, (IntKind.wrap .i64 (v9.2.2.1 - (1 : Int))), v9.2.2.2.2))) (dnO (cnd (decide (v9.2.1 > v9.2.2.1)) (dnO (some (v9.2.1, v9.2.2.2.2))) (gd (decide ((0 : Int) ≤ v9.2.2.1 ∧ v9.2.2.1 < ((v9.2.2.2.2.length : Nat) : Int))) (gd (decide ((0 : Int) ≤ v9.2.1 ∧ v9.2.1 < ((v9.2.2.2.2.length : Nat) : Int))) (gd (decide ((0 : Int) ≤ v9.2.1 ∧ v9.2.1 < ((v9.2.2.2.2.length : Nat) : Int))) (gd (decide ((0 : Int) ≤ v9.2.2.1 ∧ v9.2.2.1 < (((List.set v9.2.2.2.2 v9.2.1.toNat ((List.getD v9.2.2.2.2 v9.2.2.1.toNat ((0 : Int), ((0 : Int), ((0 : Int), (0 : Int))))).1, (((List.getD v9.2.2.2.2 v9.2.2.1.toNat ((0 : Int), ((0 : Int), ((0 : Int), (0 : Int))))).2).1, ((((List.getD v9.2.2.2.2 v9.2.2.1.toNat ((0 : Int), ((0 : Int), ((0 : Int), (0 : Int))))).2).2).1, (((List.getD v9.2.2.2.2 v9.2.2.1.toNat ((0 : Int), ((0 : Int), ((0 : Int), (0 : Int))))).2).2).2)))).length : Nat) : Int))) (some (Ctl.go (v9.1, (IntKind.wrap .i64 (v9.2.1 + (1 : Int))), (IntKind.wrap .i64 (v9.2.2.1 - (1 : Int))), (List.set (List.set v9.2.2.2.2 v9.2.1.toNat ((List.getD v9.2.2.2.2 v9.2.2.1.toNat ((0 : Int), ((0 : Int), ((0 : Int), (0 : Int))))).1, (((List.getD v9.2.2.2.2 v9.2.2.1.toNat ((0 : Int), ((0 : Int), ((0 : Int), (0 : Int))))).2).1, ((((List.getD v9.2.2.2.2 v9.2.2.1.toNat ((0 : Int), ((0 : Int), ((0 : Int), (0 : Int))))).2).2).1, (((List.getD v9.2.2.2.2 v9.2.2.1.toNat ((0 : Int), ((0 : Int), ((0 : Int), (0 : Int))))).2).2).2)))) v9.2.2.1.toNat ((List.getD v9.2.2.2.2 v9.2.1.toNat ((0 : Int), ((0 : Int), ((0 : Int), (0 : Int))))).1, (((List.getD v9.2.2.2.2 v9.2.1.toNat ((0 : Int), ((0 : Int), ((0 : Int), (0 : Int))))).2).1, ((((List.getD v9.2.2.2.2 v9.2.1.toNat ((0 : Int), ((0 : Int), ((0 : Int), (0 : Int))))).2).2).1, (((List.getD v9.2.2.2.2 v9.2.1.toNat ((0 : Int), ((0 : Int), ((0 : Int), (0 : Int))))).2).2).2))))))))))))))))) (v5.1, v5.2.1, v5.2.2.1, v5.2.2.2.2))))))) (v1.1, v1.2.1, v1.2.2.1, v1.2.2.2))) (a0, (IntKind.wrap .i64 (a0 + (1 : Int))), (IntKind.wrap .i64 (a1 - (1 : Int))), (List.set (List.set a3 a0.toNat ((List.getD a3 a2.toNat ((0 : Int), ((0 : Int), ((0 : Int), (0 : Int))))).1, (((List.getD a3 a2.toNat ((0 : Int), ((0 : Int), ((0 : Int), (0 : Int))))).2).1, ((((List.getD a3 a2.toNat ((0 : Int), ((0 : Int), ((0 : Int), (0 : Int))))).2).2).1, (((List.getD a3 a2.toNat ((0 : Int), ((0 : Int), ((0 : Int), (0 : Int))))).2).2).2)))) a2.toNat ((List.getD a3 a0.toNat ((0 : Int), ((0 : Int), ((0 : Int), (0 : Int))))).1, (((List.getD a3 a0.toNat ((0 : Int), ((0 : Int), ((0 : Int), (0 : Int))))).2).1, ((((List.getD a3 a0.toNat ((0 : Int), ((0 : Int), ((0 : Int), (0 : Int))))).2).2).1, (((List.getD a3 a0.toNat ((0 : Int), ((0 : Int), ((0 : Int), (0 : Int))))).2).2).2))))))))))
theorem e88 (t : Int × Int × Int × List (Int × Int × Int × Int)) : evF (stpT Tryd.prog T30 K30) Tryd.f88 p88 r88 (.s .d (.s .d (.s .d (.s (.b (.l o88_s1 (.b (.s (.b (.l o88_s1 (.s (.s (.j false [o88_s0] .d) .d) .d))) (.s (.b (.l o88_s1 (.s (.s (.j false [o88_s2] .d) .d) .d))) .d))))) .d)))) t = (o88 t.1 t.2.1 t.2.2.1 t.2.2.2) := by kernel_rfl
theorem fo88 : FOk Tryd.prog 88 ⟨p88, r88, fun t => (o88 t.1 t.2.1 t.2.2.1 t.2.2.2)⟩ := FOk.run_eq (evF_ok (h := (.s .d (.s .d (.s .d (.s (.b (.l o88_s1 (.b (.s (.b (.l o88_s1 (.s (.s (.j false [o88_s0] .d) .d) .d))) (.s (.b (.l o88_s1 (.s (.s (.j false [o88_s2] .d) .d) .d))) .d))))) .d))))) (by kernel_rfl) (by kernel_rfl) (by kernel_rfl)) e88
def T31 : Tbl := (88, ⟨p88, r88, fun t => (o88 t.1 t.2.1 t.2.2.1 t.2.2.2)⟩) :: T30
theorem K31 : TOk Tryd.prog T31 := .cons K30 fo88
def o89_s0 : Sch := ⟨[(0, .v (.c (.own 0))), (1, .v (.c (.i .i64))), (4, .v (.c (.fn 40))), (12, .v (.c (.i .i64))), (13, .v (.c (.i .i64))), (47, .v (.c (.b)))], [.row (.p (.i .i64) (.p (.i .u8) (.p (.i .i64) (.i .u64)))) 42]⟩
def o89_s1 : Sch := ⟨[(0, .v (.c (.own 0))), (1, .v (.c (.i .i64))), (4, .v (.c (.fn 40))), (12, .v (.c (.i .i64))), (13, .v (.c (.i .i64)))], [.row (.p (.i .i64) (.p (.i .u8) (.p (.i .i64) (.i .u64)))) 42]⟩
def o89_s2 : Sch := ⟨[(0, .v (.c (.own 0))), (1, .v (.c (.i .i64))), (4, .v (.c (.fn 40))), (12, .v (.c (.i .i64))), (13, .v (.c (.i .i64))), (66, .v (.c (.b)))], [.row (.p (.i .i64) (.p (.i .u8) (.p (.i .i64) (.i .u64)))) 42]⟩
def o89_s3 : Sch := ⟨[(0, .v (.c (.own 0))), (1, .v (.c (.i .i64))), (4, .v (.c (.fn 40))), (12, .v (.c (.i .i64))), (13, .v (.c (.i .i64))), (120, .v (.c (.b)))], [.row (.p (.i .i64) (.p (.i .u8) (.p (.i .i64) (.i .u64)))) 42]⟩
def o89_s4 : Sch := ⟨[(0, .v (.c (.own 0))), (1, .v (.c (.i .i64))), (4, .v (.c (.fn 40))), (12, .v (.c (.i .i64))), (13, .v (.c (.i .i64))), (139, .v (.c (.b)))], [.row (.p (.i .i64) (.p (.i .u8) (.p (.i .i64) (.i .u64)))) 42]⟩
def p89 : Sch := ⟨[(0, .v (.c (.own 0))), (1, .v (.c (.i .i64))), (2, .v (.c (.i .i64))), (3, .v (.c (.i .i64))), (4, .v (.c (.fn 40)))], [.row (.p (.i .i64) (.p (.i .u8) (.p (.i .i64) (.i .u64)))) 42]⟩
def r89 : List Sch := [⟨[(0, .tup [.c (.i .i64), .c (.b)])], [.row (.p (.i .i64) (.p (.i .u8) (.p (.i .i64) (.i .u64)))) 42]⟩]
def o89 (a0 : Int) (a1 : Int) (a2 : Int) (a3 : List (Int × Int × Int × Int)) : Option (Int × Bool × List (Int × Int × Int × Int)) :=
 (gd (decide ((0 : Int) ≤ a2 ∧ a2 < ((a3.length : Nat) : Int))) (gd (decide ((0 : Int) ≤ a0 ∧ a0 < ((a3.length : Nat) : Int))) (gd (decide ((0 : Int) ≤ a0 ∧ a0 < ((a3.length : Nat) : Int))) (gd (decide ((0 : Int) ≤ a2 ∧ a2 < (((List.set a3 a0.toNat ((List.getD a3 a2.toNat ((0 : Int), ((0 : Int), ((0 : Int), (0 : Int))))).1, (((List.getD a3 a2.toNat ((0 : Int), ((0 : Int), ((0 : Int), (0 : Int))))).2).1, ((((List.getD a3 a2.toNat ((0 : Int), ((0 : Int), ((0 : Int), (0 : Int))))).2).2).1, (((List.getD a3 a2.toNat ((0 : Int), ((0 : Int), ((0 : Int), (0 : Int))))).2).2).2)))).length : Nat) : Int))) (loopO (σ := Int × Int × Int × List (Int × Int × Int × Int)) fuelN (fun (v1 : Int × Int × Int × List (Int × Int × Int × Int)) => (bd (α := (Int × Int × Int × Bool × List (Int × Int × Int × Int))) (cnd (decide (v1.2.1 ≤ v1.2.2.1)) (gd (decide ((0 : Int) ≤ v1.2.1 ∧ v1.2.1 < ((v1.2.2.2.length : Nat) : Int))) (gd (decide ((0 : Int) ≤ v1.1 ∧ v1.1 < ((v1.2.2.2.length : Nat) : Int))) (bd (α := Int) (o40 ((List.getD v1.2.2.2 v1.2.1.toNat ((0 : Int), ((0 : Int), ((0 : Int), (0 : Int))))).1) (((List.getD v1.2.2.2 v1.2.1.toNat ((0 : Int), ((0 : Int), ((0 : Int), (0 : Int))))).2).1) ((((List.getD v1.2.2.2 v1.2.1.toNat ((0 : Int), ((0 : Int), ((0 : Int), (0 : Int))))).2).2).1) ((((List.getD v1.2.2.2 v1.2.1.toNat ((0 : Int), ((0 : Int), ((0 : Int), (0 : Int))))).2).2).2) ((List.getD v1.2.2.2 v1.1.toNat ((0 : Int), ((0 : Int), ((0 : Int), (0 : Int))))).1) (((List.getD v1.2.2.2 v1.1.toNat ((0 : Int), ((0 : Int), ((0 : Int), (0 : Int))))).2).1) ((((List.getD v1.2.2.2 v1.1.toNat ((0 : Int), ((0 : Int), ((0 : Int), (0 : Int))))).2).2).1) ((((List.getD v1.2.2.2 v1.1.toNat ((0 : Int), ((0 : Int), ((0 : Int), (0 : Int))))).2).2).2)) (fun v3 => (some (v1.1, v1.2.1, v1.2.2.1, (decide (v3 < (0 : Int))), v1.2.2.2)))))) (some (v1.1, v1.2.1, v1.2.2.1, false, v1.2.2.2))) (fun v4 => (cnd v4.2.2.2.1 (some (Ctl.go (v4.1, (IntKind.wrap .i64 (v4.2.1 + (1 : Int))), v4.2.2.1, v4.2.2.2.2))) (dnO (loopO (σ := Int × Int × Int × List (Int × Int × Int × Int)) fuelN (fun (v5 : Int × Int × Int × List (Int × Int × Int × Int)) => (bd (α := (Int × Int × Int × Bool × List (Int × Int × Int × Int))) (cnd (decide (v5.2.1 ≤ v5.2.2.1)) (gd (decide ((0 : Int) ≤ v5.2.2.1 ∧ v5.2.2.1 < ((v5.2.2.2.length : Nat) : Int))) (gd (decide ((0 : Int) ≤ v5.1 ∧ v5.1 < ((v5.2.2.2.length : Nat) : Int))) (bd (α := Int) (o40 ((List.getD v5.2.2.2 v5.2.2.1.toNat ((0 : Int), ((0 : Int), ((0 : Int), (0 : Int))))).1) (((List.getD v5.2.2.2 v5.2.2.1.toNat ((0 : Int), ((0 : Int), ((0 : Int), (0 : Int))))).2).1) ((((List.getD v5.2.2.2 v5.2.2.1.toNat ((0 : Int), ((0 : Int), ((0 : Int), (0 : Int))))).2).2).1) ((((List.getD v5.2.2.2 v5.2.2.1.toNat ((0 : Int), ((0 : Int), ((0 : Int), (0 : Int))))).2).2).2) ((List.getD v5.2.2.2 v5.1.toNat ((0 : Int), ((0 : Int), ((0 : Int), (0 : Int))))).1) (((List.getD v5.2.2.2 v5.1.toNat ((0 : Int), ((0 : Int), ((0 : Int), (0 : Int))))).2).1) ((((List.getD v5.2.2.2 v5.1.toNat ((0 : Int), ((0 : Int), ((0 : Int), (0 : Int))))).2).2).1) ((((List.getD v5.2.2.2 v5.1.toNat ((0 : Int), ((0 : Int), ((0 : Int), (0 : Int))))).2).2).2)) (fun v7 => (some (v5.1, v5.2.1, v5.2.2.1, (!(decide (v7 < (0 : Int)))), v5.2.2.2)))))) (some (v5.1, v5.2.1, v5.2.2.1, false, v5.2.2.2))) (fun v8 => (cnd v8.2.2.2.1 (some (Ctl.go (v8.1, v8.2.1, (IntKind.wrap .i64 (v8.2.2.1 - (1 : Int))), v8.2.2.2.2))) (dnO (cnd (decide (v8.2.1 > v8.2.2.1)) (gd (decide ((0 : Int) ≤ v8.1 ∧ v8.1 < ((v8.2.2.2.2.length : Nat) : Int))) (gd (decide ((0 : Int) ≤ v8.2.2.1 ∧ v8.2.2.1 < ((v8.2.2.2.2.length : Nat) : Int))) (gd (decide ((0 : Int) ≤ v8.2.2.1 ∧ v8.2.2.1 < ((v8.2.2.2.2.length : Nat) : Int))) (gd (decide ((0 : Int) ≤ v8.1 ∧ v8.1 < (((List.set v8.2.2.2.2 v8.2.2.1.toNat ((List.getD v8.2.2.2.2 v8.1.toNat ((0 : Int), ((0 : Int), ((0 : Int), (0 : Int))))).1, (((List.getD v8.2.2.2.2 v8.1.toNat ((0 : Int), ((0 : Int), ((0 : Int), (0 : Int))))).2).1, ((((List.getD v8.2.2.2.2 v8.1.toNat ((0 : Int), ((0 : Int), ((0 : Int), (0 : Int))))).2).2).1, (((List.getD v8.2.2.2.2 v8.1.toNat ((0 : Int), ((0 : Int), ((0 : Int), (0 : Int))))).2).2).2)))).length : Nat) : Int))) (some (v8.2.2.1, true, (List.set (List.set v8.2.2.2.2 v8.2.2.1.toNat ((List.getD v8.2.2.2.2 v8.1.toNat ((0 : Int), ((0 : Int), ((0 : Int), (0 : Int))))).1, (((List.getD v8.2.2.2.2 v8.1.toNat ((0 : Int), ((0 : Int), ((0 : Int), (0 : Int))))).2).1, ((((List.getD v8.2.2.2.2 v8.1.toNat ((0 : Int), ((0 : Int), ((0 : Int), (0 : Int))))).2).2).1, (((List.getD v8.2.2.2.2 v8.1.toNat ((0 : Int), ((0 : Int), ((0 : Int), (0 : Int))))).2).2).2)))) v8.1.toNat ((List.getD v8.2.2.2.2 v8.2.2.1.toNat ((0 : Int), ((0 : Int), ((0 : Int), (0 : Int))))).1, (((List.getD v8.2.2.2.2 v8.2.2.1.toNat ((0 : Int), ((0 : Int), ((0 : Int), (0 : Int))))).2).1, ((((List.getD v8.2.2.2.2 v8.2.2.1.toNat ((0 : Int), ((0 : Int), ((0 : Int), (0 : Int))))).2).2).1, (((List.getD v8.2.2.2.2 v8.2.2.1.toNat ((0 : Int), ((0 : Int), ((0 : Int), (0 : Int))))).2).2).2)))))))))) (gd (decide ((0 : Int) ≤ v8.2.2.1 ∧ v8.2.2.1 < ((v8.2.2.2.2.length : Nat) : Int))) (gd (decide ((0 : Int) ≤ v8.2.1 ∧ v8.2.1 < ((v8.2.2.2.2.length : Nat) : Int))) (gd (decide ((0 : Int) ≤ v8.2.1 ∧ v8.2.1 < ((v8.2.2.2.2.length : Nat) : Int))) (gd (decide ((0 : Int) ≤ v8.2.2.1 ∧ v8.2.2.1 < (((List.set v8.2.2.2.2 v8.2.1.toNat ((List.getD v8.2.2.2.2 v8.2.2.1.toNat ((0 : Int), ((0 : Int), ((0 : Int), (0 : Int))))).1, (((List.getD v8.2.2.2.2 v8.2.2.1.toNat ((0 : Int), ((0 : Int), ((0 : Int), (0 : Int))))).2).1, ((((List.getD v8.2.2.2.2 v8.2.2.1.toNat ((0 : Int), ((0 : Int), ((0 : Int), (0 : Int))))).2).2).1, (((List.getD v8.2.2.2.2 v8.2.2.1.toNat ((0 : Int), ((0 : Int), ((0 : Int), (0 : Int))))).2).2).2)))).length : Nat) : Int))) (loopO (σ := Int × Int × Int × List (Int × Int × Int × Int)) fuelN (fun (v9 : Int × Int × Int × List (Int × Int × Int × Int)) => (loopO (σ := Int × Int × Int × List (Int × Int × Int × Int)) fuelN (fun (v10 : Int × Int × Int × List (Int × Int × Int × Int)) => (bd (α := (Int × Int × Int × Bool × List (Int × Int × Int × Int))) (cnd (decide (v10.2.1 ≤ v10.2.2.1)) (gd (decide ((0 : Int) ≤ v10.2.1 ∧ v10.2.1 < ((v10.2.2.2.length : Nat) : Int))) (gd (decide ((0 : Int) ≤ v10.1 ∧ v10.1 < ((v10.2.2.2.length : Nat) : Int))) (bd (α := Int) (o40 ((List.getD v10.2.2.2 v10.2.1.toNat ((0 : Int), ((0 : Int), ((0 : Int), (0 : Int))))).1) (((List.getD v10.2.2.2 v10.2.1.toNat ((0 : Int), ((0 : Int), ((0 : Int), (0 : Int))))).2).1) ((((List.getD v10.2.2.2 v10.2.1.toNat ((0 : Int), ((0 : Int), ((0 : Int), (0 : Int))))).2).2).1) ((((List.getD v10.2.2.2 v10.2.1.toNat ((0 : Int), ((0 : Int), ((0 : Int), (0 : Int))))).2).2).2) ((List.getD v10.2.2.2 v10.1.toNat ((0 : Int), ((0 : Int), ((0 : Int), (0 : Int))))).1) (((List.getD v10.2.2.2 v10.1.toNat ((0 : Int), ((0 : Int), ((0 : Int), (0 : Int))))).2).1) ((((List.getD v10.2.2.2 v10.1.toNat ((0 : Int), ((0 : Int), ((0 : Int), (0 : Int))))).2).2).1) ((((List.getD v10.2.2.2 v10.1.toNat ((0 : Int), ((0 : Int), ((0 : Int), (0 : Int))))).2).2).2)) (fun v12 => (some (v10.1, v10.2.1, v10.2.2.1, (decide (v12 < (0 : Int))), v10.2.2.2)))))) (some (v10.1, v10.2.1, v10.2.2.1, false, v10.2.2.2))) (fun v13 => (cnd v13.2.2.2.1 (some (Ctl.go (v13.1, (IntKind.wrap .i64 (v13.2.1 + (1 : Int))), v13.2.2.1, v13.2.2.2.2))) (dnO (loopO (σ := Int × Int × Int × List (Int × Int × Int × Int)) fuelN (fun (v14 : Int × Int × Int × List (Int × Int × Int × Int)) => (bd (α := (Int × Int × Int × Bool × List (Int × Int × Int × Int))) (cnd (decide (v14.2.1 ≤ v14.2.2.1)) (gd (decide ((0 : Int) ≤ v14.2.2.1 ∧ v14.2.2.1 < ((v14.2.2.2.length : Nat) : Int))) (gd (decide ((0 : Int) ≤ v14.1 ∧ v14.1 < ((v14.2.2.2.length : Nat) : Int))) (bd (α := Int) (o40 ((List.getD v14.2.2.2 v14.2.2.1.toNat ((0 : Int), ((0 : Int), ((0 : Int), (0 : Int))))).1) (((List.getD v14.2.2.2 v14.2.2.1.toNat ((0 : Int), ((0 : Int), ((0 : Int), (0 : Int))))).2).1) ((((List.getD v14.2.2.2 v14.2.2.1.toNat ((0 : Int), ((0 : Int), ((0 : Int), (0 : Int))))).2).2).1) ((((List.getD v14.2.2.2 v14.2.2.1.toNat ((0 : Int), ((0 : Int), ((0 : Int), (0 : Int))))).2).2).2) ((List.getD v14.2.2.2 v14.1.toNat ((0 : Int), ((0 : Int), ((0 : Int), (0 : Int))))).1) (((List.getD v14.2.2.2 v14.1.toNat ((0 : Int), ((0 : Int), ((0 : Int), (0 : Int))))).2).1) ((((List.getD v14.2.2.2 v14.1.toNat ((0 : Int), ((0 : Int), ((0 : Int), (0 : Int))))).2).2).1) ((((List.getD v14.2.2.2 v14.1.toNat ((0 : Int), ((0 : Int), ((0 : Int), (0 : Int))))).2).2).2)) (fun v16 => (some (v14.1, v14.2.1, v14.2.2.1, (!(decide (v16 < (0 : Int)))), v14.2.2.2)))))) (some (v14.1, v14.2.1, v14.2.2.1, false, v14.2.2.2))) (fun v17 => (cnd v17.2.2.2.1 (some (Ctl.go (v17.1, v17.2.1, (IntKind.wrap .i64 (v17.2.2.1 - (1 : Int))), v17.2.2.2.2))) (dnO (cnd (decide (v17.2.1 > v17.2.2.1)) (dnO (gd (decide ((0 : Int) ≤ v17.1 ∧ v17.1 < ((v17.2.2.2.2.length : Nat) : Int))) (gd (decide ((0 : Int) ≤ v17.2.2.1 ∧ v17.2.2.1 < ((v17.2.2.2.2.length : Nat) : Int))) (gd (decide ((0 : Int) ≤ v17.2.2.1 ∧ v17.2.2.1 < ((v17.2.2.2.2.length : Nat) : Int))) (gd (decide ((0 : Int) ≤ v17.1 ∧ v17.1 < (((List.set v17.2.2.2.2 v17.2.2.1.toNat ((List.getD v17.2.2.2.2 v17.1.toNat ((0 : Int), ((0 : Int), ((0 : Int), (0 : Int))))).1, (((List.getD v17.2.2.2.2 v17.1.toNat ((0 : Int), ((0 : Int), ((0 : Int), (0 : Int))))).2).1, ((((List.getD v17.2.2.2.2 v17.1.toNat ((0 : Int), ((0 : Int), ((0 : Int), (0 : Int))))).2).2).1, (((List.getD v17.2.2.2.2 v17.1.toNat ((0 : Int), ((0 : Int), ((0 : Int), (0 : Int))))).2).2).2)))).length : Nat) : Int))) (some (v17.2.2.1, false, (List.set (List.set v17.2.2.2.2 v17.2.2.1.toNat ((List.getD v17.2.2.2.2 v17.1.toNat ((0 : Int), ((0 : Int), ((0 : Int), (0 : Int))))).1, (((List.getD v17.2.2.2.2 v17.1.toNat ((0 : Int), ((0 : Int), ((0 : Int), (0 : Int))))).2).1, ((((List.getD v17.2.2.2.2 v17.1.toNat ((0 : Int), ((0 : Int), ((0 : Int), (0 : Int))))).2).2).1, (((List.getD v17.2.2.2.2 v17.1.toNat ((0 : Int), ((0 : Int), ((0 : Int), (0 : Int))))).2).2).2)))) v17.1.toNat ((List.getD v17.2.2.2.2 v17.2.2.1.toNat ((0 : Int), ((0 : Int), ((0 : Int), (0 : Int))))).1, (((List.getD v17.2.2.2.2 v17.2.2.1.toNat ((0 : Int), ((0 : Int), ((0 : Int), (0 : Int))))).2).1, ((((List.getD v17.2.2.2.2 v17.2.2.1.toNat ((0 : Int), ((0 : Int), ((0 : Int), (0 : Int))))).2).2).1, (((List.getD v17.2.2.2.2 v17.2.2.1.toNat ((0 : Int), ((0 : Int), ((0 : Int), (0 : Int))))).2).2).2))))))))))) (gd (decide ((0 : Int) ≤ v17.2.2.1 ∧ v17.2.2.1 < ((v17.2.2.2.2.length : Nat) : Int))) (gd (decide ((0 : Int) ≤ v17.2.1 ∧ v17.2.1 < ((v17.2.2.2.2.length : Nat) : Int))) (gd (decide ((0 : Int) ≤ v17.2.1 ∧ v17.2.1 < ((v17.2.2.2.2.length : Nat) : Int))) (gd (decide ((0 : Int) ≤ v17.2.2.1 ∧ v17.2.2.1 < (((List.set v17.2.2.2.2 v17.2.1.toNat ((List.getD v17.2.2.2.2 v17.2.2.1.toNat ((0 : Int), ((0 : Int), ((0 : Int), (0 : Int))))).1, (((List.getD v17.2.2.2.2 v17.2.2.1.toNat ((0 : Int), ((0 : Int), ((0 : Int), (0 : Int))))).2).1, ((((List.getD v17.2.2.2.2 v17.2.2.1.toNat ((0 : Int), ((0 : Int), ((0 : Int), (0 : Int))))).2).2).1, (((List.getD v17.2.2.2.2 v17.2.2.1.toNat ((0 : Int), ((0 : Int), ((0 : Int), (0 : Int))))).2).2).2)))).length : Nat) : Int))) (some (Ctl.go (v17.1, (IntKind.wrap .i64 (v17.2.1 + (1 : Int))), (IntKind.wrap .i64 (v17.2.2.1 - (1 : Int))), (List.set (List.set v17.2.2.2.2 v17.2.1.toNat ((List.getD v17.2.2.2.2 v17.2.2.1.toNat ((0 : Int), ((0 : Int), ((0 : Int), (0 : Int))))).1, (((List.getD v17.2.2.2.2 v17.2.2.1.toNat ((0 : Int), ((0 : Int), ((0 : Int), (0 : Int))))).2).1, ((((List.getD v17.2.2.2.2 v17.2.2.1.toNat ((0 : Int), ((0 : Int), ((0 : Int), (0 : Int))))).2).2).1, (((List.getD v17.2.2.2.2 v17.2.2.1.toNat ((0 : Int), ((0 : Int), ((0 : Int), (0 : Int))))).2).2).2)))) v17.2.2.1.toNat ((List.getD v17.2.2.2.2 v17.2.1.toNat ((0 : Int), ((0 : Int), ((0 : Int), (0 : Int))))).1, (((List.getD v17.2.2.2.2 v17.2.1.toNat ((0 : Int), ((0 : Int), ((0 : Int), (0 : Int))))).2).1, ((((List.getD v17.2.2.2.2 v17.2.1.toNat ((0 : Int), ((0 : Int), ((0 : Int), (0 : Int))))).2).2).1, (((List.getD v17.2.2.2.2 v17.2.1.toNat ((0 : Int), ((0 : Int), ((0 : Int), (0 : Int))))).2).2).2))))))))))))))))) (v13.1, v13.2.1, v13.2.2.1, v13.2.2.2.2))))))) (v9.1, v9.2.1, v9.2.2.1, v9.2.2.2))) (v8.1, (IntKind.wrap .i64 (v8.2.1 + (1 : Int))), (IntKind.wrap .i64 (v8.2.2.1 - (1 : Int))), (List.set (List.set v8.2.2.2.2 v8.2.1.toNat ((List.getD v8.2.2.2.2 v8.2.2.1.toNat ((0 : Int), ((0 : Int), ((0 : Int), (0 : Int))))).1, (((List.getD v8.2.2.2.2 v8.2.2.1.toNat ((0 : Int), ((0 : Int), ((0 : Int), (0 : Int))))).2).1, ((((List.getD v8.2.2.2.2 v8.2.2.1.toNat ((0 : Int), ((0 : Int), ((0 : Int), (0 : Int))))).2).2).1, (((List.getD v8.2.2.2.2 v8.2.2.1.toNat ((0 : Int), ((0 : Int), ((0 : Int), (0 : Int))))).2).2).2)))) v8.2.2.1.toNat ((List.getD v8.2.2.2.2 v8.2.1.toNat ((0 : Int), ((0 : Int), ((0 : Int), (0 : Int))))).1, (((List.getD v8.2.2.2.2 v8.2.1.toNat ((0 : Int), ((0 : Int), ((0 : Int), (0 : Int))))).2).1, ((((List.getD v8.2.2.2.2 v8.2.1.toNat ((0 : Int), ((0 : Int), ((0 : Int), (0 : Int))))).2).2).1, (((List.getD v8.2.2.2.2 v8.2.1.toNat ((0 : Int), ((0 : Int), ((0 : Int), (0 : Int))))).2).2).2)))))))))))))))) (v4.1, v4.2.1, v4.2.2.1, v4.2.2.2.2))))))) (a0, (IntKind.wrap .i64 (a0 + (1 : Int))), (IntKind.wrap .i64 (a1 - (1 : Int))), (List.set (List.set a3 a0.toNat ((List.getD a3 a2.toNat ((0 : Int), ((0 : Int), ((0 : Int), (0 : Int))))).1, (((List.getD a3 a2.toNat ((0 : Int), ((0 : Int), ((0 : Int), (0 : Int))))).2).1, ((((List.getD a3 a2.toNat ((0 : Int), ((0 : Int), ((0 : Int), (0 : Int))))).2).2).1, (((List.getD a3 a2.toNat ((0 : Int), ((0 : Int), ((0 : Int), (0 : Int))))).2).2).2)))) a2.toNat ((List.getD a3 a0.toNat ((0 : Int), ((0 : Int), ((0 : Int), (0 : Int))))).1, (((List.getD a3 a0.toNat ((0 : Int), ((0 : Int), ((0 : Int), (0 : Int))))).2).1, ((((List.getD a3 a0.toNat ((0 : Int), ((0 : Int), ((0 : Int), (0 : Int))))).2).2).1, (((List.getD a3 a0.toNat ((0 : Int), ((0 : Int), ((0 : Int), (0 : Int))))).2).2).2))))))))))
theorem e89 (t : Int × Int × Int × List (Int × Int × Int × Int)) : evF (stpT Tryd.prog T31 K31) Tryd.f89 p89 r89 (.s .d (.s .d (.s .d (.s (.b (.l o89_s1 (.s (.s (.j false [o89_s0] .d) .d) .d))) (.s (.b (.l o89_s1 (.s (.s (.j false [o89_s2] .d) .d) .d))) (.s .d (.s .d (.s .d (.s .d (.s (.b (.l o89_s1 (.b (.s (.b (.l o89_s1 (.s (.s (.j false [o89_s3] .d) .d) .d))) (.s (.b (.l o89_s1 (.s (.s (.j false [o89_s4] .d) .d) .d))) .d))))) .d)))))))))) t = (o89 t.1 t.2.1 t.2.2.1 t.2.2.2) := by kernel_rfl
theorem fo89 : FOk Tryd.prog 89 ⟨p89, r89, fun t => (o89 t.1 t.2.1 t.2.2.1 t.2.2.2)⟩ := FOk.run_eq (evF_ok (h := (.s .d (.s .d (.s .d (.s (.b (.l o89_s1 (.s (.s (.j false [o89_s0] .d) .d) .d))) (.s (.b (.l o89_s1 (.s (.s (.j false [o89_s2] .d) .d) .d))) (.s .d (.s .d (.s .d (.s .d (.s (.b (.l o89_s1 (.b (.s (.b (.l o89_s1 (.s (.s (.j false [o89_s3] .d) .d) .d))) (.s (.b (.l o89_s1 (.s (.s (.j false [o89_s4] .d) .d) .d))) .d))))) .d))))))))))) (by kernel_rfl) (by kernel_rfl) (by kernel_rfl)) e89
def T32 : Tbl := (89, ⟨p89, r89, fun t => (o89 t.1 t.2.1 t.2.2.1 t.2.2.2)⟩) :: T31
theorem K32 : TOk Tryd.prog T32 := .cons K31 fo89
def o65_s0 : Sch := ⟨[(0, .v (.c (.own 0))), (1, .v (.c (.i .i64))), (2, .v (.c (.i .i64))), (3, .v (.c (.i .i64))), (4, .v (.c (.fn 40))), (10, .v (.c (.b))), (11, .v (.c (.b))), (12, .v (.c (.i .i64))), (13, .v (.c (.i .i64))), (75, .v (.c (.b)))], [.row (.p (.i .i64) (.p (.i .u8) (.p (.i .i64) (.i .u64)))) 42]⟩
def o65_s1 : Sch := ⟨[(0, .v (.c (.own 0))), (1, .v (.c (.i .i64))), (2, .v (.c (.i .i64))), (3, .v (.c (.i .i64))), (4, .v (.c (.fn 40))), (10, .v (.c (.b))), (11, .v (.c (.b))), (12, .v (.c (.i .i64))), (13, .v (.c (.i .i64))), (97, .v (.c (.b)))], [.row (.p (.i .i64) (.p (.i .u8) (.p (.i .i64) (.i .u64)))) 42]⟩
def o65_s2 : Sch := ⟨[(0, .v (.c (.own 0))), (1, .v (.c (.i .i64))), (2, .v (.c (.i .i64))), (3, .v (.c (.i .i64))), (4, .v (.c (.fn 40))), (10, .v (.c (.b))), (11, .v (.c (.b))), (12, .v (.c (.i .i64))), (13, .v (.c (.i .i64)))], [.row (.p (.i .i64) (.p (.i .u8) (.p (.i .i64) (.i .u64)))) 42]⟩
def o65_s3 : Sch := ⟨[(0, .v (.c (.own 0))), (1, .v (.c (.i .i64))), (2, .v (.c (.i .i64))), (3, .v (.c (.i .i64))), (4, .v (.c (.fn 40))), (10, .v (.c (.b))), (11, .v (.c (.b))), (12, .v (.c (.i .i64))), (13, .v (.c (.i .i64))), (14, .v (.c (.i .i64)))], [.row (.p (.i .i64) (.p (.i .u8) (.p (.i .i64) (.i .u64)))) 42]⟩
def o65_s4 : Sch := ⟨[(0, .v (.c (.own 0))), (1, .v (.c (.i .i64))), (2, .v (.c (.i .i64))), (3, .v (.c (.i .i64))), (4, .v (.c (.fn 40))), (10, .v (.c (.b))), (11, .v (.c (.b))), (12, .v (.c (.i .i64)))], [.row (.p (.i .i64) (.p (.i .u8) (.p (.i .i64) (.i .u64)))) 42]⟩
def o65_s5 : Sch := ⟨[(0, .v (.c (.own 0))), (1, .v (.c (.i .i64))), (2, .v (.c (.i .i64))), (3, .v (.c (.i .i64))), (4, .v (.c (.fn 40))), (10, .v (.c (.b))), (11, .v (.c (.b)))], [.row (.p (.i .i64) (.p (.i .u8) (.p (.i .i64) (.i .u64)))) 42]⟩
def p65 : Sch := ⟨[(0, .v (.c (.own 0))), (1, .v (.c (.i .i64))), (2, .v (.c (.i .i64))), (3, .v (.c (.i .i64))), (4, .v (.c (.fn 40)))], [.row (.p (.i .i64) (.p (.i .u8) (.p (.i .i64) (.i .u64)))) 42]⟩
def r65 : List Sch := [⟨[(0, .tup [])], [.row (.p (.i .i64) (.p (.i .u8) (.p (.i .i64) (.i .u64)))) 42]⟩]
def o65F (ih : Int → Int → Int → (List (Int × Int × Int × Int)) → Option (List (Int × Int × Int × Int))) (a0 : Int) (a1 : Int) (a2 : Int) (a3 : List (Int × Int × Int × Int)) : Option (List (Int × Int × Int × Int)) :=
 (loopO (σ := Int × Int × Int × Bool × Bool × List (Int × Int × Int × Int)) fuelN (fun (v1 : Int × Int × Int × Bool × Bool × List (Int × Int × Int × Int)) => (cnd (decide ((IntKind.wrap .i64 (v1.2.1 - v1.1)) ≤ (12 : Int))) (bd (α := (List (Int × Int × Int × Int))) (o82 v1.1 v1.2.1 v1.2.2.2.2.2) (fun v2 => (dnO (some v2)))) (cnd (v1.2.2.1 == (0 : Int)) (bd (α := (List (Int × Int × Int × Int))) (o83 v1.1 v1.2.1 v1.2.2.2.2.2) (fun v3 => (dnO (some v3)))) (bd (α := (Int × Int × Int × Bool × Bool × Int × List (Int × Int × Int × Int))) (cnd (!v1.2.2.2.1) (bd (α := (List (Int × Int × Int × Int))) (o84 v1.1 v1.2.1 v1.2.2.2.2.2) (fun v4 => (some (v1.1, v1.2.1, (IntKind.wrap .i64 (v1.2.2.1 - (1 : Int))), v1.2.2.2.1, v1.2.2.2.2.1, (IntKind.wrap .i64 (v1.2.1 - v1.1)), v4)))) (some (v1.1, v1.2.1, v1.2.2.1, v1.2.2.2.1, v1.2.2.2.2.1, (IntKind.wrap .i64 (v1.2.1 - v1.1)), v1.2.2.2.2.2))) (fun v5 => (bd (α := (Int × Int)) (o85 v5.2.2.2.2.2.2 v5.1 v5.2.1) (fun v6 => (bd (α := (Int × Int × Int × Bool × Bool × Int × Int × Int × List (Int × Int × Int × Int))) (cnd (v6.2 == (2 : Int)) (bd (α := (List (Int × Int × Int × Int))) (o86 v5.1 v5.2.1 v5.2.2.2.2.2.2) (fun v7 => (some (v5.1, v5.2.1, v5.2.2.1, v5.2.2.2.1, v5.2.2.2.2.1, v5.2.2.2.2.2.1, (IntKind.wrap .i64 ((IntKind.wrap .i64 (v5.2.1 - (1 : Int))) - (IntKind.wrap .i64 (v6.1 - v5.1)))), (1 : Int), v7)))) (some (v5.1, v5.2.1, v5.2.2.1, v5.2.2.2.1, v5.2.2.2.2.1, v5.2.2.2.2.2.1, v6.1, v6.2, v5.2.2.2.2.2.2))) (fun v8 => (jd (α := (Int × Int × Int × Bool × Bool × Int × Int × List (Int × Int × Int × Int))) (bd (α := (Int × Int × Int × Bool × Bool × Int × Int × Bool × List (Int × Int × Int × Int))) (cnd v8.2.2.2.1 (cnd v8.2.2.2.2.1 (some (v8.1, v8.2.1, v8.2.2.1, v8.2.2.2.1, v8.2.2.2.2.1, v8.2.2.2.2.2.1, v8.2.2.2.2.2.2.1, (v8.2.2.2.2.2.2.2.1 == (1 : Int)), v8.2.2.2.2.2.2.2.2)) (some (v8.1, v8.2.1, v8.2.2.1, v8.2.2.2.1, v8.2.2.2.2.1, v8.2.2.2.2.2.1, v8.2.2.2.2.2.2.1, false, v8.2.2.2.2.2.2.2.2))) (some (v8.1, v8.2.1, v8.2.2.1, v8.2.2.2.1, v8.2.2.2.2.1, v8.2.2.2.2.2.1, v8.2.2.2.2.2.2.1, false, v8.2.2.2.2.2.2.2.2))) (fun v9 => (cnd v9.2.2.2.2.2.2.2.1 (bd (α := (Bool × List (Int × Int × Int × Int))) (o87 v9.1 v9.2.1 v9.2.2.2.2.2.2.2.2) (fun v10 => (cnd v10.1 (dnO (dnO (some v10.2))) (some (Ctl.go (v9.1, v9.2.1, v9.2.2.1, v9.2.2.2.1, v9.2.2.2.2.1, v9.2.2.2.2.2.1, v9.2.2.2.2.2.2.1, v10.2)))))) (some (Ctl.go (v9.1, v9.2.1, v9.2.2.1, v9.2.2.2.1, v9.2.2.2.2.1, v9.2.2.2.2.2.1, v9.2.2.2.2.2.2.1, v9.2.2.2.2.2.2.2.2)))))) (fun v11 => (bd (α := (Int × Int × Int × Bool × Bool × Int × Int × Bool × List (Int × Int × Int × Int))) (cnd (decide (v11.1 > (0 : Int))) (gd (decide ((0 : Int) ≤ (IntKind.wrap .i64 (v11.1 - (1 : Int))) ∧ (IntKind.wrap .i64 (v11.1 - (1 : Int))) < ((v11.2.2.2.2.2.2.2.length : Nat) : Int))) (gd (decide ((0 : Int) ≤ v11.2.2.2.2.2.2.1 ∧ v11.2.2.2.2.2.2.1 < ((v11.2.2.2.2.2.2.2.length : Nat) : Int))) (bd (α := Int) (o40 ((List.getD v11.2.2.2.2.2.2.2 ((IntKind.wrap .i64 (v11.1 - (1 : Int))).toNat) ((0 : Int), ((0 : Int), ((0 : Int), (0 : Int))))).1) (((List.getD v11.2.2.2.2.2.2.2 ((IntKind.wrap .i64 (v11.1 - (1 : Int))).toNat) ((0 : Int), ((0 : Int), ((0 : Int), (0 : Int))))).2).1) ((((List.getD v11.2.2.2.2.2.2.2 ((IntKind.wrap .i64 (v11.1 - (1 : Int))).toNat) ((0 : Int), ((0 : Int), ((0 : Int), (0 : Int))))).2).2).1) ((((List.getD v11.2.2.2.2.2.2.2 ((IntKind.wrap .i64 (v11.1 - (1 : Int))).toNat) ((0 : Int), ((0 : Int), ((0 : Int), (0 : Int))))).2).2).2) ((List.getD v11.2.2.2.2.2.2.2 v11.2.2.2.2.2.2.1.toNat ((0 : Int), ((0 : Int), ((0 : Int), (0 : Int))))).1) (((List.getD v11.2.2.2.2.2.2.2 v11.2.2.2.2.2.2.1.toNat ((0 : Int), ((0 : Int), ((0 : Int), (0 : Int))))).2).1) ((((List.getD v11.2.2.2.2.2.2.2 v11.2.2.2.2.2.2.1.toNat ((0 : Int), ((0 : Int), ((0 : Int), (0 : Int))))).2).2).1) ((((List.getD v11.2.2.2.2.2.2.2 v11.2.2.2.2.2.2.1.toNat ((0 : Int), ((0 : Int), ((0 : Int), (0 : Int))))).2).2).2)) (fun v13 => (some (v11.1, v11.2.1, v11.2.2.1, v11.2.2.2.1, v11.2.2.2.2.1, v11.2.2.2.2.2.1, v11.2.2.2.2.2.2.1, (!(decide (v13 < (0 : Int)))), v11.2.2.2.2.2.2.2)))))) (some (v11.1, v11.2.1, v11.2.2.1, v11.2.2.2.1, v11.2.2.2.2.1, v11.2.2.2.2.2.1, v11.2.2.2.2.2.2.1, false, v11.2.2.2.2.2.2.2))) (fun v14 => (cnd v14.2.2.2.2.2.2.2.1 (bd (α := (Int × List (Int × Int × Int × Int))) (o88 v14.1 v14.2.1 v14.2.2.2.2.2.2.1 v14.2.2.2.2.2.2.2.2) (fun v15 => (some (Ctl.go (v15.1, v14.2.1, v14.2.2.1, v14.2.2.2.1, v14.2.2.2.2.1, v15.2))))) (bd (α := (Int × Bool × List (Int × Int × Int × Int))) (o89 v14.1 v14.2.1 v14.2.2.2.2.2.2.1 v14.2.2.2.2.2.2.2.2) (fun v16 => (cnd (decide ((IntKind.wrap .i64 (v16.1 - v14.1)) < (IntKind.wrap .i64 (v14.2.1 - v16.1)))) (bd (α := (List (Int × Int × Int × Int))) (ih v14.1 v16.1 v14.2.2.1 v16.2.2) (fun v17 => (some (Ctl.go ((IntKind.wrap .i64 (v16.1 + (1 : Int))), v14.2.1, v14.2.2.1, (decide ((IntKind.wrap .i64 (v16.1 - v14.1)) ≥ (IntKind.wrap .i64 (Int.tdiv v14.2.2.2.2.2.1 (8 : Int))))), v16.2.1, v17))))) (bd (α := (List (Int × Int × Int × Int))) (ih (IntKind.wrap .i64 (v16.1 + (1 : Int))) v14.2.1 v14.2.2.1 v16.2.2) (fun v18 => (some (Ctl.go (v14.1, v16.1, v14.2.2.1, (decide ((IntKind.wrap .i64 (v14.2.1 - v16.1)) ≥ (IntKind.wrap .i64 (Int.tdiv v14.2.2.2.2.2.1 (8 : Int))))), v16.2.1, v18)))))))))))))))))))))) (a0, a1, a2, true, true, a3))
def o65 (k : Nat) : Int → Int → Int → (List (Int × Int × Int × Int)) → Option (List (Int × Int × Int × Int)) := Nat.rec (motive := fun _ => Int → Int → Int → (List (Int × Int × Int × Int)) → Option (List (Int × Int × Int × Int))) (fun _ _ _ _ => none) (fun _ ih => o65F ih) k
theorem e65 (k : Nat) (h : TOk Tryd.prog ((65, ⟨p65, r65, fun t => o65 k t.1 t.2.1 t.2.2.1 t.2.2.2⟩) :: T32)) (t : Int × Int × Int × List (Int × Int × Int × Int)) : evF (stpT Tryd.prog ((65, ⟨p65, r65, fun t => o65 k t.1 t.2.1 t.2.2.1 t.2.2.2⟩) :: T32) h) Tryd.f65 p65 r65 (.s .d (.s .d (.b (.l o65_s5 (.b (.s .d (.s .d (.s .d (.j false [o65_s4] (.s .d (.s .d (.j false [o65_s3] (.s .d (.j true [o65_s2] (.s (.s (.j false [o65_s0] .d) .d) (.s (.s (.j false [o65_s1] .d) .d) .d)))))))))))))))) t = o65F (o65 k) t.1 t.2.1 t.2.2.1 t.2.2.2 := by kernel_rfl
theorem fo65 : ∀ k, FOk Tryd.prog 65 ⟨p65, r65, fun t => o65 k t.1 t.2.1 t.2.2.1 t.2.2.2⟩
  | 0 => FOk.of_none fun _ => rfl
  | k + 1 => FOk.run_eq (evF_ok (h := (.s .d (.s .d (.b (.l o65_s5 (.b (.s .d (.s .d (.s .d (.j false [o65_s4] (.s .d (.s .d (.j false [o65_s3] (.s .d (.j true [o65_s2] (.s (.s (.j false [o65_s0] .d) .d) (.s (.s (.j false [o65_s1] .d) .d) .d))))))))))))))))) (by kernel_rfl) (by kernel_rfl) (by kernel_rfl)) (e65 k (.cons K32 (fo65 k)))
def T33 : Tbl := (65, ⟨p65, r65, fun t => o65 fuelN t.1 t.2.1 t.2.2.1 t.2.2.2⟩) :: T32
theorem K33 : TOk Tryd.prog T33 := .cons K32 (fo65 fuelN)
def p39 : Sch := ⟨[(0, .v (.c (.own 0))), (1, .v (.c (.fn 40)))], [.row (.p (.i .i64) (.p (.i .u8) (.p (.i .i64) (.i .u64)))) 42]⟩
def r39 : List Sch := [⟨[(0, .tup [])], [.row (.p (.i .i64) (.p (.i .u8) (.p (.i .i64) (.i .u64)))) 42]⟩]
def o39 (a0 : List (Int × Int × Int × Int)) : Option (List (Int × Int × Int × Int)) :=
 (bd (α := Int) (o66 (IntKind.wrap .u64 ((a0.length : Nat) : Int))) (fun v1 => (bd (α := (List (Int × Int × Int × Int))) (o65 fuelN (0 : Int) ((a0.length : Nat) : Int) v1 a0) (fun v2 => (some v2)))))
theorem e39 (t : List (Int × Int × Int × Int)) : evF (stpT Tryd.prog T33 K33) Tryd.f39 p39 r39 .d t = (o39 t) := by kernel_rfl
theorem fo39 : FOk Tryd.prog 39 ⟨p39, r39, fun t => (o39 t)⟩ := FOk.run_eq (evF_ok (h := .d) (by kernel_rfl) (by kernel_rfl) (by kernel_rfl)) e39
def T34 : Tbl := (39, ⟨p39, r39, fun t => (o39 t)⟩) :: T33
theorem K34 : TOk Tryd.prog T34 := .cons K33 fo39
def o13v1_s0 : Sch := ⟨[(0, .v (.c (.ptr 0 0))), (4, .v (.c (.ptr 2 0))), (18, .v (.c (.i .i64))), (19, .v (.c (.i .i64)))], [.cells 84 [.own 1, .i .i64, .b], .row .y 5, .cells 86 [.ptr 0 0, .own 3, .i .u64, .b], .row (.p (.i .i64) (.p (.i .u8) (.p (.i .i64) (.i .u64)))) 42]⟩
def p13v1 : Sch := ⟨[(0, .v (.c (.ptr 0 0)))], [.cells 84 [.own 1, .i .i64, .b], .row .y 5]⟩
def r13v1 : List Sch := [⟨[(0, .tup [.c (.cst (.pointer none)), .c (.ic .i64 (19))])], [.cells 84 [.own 1, .i .i64, .b], .row .y 5]⟩, ⟨[(0, .tup [.c (.ptr 2 0), .c (.ic .i64 (0))])], [.cells 84 [.own 1, .i .i64, .b], .row .y 5, .cells 86 [.ptr 0 0, .own 3, .i .u64, .b], .row (.p (.i .i64) (.p (.i .u8) (.p (.i .i64) (.i .u64)))) 42]⟩]
def o13v1 (a0 : Int) (a1 : Bool) (a2 : List UInt8) : Option ((Int × Bool × List UInt8) ⊕ (Int × Bool × List UInt8 × Int × Bool × List (Int × Int × Int × Int))) :=
 (cnd a1 (some (Sum.inl (a0, a1, a2))) (bd (α := Int) (o32 a2 a0 a1) (fun v1 => (loopO (σ := Int × Int × Int × Bool × List UInt8 × Int × Bool × List (Int × Int × Int × Int)) fuelN (fun (v7 : Int × Int × Int × Bool × List UInt8 × Int × Bool × List (Int × Int × Int × Int)) => (cnd (decide (v7.2.1 < v7.1)) (gd (decide ((0 : Int) ≤ (IntKind.wrap .i64 (v7.2.1 * (30 : Int))) ∧ (IntKind.wrap .i64 (v7.2.1 * (30 : Int))) ≤ ((v7.2.2.2.2.1.length : Nat) : Int))) (bd (α := Int) (o32 v7.2.2.2.2.1 v7.2.2.1 v7.2.2.2.1) (fun v10 => (bd (α := (Int × Int × Int × Int × Bool)) (o38 (List.take (v7.2.2.2.2.1.length - (IntKind.wrap .i64 (v7.2.1 * (30 : Int))).toNat) (List.drop ((IntKind.wrap .i64 (v7.2.1 * (30 : Int))).toNat) v7.2.2.2.2.1)) v7.2.1 v10) (fun v11 => (cnd v11.2.2.2.2 (gd (decide ((v7.2.2.2.2.2.2.2.length + ([(v11.1, (v11.2.1, (v11.2.2.1, v11.2.2.2.1)))] : List (Int × Int × Int × Int)).length) * 32 ≤ 140737488355328)) (some (Ctl.go (v7.1, (IntKind.wrap .i64 (v7.2.1 + (1 : Int))), v7.2.2.1, v7.2.2.2.1, v7.2.2.2.2.1, (maxI v7.2.2.2.2.2.1 (IntKind.wrap .u64 (v11.2.2.2.1 + (1 : Int)))), v7.2.2.2.2.2.2.1, (v7.2.2.2.2.2.2.2 ++ ([(v11.1, (v11.2.1, (v11.2.2.1, v11.2.2.2.1)))] : List (Int × Int × Int × Int))))))) (some (Ctl.go (v7.1, (IntKind.wrap .i64 (v7.2.1 + (1 : Int))), v7.2.2.1, v7.2.2.2.1, v7.2.2.2.2.1, v7.2.2.2.2.2.1, v7.2.2.2.2.2.2.1, v7.2.2.2.2.2.2.2))))))))) (dnO (bd (α := (List (Int × Int × Int × Int))) (o39 v7.2.2.2.2.2.2.2) (fun v12 => (some (Sum.inr (v7.2.2.1, v7.2.2.2.1, v7.2.2.2.2.1, v7.2.2.2.2.2.1, v7.2.2.2.2.2.2.1, v12)))))))) (v1, (0 : Int), a0, a1, a2, (1 : Int), false, ([] : List (Int × Int × Int × Int)))))))
theorem e13v1 (t : Int × Bool × List UInt8) : evF (stpT Tryd.prog T34 K34) Tryd.f13 p13v1 r13v1 (.s .d (.s .d (.s .d (.s .d (.s (.s .d (.b (.l o13v1_s0 (.s .d (.s .d (.s (.b (.s .d (.s (.r 1) (.s .d (.c (.s (.r 2) .d) .d))))) .d)))))) .d))))) t = (o13v1 t.1 t.2.1 t.2.2) := by kernel_rfl
theorem fo13v1 : FOk Tryd.prog 13 ⟨p13v1, r13v1, fun t => (o13v1 t.1 t.2.1 t.2.2)⟩ := FOk.run_eq (evF_ok (h := (.s .d (.s .d (.s .d (.s .d (.s (.s .d (.b (.l o13v1_s0 (.s .d (.s .d (.s (.b (.s .d (.s (.r 1) (.s .d (.c (.s (.r 2) .d) .d))))) .d)))))) .d)))))) (by kernel_rfl) (by kernel_rfl) (by kernel_rfl)) e13v1
def T35 : Tbl := (13, ⟨p13v1, r13v1, fun t => (o13v1 t.1 t.2.1 t.2.2)⟩) :: T34
theorem K35 : TOk Tryd.prog T35 := .cons K34 fo13v1
def o42_s0 : Sch := ⟨[(0, .v (.c (.ptr 0 0))), (1, .v (.c (.i .i64))), (7, .v (.c (.i .i64))), (8, .v (.c (.i .u8))), (9, .v (.c (.ro .y false))), (10, .v (.c (.i .i64))), (11, .v (.c (.i .i64)))], [.cells 84 [.own 1, .i .i64, .b], .row .y 5]⟩
def o42_s1 : Sch := ⟨[(0, .v (.c (.ptr 0 0))), (1, .v (.c (.i .i64))), (9, .v (.c (.ro .y false))), (10, .v (.c (.i .i64))), (11, .v (.c (.i .i64)))], [.cells 84 [.own 1, .i .i64, .b], .row .y 5]⟩
def p42 : Sch := ⟨[(0, .v (.c (.ptr 0 0))), (1, .v (.c (.i .i64))), (2, .v (.c (.ro .y false)))], [.cells 84 [.own 1, .i .i64, .b], .row .y 5]⟩
def r42 : List Sch := [⟨[(0, .v (.c (.b)))], [.cells 84 [.own 1, .i .i64, .b], .row .y 5]⟩]
def o42 (a0 : Int) (a1 : List UInt8) (a2 : Int) (a3 : Bool) (a4 : List UInt8) : Option (Bool × Int × Bool × List UInt8) :=
 (loopO (σ := Int × List UInt8 × Int × Int × Int × Bool × List UInt8) fuelN (fun (v3 : Int × List UInt8 × Int × Int × Int × Bool × List UInt8) => (cnd (decide (v3.2.2.2.1 < v3.2.2.1)) (gd (decide ((0 : Int) ≤ v3.2.2.2.1 ∧ v3.2.2.2.1 < ((v3.2.1.length : Nat) : Int))) (cnd v3.2.2.2.2.2.1 (dnO (some (false, v3.2.2.2.2.1, v3.2.2.2.2.2.1, v3.2.2.2.2.2.2))) (cnd (v3.2.2.2.2.1 == (0 : Int)) (dnO (some (false, (-1 : Int), true, v3.2.2.2.2.2.2))) (bd (α := (Int × Int × Int × List UInt8 × Int × Int × Int × Bool × List UInt8)) (cnd (decide (v3.2.2.2.2.1 > (0 : Int))) (some (v3.1, v3.2.2.2.1, ((UInt8.toNat (List.getD v3.2.1 v3.2.2.2.1.toNat (0 : UInt8)) : Nat) : Int), v3.2.1, v3.2.2.1, v3.2.2.2.1, (IntKind.wrap .i64 (v3.2.2.2.2.1 - (1 : Int))), v3.2.2.2.2.2.1, v3.2.2.2.2.2.2)) (some (v3.1, v3.2.2.2.1, ((UInt8.toNat (List.getD v3.2.1 v3.2.2.2.1.toNat (0 : UInt8)) : Nat) : Int), v3.2.1, v3.2.2.1, v3.2.2.2.1, v3.2.2.2.2.1, v3.2.2.2.2.2.1, v3.2.2.2.2.2.2))) (fun v4 => (gd (decide ((0 : Int) ≤ (IntKind.wrap .i64 (v4.1 + v4.2.1)) ∧ (IntKind.wrap .i64 (v4.1 + v4.2.1)) < ((v4.2.2.2.2.2.2.2.2.length : Nat) : Int))) (some (Ctl.go (v4.1, v4.2.2.2.1, v4.2.2.2.2.1, (IntKind.wrap .i64 (v4.2.2.2.2.2.1 + (1 : Int))), v4.2.2.2.2.2.2.1, v4.2.2.2.2.2.2.2.1, (List.set v4.2.2.2.2.2.2.2.2 ((IntKind.wrap .i64 (v4.1 + v4.2.1)).toNat) (u8 v4.2.2.1))))))))))) (dnO (some (true, v3.2.2.2.2.1, v3.2.2.2.2.2.1, v3.2.2.2.2.2.2))))) (a0, a1, ((a1.length : Nat) : Int), (0 : Int), a2, a3, a4))
theorem e42 (t : Int × List UInt8 × Int × Bool × List UInt8) : evF (stpT Tryd.prog T35 K35) Tryd.f42 p42 r42 (.s .d (.s (.s .d (.b (.l o42_s1 (.s .d (.s .d (.s (.b (.s .d (.s .d (.s .d (.j false [o42_s0] .d))))) .d)))))) .d)) t = (o42 t.1 t.2.1 t.2.2.1 t.2.2.2.1 t.2.2.2.2) := by kernel_rfl
theorem fo42 : FOk Tryd.prog 42 ⟨p42, r42, fun t => (o42 t.1 t.2.1 t.2.2.1 t.2.2.2.1 t.2.2.2.2)⟩ := FOk.run_eq (evF_ok (h := (.s .d (.s (.s .d (.b (.l o42_s1 (.s .d (.s .d (.s (.b (.s .d (.s .d (.s .d (.j false [o42_s0] .d))))) .d)))))) .d))) (by kernel_rfl) (by kernel_rfl) (by kernel_rfl)) e42
def T36 : Tbl := (42, ⟨p42, r42, fun t => (o42 t.1 t.2.1 t.2.2.1 t.2.2.2.1 t.2.2.2.2)⟩) :: T35
theorem K36 : TOk Tryd.prog T36 := .cons K35 fo42
def o69_s0 : Sch := ⟨[(0, .v (.c (.i .u64))), (3, .v (.c (.own 0))), (7, .v (.c (.i .i64))), (8, .v (.c (.i .i64)))], [.row .y 5]⟩
def p69 : Sch := ⟨[(0, .v (.c (.i .u64)))], []⟩
def r69 : List Sch := [⟨[(0, .v (.c (.own 0)))], [.row .y 5]⟩]
def o69 (a0 : Int) : Option (List UInt8) :=
 (loopO (σ := Int × Int × Int × List UInt8) fuelN (fun (v2 : Int × Int × Int × List UInt8) => (cnd (decide (v2.2.2.1 < v2.2.1)) (gd (decide ((0 : Int) ≤ (IntKind.wrap .i64 ((8 : Int) * v2.2.2.1)))) (gd (decide ((0 : Int) ≤ v2.2.2.1 ∧ v2.2.2.1 < ((v2.2.2.2.length : Nat) : Int))) (some (Ctl.go (v2.1, v2.2.1, (IntKind.wrap .i64 (v2.2.2.1 + (1 : Int))), (List.set v2.2.2.2 v2.2.2.1.toNat (u8 (IntKind.wrap .u8 (shrK .u64 v2.1 (IntKind.wrap .i64 ((8 : Int) * v2.2.2.1))))))))))) (dnO (some v2.2.2.2)))) (a0, (((List.replicate (8 : Int).toNat (u8 (0 : Int))).length : Nat) : Int), (0 : Int), (List.replicate (8 : Int).toNat (u8 (0 : Int)))))
theorem e69 (t : Int) : evF (stpT Tryd.prog T36 K36) Tryd.f69 p69 r69 (.s .d (.s .d (.s (.s .d (.b (.l o69_s0 .d))) .d))) t = (o69 t) := by kernel_rfl
theorem fo69 : FOk Tryd.prog 69 ⟨p69, r69, fun t => (o69 t)⟩ := FOk.run_eq (evF_ok (h := (.s .d (.s .d (.s (.s .d (.b (.l o69_s0 .d))) .d)))) (by kernel_rfl) (by kernel_rfl) (by kernel_rfl)) e69
def T37 : Tbl := (69, ⟨p69, r69, fun t => (o69 t)⟩) :: T36
theorem K37 : TOk Tryd.prog T37 := .cons K36 fo69
def p92 : Sch := ⟨[(0, .v (.c (.cst (.slice none 0 0)))), (1, .v (.c (.i .i64)))], []⟩
def r92 : List Sch := [⟨[(0, .v (.c (.own 0)))], [.row .y 5]⟩]
def o92 (a0 : Int) : Option (List UInt8) :=
 (cnd (decide (a0 < (0 : Int))) none (cnd (decide ((IntKind.wrap .i64 (a0 - (IntKind.wrap .i64 ((0 : Int) - (0 : Int))))) > (0 : Int))) (gd (decide ((0 : Int) ≤ (0 : Int) ∧ (0 : Int) ≤ ((0 : Nat) : Int))) (gd (decide ((0 : Int) < (IntKind.wrap .i64 (a0 - (IntKind.wrap .i64 ((0 : Int) - (0 : Int))))) ∧ (IntKind.wrap .i64 (a0 - (IntKind.wrap .i64 ((0 : Int) - (0 : Int))))) * (1 : Int) ≤ (140737488355328 : Int))) (gd (decide ((0 : Int) ≤ (0 : Int) ∧ (0 : Int) ≤ (((List.replicate (IntKind.wrap .i64 (a0 - (IntKind.wrap .i64 ((0 : Int) - (0 : Int))))).toNat (u8 (0 : Int))).length : Nat) : Int))) (some (List.take ((0 : Int).toNat) (List.replicate (IntKind.wrap .i64 (a0 - (IntKind.wrap .i64 ((0 : Int) - (0 : Int))))).toNat (u8 (0 : Int)))))))) (some ([] : List UInt8))))
theorem e92 (t : Int) : evF (stpT Tryd.prog T37 K37) Tryd.f92 p92 r92 .d t = (o92 t) := by kernel_rfl
theorem fo92 : FOk Tryd.prog 92 ⟨p92, r92, fun t => (o92 t)⟩ := FOk.run_eq (evF_ok (h := .d) (by kernel_rfl) (by kernel_rfl) (by kernel_rfl)) e92
def T38 : Tbl := (92, ⟨p92, r92, fun t => (o92 t)⟩) :: T37
theorem K38 : TOk Tryd.prog T38 := .cons K37 fo92
def o68_s0 : Sch := ⟨[(0, .v (.c (.ro (.a .y) false))), (3, .v (.c (.i .i64))), (9, .v (.c (.ro (.a .y) false))), (10, .v (.c (.i .i64))), (11, .v (.c (.i .i64)))], []⟩
def o68_s1 : Sch := ⟨[(6, .v (.c (.own 0))), (25, .v (.c (.ro (.a .y) false))), (26, .v (.c (.i .i64))), (27, .v (.c (.i .i64)))], [.row .y 5]⟩
def p68 : Sch := ⟨[(0, .v (.c (.ro (.a .y) false)))], []⟩
def r68 : List Sch := [⟨[(0, .v (.c (.own 0)))], [.row .y 5]⟩]
def o68 (a0 : List (List UInt8)) : Option (List UInt8) :=
 (loopO (σ := List (List UInt8) × Int × List (List UInt8) × Int × Int) fuelN (fun (v2 : List (List UInt8) × Int × List (List UInt8) × Int × Int) => (cnd (decide (v2.2.2.2.2 < v2.2.2.2.1)) (gd (decide ((0 : Int) ≤ v2.2.2.2.2 ∧ v2.2.2.2.2 < ((v2.2.2.1.length : Nat) : Int))) (cnd (decide ((IntKind.wrap .i64 (v2.2.1 + (((List.getD v2.2.2.1 v2.2.2.2.2.toNat ([] : List UInt8)).length : Nat) : Int))) < (0 : Int))) none (some (Ctl.go (v2.1, (IntKind.wrap .i64 (v2.2.1 + (((List.getD v2.2.2.1 v2.2.2.2.2.toNat ([] : List UInt8)).length : Nat) : Int))), v2.2.2.1, v2.2.2.2.1, (IntKind.wrap .i64 (v2.2.2.2.2 + (1 : Int)))))))) (dnO (bd (α := (List UInt8)) (o92 v2.2.1) (fun v3 => (loopO (σ := List (List UInt8) × Int × Int × List UInt8) fuelN (fun (v5 : List (List UInt8) × Int × Int × List UInt8) => (cnd (decide (v5.2.2.1 < v5.2.1)) (gd (decide ((0 : Int) ≤ v5.2.2.1 ∧ v5.2.2.1 < ((v5.1.length : Nat) : Int))) (gd (decide ((v5.2.2.2.length + (List.getD v5.1 v5.2.2.1.toNat ([] : List UInt8)).length) * 1 ≤ 140737488355328)) (some (Ctl.go (v5.1, v5.2.1, (IntKind.wrap .i64 (v5.2.2.1 + (1 : Int))), (v5.2.2.2 ++ (List.getD v5.1 v5.2.2.1.toNat ([] : List UInt8)))))))) (dnO (some v5.2.2.2)))) (v2.1, ((v2.1.length : Nat) : Int), (0 : Int), v3))))))) (a0, (0 : Int), a0, ((a0.length : Nat) : Int), (0 : Int)))
theorem e68 (t : List (List UInt8)) : evF (stpT Tryd.prog T38 K38) Tryd.f68 p68 r68 (.s .d (.s .d (.s (.s .d (.b (.l o68_s0 .d))) (.s .d (.s (.s .d (.b (.l o68_s1 .d))) .d))))) t = (o68 t) := by kernel_rfl
theorem fo68 : FOk Tryd.prog 68 ⟨p68, r68, fun t => (o68 t)⟩ := FOk.run_eq (evF_ok (h := (.s .d (.s .d (.s (.s .d (.b (.l o68_s0 .d))) (.s .d (.s (.s .d (.b (.l o68_s1 .d))) .d)))))) (by kernel_rfl) (by kernel_rfl) (by kernel_rfl)) e68
def T39 : Tbl := (68, ⟨p68, r68, fun t => (o68 t)⟩) :: T38
theorem K39 : TOk Tryd.prog T39 := .cons K38 fo68
def p70 : Sch := ⟨[(0, .v (.c (.ro .y false)))], []⟩
def r70 : List Sch := [⟨[(0, .v (.c (.own 0)))], [.row .y 5]⟩]
def o70 (a0 : List UInt8) : Option (List UInt8) :=
 (bd (α := Int) (o81 a0) (fun v1 => (bd (α := (List UInt8)) (o47 a0) (fun v2 => (gd (decide ((v2.length + ([(u8 (IntKind.wrap .u8 v1)), (u8 (IntKind.wrap .u8 (shrK .u32 v1 (8 : Int)))), (u8 (IntKind.wrap .u8 (shrK .u32 v1 (16 : Int)))), (u8 (IntKind.wrap .u8 (shrK .u32 v1 (24 : Int))))] : List UInt8).length) * 1 ≤ 140737488355328)) (some (v2 ++ ([(u8 (IntKind.wrap .u8 v1)), (u8 (IntKind.wrap .u8 (shrK .u32 v1 (8 : Int)))), (u8 (IntKind.wrap .u8 (shrK .u32 v1 (16 : Int)))), (u8 (IntKind.wrap .u8 (shrK .u32 v1 (24 : Int))))] : List UInt8))))))))
theorem e70 (t : List UInt8) : evF (stpT Tryd.prog T39 K39) Tryd.f70 p70 r70 .d t = (o70 t) := by kernel_rfl
theorem fo70 : FOk Tryd.prog 70 ⟨p70, r70, fun t => (o70 t)⟩ := FOk.run_eq (evF_ok (h := .d) (by kernel_rfl) (by kernel_rfl) (by kernel_rfl)) e70
def T40 : Tbl := (70, ⟨p70, r70, fun t => (o70 t)⟩) :: T39
theorem K40 : TOk Tryd.prog T40 := .cons K39 fo70
def p43 : Sch := ⟨[(0, .v (.agg [.i .i64, .i .u8, .i .i64, .i .u64]))], []⟩
def r43 : List Sch := [⟨[(0, .v (.c (.own 0)))], [.row .y 5]⟩]
def o43 (a0 : Int) (a1 : Int) (a2 : Int) (a3 : Int) : Option (List UInt8) :=
 (bd (α := (List UInt8)) (o69 a3) (fun v5 => (bd (α := (List UInt8)) (o69 (IntKind.wrap .u64 a2)) (fun v6 => (bd (α := (List UInt8)) (o69 (IntKind.wrap .u64 a0)) (fun v7 => (bd (α := (List UInt8)) (o68 ([v5, v6, v7, ([(u8 a1)] : List UInt8)] : List (List UInt8))) (fun v8 => (bd (α := (List UInt8)) (o70 v8) (fun v9 => (some v9)))))))))))
theorem e43 (t : Int × Int × Int × Int) : evF (stpT Tryd.prog T40 K40) Tryd.f43 p43 r43 (.s .d (.s (.r 6) .d)) t = (o43 t.1 t.2.1 t.2.2.1 t.2.2.2) := by kernel_rfl
theorem fo43 : FOk Tryd.prog 43 ⟨p43, r43, fun t => (o43 t.1 t.2.1 t.2.2.1 t.2.2.2)⟩ := FOk.run_eq (evF_ok (h := (.s .d (.s (.r 6) .d))) (by kernel_rfl) (by kernel_rfl) (by kernel_rfl)) e43
def T41 : Tbl := (43, ⟨p43, r43, fun t => (o43 t.1 t.2.1 t.2.2.1 t.2.2.2)⟩) :: T40
theorem K41 : TOk Tryd.prog T41 := .cons K40 fo43
def p45 : Sch := ⟨[(0, .v (.agg [.i .i64, .i .u8, .i .i64, .i .u64])), (1, .v (.c (.ptr 0 0))), (2, .v (.c (.ptr 1 0)))], [.lent [.i .u64], .lent [.i .i64, .i .u8, .i .i64, .i .u64]]⟩
def r45 : List Sch := [⟨[(0, .v (.c (.b)))], [.no, .no]⟩]
def o45 (a0 : Int) (a1 : Int) (a2 : Int) (a3 : Int) (a4 : Int) (a5 : Int) (a6 : Int) (a7 : Int) (a8 : Int) : Option Bool :=
 (gd (decide (a4 ≠ 0)) (gd (decide (a4 ≠ 0)) (some ((Int.tmod a3 a4) == (Int.tmod a8 a4)))))
theorem e45 (t : Int × Int × Int × Int × Int × Int × Int × Int × Int) : evF (stpT Tryd.prog T41 K41) Tryd.f45 p45 r45 .d t = (o45 t.1 t.2.1 t.2.2.1 t.2.2.2.1 t.2.2.2.2.1 t.2.2.2.2.2.1 t.2.2.2.2.2.2.1 t.2.2.2.2.2.2.2.1 t.2.2.2.2.2.2.2.2) := by kernel_rfl
theorem fo45 : FOk Tryd.prog 45 ⟨p45, r45, fun t => (o45 t.1 t.2.1 t.2.2.1 t.2.2.2.1 t.2.2.2.2.1 t.2.2.2.2.2.1 t.2.2.2.2.2.2.1 t.2.2.2.2.2.2.2.1 t.2.2.2.2.2.2.2.2)⟩ := FOk.run_eq (evF_ok (h := .d) (by kernel_rfl) (by kernel_rfl) (by kernel_rfl)) e45
def T42 : Tbl := (45, ⟨p45, r45, fun t => (o45 t.1 t.2.1 t.2.2.1 t.2.2.2.1 t.2.2.2.2.1 t.2.2.2.2.2.1 t.2.2.2.2.2.2.1 t.2.2.2.2.2.2.2.1 t.2.2.2.2.2.2.2.2)⟩) :: T41
theorem K42 : TOk Tryd.prog T42 := .cons K41 fo45
def o71_s0 : Sch := ⟨[(0, .v (.c (.ro (.p (.i .i64) (.p (.i .u8) (.p (.i .i64) (.i .u64)))) false))), (1, .v (.c (.cap (.cap (.fn 45) (.ptr 0 0)) (.ptr 1 0)))), (7, .v (.c (.i .i64))), (8, .v (.c (.i .i64)))], [.cells 38 [.i .u64], .cells 42 [.i .i64, .i .u8, .i .i64, .i .u64]]⟩
def p71 : Sch := ⟨[(0, .v (.c (.ro (.p (.i .i64) (.p (.i .u8) (.p (.i .i64) (.i .u64)))) false))), (1, .v (.c (.cap (.cap (.fn 45) (.ptr 0 0)) (.ptr 1 0))))], [.cells 38 [.i .u64], .cells 42 [.i .i64, .i .u8, .i .i64, .i .u64]]⟩
def r71 : List Sch := [⟨[(0, .v (.c (.i .i64)))], [.cells 38 [.i .u64], .cells 42 [.i .i64, .i .u8, .i .i64, .i .u64]]⟩]
def o71 (a0 : List (Int × Int × Int × Int)) (a1 : Int) (a2 : Int) (a3 : Int) (a4 : Int) (a5 : Int) : Option (Int × Int × Int × Int × Int × Int) :=
 (loopO (σ := List (Int × Int × Int × Int) × Int × Int × Int × Int × Int × Int × Int) fuelN (fun (v3 : List (Int × Int × Int × Int) × Int × Int × Int × Int × Int × Int × Int) => (cnd (decide (v3.2.2.1 < v3.2.1)) (gd (decide ((0 : Int) ≤ v3.2.2.1 ∧ v3.2.2.1 < ((v3.1.length : Nat) : Int))) (bd (α := Bool) (o45 ((List.getD v3.1 v3.2.2.1.toNat ((0 : Int), ((0 : Int), ((0 : Int), (0 : Int))))).1) (((List.getD v3.1 v3.2.2.1.toNat ((0 : Int), ((0 : Int), ((0 : Int), (0 : Int))))).2).1) ((((List.getD v3.1 v3.2.2.1.toNat ((0 : Int), ((0 : Int), ((0 : Int), (0 : Int))))).2).2).1) ((((List.getD v3.1 v3.2.2.1.toNat ((0 : Int), ((0 : Int), ((0 : Int), (0 : Int))))).2).2).2) v3.2.2.2.1 v3.2.2.2.2.1 v3.2.2.2.2.2.1 v3.2.2.2.2.2.2.1 v3.2.2.2.2.2.2.2) (fun v4 => (cnd v4 (dnO (some (v3.2.2.1, v3.2.2.2.1, v3.2.2.2.2.1, v3.2.2.2.2.2.1, v3.2.2.2.2.2.2.1, v3.2.2.2.2.2.2.2))) (some (Ctl.go (v3.1, v3.2.1, (IntKind.wrap .i64 (v3.2.2.1 + (1 : Int))), v3.2.2.2.1, v3.2.2.2.2.1, v3.2.2.2.2.2.1, v3.2.2.2.2.2.2.1, v3.2.2.2.2.2.2.2))))))) (dnO (some ((-1 : Int), v3.2.2.2.1, v3.2.2.2.2.1, v3.2.2.2.2.2.1, v3.2.2.2.2.2.2.1, v3.2.2.2.2.2.2.2))))) (a0, ((a0.length : Nat) : Int), (0 : Int), a1, a2, a3, a4, a5))
theorem e71 (t : List (Int × Int × Int × Int) × Int × Int × Int × Int × Int) : evF (stpT Tryd.prog T42 K42) Tryd.f71 p71 r71 (.s .d (.s (.s .d (.b (.l o71_s0 .d))) .d)) t = (o71 t.1 t.2.1 t.2.2.1 t.2.2.2.1 t.2.2.2.2.1 t.2.2.2.2.2) := by kernel_rfl
theorem fo71 : FOk Tryd.prog 71 ⟨p71, r71, fun t => (o71 t.1 t.2.1 t.2.2.1 t.2.2.2.1 t.2.2.2.2.1 t.2.2.2.2.2)⟩ := FOk.run_eq (evF_ok (h := (.s .d (.s (.s .d (.b (.l o71_s0 .d))) .d))) (by kernel_rfl) (by kernel_rfl) (by kernel_rfl)) e71
def T43 : Tbl := (71, ⟨p71, r71, fun t => (o71 t.1 t.2.1 t.2.2.1 t.2.2.2.1 t.2.2.2.2.1 t.2.2.2.2.2)⟩) :: T42
theorem K43 : TOk Tryd.prog T43 := .cons K42 fo71
def o44_s0 : Sch := ⟨[(0, .v (.c (.own 0))), (1, .v (.c (.cap (.cap (.fn 45) (.ptr 1 0)) (.ptr 2 0)))), (5, .v (.c (.i .i64))), (6, .v (.c (.i .i64)))], [.row (.p (.i .i64) (.p (.i .u8) (.p (.i .i64) (.i .u64)))) 42, .cells 38 [.i .u64], .cells 42 [.i .i64, .i .u8, .i .i64, .i .u64]]⟩
def p44 : Sch := ⟨[(0, .v (.c (.own 0))), (1, .v (.c (.cap (.cap (.fn 45) (.ptr 1 0)) (.ptr 2 0))))], [.row (.p (.i .i64) (.p (.i .u8) (.p (.i .i64) (.i .u64)))) 42, .cells 38 [.i .u64], .cells 42 [.i .i64, .i .u8, .i .i64, .i .u64]]⟩
def r44 : List Sch := [⟨[(0, .v (.c (.own 3)))], [.no, .cells 38 [.i .u64], .cells 42 [.i .i64, .i .u8, .i .i64, .i .u64], .row (.p (.i .i64) (.p (.i .u8) (.p (.i .i64) (.i .u64)))) 42]⟩]
def o44 (a0 : List (Int × Int × Int × Int)) (a1 : Int) (a2 : Int) (a3 : Int) (a4 : Int) (a5 : Int) : Option (Int × Int × Int × Int × Int × List (Int × Int × Int × Int)) :=
 (bd (α := (Int × Int × Int × Int × Int × Int)) (o71 a0 a1 a2 a3 a4 a5) (fun v1 => (cnd (v1.1 == (-1 : Int)) (some (v1.2.1, v1.2.2.1, v1.2.2.2.1, v1.2.2.2.2.1, v1.2.2.2.2.2, a0)) (loopO (σ := Int × Int × List (Int × Int × Int × Int) × Int × Int × Int × Int × Int) fuelN (fun (v2 : Int × Int × List (Int × Int × Int × Int) × Int × Int × Int × Int × Int) => (cnd (decide (v2.2.1 < ((v2.2.2.1.length : Nat) : Int))) (gd (decide ((0 : Int) ≤ v2.2.1 ∧ v2.2.1 < ((v2.2.2.1.length : Nat) : Int))) (bd (α := Bool) (o45 ((List.getD v2.2.2.1 v2.2.1.toNat ((0 : Int), ((0 : Int), ((0 : Int), (0 : Int))))).1) (((List.getD v2.2.2.1 v2.2.1.toNat ((0 : Int), ((0 : Int), ((0 : Int), (0 : Int))))).2).1) ((((List.getD v2.2.2.1 v2.2.1.toNat ((0 : Int), ((0 : Int), ((0 : Int), (0 : Int))))).2).2).1) ((((List.getD v2.2.2.1 v2.2.1.toNat ((0 : Int), ((0 : Int), ((0 : Int), (0 : Int))))).2).2).2) v2.2.2.2.1 v2.2.2.2.2.1 v2.2.2.2.2.2.1 v2.2.2.2.2.2.2.1 v2.2.2.2.2.2.2.2) (fun v3 => (cnd (!v3) (gd (decide ((0 : Int) ≤ v2.1 ∧ v2.1 < ((v2.2.2.1.length : Nat) : Int))) (some (Ctl.go ((IntKind.wrap .i64 (v2.1 + (1 : Int))), (IntKind.wrap .i64 (v2.2.1 + (1 : Int))), (List.set v2.2.2.1 v2.1.toNat ((List.getD v2.2.2.1 v2.2.1.toNat ((0 : Int), ((0 : Int), ((0 : Int), (0 : Int))))).1, (((List.getD v2.2.2.1 v2.2.1.toNat ((0 : Int), ((0 : Int), ((0 : Int), (0 : Int))))).2).1, ((((List.getD v2.2.2.1 v2.2.1.toNat ((0 : Int), ((0 : Int), ((0 : Int), (0 : Int))))).2).2).1, (((List.getD v2.2.2.1 v2.2.1.toNat ((0 : Int), ((0 : Int), ((0 : Int), (0 : Int))))).2).2).2)))), v2.2.2.2.1, v2.2.2.2.2.1, v2.2.2.2.2.2.1, v2.2.2.2.2.2.2.1, v2.2.2.2.2.2.2.2)))) (some (Ctl.go (v2.1, (IntKind.wrap .i64 (v2.2.1 + (1 : Int))), v2.2.2.1, v2.2.2.2.1, v2.2.2.2.2.1, v2.2.2.2.2.2.1, v2.2.2.2.2.2.2.1, v2.2.2.2.2.2.2.2))))))) (dnO (gd (decide ((0 : Int) ≤ v2.1 ∧ v2.1 ≤ ((v2.2.2.1.length : Nat) : Int))) (gd (decide (v2.1.toNat ≤ v2.2.2.1.length ∧ v2.2.2.1.length ≤ v2.2.2.1.length)) (gd (decide ((0 : Int) ≤ v2.1 ∧ v2.1 ≤ (((ovrL v2.2.2.1 v2.1.toNat (List.replicate (v2.2.2.1.length - v2.1.toNat) ((0 : Int), ((0 : Int), ((0 : Int), (0 : Int)))))).length : Nat) : Int))) (some (v2.2.2.2.1, v2.2.2.2.2.1, v2.2.2.2.2.2.1, v2.2.2.2.2.2.2.1, v2.2.2.2.2.2.2.2, (List.take v2.1.toNat (ovrL v2.2.2.1 v2.1.toNat (List.replicate (v2.2.2.1.length - v2.1.toNat) ((0 : Int), ((0 : Int), ((0 : Int), (0 : Int))))))))))))))) (v1.1, (IntKind.wrap .i64 (v1.1 + (1 : Int))), a0, v1.2.1, v1.2.2.1, v1.2.2.2.1, v1.2.2.2.2.1, v1.2.2.2.2.2)))))
theorem e44 (t : List (Int × Int × Int × Int) × Int × Int × Int × Int × Int) : evF (stpT Tryd.prog T43 K43) Tryd.f44 p44 r44 (.s .d (.s .d (.s .d (.s (.s .d (.b (.l o44_s0 .d))) .d)))) t = (o44 t.1 t.2.1 t.2.2.1 t.2.2.2.1 t.2.2.2.2.1 t.2.2.2.2.2) := by kernel_rfl
theorem fo44 : FOk Tryd.prog 44 ⟨p44, r44, fun t => (o44 t.1 t.2.1 t.2.2.1 t.2.2.2.1 t.2.2.2.2.1 t.2.2.2.2.2)⟩ := FOk.run_eq (evF_ok (h := (.s .d (.s .d (.s .d (.s (.s .d (.b (.l o44_s0 .d))) .d))))) (by kernel_rfl) (by kernel_rfl) (by kernel_rfl)) e44
def T44 : Tbl := (44, ⟨p44, r44, fun t => (o44 t.1 t.2.1 t.2.2.1 t.2.2.2.1 t.2.2.2.2.1 t.2.2.2.2.2)⟩) :: T43
theorem K44 : TOk Tryd.prog T44 := .cons K43 fo44
def o16_s0 : Sch := ⟨[(0, .v (.c (.ptr 0 0))), (1, .v (.c (.i .i64))), (2, .v (.c (.i .u8))), (3, .v (.c (.i .i64))), (20, .v (.c (.b)))], [.cells 86 [.ptr 1 0, .own 3, .i .u64, .b], .cells 84 [.own 2, .i .i64, .b], .row .y 5, .row (.p (.i .i64) (.p (.i .u8) (.p (.i .i64) (.i .u64)))) 42]⟩
def o16_s1 : Sch := ⟨[(0, .v (.c (.ptr 0 0))), (10, .v (.c (.ptr 4 0))), (11, .v (.c (.ptr 5 0))), (81, .v (.c (.b)))], [.cells 86 [.ptr 1 0, .own 3, .i .u64, .b], .cells 84 [.own 2, .i .i64, .b], .row .y 5, .row (.p (.i .i64) (.p (.i .u8) (.p (.i .i64) (.i .u64)))) 42, .cells 42 [.i .i64, .i .u8, .i .i64, .i .u64], .cells 38 [.i .u64]]⟩
def p16 : Sch := ⟨[(0, .v (.c (.ptr 0 0))), (1, .v (.c (.i .i64))), (2, .v (.c (.i .u8))), (3, .v (.c (.i .i64)))], [.cells 86 [.ptr 1 0, .own 3, .i .u64, .b], .cells 84 [.own 2, .i .i64, .b], .row .y 5, .row (.p (.i .i64) (.p (.i .u8) (.p (.i .i64) (.i .u64)))) 42]⟩
def r16 : List Sch := [⟨[(0, .tup [.c (.i .u64), .c (.i .i64)])], [.cells 86 [.ptr 1 0, .own 4, .i .u64, .b], .cells 84 [.own 2, .i .i64, .b], .row .y 5, .no, .row (.p (.i .i64) (.p (.i .u8) (.p (.i .i64) (.i .u64)))) 42]⟩]
def o16 (a0 : Int) (a1 : Int) (a2 : Int) (a3 : Int) (a4 : Bool) (a5 : Int) (a6 : Bool) (a7 : List UInt8) (a8 : List (Int × Int × Int × Int)) : Option (Int × Int × Int × Bool × Int × Bool × List UInt8 × List (Int × Int × Int × Int)) :=
 (bd (α := (Int × Int × Int × Bool × Int × Bool × Int × Bool × List UInt8 × List (Int × Int × Int × Int))) (cnd (decide (a1 < (1 : Int))) (some (a0, a1, a2, true, a3, a4, a5, a6, a7, a8)) (some (a0, a1, a2, (decide (a1 > (8 : Int))), a3, a4, a5, a6, a7, a8))) (fun v1 => (cnd v1.2.2.2.1 (some ((0 : Int), (2 : Int), v1.2.2.2.2.1, v1.2.2.2.2.2.1, v1.2.2.2.2.2.2.1, v1.2.2.2.2.2.2.2.1, v1.2.2.2.2.2.2.2.2.1, v1.2.2.2.2.2.2.2.2.2)) (cnd (decide (v1.2.2.2.2.1 > (4611686018427387904 : Int))) (some ((0 : Int), (3 : Int), v1.2.2.2.2.1, v1.2.2.2.2.2.1, v1.2.2.2.2.2.2.1, v1.2.2.2.2.2.2.2.1, v1.2.2.2.2.2.2.2.2.1, v1.2.2.2.2.2.2.2.2.2)) (bd (α := Int) (o32 v1.2.2.2.2.2.2.2.2.1 v1.2.2.2.2.2.2.1 v1.2.2.2.2.2.2.2.1) (fun v2 => (gd (decide ((IntKind.wrap .u64 v2) ≠ 0)) (bd (α := (Bool × Int × Bool × Int × Bool × List UInt8 × List (Int × Int × Int × Int) × Int × Int × Int × Int × Int)) (cnd v1.2.2.2.2.2.1 (some (true, v1.2.2.2.2.1, v1.2.2.2.2.2.1, v1.2.2.2.2.2.2.1, v1.2.2.2.2.2.2.2.1, v1.2.2.2.2.2.2.2.2.1, v1.2.2.2.2.2.2.2.2.2, v1.1, v1.2.1, v1.2.2.1, v1.2.2.2.2.1, (IntKind.wrap .u64 v2))) (bd (α := (Bool × Int × Bool × List UInt8)) (o42 (IntKind.wrap .i64 ((IntKind.wrap .i64 (Int.tmod v1.2.2.2.2.1 (IntKind.wrap .u64 v2))) * (30 : Int))) ([(u8 (0 : Int))] : List UInt8) v1.2.2.2.2.2.2.1 v1.2.2.2.2.2.2.2.1 v1.2.2.2.2.2.2.2.2.1) (fun v7 => (cnd (!v7.1) (some (true, v1.2.2.2.2.1, v1.2.2.2.2.2.1, v7.2.1, v7.2.2.1, v7.2.2.2, v1.2.2.2.2.2.2.2.2.2, v1.1, v1.2.1, v1.2.2.1, v1.2.2.2.2.1, (IntKind.wrap .u64 v2))) (bd (α := (List UInt8)) (o43 v1.1 v1.2.1 v1.2.2.1 v1.2.2.2.2.1) (fun v8 => (bd (α := (Bool × Int × Bool × List UInt8)) (o42 (IntKind.wrap .i64 ((IntKind.wrap .i64 ((IntKind.wrap .i64 (Int.tmod v1.2.2.2.2.1 (IntKind.wrap .u64 v2))) * (30 : Int))) + (1 : Int))) v8 v7.2.1 v7.2.2.1 v7.2.2.2) (fun v9 => (cnd (!v9.1) (some (true, v1.2.2.2.2.1, v1.2.2.2.2.2.1, v9.2.1, v9.2.2.1, v9.2.2.2, v1.2.2.2.2.2.2.2.2.2, v1.1, v1.2.1, v1.2.2.1, v1.2.2.2.2.1, (IntKind.wrap .u64 v2))) (bd (α := (Bool × Int × Bool × List UInt8)) (o42 (IntKind.wrap .i64 ((IntKind.wrap .i64 (Int.tmod v1.2.2.2.2.1 (IntKind.wrap .u64 v2))) * (30 : Int))) ([(u8 (195 : Int))] : List UInt8) v9.2.1 v9.2.2.1 v9.2.2.2) (fun v10 => (some ((!v10.1), v1.2.2.2.2.1, v1.2.2.2.2.2.1, v10.2.1, v10.2.2.1, v10.2.2.2, v1.2.2.2.2.2.2.2.2.2, v1.1, v1.2.1, v1.2.2.1, v1.2.2.2.2.1, (IntKind.wrap .u64 v2)))))))))))))) (fun v11 => (cnd v11.1 (some ((0 : Int), (19 : Int), v11.2.1, true, v11.2.2.2.1, v11.2.2.2.2.1, v11.2.2.2.2.2.1, v11.2.2.2.2.2.2.1)) (bd (α := (Int × Int × Int × Int × Int × List (Int × Int × Int × Int))) (o44 v11.2.2.2.2.2.2.1 v11.2.2.2.2.2.2.2.2.2.2.2 v11.2.2.2.2.2.2.2.1 v11.2.2.2.2.2.2.2.2.1 v11.2.2.2.2.2.2.2.2.2.1 v11.2.2.2.2.2.2.2.2.2.2.1) (fun v12 => (gd (decide ((v12.2.2.2.2.2.length + ([(v12.2.1, (v12.2.2.1, (v12.2.2.2.1, v12.2.2.2.2.1)))] : List (Int × Int × Int × Int)).length) * 32 ≤ 140737488355328)) (some (v12.2.2.2.2.1, (0 : Int), (IntKind.wrap .u64 (v11.2.1 + (1 : Int))), v11.2.2.1, v11.2.2.2.1, v11.2.2.2.2.1, v11.2.2.2.2.2.1, (v12.2.2.2.2.2 ++ ([(v12.2.1, (v12.2.2.1, (v12.2.2.2.1, v12.2.2.2.2.1)))] : List (Int × Int × Int × Int))))))))))))))))))
theorem e16 (t : Int × Int × Int × Int × Bool × Int × Bool × List UInt8 × List (Int × Int × Int × Int)) : evF (stpT Tryd.prog T44 K44) Tryd.f16 p16 r16 (.s .d (.s .d (.s (.s (.j false [o16_s0] .d) .d) (.s .d (.s .d (.s .d (.s .d (.s (.s (.j false [o16_s1] (.r 3)) .d) (.s .d (.s (.r 2) .d)))))))))) t = (o16 t.1 t.2.1 t.2.2.1 t.2.2.2.1 t.2.2.2.2.1 t.2.2.2.2.2.1 t.2.2.2.2.2.2.1 t.2.2.2.2.2.2.2.1 t.2.2.2.2.2.2.2.2) := by kernel_rfl
theorem fo16 : FOk Tryd.prog 16 ⟨p16, r16, fun t => (o16 t.1 t.2.1 t.2.2.1 t.2.2.2.1 t.2.2.2.2.1 t.2.2.2.2.2.1 t.2.2.2.2.2.2.1 t.2.2.2.2.2.2.2.1 t.2.2.2.2.2.2.2.2)⟩ := FOk.run_eq (evF_ok (h := (.s .d (.s .d (.s (.s (.j false [o16_s0] .d) .d) (.s .d (.s .d (.s .d (.s .d (.s (.s (.j false [o16_s1] (.r 3)) .d) (.s .d (.s (.r 2) .d))))))))))) (by kernel_rfl) (by kernel_rfl) (by kernel_rfl)) e16
def T45 : Tbl := (16, ⟨p16, r16, fun t => (o16 t.1 t.2.1 t.2.2.1 t.2.2.2.1 t.2.2.2.2.1 t.2.2.2.2.2.1 t.2.2.2.2.2.2.1 t.2.2.2.2.2.2.2.1 t.2.2.2.2.2.2.2.2)⟩) :: T44
theorem K45 : TOk Tryd.prog T45 := .cons K44 fo16
def p33 : Sch := ⟨[(0, .v (.c (.ptr 0 0)))], [.lent [.ro .y false, .i .i64, .b]]⟩
def r33 : List Sch := [⟨[(0, .v (.c (.ptr 1 0)))], [.no, .cells 84 [.own 2, .i .i64, .b], .row .y 5]⟩]
def o33 (a0 : List UInt8) (a1 : Int) (a2 : Bool) : Option (Int × Bool × List UInt8) :=
 (bd (α := (List UInt8)) (o47 a0) (fun v2 => (some (a1, a2, v2))))
theorem e33 (t : List UInt8 × Int × Bool) : evF (stpT Tryd.prog T45 K45) Tryd.f33 p33 r33 (.s .d (.s .d (.s (.r 2) .d))) t = (o33 t.1 t.2.1 t.2.2) := by kernel_rfl
theorem fo33 : FOk Tryd.prog 33 ⟨p33, r33, fun t => (o33 t.1 t.2.1 t.2.2)⟩ := FOk.run_eq (evF_ok (h := (.s .d (.s .d (.s (.r 2) .d)))) (by kernel_rfl) (by kernel_rfl) (by kernel_rfl)) e33
def T46 : Tbl := (33, ⟨p33, r33, fun t => (o33 t.1 t.2.1 t.2.2)⟩) :: T45
theorem K46 : TOk Tryd.prog T46 := .cons K45 fo33
def p46 : Sch := ⟨[(0, .v (.c (.ro (.p (.i .i64) (.p (.i .u8) (.p (.i .i64) (.i .u64)))) false)))], []⟩
def r46 : List Sch := [⟨[(0, .v (.c (.own 0)))], [.row (.p (.i .i64) (.p (.i .u8) (.p (.i .i64) (.i .u64)))) 42]⟩]
def o46 (a0 : List (Int × Int × Int × Int)) : Option (List (Int × Int × Int × Int)) :=
 (nlO (List.isEmpty a0) (some ([] : List (Int × Int × Int × Int))) (gd (decide ((([] : List (Int × Int × Int × Int)).length + a0.length) * 32 ≤ 140737488355328)) (some (([] : List (Int × Int × Int × Int)) ++ a0))))
theorem e46 (t : List (Int × Int × Int × Int)) : evF (stpT Tryd.prog T46 K46) Tryd.f46 p46 r46 .d t = (o46 t) := by kernel_rfl
theorem fo46 : FOk Tryd.prog 46 ⟨p46, r46, fun t => (o46 t)⟩ := FOk.run_eq (evF_ok (h := .d) (by kernel_rfl) (by kernel_rfl) (by kernel_rfl)) e46
def T47 : Tbl := (46, ⟨p46, r46, fun t => (o46 t)⟩) :: T46
theorem K47 : TOk Tryd.prog T47 := .cons K46 fo46
def p19 : Sch := ⟨[(0, .v (.c (.ptr 0 0)))], [.lent [.ptr 1 0, .ro (.p (.i .i64) (.p (.i .u8) (.p (.i .i64) (.i .u64)))) false, .i .u64, .b], .lent [.ro .y false, .i .i64, .b]]⟩
def r19 : List Sch := [⟨[(0, .v (.c (.own 2)))], [.no, .no, .row (.p (.i .i64) (.p (.i .u8) (.p (.i .i64) (.i .u64)))) 42]⟩]
def o19 (a0 : List (Int × Int × Int × Int)) (a1 : Int) (a2 : Bool) (a3 : List UInt8) (a4 : Int) (a5 : Bool) : Option (List (Int × Int × Int × Int)) :=
 (bd (α := (List (Int × Int × Int × Int))) (o46 a0) (fun v1 => (some v1)))
theorem e19 (t : List (Int × Int × Int × Int) × Int × Bool × List UInt8 × Int × Bool) : evF (stpT Tryd.prog T47 K47) Tryd.f19 p19 r19 .d t = (o19 t.1 t.2.1 t.2.2.1 t.2.2.2.1 t.2.2.2.2.1 t.2.2.2.2.2) := by kernel_rfl
theorem fo19 : FOk Tryd.prog 19 ⟨p19, r19, fun t => (o19 t.1 t.2.1 t.2.2.1 t.2.2.2.1 t.2.2.2.2.1 t.2.2.2.2.2)⟩ := FOk.run_eq (evF_ok (h := .d) (by kernel_rfl) (by kernel_rfl) (by kernel_rfl)) e19
def T48 : Tbl := (19, ⟨p19, r19, fun t => (o19 t.1 t.2.1 t.2.2.1 t.2.2.2.1 t.2.2.2.2.1 t.2.2.2.2.2)⟩) :: T47
theorem K48 : TOk Tryd.prog T48 := .cons K47 fo19
def o36_s0 : Sch := ⟨[(3, .v (.c (.s))), (6, .v (.c (.ro (.p (.i .i64) (.p (.i .u8) (.p (.i .i64) (.i .u64)))) false))), (7, .v (.c (.i .i64))), (8, .v (.c (.i .i64)))], []⟩
def p36 : Sch := ⟨[(0, .v (.c (.ro (.p (.i .i64) (.p (.i .u8) (.p (.i .i64) (.i .u64)))) false)))], []⟩
def r36 : List Sch := [⟨[(0, .v (.c (.s)))], []⟩]
def o36 (a0 : List (Int × Int × Int × Int)) : Option (List UInt8) :=
 (loopO (σ := List UInt8 × List (Int × Int × Int × Int) × Int × Int) fuelN (fun (v10 : List UInt8 × List (Int × Int × Int × Int) × Int × Int) => (cnd (decide (v10.2.2.2 < v10.2.2.1)) (gd (decide ((0 : Int) ≤ v10.2.2.2 ∧ v10.2.2.2 < ((v10.2.1.length : Nat) : Int))) (bd (α := (List UInt8)) (o58 ((((List.getD v10.2.1 v10.2.2.2.toNat ((0 : Int), ((0 : Int), ((0 : Int), (0 : Int))))).2).2).2)) (fun v15 => (gd (decide (v15.length + ([32] : List UInt8).length ≤ 140737488355328)) (bd (α := (List UInt8)) (o59 ((((List.getD v10.2.1 v10.2.2.2.toNat ((0 : Int), ((0 : Int), ((0 : Int), (0 : Int))))).2).2).1)) (fun v16 => (gd (decide ((v15 ++ ([32] : List UInt8)).length + v16.length ≤ 140737488355328)) (gd (decide (((v15 ++ ([32] : List UInt8)) ++ v16).length + ([32] : List UInt8).length ≤ 140737488355328)) (bd (α := (List UInt8)) (o59 ((List.getD v10.2.1 v10.2.2.2.toNat ((0 : Int), ((0 : Int), ((0 : Int), (0 : Int))))).1)) (fun v17 => (gd (decide ((((v15 ++ ([32] : List UInt8)) ++ v16) ++ ([32] : List UInt8)).length + v17.length ≤ 140737488355328)) (gd (decide (((((v15 ++ ([32] : List UInt8)) ++ v16) ++ ([32] : List UInt8)) ++ v17).length + ([32] : List UInt8).length ≤ 140737488355328)) (bd (α := (List UInt8)) (o60 (IntKind.wrap .i64 (((List.getD v10.2.1 v10.2.2.2.toNat ((0 : Int), ((0 : Int), ((0 : Int), (0 : Int))))).2).1))) (fun v18 => (gd (decide ((((((v15 ++ ([32] : List UInt8)) ++ v16) ++ ([32] : List UInt8)) ++ v17) ++ ([32] : List UInt8)).length + v18.length ≤ 140737488355328)) (gd (decide (((((((v15 ++ ([32] : List UInt8)) ++ v16) ++ ([32] : List UInt8)) ++ v17) ++ ([32] : List UInt8)) ++ v18).length + ([10] : List UInt8).length ≤ 140737488355328)) (gd (decide (v10.1.length + (((((((v15 ++ ([32] : List UInt8)) ++ v16) ++ ([32] : List UInt8)) ++ v17) ++ ([32] : List UInt8)) ++ v18) ++ ([10] : List UInt8)).length ≤ 140737488355328)) (some (Ctl.go ((v10.1 ++ (((((((v15 ++ ([32] : List UInt8)) ++ v16) ++ ([32] : List UInt8)) ++ v17) ++ ([32] : List UInt8)) ++ v18) ++ ([10] : List UInt8))), v10.2.1, v10.2.2.1, (IntKind.wrap .i64 (v10.2.2.2 + (1 : Int))))))))))))))))))))))) (dnO (some v10.1)))) (([] : List UInt8), a0, ((a0.length : Nat) : Int), (0 : Int)))
theorem e36 (t : List (Int × Int × Int × Int)) : evF (stpT Tryd.prog T48 K48) Tryd.f36 p36 r36 (.s .d (.s .d (.s (.s .d (.b (.l o36_s0 .d))) .d))) t = (o36 t) := by kernel_rfl
theorem fo36 : FOk Tryd.prog 36 ⟨p36, r36, fun t => (o36 t)⟩ := FOk.run_eq (evF_ok (h := (.s .d (.s .d (.s (.s .d (.b (.l o36_s0 .d))) .d)))) (by kernel_rfl) (by kernel_rfl) (by kernel_rfl)) e36
def T49 : Tbl := (36, ⟨p36, r36, fun t => (o36 t)⟩) :: T48
theorem K49 : TOk Tryd.prog T49 := .cons K48 fo36
def p15 : Sch := ⟨[(0, .v (.c (.ptr 0 0))), (1, .v (.c (.i .i64)))], [.cells 84 [.own 1, .i .i64, .b], .row .y 5]⟩
def r15 : List Sch := [⟨[(0, .tup [])], [.cells 84 [.own 1, .i .i64, .b], .row .y 5]⟩]
def o15 (a0 : Int) (a1 : Int) (a2 : Bool) (a3 : List UInt8) : Option (Int × Bool × List UInt8) :=
 (some ((maxI a0 (0 : Int)), a2, a3))
theorem e15 (t : Int × Int × Bool × List UInt8) : evF (stpT Tryd.prog T49 K49) Tryd.f15 p15 r15 .d t = (o15 t.1 t.2.1 t.2.2.1 t.2.2.2) := by kernel_rfl
theorem fo15 : FOk Tryd.prog 15 ⟨p15, r15, fun t => (o15 t.1 t.2.1 t.2.2.1 t.2.2.2)⟩ := FOk.run_eq (evF_ok (h := .d) (by kernel_rfl) (by kernel_rfl) (by kernel_rfl)) e15
def T50 : Tbl := (15, ⟨p15, r15, fun t => (o15 t.1 t.2.1 t.2.2.1 t.2.2.2)⟩) :: T49
theorem K50 : TOk Tryd.prog T50 := .cons K49 fo15
def p16v1 : Sch := ⟨[(0, .v (.c (.cst (.pointer none)))), (1, .v (.c (.i .i64))), (2, .v (.c (.i .u8))), (3, .v (.c (.i .i64)))], []⟩
def r16v1 : List Sch := [⟨[(0, .tup [.c (.ic .u64 (0)), .c (.ic .i64 (1))])], []⟩]
def o16v1 (a0 : Int) (a1 : Int) (a2 : Int) : Option Unit :=
 (some ())
theorem e16v1 (t : Int × Int × Int) : evF (stpT Tryd.prog T50 K50) Tryd.f16 p16v1 r16v1 .d t = (o16v1 t.1 t.2.1 t.2.2) := by kernel_rfl
theorem fo16v1 : FOk Tryd.prog 16 ⟨p16v1, r16v1, fun t => (o16v1 t.1 t.2.1 t.2.2)⟩ := FOk.run_eq (evF_ok (h := .d) (by kernel_rfl) (by kernel_rfl) (by kernel_rfl)) e16v1
def T51 : Tbl := (16, ⟨p16v1, r16v1, fun t => (o16v1 t.1 t.2.1 t.2.2)⟩) :: T50
theorem K51 : TOk Tryd.prog T51 := .cons K50 fo16v1
def p17 : Sch := ⟨[(0, .v (.c (.ptr 0 0)))], [.cells 84 [.own 1, .i .i64, .b], .row .y 5]⟩
def r17 : List Sch := [⟨[(0, .tup [])], [.cells 84 [.own 1, .ic .i64 (-1), .b], .row .y 5]⟩]
def o17 (a0 : Int) (a1 : Bool) (a2 : List UInt8) : Option (Bool × List UInt8) :=
 (some (false, a2))
theorem e17 (t : Int × Bool × List UInt8) : evF (stpT Tryd.prog T51 K51) Tryd.f17 p17 r17 .d t = (o17 t.1 t.2.1 t.2.2) := by kernel_rfl
theorem fo17 : FOk Tryd.prog 17 ⟨p17, r17, fun t => (o17 t.1 t.2.1 t.2.2)⟩ := FOk.run_eq (evF_ok (h := .d) (by kernel_rfl) (by kernel_rfl) (by kernel_rfl)) e17
def T52 : Tbl := (17, ⟨p17, r17, fun t => (o17 t.1 t.2.1 t.2.2)⟩) :: T51
theorem K52 : TOk Tryd.prog T52 := .cons K51 fo17
def p19v1 : Sch := ⟨[(0, .v (.c (.cst (.pointer none))))], []⟩
def r19v1 : List Sch := [⟨[(0, .v (.c (.cst (.slice none 0 0))))], []⟩]
def o19v1 : Option Unit :=
 (some ())
theorem e19v1 (t : Unit) : evF (stpT Tryd.prog T52 K52) Tryd.f19 p19v1 r19v1 .d t = o19v1 := by kernel_rfl
theorem fo19v1 : FOk Tryd.prog 19 ⟨p19v1, r19v1, fun t => o19v1⟩ := FOk.run_eq (evF_ok (h := .d) (by kernel_rfl) (by kernel_rfl) (by kernel_rfl)) e19v1
def T53 : Tbl := (19, ⟨p19v1, r19v1, fun t => o19v1⟩) :: T52
theorem K53 : TOk Tryd.prog T53 := .cons K52 fo19v1
def o11_s0 : Sch := ⟨[(1, .v (.c (.cst (.pointer none)))), (2, .v (.c (.ic .i64 (1))))], []⟩
def o11_s1 : Sch := ⟨[(1, .v (.c (.ptr 0 0))), (2, .v (.c (.ic .i64 (0))))], [.cells 84 [.own 1, .ic .i64 (-1), .b], .row .y 5]⟩
def o11_s2 : Sch := ⟨[(1, .v (.c (.ptr 0 0))), (2, .v (.c (.ic .i64 (0)))), (3, .v (.c (.cst (.pointer none)))), (4, .v (.c (.ic .i64 (19))))], [.cells 84 [.own 1, .i .i64, .b], .row .y 5]⟩
def o11_s3 : Sch := ⟨[(1, .v (.c (.ptr 0 0))), (2, .v (.c (.ic .i64 (0)))), (3, .v (.c (.ptr 1 0))), (4, .v (.c (.ic .i64 (0))))], [.cells 84 [.own 2, .i .i64, .b], .cells 86 [.ptr 0 0, .own 3, .i .u64, .b], .row .y 5, .row (.p (.i .i64) (.p (.i .u8) (.p (.i .i64) (.i .u64)))) 42]⟩
def o11_s4 : Sch := ⟨[(5, .v (.c (.ptr 0 0))), (57, .v (.c (.b)))], [.cells 84 [.own 1, .i .i64, .b], .row .y 5]⟩
def o11_s5 : Sch := ⟨[(5, .v (.c (.ptr 0 0))), (8, .v (.c (.cst (.pointer none))))], [.cells 84 [.own 1, .i .i64, .b], .row .y 5]⟩
def o11_s6 : Sch := ⟨[(5, .v (.c (.ptr 0 0))), (8, .v (.c (.ptr 1 0)))], [.cells 84 [.own 2, .i .i64, .b], .cells 86 [.ptr 0 0, .own 3, .i .u64, .b], .row .y 5, .row (.p (.i .i64) (.p (.i .u8) (.p (.i .i64) (.i .u64)))) 42]⟩
def o11_s7 : Sch := ⟨[(8, .v (.c (.cst (.pointer none)))), (11, .v (.c (.ic .i64 (1))))], []⟩
def o11_s8 : Sch := ⟨[(8, .v (.c (.ptr 0 0))), (11, .v (.c (.ic .i64 (1))))], [.cells 86 [.ptr 1 0, .own 2, .i .u64, .b], .cells 84 [.own 3, .i .i64, .b], .row (.p (.i .i64) (.p (.i .u8) (.p (.i .i64) (.i .u64)))) 42, .row .y 5]⟩
def o11_s9 : Sch := ⟨[(8, .v (.c (.cst (.pointer none)))), (11, .v (.c (.i .i64)))], []⟩
def o11_s10 : Sch := ⟨[(8, .v (.c (.ptr 0 0))), (11, .v (.c (.i .i64)))], [.cells 86 [.ptr 1 0, .own 2, .i .u64, .b], .cells 84 [.own 3, .i .i64, .b], .row (.p (.i .i64) (.p (.i .u8) (.p (.i .i64) (.i .u64)))) 42, .row .y 5]⟩
def o11_s11 : Sch := ⟨[(0, .v (.c (.b)))], []⟩
def p11 : Sch := ⟨[], []⟩
def r11 : List Sch := [⟨[(0, .v (.c (.b)))], []⟩]
def o11 : Option Bool :=
 (bd (α := Unit ⊕ (Bool × List UInt8)) (bd (α := Unit ⊕ (Bool × List UInt8)) (o12 (2 : Int)) (fun v1 => (sm v1 (fun v2 => (some (Sum.inl ()))) (fun v3 => (some (Sum.inr (v3.1, v3.2))))))) (fun v4 => (sm v4 (fun v5 => (bd (α := Unit) o13 (fun v7 => (some false)))) (fun v6 => (bd (α := (Int × Bool × List UInt8) ⊕ (Int × Bool × Int × Bool × List UInt8 × List (Int × Int × Int × Int))) (bd (α := (Int × Bool × List UInt8) ⊕ (Int × Bool × List UInt8 × Int × Bool × List (Int × Int × Int × Int))) (o13v1 (-1 : Int) v6.1 v6.2) (fun v8 => (sm v8 (fun v9 => (some (Sum.inl (v9.1, v9.2.1, v9.2.2)))) (fun v10 => (some (Sum.inr (v10.1, v10.2.1, v10.2.2.2.1, v10.2.2.2.2.1, v10.2.2.1, v10.2.2.2.2.2))))))) (fun v11 => (sm v11 (fun v12 => (some false)) (fun v13 => (bd (α := (Int × Int × Int × Bool × Int × Bool × List UInt8 × List (Int × Int × Int × Int))) (o16 (7 : Int) (3 : Int) (100 : Int) v13.2.2.1 v13.2.2.2.1 v13.1 v13.2.1 v13.2.2.2.2.1 v13.2.2.2.2.2) (fun v14 => (bd (α := (Int × Int × Int × Bool × Int × Bool × List UInt8 × List (Int × Int × Int × Int))) (o16 (8 : Int) (4 : Int) (200 : Int) v14.2.2.1 v14.2.2.2.1 v14.2.2.2.2.1 v14.2.2.2.2.2.1 v14.2.2.2.2.2.2.1 v14.2.2.2.2.2.2.2) (fun v15 => (bd (α := (Int × Bool × List UInt8)) (o33 v15.2.2.2.2.2.2.1 v15.2.2.2.2.1 v15.2.2.2.2.2.1) (fun v16 => (bd (α := (Int × Int × Int × Bool × Int × Bool × List UInt8 × List (Int × Int × Int × Int))) (o16 (9 : Int) (4 : Int) (300 : Int) v15.2.2.1 v15.2.2.2.1 v15.2.2.2.2.1 v15.2.2.2.2.2.1 v15.2.2.2.2.2.2.1 v15.2.2.2.2.2.2.2) (fun v17 => (bd (α := (Bool × Int × Bool × List UInt8)) (cnd (v17.1 != (3 : Int)) (some (true, v16.1, v16.2.1, v16.2.2)) (cnd (v17.2.1 != (0 : Int)) (some (true, v16.1, v16.2.1, v16.2.2)) (bd (α := (List (Int × Int × Int × Int))) (o19 v17.2.2.2.2.2.2.2 v17.2.2.1 v17.2.2.2.1 v17.2.2.2.2.2.2.1 v17.2.2.2.2.1 v17.2.2.2.2.2.1) (fun v18 => (bd (α := (List UInt8)) (o36 v18) (fun v19 => (some ((!(v19 == ([50, 32, 50, 48, 48, 32, 56, 32, 52, 10, 51, 32, 51, 48, 48, 32, 57, 32, 52, 10] : List UInt8))), v16.1, v16.2.1, v16.2.2)))))))) (fun v20 => (cnd v20.1 (some false) (bd (α := (Int × Bool × List UInt8) ⊕ (Int × Bool × Int × Bool × List UInt8 × List (Int × Int × Int × Int))) (bd (α := (Int × Bool × List UInt8) ⊕ (Int × Bool × List UInt8 × Int × Bool × List (Int × Int × Int × Int))) (o13v1 v20.2.1 v20.2.2.1 v20.2.2.2) (fun v21 => (sm v21 (fun v22 => (some (Sum.inl (v22.1, v22.2.1, v22.2.2)))) (fun v23 => (some (Sum.inr (v23.1, v23.2.1, v23.2.2.2.1, v23.2.2.2.2.1, v23.2.2.1, v23.2.2.2.2.2))))))) (fun v24 => (sm v24 (fun v25 => (bd (α := (Int × Bool × List UInt8)) (o15 (1 : Int) v25.1 v25.2.1 v25.2.2) (fun v27 => (bd (α := Unit) (o16v1 (9 : Int) (4 : Int) (300 : Int)) (fun v28 => (bd (α := (Bool × List UInt8)) (o17 v27.1 v27.2.1 v27.2.2) (fun v29 => (bd (α := Unit ⊕ (Int × Bool × Int × Bool × List (Int × Int × Int × Int) × List UInt8)) (bd (α := (Int × Bool × List UInt8) ⊕ (Int × Bool × List UInt8 × Int × Bool × List (Int × Int × Int × Int))) (o13v1 (-1 : Int) v29.1 v29.2) (fun v30 => (sm v30 (fun v31 => (some (Sum.inl ()))) (fun v32 => (some (Sum.inr (v32.2.2.2.1, v32.2.2.2.2.1, v32.1, v32.2.1, v32.2.2.2.2.2, v32.2.2.1))))))) (fun v33 => (sm v33 (fun v34 => (some false)) (fun v35 => (some false)))))))))))) (fun v26 => (bd (α := (Int × Bool × List UInt8)) (o15 (1 : Int) v26.1 v26.2.1 v26.2.2.2.2.1) (fun v36 => (bd (α := (Int × Int × Int × Bool × Int × Bool × List UInt8 × List (Int × Int × Int × Int))) (o16 (9 : Int) (4 : Int) (300 : Int) v26.2.2.1 v26.2.2.2.1 v36.1 v36.2.1 v36.2.2 v26.2.2.2.2.2) (fun v37 => (bd (α := (Bool × List UInt8)) (o17 v37.2.2.2.2.1 v37.2.2.2.2.2.1 v37.2.2.2.2.2.2.1) (fun v38 => (bd (α := Int ⊕ (Int × Int × Bool × Int × Bool × List (Int × Int × Int × Int) × List UInt8)) (bd (α := (Int × Bool × List UInt8) ⊕ (Int × Bool × List UInt8 × Int × Bool × List (Int × Int × Int × Int))) (o13v1 (-1 : Int) v38.1 v38.2) (fun v39 => (sm v39 (fun v40 => (some (Sum.inl v37.2.1))) (fun v41 => (some (Sum.inr (v37.2.1, v41.2.2.2.1, v41.2.2.2.2.1, v41.1, v41.2.1, v41.2.2.2.2.2, v41.2.2.1))))))) (fun v42 => (sm v42 (fun v43 => (bd (α := Bool) (cnd (v43 == (19 : Int)) (bd (α := Unit) o19v1 (fun v45 => (bd (α := (List UInt8)) (o36 ([] : List (Int × Int × Int × Int))) (fun v46 => (some (v46 == ([50, 32, 50, 48, 48, 32, 56, 32, 52, 10] : List UInt8))))))) (some false)) (fun v47 => (some v47)))) (fun v44 => (bd (α := Bool) (cnd (v44.1 == (19 : Int)) (bd (α := (List (Int × Int × Int × Int))) (o19 v44.2.2.2.2.2.1 v44.2.1 v44.2.2.1 v44.2.2.2.2.2.2 v44.2.2.2.1 v44.2.2.2.2.1) (fun v48 => (bd (α := (List UInt8)) (o36 v48) (fun v49 => (some (v49 == ([50, 32, 50, 48, 48, 32, 56, 32, 52, 10] : List UInt8))))))) (some false)) (fun v50 => (some v50))))))))))))))))))))))))))))))))))))
theorem e11 (t : Unit) : evF (stpT Tryd.prog T53 K53) Tryd.f11 p11 r11 (.s .d (.s (.j false [o11_s0, o11_s1] .d) (.on ⟨[(1, .v (.c (.cst (.pointer none))))], []⟩ .d (.s (.j false [o11_s2, o11_s3] .d) (.on ⟨[(3, .v (.c (.cst (.pointer none))))], []⟩ .d (.s .d (.s .d (.s .d (.s .d (.s .d (.s (.s (.j false [o11_s4] .d) .d) (.s (.j false [o11_s5, o11_s6] .d) (.on ⟨[(8, .v (.c (.cst (.pointer none))))], []⟩ (.s .d (.s .d (.s .d (.s (.j false [o11_s7, o11_s8] .d) .d)))) (.s .d (.s .d (.s .d (.s (.j false [o11_s9, o11_s10] .d) (.s (.j false [o11_s11] .d) .d)))))))))))))))))) t = o11 := by kernel_rfl
theorem fo11 : FOk Tryd.prog 11 ⟨p11, r11, fun t => o11⟩ := FOk.run_eq (evF_ok (h := (.s .d (.s (.j false [o11_s0, o11_s1] .d) (.on ⟨[(1, .v (.c (.cst (.pointer none))))], []⟩ .d (.s (.j false [o11_s2, o11_s3] .d) (.on ⟨[(3, .v (.c (.cst (.pointer none))))], []⟩ .d (.s .d (.s .d (.s .d (.s .d (.s .d (.s (.s (.j false [o11_s4] .d) .d) (.s (.j false [o11_s5, o11_s6] .d) (.on ⟨[(8, .v (.c (.cst (.pointer none))))], []⟩ (.s .d (.s .d (.s .d (.s (.j false [o11_s7, o11_s8] .d) .d)))) (.s .d (.s .d (.s .d (.s (.j false [o11_s9, o11_s10] .d) (.s (.j false [o11_s11] .d) .d))))))))))))))))))) (by kernel_rfl) (by kernel_rfl) (by kernel_rfl)) e11
def T54 : Tbl := (11, ⟨p11, r11, fun t => o11⟩) :: T53
theorem K54 : TOk Tryd.prog T54 := .cons K53 fo11
end
end Go.Proofs.YtnkmijidneibnaaDoor
namespace Go.Proofs.YtnkmijidneibnaaDoor
set_option linter.unusedVariables false
set_option linter.unusedSimpArgs false
set_option maxRecDepth 100000
open Go.RowKit
noncomputable section
def p15v1 : Sch := ⟨[(0, .v (.c (.cst (.pointer none)))), (1, .v (.c (.i .i64)))], []⟩
def r15v1 : List Sch := [⟨[(0, .tup [])], []⟩]
def o15v1 (a0 : Int) : Option Unit :=
 (some ())
theorem e15v1 (t : Int) : evF (stpT Tryd.prog T54 K54) Tryd.f15 p15v1 r15v1 .d t = (o15v1 t) := by kernel_rfl
theorem fo15v1 : FOk Tryd.prog 15 ⟨p15v1, r15v1, fun t => (o15v1 t)⟩ := FOk.run_eq (evF_ok (h := .d) (by kernel_rfl) (by kernel_rfl) (by kernel_rfl)) e15v1
def T55 : Tbl := (15, ⟨p15v1, r15v1, fun t => (o15v1 t)⟩) :: T54
theorem K55 : TOk Tryd.prog T55 := .cons K54 fo15v1
def p17v1 : Sch := ⟨[(0, .v (.c (.cst (.pointer none))))], []⟩
def r17v1 : List Sch := [⟨[(0, .tup [])], []⟩]
def o17v1 : Option Unit :=
 (some ())
theorem e17v1 (t : Unit) : evF (stpT Tryd.prog T55 K55) Tryd.f17 p17v1 r17v1 .d t = o17v1 := by kernel_rfl
theorem fo17v1 : FOk Tryd.prog 17 ⟨p17v1, r17v1, fun t => o17v1⟩ := FOk.run_eq (evF_ok (h := .d) (by kernel_rfl) (by kernel_rfl) (by kernel_rfl)) e17v1
def T56 : Tbl := (17, ⟨p17v1, r17v1, fun t => o17v1⟩) :: T55
theorem K56 : TOk Tryd.prog T56 := .cons K55 fo17v1
def p32v1 : Sch := ⟨[(0, .v (.c (.cst (.pointer none))))], []⟩
def r32v1 : List Sch := [⟨[(0, .v (.c (.ic .i64 (0))))], []⟩]
def o32v1 : Option Unit :=
 (some ())
theorem e32v1 (t : Unit) : evF (stpT Tryd.prog T56 K56) Tryd.f32 p32v1 r32v1 .d t = o32v1 := by kernel_rfl
theorem fo32v1 : FOk Tryd.prog 32 ⟨p32v1, r32v1, fun t => o32v1⟩ := FOk.run_eq (evF_ok (h := .d) (by kernel_rfl) (by kernel_rfl) (by kernel_rfl)) e32v1
def T57 : Tbl := (32, ⟨p32v1, r32v1, fun t => o32v1⟩) :: T56
theorem K57 : TOk Tryd.prog T57 := .cons K56 fo32v1
def p22 : Sch := ⟨[(0, .v (.c (.cst (.pointer none))))], []⟩
def r22 : List Sch := [⟨[(0, .v (.c (.b)))], []⟩]
def o22 : Option Bool :=
 (some false)
theorem e22 (t : Unit) : evF (stpT Tryd.prog T57 K57) Tryd.f22 p22 r22 .d t = o22 := by kernel_rfl
theorem fo22 : FOk Tryd.prog 22 ⟨p22, r22, fun t => o22⟩ := FOk.run_eq (evF_ok (h := .d) (by kernel_rfl) (by kernel_rfl) (by kernel_rfl)) e22
def T58 : Tbl := (22, ⟨p22, r22, fun t => o22⟩) :: T57
theorem K58 : TOk Tryd.prog T58 := .cons K57 fo22
def p24 : Sch := ⟨[(0, .v (.c (.cst (.pointer none)))), (1, .v (.c (.i .i64))), (2, .v (.c (.i .u32)))], []⟩
def r24 : List Sch := [⟨[(0, .v (.c (.ic .i64 (1))))], []⟩]
def o24 (a0 : Int) (a1 : Int) : Option Unit :=
 (some ())
theorem e24 (t : Int × Int) : evF (stpT Tryd.prog T58 K58) Tryd.f24 p24 r24 .d t = (o24 t.1 t.2) := by kernel_rfl
theorem fo24 : FOk Tryd.prog 24 ⟨p24, r24, fun t => (o24 t.1 t.2)⟩ := FOk.run_eq (evF_ok (h := .d) (by kernel_rfl) (by kernel_rfl) (by kernel_rfl)) e24
def T59 : Tbl := (24, ⟨p24, r24, fun t => (o24 t.1 t.2)⟩) :: T58
theorem K59 : TOk Tryd.prog T59 := .cons K58 fo24
def p23 : Sch := ⟨[(0, .v (.c (.cst (.pointer none))))], []⟩
def r23 : List Sch := [⟨[(0, .v (.c (.cst (.slice none 0 0))))], []⟩]
def o23 : Option Unit :=
 (some ())
theorem e23 (t : Unit) : evF (stpT Tryd.prog T59 K59) Tryd.f23 p23 r23 .d t = o23 := by kernel_rfl
theorem fo23 : FOk Tryd.prog 23 ⟨p23, r23, fun t => o23⟩ := FOk.run_eq (evF_ok (h := .d) (by kernel_rfl) (by kernel_rfl) (by kernel_rfl)) e23
def T60 : Tbl := (23, ⟨p23, r23, fun t => o23⟩) :: T59
theorem K60 : TOk Tryd.prog T60 := .cons K59 fo23
def p33v1 : Sch := ⟨[(0, .v (.c (.cst (.pointer none))))], []⟩
def r33v1 : List Sch := [⟨[(0, .v (.c (.cst (.pointer none))))], []⟩]
def o33v1 : Option Unit :=
 (some ())
theorem e33v1 (t : Unit) : evF (stpT Tryd.prog T60 K60) Tryd.f33 p33v1 r33v1 .d t = o33v1 := by kernel_rfl
theorem fo33v1 : FOk Tryd.prog 33 ⟨p33v1, r33v1, fun t => o33v1⟩ := FOk.run_eq (evF_ok (h := .d) (by kernel_rfl) (by kernel_rfl) (by kernel_rfl)) e33v1
def T61 : Tbl := (33, ⟨p33v1, r33v1, fun t => o33v1⟩) :: T60
theorem K61 : TOk Tryd.prog T61 := .cons K60 fo33v1
def p20 : Sch := ⟨[(0, .v (.c (.cst (.pointer none))))], []⟩
def r20 : List Sch := [⟨[(0, .v (.c (.ic .u64 (0))))], []⟩]
def o20 : Option Unit :=
 (some ())
theorem e20 (t : Unit) : evF (stpT Tryd.prog T61 K61) Tryd.f20 p20 r20 .d t = o20 := by kernel_rfl
theorem fo20 : FOk Tryd.prog 20 ⟨p20, r20, fun t => o20⟩ := FOk.run_eq (evF_ok (h := .d) (by kernel_rfl) (by kernel_rfl) (by kernel_rfl)) e20
def T62 : Tbl := (20, ⟨p20, r20, fun t => o20⟩) :: T61
theorem K62 : TOk Tryd.prog T62 := .cons K61 fo20
def p21 : Sch := ⟨[(0, .v (.c (.cst (.pointer none))))], []⟩
def r21 : List Sch := [⟨[(0, .v (.c (.ic .i64 (1))))], []⟩]
def o21 : Option Unit :=
 (some ())
theorem e21 (t : Unit) : evF (stpT Tryd.prog T62 K62) Tryd.f21 p21 r21 .d t = o21 := by kernel_rfl
theorem fo21 : FOk Tryd.prog 21 ⟨p21, r21, fun t => o21⟩ := FOk.run_eq (evF_ok (h := .d) (by kernel_rfl) (by kernel_rfl) (by kernel_rfl)) e21
def T63 : Tbl := (21, ⟨p21, r21, fun t => o21⟩) :: T62
theorem K63 : TOk Tryd.prog T63 := .cons K62 fo21
def o9_s0 : Sch := ⟨[(0, .v (.c (.i .i64))), (1, .v (.c (.i .u32))), (5, .v (.c (.cst (.pointer none)))), (6, .v (.c (.cst (.pointer none)))), (7, .v (.c (.cst (.pointer none)))), (8, .v (.c (.ic .i64 (1)))), (9, .v (.c (.ic .u64 (0)))), (10, .v (.c (.ic .i64 (1)))), (11, .v (.c (.cst (.pointer none)))), (12, .v (.c (.ic .i64 (1))))], []⟩
def o9_s1 : Sch := ⟨[(0, .v (.c (.i .i64))), (1, .v (.c (.i .u32))), (5, .v (.c (.cst (.pointer none)))), (6, .v (.c (.cst (.pointer none)))), (7, .v (.c (.cst (.pointer none)))), (8, .v (.c (.ic .i64 (1)))), (9, .v (.c (.ic .u64 (0)))), (10, .v (.c (.ic .i64 (1)))), (11, .v (.c (.ptr 0 0))), (12, .v (.c (.ic .i64 (0))))], [.cells 84 [.own 1, .ic .i64 (-1), .b], .row .y 5]⟩
def o9_s2 : Sch := ⟨[(0, .v (.c (.i .i64))), (1, .v (.c (.i .u32))), (5, .v (.c (.cst (.pointer none)))), (6, .v (.c (.cst (.pointer none)))), (7, .v (.c (.cst (.pointer none)))), (8, .v (.c (.ic .i64 (1)))), (9, .v (.c (.ic .u64 (0)))), (10, .v (.c (.ic .i64 (1)))), (11, .v (.c (.cst (.pointer none)))), (12, .v (.c (.ic .i64 (1)))), (13, .v (.c (.cst (.pointer none)))), (14, .v (.c (.ic .i64 (1))))], []⟩
def o9_s3 : Sch := ⟨[(0, .v (.c (.i .i64))), (1, .v (.c (.i .u32))), (5, .v (.c (.cst (.pointer none)))), (6, .v (.c (.cst (.pointer none)))), (7, .v (.c (.cst (.pointer none)))), (8, .v (.c (.ic .i64 (1)))), (9, .v (.c (.ic .u64 (0)))), (10, .v (.c (.ic .i64 (1)))), (11, .v (.c (.cst (.pointer none)))), (12, .v (.c (.ic .i64 (1)))), (13, .v (.c (.ptr 0 0))), (14, .v (.c (.ic .i64 (0))))], [.cells 84 [.own 1, .ic .i64 (-1), .b], .row .y 5]⟩
def o9_s4 : Sch := ⟨[(4, .v (.c (.b)))], []⟩
def o9_s5 : Sch := ⟨[(0, .v (.c (.i .i64))), (1, .v (.c (.i .u32))), (5, .v (.c (.cst (.pointer none)))), (6, .v (.c (.cst (.pointer none)))), (7, .v (.c (.cst (.pointer none)))), (8, .v (.c (.ic .i64 (1)))), (9, .v (.c (.ic .u64 (0)))), (10, .v (.c (.ic .i64 (1)))), (11, .v (.c (.ptr 0 0))), (12, .v (.c (.ic .i64 (0)))), (13, .v (.c (.cst (.pointer none)))), (14, .v (.c (.ic .i64 (1))))], [.cells 84 [.own 1, .ic .i64 (-1), .b], .row .y 5]⟩
def o9_s6 : Sch := ⟨[(0, .v (.c (.i .i64))), (1, .v (.c (.i .u32))), (5, .v (.c (.cst (.pointer none)))), (6, .v (.c (.cst (.pointer none)))), (7, .v (.c (.cst (.pointer none)))), (8, .v (.c (.ic .i64 (1)))), (9, .v (.c (.ic .u64 (0)))), (10, .v (.c (.ic .i64 (1)))), (11, .v (.c (.ptr 0 0))), (12, .v (.c (.ic .i64 (0)))), (13, .v (.c (.ptr 1 0))), (14, .v (.c (.ic .i64 (0))))], [.cells 84 [.own 2, .ic .i64 (-1), .b], .cells 84 [.own 3, .ic .i64 (-1), .b], .row .y 5, .row .y 5]⟩
def p9 : Sch := ⟨[(0, .v (.c (.i .i64))), (1, .v (.c (.i .u32)))], []⟩
def r9 : List Sch := [⟨[(0, .v (.c (.b)))], []⟩]
def o9 (a0 : Int) (a1 : Int) : Option Bool :=
 (bd (α := Bool) o11 (fun v1 => (cnd (!v1) (some false) (bd (α := Unit) (o15v1 a0) (fun v2 => (bd (α := Unit) o17v1 (fun v3 => (bd (α := Unit) o13 (fun v4 => (bd (α := Unit) (o16v1 (1 : Int) (1 : Int) (1 : Int)) (fun v5 => (bd (α := (Int × Int) ⊕ (Int × Int × Bool × List UInt8)) (bd (α := Unit ⊕ (Bool × List UInt8)) (o12 (1 : Int)) (fun v6 => (sm v6 (fun v7 => (some (Sum.inl (a0, a1)))) (fun v8 => (some (Sum.inr (a0, a1, v8.1, v8.2))))))) (fun v9 => (sm v9 (fun v10 => (bd (α := (Int × Int) ⊕ (Int × Int × Bool × List UInt8)) (bd (α := Unit ⊕ (Bool × List UInt8)) (o12 (65 : Int)) (fun v12 => (sm v12 (fun v13 => (some (Sum.inl (v10.1, v10.2)))) (fun v14 => (some (Sum.inr (v10.1, v10.2, v14.1, v14.2))))))) (fun v15 => (sm v15 (fun v16 => (bd (α := Bool) (bd (α := Unit) o32v1 (fun v18 => (bd (α := Bool) o22 (fun v19 => (cnd (!v19) (bd (α := Unit) (o24 v16.1 v16.2) (fun v20 => (bd (α := Unit) o23 (fun v21 => (bd (α := Unit) o33v1 (fun v22 => (bd (α := Unit) o19v1 (fun v23 => (bd (α := Unit) o20 (fun v24 => (bd (α := Unit) o21 (fun v25 => (some true))))))))))))) (some false)))))) (fun v26 => (some v26)))) (fun v17 => (bd (α := Bool) (bd (α := Unit) o32v1 (fun v27 => (bd (α := Bool) o22 (fun v28 => (cnd (!v28) (bd (α := Unit) (o24 v17.1 v17.2.1) (fun v29 => (bd (α := Unit) o23 (fun v30 => (bd (α := Unit) o33v1 (fun v31 => (bd (α := Unit) o19v1 (fun v32 => (bd (α := Unit) o20 (fun v33 => (bd (α := Unit) o21 (fun v34 => (some false))))))))))))) (some false)))))) (fun v35 => (some v35)))))))) (fun v11 => (bd (α := (Int × Int × Bool × List UInt8) ⊕ (Int × Int × Bool × Bool × List UInt8 × List UInt8)) (bd (α := Unit ⊕ (Bool × List UInt8)) (o12 (65 : Int)) (fun v36 => (sm v36 (fun v37 => (some (Sum.inl (v11.1, v11.2.1, v11.2.2.1, v11.2.2.2)))) (fun v38 => (some (Sum.inr (v11.1, v11.2.1, v11.2.2.1, v38.1, v11.2.2.2, v38.2))))))) (fun v39 => (sm v39 (fun v40 => (bd (α := Bool) (bd (α := Unit) o32v1 (fun v42 => (bd (α := Bool) o22 (fun v43 => (cnd (!v43) (bd (α := Unit) (o24 v40.1 v40.2.1) (fun v44 => (bd (α := Unit) o23 (fun v45 => (bd (α := Unit) o33v1 (fun v46 => (bd (α := Unit) o19v1 (fun v47 => (bd (α := Unit) o20 (fun v48 => (bd (α := Unit) o21 (fun v49 => (some false))))))))))))) (some false)))))) (fun v50 => (some v50)))) (fun v41 => (bd (α := Bool) (bd (α := Unit) o32v1 (fun v51 => (bd (α := Bool) o22 (fun v52 => (cnd (!v52) (bd (α := Unit) (o24 v41.1 v41.2.1) (fun v53 => (bd (α := Unit) o23 (fun v54 => (bd (α := Unit) o33v1 (fun v55 => (bd (α := Unit) o19v1 (fun v56 => (bd (α := Unit) o20 (fun v57 => (bd (α := Unit) o21 (fun v58 => (some false))))))))))))) (some false)))))) (fun v59 => (some v59))))))))))))))))))))))
theorem e9 (t : Int × Int) : evF (stpT Tryd.prog T63 K63) Tryd.f9 p9 r9 (.s .d (.s .d (.s .d (.s .d (.s .d (.s .d (.s .d (.s .d (.s (.j false [o9_s0, o9_s1] .d) (.on ⟨[(11, .v (.c (.cst (.pointer none))))], []⟩ (.s (.j false [o9_s2, o9_s3] .d) (.s (.j false [o9_s4] .d) .d)) (.s (.j false [o9_s5, o9_s6] .d) (.s (.j false [o9_s4] .d) .d)))))))))))) t = (o9 t.1 t.2) := by kernel_rfl
theorem fo9 : FOk Tryd.prog 9 ⟨p9, r9, fun t => (o9 t.1 t.2)⟩ := FOk.run_eq (evF_ok (h := (.s .d (.s .d (.s .d (.s .d (.s .d (.s .d (.s .d (.s .d (.s (.j false [o9_s0, o9_s1] .d) (.on ⟨[(11, .v (.c (.cst (.pointer none))))], []⟩ (.s (.j false [o9_s2, o9_s3] .d) (.s (.j false [o9_s4] .d) .d)) (.s (.j false [o9_s5, o9_s6] .d) (.s (.j false [o9_s4] .d) .d))))))))))))) (by kernel_rfl) (by kernel_rfl) (by kernel_rfl)) e9
end
end Go.Proofs.YtnkmijidneibnaaDoor
namespace Go.Proofs.YtnkmijidneibnaaDoor
set_option linter.unusedVariables false
set_option maxRecDepth 100000
end Go.Proofs.YtnkmijidneibnaaDoor
namespace Go.Proofs.YtnkmijidneibnaaDoor
set_option linter.unusedVariables false
set_option linter.unusedSimpArgs false
set_option maxRecDepth 100000
theorem nil_plain (n p : Int) : o9 n p = some true := by
  kernel_rfl
end Go.Proofs.YtnkmijidneibnaaDoor
namespace Go.Proofs.YtnkmijidneibnaaDoor
set_option linter.unusedVariables false
set_option linter.unusedSimpArgs false
open Go.RowKit
theorem slots_of {g : Gh} {ρ : Env} {bl : List BV} : ∀ {l : List SV} {vs : List Value} (i : Nat), All2 (RealS g ρ bl) l vs → ∀ t sv, getH (argH i l) t = some sv → ∃ v, getS (argS i vs) t = some v ∧ RealS g ρ bl sv v
  | [], [], i, _, t, sv, e => by cases e
  | s :: l, v :: vs, i, h, t, sv, e => by
    have e : cond (Nat.beq i t) (some s) (getH (argH (i + 1) l) t) = some sv := e
    show ∃ u, cond (Nat.beq i t) (some v) (getS (argS (i + 1) vs) t) = some u ∧ _
    cases hb : Nat.beq i t with
    | true => rw [hb] at e; injection e with e; subst e; exact ⟨v, rfl, h.1⟩
    | false => rw [hb] at e; exact slots_of (i + 1) h.2 t sv e
  | [], _ :: _, _, h, _, _, _ => h.elim
  | _ :: _, [], _, h, _, _, _ => h.elim
def r0 : List Sch := [⟨[(0, .v (.c .b))], []⟩]
theorem law_of_fok {P : Program} {f : FuncId} {ps : Sch} {run : HL ps.lv → Option Bool} (h : FOk P f ⟨ps, r0, run⟩) {t : HL ps.lv} (hr : run t = some true) (l : List SV) (hc : conT ps t = some ⟨argH 0 l, []⟩) {W : World} (hW : GI (psiOf W)) {vs : List Value}
    (hv : All2 (RealS (gh0 W) (fun _ => (none, 0)) []) l vs) (hl : vs.length = ps.sl.length) : Calls P f vs.toArray W fun e w' => e = .returned (.bool true) ∧ Below W.heap.size W w' := by
  have hR : Rl (gh0 W) (fun _ => (none, 0)) ⟨argH 0 l, []⟩ [] (argS 0 vs) := ⟨rfl, fun i bv k e => (by cases e), fun t sv e => slots_of 0 hv t sv e, hW⟩
  refine law_of_ctr (P := P) (f := f) (args := vs) ((h t true _ hr hc (gh0 W) _ [] vs hR hl).mono fun v ψ o hle ⟨str, ρ', h1, h2, h3, h4⟩ => ?_)
  have e : altC r0 true = some ⟨[(0, vC (.bool true))], []⟩ := rfl
  have h1 : altC r0 true = some str := h1
  rw [e] at h1
  injection h1 with h1; subst h1
  obtain ⟨u, h5, h6⟩ := h3.slot 0 _ rfl
  injection h5 with h5
  have h6 : u = .bool true := h6
  have hlen : o.length = 0 := h3.len
  exact ⟨List.length_eq_zero_iff.1 hlen, by rw [h5, h6]⟩
section
variable {P : Program} {t : TypeId}
end
end Go.Proofs.YtnkmijidneibnaaDoor
namespace Go.Proofs.YtnkmijidneibnaaDoor
set_option linter.unusedVariables false
set_option linter.unusedSimpArgs false
open Go.RowKit Go.WideShapes Go.ChangeShapes Go.ChangeAt
def laidU : List (String × DataW Unit) := Rows.maintlogNilRow.laid
theorem door_met (os : Os) (args : Array Value) : laidMetH Tryd.prog laidU ((World.doorLaid Tryd.prog 400 os).forCall (fun _ _ => 0) ⟨#[], args, []⟩).memory :=
  laidMetH_of_parts3 (fuel := 8) (laidMet_of_run' 8 (by kernel_rfl) (by kernel_rfl)) (by kernel_rfl) (by kernel_rfl)
theorem gw_of_laid {W : World} (h : laidMetH Tryd.prog laidU W) : GW W := by
  rw [MakeChecks.laidMetH_plain _ _ _ (by kernel_rfl)] at h
  have e : laidU = [("math/bits.deBruijn32tab", Rows.laid_math_bits_deBruijn32tab), ("math/bits.deBruijn64tab", Rows.laid_math_bits_deBruijn64tab), ("internal/strconv.uint64pow10", Lib.tabData .u64 Lib.pow10Tab)] := by kernel_rfl
  rw [e] at h
  exact Lib.tabIs_of_head (g := 0) (t := 153) (e := 38) (n := 20) (by kernel_rfl) (by kernel_rfl) Tryd.underlying153 Tryd.underlying38 (by kernel_rfl) (by kernel_rfl) h.tail.tail
theorem gw_mono {W w : World} (h : GW W) (k : (psiOf W).In w) : GW w := by
  unfold GW Lib.TabIs World.var? at h ⊢
  rw [Option.bind_eq_some_iff] at h ⊢
  obtain ⟨g, h1, h2⟩ := h
  refine ⟨g, h1, ?_⟩
  cases e : W.heap[g]? with
  | none => rw [e] at h2; cases h2
  | some o => rw [k.m g o e]; rw [e] at h2; exact h2
theorem gi_of {W : World} (h : laidMetH Tryd.prog laidU W) : GI (psiOf W) := fun w k => gw_mono (gw_of_laid h) k
end Go.Proofs.YtnkmijidneibnaaDoor
namespace Go.Proofs.YtnkmijidneibnaaDoor
set_option linter.unusedVariables false
set_option linter.unusedSimpArgs false
set_option maxRecDepth 100000
open Go.RowKit Go.WideShapes Go.ChangeShapes Go.ChangeAt
theorem maintlogNil_lifted (os : Os) (started : os.Started) (H : Type) (enc : TypeId × Value → H) :
    ReturnsInHanded {} Tryd.checked os 9 .any (fun w args => (Rows.maintlogNilSpec.pre enc Tryd.prog Tryd.f9 [] false w args ∧ laidMetH Tryd.prog laidU w) ∧ sizedMet enc Tryd.prog Tryd.f9 (OpenSpec.ofChange Rows.maintlogNilSpec) false w args) (Rows.maintlogNilSpec.post enc Tryd.prog Tryd.f9 false true false false) := by
  refine returnsInHanded_of_change_and (C := Tryd.checked) (X := fun w _ => laidMetH Tryd.prog laidU w) (fun _ _ _ hh h => h.of_heap hh) Tryd.own started (by kernel_rfl) Tryd.func9
    (ChangeSpec.witness_shaped (enc := enc) (C := Tryd.checked) (os := os) (X := fun w _ => laidMetH Tryd.prog laidU w) false (World.doorLaid Tryd.prog 400 os) #[.int .i64 0, .int .u32 0] 8 rfl (World.shaped_of_RefB (by kernel_rfl) (by kernel_rfl)) (by kernel_rfl) (by kernel_rfl) (by kernel_rfl) (door_met os _)) ?_
  intro W base args ds gs before hval0 hW hcnd hsz0 hL _
  have hval : ∀ (j : Nat) t v, Tryd.f9.params[j]? = some t → args[j]? = some v → Value.okWide Tryd.prog W .any base t v := hval0
  have hW' := hW
  obtain ⟨p, q, hA0, hV, rfl, hfz, hnd⟩ := hW
  have hA : DataW.TrodAll enc Tryd.prog W 0 (fun _ => true) true Tryd.f9.params.toList args.toList ds p := hA0
  have hA1 := hA
  rw [Tryd.params9] at hA hval
  obtain ⟨v0, vs0, d0, ds0, p0, q0, hargs, rfl, rfl, h0, r0⟩ := trodAll_cons hA
  obtain ⟨v1, vs1, d1, ds1, p1, q1, rfl, rfl, rfl, h1, r1⟩ := trodAll_cons r0
  obtain ⟨rfl, rfl, rfl⟩ := trodAll_nil r1
  obtain rfl : args = #[v0, v1] := by cases args; simp_all
  obtain ⟨rfl, rfl⟩ := trodVars_none hV
  have hsz : ∀ m ∈ DataW.weightsEach Tryd.prog [3, 22] [d0, d1], m ≤ reachBytes := fun m hm => by
    have h9 : (DataW.weightsEach Tryd.prog (Tryd.f9.params.toList ++ []) ([d0, d1] ++ [])).all (· ≤ reachBytes) = true := hsz0
    rw [Tryd.params9, List.append_nil, List.append_nil] at h9
    have := List.all_eq_true.1 h9 m hm
    simpa using this
  obtain ⟨x0, rfl, rfl, rfl, w0⟩ := open_int Tryd.underlying3 (hval 0 3 v0 rfl rfl) h0
  have k0 := lit_wf w0
  obtain ⟨x1, rfl, rfl, rfl, w1⟩ := open_int Tryd.underlying22 (hval 1 22 v1 rfl rfl) h1
  have k1 := lit_wf w1
  simp only [List.append_nil] at hW' hA1
  have hrun := law_of_fok fo9 (t := (x0, x1)) (nil_plain x0 x1) [vC (.int .i64 x0), vC (.int .u32 x1)] rfl (W := W) (gi_of hL) (vs := [_, _]) (⟨⟨rfl, k0⟩, ⟨rfl, k1⟩, trivial⟩) rfl
  refine hrun.mono fun e W' ⟨he, hg⟩ => ?_
  subst he
  exact ⟨_, rfl, law_post Tryd.laidOut (by intro t ht; simp only [Tryd.params9] at ht; revert t; decide +kernel) rfl rfl Tryd.underlying4 rfl hW' hA1 hg⟩
theorem maintlogNil_holds : Rows.MaintlogNilSaid :=
  OpenClaim.holds_of_wide 9 Tryd.f9 rfl rfl rfl rfl rfl rfl rfl ⟨rfl, rfl, rfl, rfl, rfl⟩ rfl rfl rfl rfl rfl (by kernel_rfl) Tryd.func9 (by kernel_rfl)
    (of_decide_eq_true (by kernel_rfl)) (by unfold Func.isWrapper; first | (rw [if_pos (by decide +kernel)]; kernel_rfl) | (rw [if_neg (by decide +kernel)]; exact ⟨rfl, rfl⟩))
    (fun os started H enc _ => maintlogNil_lifted os started H enc)
theorem maintlogNil_card : Rows.MaintlogNilCardSaid :=
  Claim7.holds_tied_plain_at .later [] [.data, .data, .data] true (true, "832b923533147a2e716e87db4360d74f12a86c126f950c923bbe595a342cd697") false
    maintlogNil_holds (fun _ h => by cases h) (by kernel_rfl) (fun _ h => by cases h) maintlogNil_row_tie rfl ⟨rfl, rfl⟩ (by kernel_rfl) rfl
    (fun f fn hf hfn => by
      obtain rfl : f = 9 := Option.some.inj ((show Tryd.prog.funcNamed Tryd.f9.name = some 9 by kernel_rfl).symm.trans hf) |>.symm
      obtain rfl : fn = Tryd.f9 := (Option.some.inj (Tryd.func9.symm.trans hfn)).symm
      exact ⟨by kernel_rfl, fun j t ht => by
        rw [Tryd.params9] at ht
        have hm : t ∈ [3, 22] := by simpa using Array.mem_of_getElem? ht
        have hall : ([3, 22].all fun u => !Tryd.prog.wantsStandIn u) = true := by kernel_rfl
        exact (show Tryd.prog.wantsStandIn t = false by simpa using List.all_eq_true.1 hall t hm)⟩)
    (by kernel_rfl)
end Go.Proofs.YtnkmijidneibnaaDoor
