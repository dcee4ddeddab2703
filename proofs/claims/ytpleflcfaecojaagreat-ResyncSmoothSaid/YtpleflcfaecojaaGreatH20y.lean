/-
The third engine, part 20y: clear and copy into rows of one's own. Conditions: each lemma's own.
-/
import Derived.Test.YtpleflcfaecojaaGreatH20z
namespace Go.Proofs.YtpleflcfaecojaaGreat
set_option linter.unusedVariables false
set_option linter.unusedSimpArgs false
open Go.RowKit
theorem setRow_front : ∀ (vs b : List Value), vs.length ≤ b.length → setRow b 0 vs = vs ++ b.drop vs.length
  | [], b, _ => by simp [setRow]
  | v :: vs, [], h => by simp at h
  | v :: vs, x :: b, h => by
    have h1 := setRow_pre vs [v] b 0
    have h2 := setRow_front vs b (by simpa using h)
    simp only [List.length_singleton, Nat.add_zero, List.singleton_append] at h1
    show setRow (v :: b) (0 + 1) vs = _
    rw [Nat.zero_add, h1, h2]
    rfl
theorem setRow_eq (vs cs : List Value) (off : Nat) (h : off + vs.length ≤ cs.length) : setRow cs off vs = cs.take off ++ vs ++ cs.drop (off + vs.length) := by
  have h1 := setRow_pre vs (cs.take off) (cs.drop off) 0
  rw [List.take_append_drop, List.length_take, Nat.min_eq_left (by omega), Nat.add_zero] at h1
  rw [h1, setRow_front _ _ (by rw [List.length_drop]; omega), List.drop_drop, List.append_assoc]
section
variable {α : Type} {P : Program} {n : Nat} {T : Ty α} {p : Psi} {g : Gh} {own : Own} {sl : Sl} {ty : TypeId}
theorem Reps.many {xs ys : List α} {cs ds : List Value} {i : Nat} (h : Reps T p cs xs) (k : Reps T p ds ys) (hi : i + ys.length ≤ xs.length) : Reps T p (setRow cs (i * T.n) ds) (xs.take i ++ ys ++ xs.drop (i + ys.length)) := by
  have hl : i * T.n + ds.length = (i + ys.length) * T.n := by rw [k.len, Nat.add_mul]
  rw [setRow_eq _ _ _ (by rw [hl, h.len]; exact Nat.mul_le_mul_right _ hi), hl]
  exact ((h.take i).append k).append (h.drop (i + ys.length))
theorem Buf.many {et : TypeId} {A : Option Addr} {c : Nat} {kb : Bk} {xs ys : List α} {ds : List Value} {i : Nat} (h : Buf p T et (.slice A xs.length c) (some kb) xs) (k : Reps T p ds ys) (hi : i + ys.length ≤ xs.length) :
    A = some ⟨kb.g, 0, none⟩ ∧ i * T.n + ds.length ≤ kb.cs.length ∧ Buf p T et (.slice A (xs.take i ++ ys ++ xs.drop (i + ys.length)).length c) (some ⟨kb.g, kb.t, setRow kb.cs (i * T.n) ds⟩) (xs.take i ++ ys ++ xs.drop (i + ys.length)) := by
  obtain ⟨h0, h⟩ := h
  have hlen : (xs.take i ++ ys ++ xs.drop (i + ys.length)).length = xs.length := by
    simp only [List.length_append, List.length_take, List.length_drop]; omega
  rcases h with ⟨_, _, h3⟩ | ⟨b, cap, cs, sp, h1, h2, h3, h4, h5⟩
  · cases h3
  · injection h2 with h2
    subst h2
    injection h1 with e1 e2 e3
    subst e1; subst e3
    have hds : i * T.n + ds.length ≤ cs.length := by
      rw [k.len, h3.len, ← Nat.add_mul]; exact Nat.mul_le_mul_right _ hi
    refine ⟨rfl, by rw [List.length_append]; omega, by rw [hlen]; exact h0, .inr ⟨b, c, setRow cs (i * T.n) ds, sp, rfl, ?_, h3.many k hi, by rw [List.length_append, setRow_length, ← List.length_append]; exact h4, h5⟩⟩
    rw [setRow_app _ _ _ _ hds]
theorem e_many {op : Op} {et : TypeId} {A B : Option Addr} {c io i : Nat} {k : Option Bk} {xs ys : List α} {ds : List Value} {r : Value} (hi : own[io]? = some k) (hb : Buf p T et (.slice A xs.length c) k xs) (hd : Reps T p ds ys) (hl : i + ys.length ≤ xs.length)
    (hB : 0 < ys.length → B = offA A c i T.n)
    (hrun : ∀ (o : Oper) (a : Act) (w w' : World), o.op = op → o.type = ty → Fr n a sl → St w g own → (ys.length = 0 → w' = w) → (0 < ys.length → ∃ ad, B = some ad ∧ (storeCells ad ds).run P w = .ok () w') → (execOp a.eval o).run P w = .ok (.value r) w') :
    Eff P n g own sl op ty (fun v' g' own' => v' = r ∧ g = g' ∧ ∃ k', own' = own.set io k' ∧ Buf p T et (.slice A (xs.take i ++ ys ++ xs.drop (i + ys.length)).length c) k' (xs.take i ++ ys ++ xs.drop (i + ys.length))) := by
  intro o a w Q K h1 h2 hf hs h
  rcases Nat.eq_zero_or_pos ys.length with h0 | h0
  · have : ys = [] := List.length_eq_zero_iff.1 h0
    subst this
    have e := hrun o a w w h1 h2 hf hs (fun _ => rfl) (fun h => absurd h (by simp))
    unfold Oper.wp
    rw [e]
    refine h _ g (own.set io k) w (.refl g) (by rw [set_same hi]; exact hs) ⟨rfl, rfl, k, rfl, ?_⟩
    simpa using hb
  · cases k with
    | none =>
      rcases hb.2 with ⟨_, e, _⟩ | ⟨_, _, _, _, _, e, _⟩
      · subst e
        have hl : i + ys.length ≤ 0 := hl
        omega
      · cases e
    | some kb =>
      obtain ⟨e1, e2, e3⟩ := hb.many hd hl
      have hBe : B = some ⟨kb.g, i * T.n, none⟩ := by
        rw [hB h0, e1]
        unfold offA
        rw [if_neg]
        · show some (Addr.add ⟨kb.g, 0, none⟩ (i * T.n)) = _
          simp [Addr.add]
          try exact fun e => e.symm
        · have := hb.val
          obtain ⟨_, _, e4, e5⟩ := this
          injection e4 with _ _ e6
          omega
      obtain ⟨w', hst, hs'⟩ := run_storeCells_own (P := P) (g := g) (i := io) (k := kb) (vs := ds) (own := own) (off := i * T.n) kb.cs 0 hs hi (by simpa using hd.one) (by omega)
      have e := hrun o a w w' h1 h2 hf hs (fun h => absurd h (by omega)) (fun _ => ⟨_, hBe, hst⟩)
      unfold Oper.wp
      rw [e]
      exact h _ g _ w' (.refl g) hs' ⟨rfl, rfl, _, rfl, e3⟩
end
section
variable {P : Program} {n : Nat} {ty : TypeId} {sl : List (Nat × SV)} {bl bl' : List BV} {v : SV} {f : Nat} {g : Gh} {ρ : Env} {own : Own} {fr : Sl}
theorem set_len {α : Type} {xs ys : List α} {i : Nat} (h : i + ys.length ≤ xs.length) : (xs.take i ++ ys ++ xs.drop (i + ys.length)).length = xs.length := by
  simp only [List.length_append, List.length_take, List.length_drop]; omega
theorem effH_many {op : Op} {b : Nat} {d : Cd} {et : TypeId} {xs ys : List d.den} {i : Nat} {r : SV} (hb : bl[b]? = some (.row d et xs)) (hl : i + ys.length ≤ xs.length)
    (h : ∀ g ρ own fr, Rl g ρ ⟨sl, bl⟩ own fr → ∀ k, own[b]? = some k → Buf g.b d.ty et (.slice (ρ b).1 xs.length (ρ b).2) k xs → ∃ rv, RealS g ρ (bl.set b (.row d et (xs.take i ++ ys ++ xs.drop (i + ys.length)))) r rv ∧ Eff P n g own fr op ty (fun v' g' own' => v' = rv ∧ g = g' ∧ ∃ k', own' = own.set b k' ∧ Buf g.b d.ty et (.slice (ρ b).1 (xs.take i ++ ys ++ xs.drop (i + ys.length)).length (ρ b).2) k' (xs.take i ++ ys ++ xs.drop (i + ys.length)))) :
    EffH P n op ty sl bl (bl.set b (.row d et (xs.take i ++ ys ++ xs.drop (i + ys.length)))) r := by
  intro o a w Q K g ρ own fr h1 h2 hr hfr hs hk
  obtain ⟨k0, hk0, hB⟩ := hr.own_at hb
  obtain ⟨rv, hrv, he⟩ := h g ρ own fr hr k0 hk0 hB
  refine he o a w Q K h1 h2 hfr hs fun v g' own' w' hg hs' ⟨e1, e2, k', e3, hB'⟩ => ?_
  subst e1; subst e2; subst e3
  obtain ⟨hx, hr'⟩ := setB_ok hb (bv1 := .row d et (xs.take i ++ ys ++ xs.drop (i + ys.length))) (k := k') hr (.refl g) rfl (fun m hm => by
    have hm : some (xs.take i ++ ys ++ xs.drop (i + ys.length)).length = some m := hm
    rw [set_len hl] at hm; exact hm) hB'
  exact hk v g ρ _ w' (.refl g) hx hs' hr' hrv
def ovrL {α : Type} (xs : List α) (i : Nat) (ys : List α) : List α := xs.take i ++ ys ++ xs.drop (i + ys.length)
def tClear (P : Program) (sl : List (Nat × SV)) (t : TypeId) (x : Operand) : Tr := match rowOf P t, evH sl x with
  | some (c, et, _), some (.v (.c (.vw b cv l r))) => (match zeroOf P et with
    | some zs => (match constL zs.toList with
      | some cl => encC c cl fun u _ => .need b fun
        | .row d et' xs => (match d.same c, d.same cv, Nat.beq et' et with
          | some h, some _, true => .grd (decide (l ≤ r ∧ r ≤ xs.length)) (.done ⟨.any, [(b, .row d et' (ovrL xs l (List.replicate (r - l) (h.down ▸ u))))], []⟩)
          | _, _, _ => .no)
        | _ => .no
      | none => .no)
    | none => .no)
  | _, _ => .no
theorem zero_len {c : Cd} {et t : TypeId} {bytes : Nat} {zs : Array Value} (happ : appT P t et = some (c.ty.n, bytes)) (hzs : zeroOf P et = some zs) : zs.toList.length = c.n := by
  have h1 := happ
  unfold appT at h1
  unfold zeroOf at hzs
  split at h1
  · rename_i e' i hu' hi
    split at h1
    · rename_i z0 hz0
      split at h1
      · rename_i hcnd
        simp only [Option.some.injEq, Prod.mk.injEq] at h1
        rw [hi] at hzs
        simp only [Option.bind_some, hz0, Option.map_some, Option.some.injEq] at hzs
        rw [← hzs, Array.length_toList, hcnd.2, h1.1, c.ty_n]
      · cases h1
    · cases h1
  · cases h1
theorem run_clear_ {t et : TypeId} {B : Option Addr} {m cap k bytes : Nat} {zs : List Value} {w w' : World} (ha : appT P t et = some (k, bytes)) (hz : zeroOf P et = some zs.toArray) (h0 : m = 0 → w' = w)
    (h1 : 0 < m → ∃ ad, B = some ad ∧ (storeCells ad (madeCells zs.toArray (m * k)).toList).run P w = .ok () w') : (Builtin.clear_ #[t] ty #[.slice B m cap]).run P w = .ok (.tuple #[]) w' := by
  obtain ⟨inf, z0, ht, hinf, hz0, hsz, hby, hzs⟩ := (AppT.of ha).out
  have hzc : (z0.cells : Array Value) = zs.toArray := by
    unfold zeroOf at hz
    rw [hinf] at hz
    simpa [hz0] using hz
  have hzv : ∀ w, (zeroValue et).run P w = .ok z0 w := fun w => by simp [zeroValue, typeInfo, program, Sem.run, bind, Sem.bind, hinf, hz0, pure]
  have e : Builtin.zeroCells z0.cells m = madeCells zs.toArray (m * k) := by
    rw [← hzs, hzc]
    rfl
  rcases Nat.eq_zero_or_pos m with hm | hm
  · subst hm
    rw [h0 rfl]
    cases B <;> simp [Builtin.clear_, run_underlying ht]
  · obtain ⟨ad, rfl, hst⟩ := h1 hm
    rw [← e] at hst
    obtain ⟨m, rfl⟩ : ∃ q, m = q + 1 := ⟨m - 1, by omega⟩
    simp [Builtin.clear_, run_underlying ht, hzv, hst]
theorem tClear_ok {t : TypeId} {x : Operand} (h : Told f (tClear P sl t x) bl bl' v) : EffH P n (.call { callee := .builtin .clear, args := #[x], argTypes := #[t] }) ty sl bl bl' v := by
  unfold tClear at h
  split at h
  · rename_i c et by_ b cv l r hrow ex
    obtain ⟨hu, happ, _, hby⟩ := rowOf_ok hrow
    split at h
    · rename_i zs hzs
      split at h
      · rename_i cl hcl
        obtain ⟨u, r0, bl1, h2, hfz, henc⟩ := encC_told c h
        clear h
        obtain ⟨bv, hb, h⟩ := h2
        dsimp only at h
        split at h
        · rename_i d et' xs
          split at h
          · rename_i hk1 hk2 _ _ het
            obtain ⟨hk1⟩ := hk1; obtain ⟨hk2⟩ := hk2; subst hk1; subst hk2
            have het := Nat.eq_of_beq_eq_true het
            subst het
            obtain ⟨hg, rfl, rfl⟩ := h
            obtain ⟨hlr, hrx⟩ := of_decide_eq_true hg
            have hyl : l + (List.replicate (r - l) u).length ≤ xs.length := by rw [List.length_replicate]; omega
            refine EffH.frz hfz (effH_many (r := .any) (i := l) (ys := List.replicate (r - l) u) hb hyl fun g ρ own fr hr k hk hB => ⟨.tuple #[], (trivial : True), ?_⟩)
            obtain ⟨vx, hx1, hkn, rfl, hl⟩ := evH_real hr ex
            have hall := constL_real (g := g) (ρ := ρ) (bl := bl1) hcl
            obtain ⟨c1, c2, e1, e2, e3⟩ := henc.real hr d hall
            have hl1 := zero_len happ hzs
            have hl2 : c1.length = d.n := by rw [d.ty.len e2, d.ty_n]
            have hc20 : c2 = [] := by
              have : zs.toList.length = c1.length + c2.length := by rw [e1, List.length_append]
              exact List.eq_nil_of_length_eq_zero (by omega)
            rw [hc20, List.append_nil] at e1
            have hzs' : zeroOf P et' = some c1.toArray := by rw [hzs, ← e1]
            refine e_many (T := d.ty) (B := offA (ρ b).1 (ρ b).2 l d.n) (i := l) (ds := (madeCells c1.toArray ((r - l) * d.ty.n)).toList) hk hB (made_reps e2 (r - l)) hyl (fun _ => by rw [d.ty_n]) fun o a w w' q1 q2 hf hs q3 q4 => ?_
            rw [List.length_replicate] at q3 q4
            have := run_clear_ (P := P) (ty := o.type) (cap := (ρ b).2 - l) happ hzs' q3 q4
            simp [execOp, q1, resolve, invoke, builtin, hf.ev hx1, this]
          · exact h.elim
        · exact h.elim
      · exact h.elim
    · exact h.elim
  · exact h.elim
def dstT (sl : List (Nat × SV)) (x : Operand) (K : (b : Nat) → (d : Cd) → TypeId → List d.den → (l r : Nat) → Tr) : Tr := match evH sl x with
  | some (.v (.c (.own b))) => .need b fun | .row d et xs => K b d et xs 0 xs.length | _ => .no
  | some (.v (.c (.vw b cv l r))) => .need b fun | .row d et xs => (match d.same cv with | some _ => K b d et xs l r | none => .no) | _ => .no
  | _ => .no
theorem dstT_told {x : Operand} {K : (b : Nat) → (d : Cd) → TypeId → List d.den → (l r : Nat) → Tr} (h : Told f (dstT sl x K) bl bl' v) : ∃ b d et xs l r, bl[b]? = some (.row d et xs) ∧ Told f (K b d et xs l r) bl bl' v ∧
    ∀ g ρ own fr, Rl g ρ ⟨sl, bl⟩ own fr → l ≤ r ∧ r ≤ xs.length ∧ ∃ cap, evS fr x = some (.slice (offA (ρ b).1 (ρ b).2 l d.n) (r - l) cap) := by
  unfold dstT at h
  split at h
  · rename_i b ex
    obtain ⟨bv, hb, h⟩ := h
    dsimp only at h
    split at h
    · rename_i d et xs
      refine ⟨b, d, et, xs, 0, xs.length, hb, h, fun g ρ own fr hr => ?_⟩
      obtain ⟨vx, hx1, hkn, l, rfl, hl⟩ := evH_real hr ex
      have hl := hl _ _ hb rfl
      subst hl
      exact ⟨Nat.zero_le _, Nat.le_refl _, (ρ b).2, by rw [offA_zero, Nat.sub_zero]; exact hx1⟩
    · exact h.elim
  · rename_i b cv l r ex
    obtain ⟨bv, hb, h⟩ := h
    dsimp only at h
    split at h
    · rename_i d et xs
      split at h
      · rename_i hk _; obtain ⟨hk⟩ := hk; subst hk
        refine ⟨b, d, et, xs, l, r, hb, h, fun g ρ own fr hr => ?_⟩
        obtain ⟨vx, hx1, hkn, rfl, hl⟩ := evH_real hr ex
        obtain ⟨h1, h2⟩ := hl _ _ hb rfl
        exact ⟨h1, h2, _, hx1⟩
      · exact h.elim
    · exact h.elim
  · exact h.elim
def tCopy (P : Program) (sl : List (Nat × SV)) (t : TypeId) (x y : Operand) : Tr := match rowOf P t with
  | some (c, et, _) => dstT sl x fun b d et' xs l r => (match d.same c, Nat.beq et' et with
    | some _, true => srcT sl d b y fun ys => .done ⟨vC (.int .i64 ((ys.take (r - l)).length : Int)), [(b, .row d et' (ovrL xs l (ys.take (r - l))))], []⟩
    | _, _ => .no)
  | none => .no
theorem run_copy_ {t t' et : TypeId} {A B : Option Addr} {m m' cap cap' k : Nat} {cs : List Value} {w w' : World} (hu : P.underlying t = some (.slice et)) (hsz : cellsOfT P et = some k) (hs : 0 < Nat.min m' m * k → ∃ ad, A = some ad ∧ ∀ j u, cs[j]? = some u → w.cell? (ad.add j) = some u)
    (hl : cs.length = Nat.min m' m * k) (h0 : Nat.min m' m = 0 → w' = w) (h1 : 0 < Nat.min m' m → ∃ ad, B = some ad ∧ (storeCells ad cs).run P w = .ok () w') (hk : 0 < k) : (Builtin.copy_ #[t, t'] ty #[.slice B m cap, .slice A m' cap']).run P w = .ok (.int .i64 (Nat.min m' m : Int)) w' := by
  have hfc : (Builtin.firstCells k (Nat.min m' m) (.slice A m' cap')).run P w = .ok cs.toArray w := by
    rcases Nat.eq_zero_or_pos (Nat.min m' m * k) with h | h
    · rw [h] at hl
      have := List.length_eq_zero_iff.1 hl
      subst this
      cases A with
      | none => simp [Builtin.firstCells]
      | some ad =>
        have := run_loadCells_list (P := P) w ad [] (fun j v e => by simp at e)
        simp only [Builtin.firstCells, h]
        simpa using this
    · obtain ⟨ad, rfl, hc⟩ := hs h
      have := run_loadCells_list (P := P) w ad cs hc
      rw [hl] at this
      simp only [Builtin.firstCells]
      exact this
  have hsz' := run_sizeOf_of hsz w
  simp only [Builtin.copy_]
  simp [run_underlying hu, Builtin.lenOf, hsz', hfc]
  rcases Nat.eq_zero_or_pos (Nat.min m' m) with h | h
  · rw [h0 h]
    rw [h, Nat.zero_mul] at hl
    have := List.length_eq_zero_iff.1 hl
    subst this
    cases B <;> simp [storeCells, goInt]
  · obtain ⟨ad, rfl, hst⟩ := h1 h
    simp [hst, goInt]
theorem tCopy_ok {t t' : TypeId} {x y : Operand} (h : Told f (tCopy P sl t x y) bl bl' v) : EffH P n (.call { callee := .builtin .copy, args := #[x, y], argTypes := #[t, t'] }) ty sl bl bl' v := by
  unfold tCopy at h
  split at h
  · rename_i c et by_ hrow
    obtain ⟨hu, happ, hsz, hby⟩ := rowOf_ok hrow
    obtain ⟨b, d, et', xs, l, r, hb, h2, hdst⟩ := dstT_told h
    clear h
    split at h2
    · rename_i hk1 _ het
      obtain ⟨hk1⟩ := hk1; subst hk1
      have het := Nat.eq_of_beq_eq_true het
      subst het
      obtain ⟨ys, h3, hsrc⟩ := srcT_told h2
      clear h2
      obtain ⟨rfl, rfl⟩ := h3
      intro o a w Q K g ρ own fr
      by_cases hyl : l + (ys.take (r - l)).length ≤ xs.length
      · revert o a w Q K g ρ own fr
        refine effH_many (i := l) (ys := ys.take (r - l)) hb hyl fun g ρ own fr hr k hk hB => ?_
        obtain ⟨hlr, hrx, cap, hx1⟩ := hdst g ρ own fr hr
        obtain ⟨hyl2, A, cap', news, hy1, hy2, hy3⟩ := hsrc g ρ own fr hr
        have hmin : Nat.min ys.length (r - l) = (ys.take (r - l)).length := by rw [List.length_take]; exact Nat.min_comm _ _
        have hnl : (news.take ((ys.take (r - l)).length * d.ty.n)).length = Nat.min ys.length (r - l) * d.ty.n := by
          rw [hmin, List.length_take, hy2.len]
          exact Nat.min_eq_left (Nat.mul_le_mul_right _ (by rw [List.length_take]; exact Nat.min_le_right _ _))
        have hrep : Reps d.ty g.b (news.take ((ys.take (r - l)).length * d.ty.n)) (ys.take (r - l)) := by
          have := hy2.take (ys.take (r - l)).length
          rw [show ys.take (ys.take (r - l)).length = ys.take (r - l) by rw [List.length_take, List.take_eq_take_iff]; omega] at this
          exact this
        refine ⟨.int .i64 ((ys.take (r - l)).length : Int), ⟨rfl, inK_len (by rw [List.length_take]; omega)⟩, ?_⟩
        refine e_many (T := d.ty) (B := offA (ρ b).1 (ρ b).2 l d.n) (i := l) hk hB hrep hyl (fun _ => by rw [d.ty_n]) fun o a w w' q1 q2 hf hs q3 q4 => ?_
        have hs3 := hy3 w hs
        have := run_copy_ (P := P) (ty := o.type) (t' := t') (cap := cap) (cap' := cap') (A := A) (w := w) (cs := news.take ((ys.take (r - l)).length * d.ty.n)) hu hsz (fun hp => by
          have h0 : 0 < ys.length := by
            rcases Nat.eq_zero_or_pos ys.length with h | h
            · rw [h] at hp; simp at hp
            · exact h
          obtain ⟨ad, e1, e2⟩ := hs3 h0
          exact ⟨ad, e1, fun j u hu => e2 j u (by rw [List.getElem?_take] at hu; split at hu; exact hu; cases hu)⟩) hnl (fun h => q3 (by rw [← hmin]; exact h)) (fun h => q4 (by rw [← hmin]; exact h)) d.ty.pos
        rw [hmin] at this
        simp [execOp, q1, resolve, invoke, builtin, hf.ev hx1, hf.ev hy1, this]
      · intro h1 h2 hr hf hs hk
        obtain ⟨hlr, hrx, _⟩ := hdst g ρ own fr hr
        exact absurd (by rw [List.length_take]; omega) hyl
    · exact h2.elim
  · exact h.elim
end
end Go.Proofs.YtpleflcfaecojaaGreat
