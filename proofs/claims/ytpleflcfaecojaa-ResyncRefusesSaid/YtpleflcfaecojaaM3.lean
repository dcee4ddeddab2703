/-
ResyncRefuses returns true for every input. Conditions: none.
-/
import Derived.Test.YtpleflcfaecojaaM2
import Derived.ArgAppend
import Derived.Test.YtpleflcfaecojaaProg
import Derived.Test.YtpleflcfaecojaaRows
namespace Go.Proofs.Ytpleflcfaecojaa
set_option linter.unusedVariables false
set_option linter.unusedSimpArgs false
open Go.RowKit
theorem setRow_front : ∀ (vs b : List Value), vs.length ≤ b.length → setRow b 0 vs = vs ++ b.drop vs.length
  | [], b, _ => by simp [setRow]
  | v :: vs, [], h => by simp at h
  | v :: vs, x :: b, h => by
    have h1 := setRow_pre vs [v] b 0
    have h2 := setRow_front vs b (by simpa using h)
    simp only [List.length_singleton, Nat.add_zero, List.singleton_append] at h1
    show setRow (v :: b) (0 + 1) vs = _
    rw [Nat.zero_add, h1, h2]
    rfl
theorem setRow_eq (vs cs : List Value) (off : Nat) (h : off + vs.length ≤ cs.length) : setRow cs off vs = cs.take off ++ vs ++ cs.drop (off + vs.length) := by
  have h1 := setRow_pre vs (cs.take off) (cs.drop off) 0
  rw [List.take_append_drop, List.length_take, Nat.min_eq_left (by omega), Nat.add_zero] at h1
  rw [h1, setRow_front _ _ (by rw [List.length_drop]; omega), List.drop_drop, List.append_assoc]
section
variable {α : Type} {P : Program} {n : Nat} {T : Ty α} {p : Psi} {g : Gh} {own : Own} {sl : Sl} {ty : TypeId}
theorem Reps.many {xs ys : List α} {cs ds : List Value} {i : Nat} (h : Reps T p cs xs) (k : Reps T p ds ys) (hi : i + ys.length ≤ xs.length) : Reps T p (setRow cs (i * T.n) ds) (xs.take i ++ ys ++ xs.drop (i + ys.length)) := by
  have hl : i * T.n + ds.length = (i + ys.length) * T.n := by rw [k.len, Nat.add_mul]
  rw [setRow_eq _ _ _ (by rw [hl, h.len]; exact Nat.mul_le_mul_right _ hi), hl]
  exact ((h.take i).append k).append (h.drop (i + ys.length))
theorem Buf.many {et : TypeId} {A : Option Addr} {c : Nat} {kb : Bk} {xs ys : List α} {ds : List Value} {i : Nat} (h : Buf p T et (.slice A xs.length c) (some kb) xs) (k : Reps T p ds ys) (hi : i + ys.length ≤ xs.length) :
    A = some ⟨kb.g, 0, none⟩ ∧ i * T.n + ds.length ≤ kb.cs.length ∧ Buf p T et (.slice A (xs.take i ++ ys ++ xs.drop (i + ys.length)).length c) (some ⟨kb.g, kb.t, setRow kb.cs (i * T.n) ds⟩) (xs.take i ++ ys ++ xs.drop (i + ys.length)) := by
  obtain ⟨h0, h⟩ := h
  have hlen : (xs.take i ++ ys ++ xs.drop (i + ys.length)).length = xs.length := by
    simp only [List.length_append, List.length_take, List.length_drop]; omega
  rcases h with ⟨_, _, h3⟩ | ⟨b, cap, cs, sp, h1, h2, h3, h4, h5⟩
  · cases h3
  · injection h2 with h2
    subst h2
    injection h1 with e1 e2 e3
    subst e1; subst e3
    have hds : i * T.n + ds.length ≤ cs.length := by
      rw [k.len, h3.len, ← Nat.add_mul]; exact Nat.mul_le_mul_right _ hi
    refine ⟨rfl, by rw [List.length_append]; omega, by rw [hlen]; exact h0, .inr ⟨b, c, setRow cs (i * T.n) ds, sp, rfl, ?_, h3.many k hi, by rw [List.length_append, setRow_length, ← List.length_append]; exact h4, h5⟩⟩
    rw [setRow_app _ _ _ _ hds]
theorem e_many {op : Op} {et : TypeId} {A B : Option Addr} {c io i : Nat} {k : Option Bk} {xs ys : List α} {ds : List Value} {r : Value} (hi : own[io]? = some k) (hb : Buf p T et (.slice A xs.length c) k xs) (hd : Reps T p ds ys) (hl : i + ys.length ≤ xs.length)
    (hB : 0 < ys.length → B = offA A c i T.n)
    (hrun : ∀ (o : Oper) (a : Act) (w w' : World), o.op = op → o.type = ty → Fr n a sl → St w g own → (ys.length = 0 → w' = w) → (0 < ys.length → ∃ ad, B = some ad ∧ (storeCells ad ds).run P w = .ok () w') → (execOp a.eval o).run P w = .ok (.value r) w') :
    Eff P n g own sl op ty (fun v' g' own' => v' = r ∧ g = g' ∧ ∃ k', own' = own.set io k' ∧ Buf p T et (.slice A (xs.take i ++ ys ++ xs.drop (i + ys.length)).length c) k' (xs.take i ++ ys ++ xs.drop (i + ys.length))) := by
  intro o a w Q K h1 h2 hf hs h
  rcases Nat.eq_zero_or_pos ys.length with h0 | h0
  · have : ys = [] := List.length_eq_zero_iff.1 h0
    subst this
    have e := hrun o a w w h1 h2 hf hs (fun _ => rfl) (fun h => absurd h (by simp))
    unfold Oper.wp
    rw [e]
    refine h _ g (own.set io k) w (.refl g) (by rw [set_same hi]; exact hs) ⟨rfl, rfl, k, rfl, ?_⟩
    simpa using hb
  · cases k with
    | none =>
      rcases hb.2 with ⟨_, e, _⟩ | ⟨_, _, _, _, _, e, _⟩
      · subst e
        have hl : i + ys.length ≤ 0 := hl
        omega
      · cases e
    | some kb =>
      obtain ⟨e1, e2, e3⟩ := hb.many hd hl
      have hBe : B = some ⟨kb.g, i * T.n, none⟩ := by
        rw [hB h0, e1]
        unfold offA
        rw [if_neg]
        · show some (Addr.add ⟨kb.g, 0, none⟩ (i * T.n)) = _
          simp [Addr.add]
          try exact fun e => e.symm
        · have := hb.val
          obtain ⟨_, _, e4, e5⟩ := this
          injection e4 with _ _ e6
          omega
      obtain ⟨w', hst, hs'⟩ := run_storeCells_own (P := P) (g := g) (i := io) (k := kb) (vs := ds) (own := own) (off := i * T.n) kb.cs 0 hs hi (by simpa using hd.one) (by omega)
      have e := hrun o a w w' h1 h2 hf hs (fun h => absurd h (by omega)) (fun _ => ⟨_, hBe, hst⟩)
      unfold Oper.wp
      rw [e]
      exact h _ g _ w' (.refl g) hs' ⟨rfl, rfl, _, rfl, e3⟩
end
section
variable {P : Program} {n : Nat} {ty : TypeId} {sl : List (Nat × SV)} {bl bl' : List BV} {v : SV} {f : Nat} {g : Gh} {ρ : Env} {own : Own} {fr : Sl}
theorem set_len {α : Type} {xs ys : List α} {i : Nat} (h : i + ys.length ≤ xs.length) : (xs.take i ++ ys ++ xs.drop (i + ys.length)).length = xs.length := by
  simp only [List.length_append, List.length_take, List.length_drop]; omega
theorem effH_many {op : Op} {b : Nat} {d : Cd} {et : TypeId} {xs ys : List d.den} {i : Nat} {r : SV} (hb : bl[b]? = some (.row d et xs)) (hl : i + ys.length ≤ xs.length)
    (h : ∀ g ρ own fr, Rl g ρ ⟨sl, bl⟩ own fr → ∀ k, own[b]? = some k → Buf g.b d.ty et (.slice (ρ b).1 xs.length (ρ b).2) k xs → ∃ rv, RealS g ρ (bl.set b (.row d et (xs.take i ++ ys ++ xs.drop (i + ys.length)))) r rv ∧ Eff P n g own fr op ty (fun v' g' own' => v' = rv ∧ g = g' ∧ ∃ k', own' = own.set b k' ∧ Buf g.b d.ty et (.slice (ρ b).1 (xs.take i ++ ys ++ xs.drop (i + ys.length)).length (ρ b).2) k' (xs.take i ++ ys ++ xs.drop (i + ys.length)))) :
    EffH P n op ty sl bl (bl.set b (.row d et (xs.take i ++ ys ++ xs.drop (i + ys.length)))) r := by
  intro o a w Q K g ρ own fr h1 h2 hr hfr hs hk
  obtain ⟨k0, hk0, hB⟩ := hr.own_at hb
  obtain ⟨rv, hrv, he⟩ := h g ρ own fr hr k0 hk0 hB
  refine he o a w Q K h1 h2 hfr hs fun v g' own' w' hg hs' ⟨e1, e2, k', e3, hB'⟩ => ?_
  subst e1; subst e2; subst e3
  obtain ⟨hx, hr'⟩ := setB_ok hb (bv1 := .row d et (xs.take i ++ ys ++ xs.drop (i + ys.length))) (k := k') hr (.refl g) rfl (fun m hm => by
    have hm : some (xs.take i ++ ys ++ xs.drop (i + ys.length)).length = some m := hm
    rw [set_len hl] at hm; exact hm) hB'
  exact hk v g ρ _ w' (.refl g) hx hs' hr' hrv
def ovrL {α : Type} (xs : List α) (i : Nat) (ys : List α) : List α := xs.take i ++ ys ++ xs.drop (i + ys.length)
def tClear (P : Program) (sl : List (Nat × SV)) (t : TypeId) (x : Operand) : Tr := match rowOf P t, evH sl x with
  | some (c, et, _), some (.v (.c (.vw b cv l r))) => (match zeroOf P et with
    | some zs => (match constL zs.toList with
      | some cl => encC c cl fun u _ => .need b fun
        | .row d et' xs => (match d.same c, d.same cv, Nat.beq et' et with
          | some h, some _, true => .grd (decide (l ≤ r ∧ r ≤ xs.length)) (.done ⟨.any, [(b, .row d et' (ovrL xs l (List.replicate (r - l) (h.down ▸ u))))], []⟩)
          | _, _, _ => .no)
        | _ => .no
      | none => .no)
    | none => .no)
  | _, _ => .no
theorem zero_len {c : Cd} {et t : TypeId} {bytes : Nat} {zs : Array Value} (happ : appT P t et = some (c.ty.n, bytes)) (hzs : zeroOf P et = some zs) : zs.toList.length = c.n := by
  have h1 := happ
  unfold appT at h1
  unfold zeroOf at hzs
  split at h1
  · rename_i e' i hu' hi
    split at h1
    · rename_i z0 hz0
      split at h1
      · rename_i hcnd
        simp only [Option.some.injEq, Prod.mk.injEq] at h1
        rw [hi] at hzs
        simp only [Option.bind_some, hz0, Option.map_some, Option.some.injEq] at hzs
        rw [← hzs, Array.length_toList, hcnd.2, h1.1, c.ty_n]
      · cases h1
    · cases h1
  · cases h1
theorem run_clear_ {t et : TypeId} {B : Option Addr} {m cap k bytes : Nat} {zs : List Value} {w w' : World} (ha : appT P t et = some (k, bytes)) (hz : zeroOf P et = some zs.toArray) (h0 : m = 0 → w' = w)
    (h1 : 0 < m → ∃ ad, B = some ad ∧ (storeCells ad (madeCells zs.toArray (m * k)).toList).run P w = .ok () w') : (Builtin.clear_ #[t] ty #[.slice B m cap]).run P w = .ok (.tuple #[]) w' := by
  obtain ⟨inf, z0, ht, hinf, hz0, hsz, hby, hzs⟩ := (AppT.of ha).out
  have hzc : (z0.cells : Array Value) = zs.toArray := by
    unfold zeroOf at hz
    rw [hinf] at hz
    simpa [hz0] using hz
  have hzv : ∀ w, (zeroValue et).run P w = .ok z0 w := fun w => by simp [zeroValue, typeInfo, program, Sem.run, bind, Sem.bind, hinf, hz0, pure]
  have e : Builtin.zeroCells z0.cells m = madeCells zs.toArray (m * k) := by
    rw [← hzs, hzc]
    rfl
  rcases Nat.eq_zero_or_pos m with hm | hm
  · subst hm
    rw [h0 rfl]
    cases B <;> simp [Builtin.clear_, run_underlying ht]
  · obtain ⟨ad, rfl, hst⟩ := h1 hm
    rw [← e] at hst
    obtain ⟨m, rfl⟩ : ∃ q, m = q + 1 := ⟨m - 1, by omega⟩
    simp [Builtin.clear_, run_underlying ht, hzv, hst]
theorem tClear_ok {t : TypeId} {x : Operand} (h : Told f (tClear P sl t x) bl bl' v) : EffH P n (.call { callee := .builtin .clear, args := #[x], argTypes := #[t] }) ty sl bl bl' v := by
  unfold tClear at h
  split at h
  · rename_i c et by_ b cv l r hrow ex
    obtain ⟨hu, happ, _, hby⟩ := rowOf_ok hrow
    split at h
    · rename_i zs hzs
      split at h
      · rename_i cl hcl
        obtain ⟨u, r0, bl1, h2, hfz, henc⟩ := encC_told c h
        clear h
        obtain ⟨bv, hb, h⟩ := h2
        dsimp only at h
        split at h
        · rename_i d et' xs
          split at h
          · rename_i hk1 hk2 _ _ het
            obtain ⟨hk1⟩ := hk1; obtain ⟨hk2⟩ := hk2; subst hk1; subst hk2
            have het := Nat.eq_of_beq_eq_true het
            subst het
            obtain ⟨hg, rfl, rfl⟩ := h
            obtain ⟨hlr, hrx⟩ := of_decide_eq_true hg
            have hyl : l + (List.replicate (r - l) u).length ≤ xs.length := by rw [List.length_replicate]; omega
            refine EffH.frz hfz (effH_many (r := .any) (i := l) (ys := List.replicate (r - l) u) hb hyl fun g ρ own fr hr k hk hB => ⟨.tuple #[], (trivial : True), ?_⟩)
            obtain ⟨vx, hx1, hkn, rfl, hl⟩ := evH_real hr ex
            have hall := constL_real (g := g) (ρ := ρ) (bl := bl1) hcl
            obtain ⟨c1, c2, e1, e2, e3⟩ := henc.real hr d hall
            have hl1 := zero_len happ hzs
            have hl2 : c1.length = d.n := by rw [d.ty.len e2, d.ty_n]
            have hc20 : c2 = [] := by
              have : zs.toList.length = c1.length + c2.length := by rw [e1, List.length_append]
              exact List.eq_nil_of_length_eq_zero (by omega)
            rw [hc20, List.append_nil] at e1
            have hzs' : zeroOf P et' = some c1.toArray := by rw [hzs, ← e1]
            refine e_many (T := d.ty) (B := offA (ρ b).1 (ρ b).2 l d.n) (i := l) (ds := (madeCells c1.toArray ((r - l) * d.ty.n)).toList) hk hB (made_reps e2 (r - l)) hyl (fun _ => by rw [d.ty_n]) fun o a w w' q1 q2 hf hs q3 q4 => ?_
            rw [List.length_replicate] at q3 q4
            have := run_clear_ (P := P) (ty := o.type) (cap := (ρ b).2 - l) happ hzs' q3 q4
            simp [execOp, q1, resolve, invoke, builtin, hf.ev hx1, this]
          · exact h.elim
        · exact h.elim
      · exact h.elim
    · exact h.elim
  · exact h.elim
def dstT (sl : List (Nat × SV)) (x : Operand) (K : (b : Nat) → (d : Cd) → TypeId → List d.den → (l r : Nat) → Tr) : Tr := match evH sl x with
  | some (.v (.c (.own b))) => .need b fun | .row d et xs => K b d et xs 0 xs.length | _ => .no
  | some (.v (.c (.vw b cv l r))) => .need b fun | .row d et xs => (match d.same cv with | some _ => K b d et xs l r | none => .no) | _ => .no
  | _ => .no
theorem dstT_told {x : Operand} {K : (b : Nat) → (d : Cd) → TypeId → List d.den → (l r : Nat) → Tr} (h : Told f (dstT sl x K) bl bl' v) : ∃ b d et xs l r, bl[b]? = some (.row d et xs) ∧ Told f (K b d et xs l r) bl bl' v ∧
    ∀ g ρ own fr, Rl g ρ ⟨sl, bl⟩ own fr → l ≤ r ∧ r ≤ xs.length ∧ ∃ cap, evS fr x = some (.slice (offA (ρ b).1 (ρ b).2 l d.n) (r - l) cap) := by
  unfold dstT at h
  split at h
  · rename_i b ex
    obtain ⟨bv, hb, h⟩ := h
    dsimp only at h
    split at h
    · rename_i d et xs
      refine ⟨b, d, et, xs, 0, xs.length, hb, h, fun g ρ own fr hr => ?_⟩
      obtain ⟨vx, hx1, hkn, l, rfl, hl⟩ := evH_real hr ex
      have hl := hl _ _ hb rfl
      subst hl
      exact ⟨Nat.zero_le _, Nat.le_refl _, (ρ b).2, by rw [offA_zero, Nat.sub_zero]; exact hx1⟩
    · exact h.elim
  · rename_i b cv l r ex
    obtain ⟨bv, hb, h⟩ := h
    dsimp only at h
    split at h
    · rename_i d et xs
      split at h
      · rename_i hk _; obtain ⟨hk⟩ := hk; subst hk
        refine ⟨b, d, et, xs, l, r, hb, h, fun g ρ own fr hr => ?_⟩
        obtain ⟨vx, hx1, hkn, rfl, hl⟩ := evH_real hr ex
        obtain ⟨h1, h2⟩ := hl _ _ hb rfl
        exact ⟨h1, h2, _, hx1⟩
      · exact h.elim
    · exact h.elim
  · exact h.elim
def tCopy (P : Program) (sl : List (Nat × SV)) (t : TypeId) (x y : Operand) : Tr := match rowOf P t with
  | some (c, et, _) => dstT sl x fun b d et' xs l r => (match d.same c, Nat.beq et' et with
    | some _, true => srcT sl d b y fun ys => .done ⟨vC (.int .i64 ((ys.take (r - l)).length : Int)), [(b, .row d et' (ovrL xs l (ys.take (r - l))))], []⟩
    | _, _ => .no)
  | none => .no
theorem run_copy_ {t t' et : TypeId} {A B : Option Addr} {m m' cap cap' k : Nat} {cs : List Value} {w w' : World} (hu : P.underlying t = some (.slice et)) (hsz : cellsOfT P et = some k) (hs : 0 < Nat.min m' m * k → ∃ ad, A = some ad ∧ ∀ j u, cs[j]? = some u → w.cell? (ad.add j) = some u)
    (hl : cs.length = Nat.min m' m * k) (h0 : Nat.min m' m = 0 → w' = w) (h1 : 0 < Nat.min m' m → ∃ ad, B = some ad ∧ (storeCells ad cs).run P w = .ok () w') (hk : 0 < k) : (Builtin.copy_ #[t, t'] ty #[.slice B m cap, .slice A m' cap']).run P w = .ok (.int .i64 (Nat.min m' m : Int)) w' := by
  have hfc : (Builtin.firstCells k (Nat.min m' m) (.slice A m' cap')).run P w = .ok cs.toArray w := by
    rcases Nat.eq_zero_or_pos (Nat.min m' m * k) with h | h
    · rw [h] at hl
      have := List.length_eq_zero_iff.1 hl
      subst this
      cases A with
      | none => simp [Builtin.firstCells]
      | some ad =>
        have := run_loadCells_list (P := P) w ad [] (fun j v e => by simp at e)
        simp only [Builtin.firstCells, h]
        simpa using this
    · obtain ⟨ad, rfl, hc⟩ := hs h
      have := run_loadCells_list (P := P) w ad cs hc
      rw [hl] at this
      simp only [Builtin.firstCells]
      exact this
  have hsz' := run_sizeOf_of hsz w
  simp only [Builtin.copy_]
  simp [run_underlying hu, Builtin.lenOf, hsz', hfc]
  rcases Nat.eq_zero_or_pos (Nat.min m' m) with h | h
  · rw [h0 h]
    rw [h, Nat.zero_mul] at hl
    have := List.length_eq_zero_iff.1 hl
    subst this
    cases B <;> simp [storeCells, goInt]
  · obtain ⟨ad, rfl, hst⟩ := h1 h
    simp [hst, goInt]
theorem tCopy_ok {t t' : TypeId} {x y : Operand} (h : Told f (tCopy P sl t x y) bl bl' v) : EffH P n (.call { callee := .builtin .copy, args := #[x, y], argTypes := #[t, t'] }) ty sl bl bl' v := by
  unfold tCopy at h
  split at h
  · rename_i c et by_ hrow
    obtain ⟨hu, happ, hsz, hby⟩ := rowOf_ok hrow
    obtain ⟨b, d, et', xs, l, r, hb, h2, hdst⟩ := dstT_told h
    clear h
    split at h2
    · rename_i hk1 _ het
      obtain ⟨hk1⟩ := hk1; subst hk1
      have het := Nat.eq_of_beq_eq_true het
      subst het
      obtain ⟨ys, h3, hsrc⟩ := srcT_told h2
      clear h2
      obtain ⟨rfl, rfl⟩ := h3
      intro o a w Q K g ρ own fr
      by_cases hyl : l + (ys.take (r - l)).length ≤ xs.length
      · revert o a w Q K g ρ own fr
        refine effH_many (i := l) (ys := ys.take (r - l)) hb hyl fun g ρ own fr hr k hk hB => ?_
        obtain ⟨hlr, hrx, cap, hx1⟩ := hdst g ρ own fr hr
        obtain ⟨hyl2, A, cap', news, hy1, hy2, hy3⟩ := hsrc g ρ own fr hr
        have hmin : Nat.min ys.length (r - l) = (ys.take (r - l)).length := by rw [List.length_take]; exact Nat.min_comm _ _
        have hnl : (news.take ((ys.take (r - l)).length * d.ty.n)).length = Nat.min ys.length (r - l) * d.ty.n := by
          rw [hmin, List.length_take, hy2.len]
          exact Nat.min_eq_left (Nat.mul_le_mul_right _ (by rw [List.length_take]; exact Nat.min_le_right _ _))
        have hrep : Reps d.ty g.b (news.take ((ys.take (r - l)).length * d.ty.n)) (ys.take (r - l)) := by
          have := hy2.take (ys.take (r - l)).length
          rw [show ys.take (ys.take (r - l)).length = ys.take (r - l) by rw [List.length_take, List.take_eq_take_iff]; omega] at this
          exact this
        refine ⟨.int .i64 ((ys.take (r - l)).length : Int), ⟨rfl, inK_len (by rw [List.length_take]; omega)⟩, ?_⟩
        refine e_many (T := d.ty) (B := offA (ρ b).1 (ρ b).2 l d.n) (i := l) hk hB hrep hyl (fun _ => by rw [d.ty_n]) fun o a w w' q1 q2 hf hs q3 q4 => ?_
        have hs3 := hy3 w hs
        have := run_copy_ (P := P) (ty := o.type) (t' := t') (cap := cap) (cap' := cap') (A := A) (w := w) (cs := news.take ((ys.take (r - l)).length * d.ty.n)) hu hsz (fun hp => by
          have h0 : 0 < ys.length := by
            rcases Nat.eq_zero_or_pos ys.length with h | h
            · rw [h] at hp; simp at hp
            · exact h
          obtain ⟨ad, e1, e2⟩ := hs3 h0
          exact ⟨ad, e1, fun j u hu => e2 j u (by rw [List.getElem?_take] at hu; split at hu; exact hu; cases hu)⟩) hnl (fun h => q3 (by rw [← hmin]; exact h)) (fun h => q4 (by rw [← hmin]; exact h)) d.ty.pos
        rw [hmin] at this
        simp [execOp, q1, resolve, invoke, builtin, hf.ev hx1, hf.ev hy1, this]
      · intro h1 h2 hr hf hs hk
        obtain ⟨hlr, hrx, _⟩ := hdst g ρ own fr hr
        exact absurd (by rw [List.length_take]; omega) hyl
    · exact h2.elim
  · exact h.elim
end
end Go.Proofs.Ytpleflcfaecojaa
namespace Go.Proofs.Ytpleflcfaecojaa
set_option linter.unusedVariables false
set_option linter.unusedSimpArgs false
open Go.RowKit
section
variable {α : Type} {P : Program} {n : Nat} {T : Ty α} {p : Psi} {g : Gh} {own : Own} {sl : Sl} {ty : TypeId}
theorem run_append_view {w : World} {t ty' et : TypeId} {bytes : Nat} (ha : AppT P t et T.n bytes) (hs : St w g own) {i : Nat} {A : Option Addr} {c : Nat} {k : Option Bk} {xs : List α} (hi : own[i]? = some k) (hb : Buf p T et (.slice A xs.length c) k xs)
    {l r : Nat} (hl : 0 < l) (hlr : l ≤ r) (hr : r ≤ xs.length) {A2 : Option Addr} {m c2 : Nat} {news : List Value} {ys : List α} (hm : m = ys.length) (hsrc : Src w A2 m news) (hrep : Reps T p news ys) (hbytes : (r + ys.length) * bytes ≤ 140737488355328) (hlen : r + ys.length ≤ 140737488355328) :
    ∃ A' c' w' k', (Builtin.append_ #[t, t] ty' #[.slice (offA A c l T.n) (r - l) (c - l), .slice A2 m c2]).run P w = .ok (.slice A' (r - l + ys.length) c') w' ∧ St w' g (own.set i k') ∧
      ((A' = offA A c l T.n ∧ c' = c - l ∧ Buf p T et (.slice A (xs.take r ++ ys).length c) k' (xs.take r ++ ys)) ∨ Buf p T et (.slice A' ((xs.drop l).take (r - l) ++ ys).length c') k' ((xs.drop l).take (r - l) ++ ys)) := by
  obtain ⟨inf, z, ht, hinf, hz, hsz, hby, hzs⟩ := ha.out
  have hcell : cellsOfT P et = some T.n := by simp [cellsOfT, hinf, hsz]
  have hcap : xs.length ≤ c := by
    obtain ⟨_, _, e4, e5⟩ := hb.val
    injection e4 with _ _ e6
    omega
  have hlr2 : (xs.take r).length = r := by rw [List.length_take]; omega
  subst hm
  by_cases hy : ys = []
  · subst hy
    refine ⟨offA A c l T.n, c - l, w, k, ?_, by rw [set_same hi]; exact hs, .inl ⟨rfl, rfl, by rw [List.append_nil]; exact hb.cut r hr⟩⟩
    have hle : r - l ≤ c - l := by omega
    cases A2 with
    | none => exact run_append_none ht hcell hle
    | some ad => cases (offA A c l T.n) <;> simp [Builtin.append_, run_underlying ht, run_sizeOf_of hcell, Builtin.lenOf, hle, Builtin.firstCells, loadCells, loadCellsFrom, storeCells]
  · have hpos : 0 < ys.length := List.length_pos_iff.2 hy
    obtain ⟨ad, rfl, hnews⟩ := hsrc hpos
    obtain ⟨h0, hb'⟩ := hb
    rcases hb' with ⟨h1, h2, h3⟩ | ⟨b, cap, cs, sp, h1, h2, h3, h4, h5⟩
    · subst h2
      have hr : r ≤ 0 := hr
      omega
    · injection h1 with e1 e2 e3
      subst e1; subst e3; subst h2
      have hnl : news.length = ys.length * T.n := hrep.len
      have hcs := h3.len
      have hrn : r * T.n ≤ cs.length := by rw [hcs]; exact Nat.mul_le_mul_right _ hr
      have hold : ∀ j u, ((cs.drop (l * T.n)).take ((r - l) * T.n))[j]? = some u → w.cell? ⟨b, l * T.n + j, none⟩ = some u := fun j u hu => by
        have := hs.has _ (List.mem_of_getElem? hi)
        rw [List.getElem?_take] at hu
        split at hu
        · rw [List.getElem?_drop] at hu
          simp [World.cell?, this, Bk.obj_ty]
          rw [List.getElem?_append_left (by rcases Nat.lt_or_ge (l * T.n + j) cs.length with h | h; exact h; rw [List.getElem?_eq_none h] at hu; cases hu)]
          exact hu
        · cases hu
      by_cases hroom : r - l + ys.length ≤ c - l
      · have hne : ¬ c = l := by omega
        have hoff : offA (some (⟨b, 0, none⟩ : Addr)) c l T.n = some ⟨b, l * T.n, none⟩ := by
          unfold offA
          rw [if_neg hne]
          simp [addr_add]
        have hfit : r * T.n + news.length ≤ (cs ++ sp).length := by
          rw [h4, hnl, ← Nat.add_mul]
          exact Nat.mul_le_mul_right _ (by omega)
        obtain ⟨w', hst, hs'⟩ := run_storeCells_own (P := P) (g := g) (i := i) (k := ⟨b, et, cs ++ sp⟩) (vs := news) (own := own) (off := r * T.n) (cs ++ sp) 0 hs hi (by simpa using hrep.one) (by omega)
        have hadd : l * T.n + (r - l) * T.n = r * T.n := by rw [← Nat.add_mul]; congr 1; omega
        have hf := run_firstCells_some (P := P) w T.n ys.length ad ys.length c2 news (by rw [hnl]) hnews
        refine ⟨offA (some ⟨b, 0, none⟩) c l T.n, c - l, w', _, ?_, hs', .inl ⟨rfl, rfl, ?_⟩⟩
        · rw [hoff]
          have hst' : (storeCells ⟨b, l * T.n + (r - l) * T.n, none⟩ news).run P w = .ok () w' := by rw [hadd]; exact hst
          simp [Builtin.append_, run_underlying ht, run_sizeOf_of hcell, Builtin.lenOf, hroom, hf, addr_add, hst']
        · refine ⟨by rw [List.length_append, hlr2]; exact hlen, .inr ⟨b, c, cs.take (r * T.n) ++ news, (cs ++ sp).drop (r * T.n + news.length), by rw [List.length_append], ?_, (h3.take r).append hrep, ?_, h5⟩⟩
          · rw [Nat.add_zero, setRow_eq _ _ _ hfit, List.take_append_of_le_length hrn]
          · rw [List.length_append, List.length_append, List.length_take, List.length_drop, Nat.min_eq_left hrn]
            omega
      · have hoff : ∃ a, offA (some (⟨b, 0, none⟩ : Addr)) c l T.n = some a ∧ (0 < r - l → a = ⟨b, l * T.n, none⟩) := by
          unfold offA
          by_cases h : c = l
          · exact ⟨⟨b, 0, none⟩, by rw [if_pos h], fun h' => by omega⟩
          · refine ⟨⟨b, l * T.n, none⟩, by rw [if_neg h]; simp [addr_add], fun _ => rfl⟩
        obtain ⟨a0, ea, hab⟩ := hoff
        have holen : ((cs.drop (l * T.n)).take ((r - l) * T.n)).length = (r - l) * T.n := by
          rw [List.length_take, List.length_drop]
          have : l * T.n + (r - l) * T.n = r * T.n := by rw [← Nat.add_mul]; congr 1; omega
          omega
        have hbig : (r - l + ys.length) * inf.bytes ≤ 140737488355328 := by
          rw [hby]
          exact Nat.le_trans (Nat.mul_le_mul_right _ (by omega)) hbytes
        obtain ⟨v', w', hrun, how', hgrow⟩ := run_append_arg_grows (P := P) w t ty' et inf z T.n inf.bytes ht hinf hz hsz rfl hzs T.pos a0 (r - l) (c - l) ((cs.drop (l * T.n)).take ((r - l) * T.n)) holen (fun j u hu => by
            have h0 : 0 < r - l := by
              rcases Nat.eq_zero_or_pos (r - l) with h | h
              · rw [h] at hu; simp at hu
              · exact h
            rw [hab h0, addr_add]
            exact hold j u hu) ad ys.length c2 news hnl hnews (by omega) (by simp only [maxLen]; omega) hbig
        have hlenpos : 0 < r - l + ys.length := by omega
        rcases how'.2 with ⟨rfl, hz0⟩ | ⟨b', cap', cur, rfl, hge, hheap, hnc, hcm, hcsz, htake⟩
        · omega
        · refine ⟨some ⟨b', 0, none⟩, cap', w', some ⟨b', et, cur.toList⟩, by rw [ea]; exact hrun, ?_, .inr ?_⟩
          · refine hs.swap hi _ hgrow.os hgrow.tape hgrow.output (fun b hb hne => hgrow.block b hb fun e => by cases e) fun k' hk' => ?_
            injection hk' with hk'
            subst hk'
            exact ⟨by simpa [Bk.obj_ty] using hheap, .inr hge⟩
          · have hpl : ((xs.drop l).take (r - l)).length = r - l := part_len hr
            have hc2 : cur.toList = (((cs.drop (l * T.n)).take ((r - l) * T.n)) ++ news) ++ cur.toList.drop ((r - l + ys.length) * T.n) := by rw [← htake, List.take_append_drop]
            refine ⟨by rw [List.length_append, hpl]; omega, .inr ⟨b', cap', ((cs.drop (l * T.n)).take ((r - l) * T.n)) ++ news, cur.toList.drop ((r - l + ys.length) * T.n), by rw [List.length_append, hpl], by rw [← hc2], (((h3.drop l).take (r - l)).append hrep), ?_, hcm⟩⟩
            rw [← hc2]
            simpa using hcsz
end
section
variable {P : Program} {n : Nat} {ty : TypeId} {sl : List (Nat × SV)} {bl bl' : List BV} {v : SV} {f : Nat} {g : Gh} {ρ : Env} {own : Own} {fr : Sl}
def tAppV (P : Program) (sl : List (Nat × SV)) (t t' : TypeId) (s x : Operand) : Tr := match rowOf P t, Nat.beq t t', evH sl s with
  | some (c, et, bytes), true, some (.v (.c (.vw b cv l r))) => .need b fun
      | .row d et' xs => (match d.same c, d.same cv, Nat.beq et' et && Nat.ble 1 l with
        | some _, some _, true => srcT sl d b x fun ys => .grd (decide ((r + ys.length) * bytes ≤ 140737488355328)) (.done ⟨vC (.ro d ((xs.drop l).take (r - l) ++ ys) true), [(b, .no)], []⟩)
        | _, _, _ => .no)
      | _ => .no
  | _, _, _ => .no
theorem tAppV_ok {t t' : TypeId} {s x : Operand} (h : Told f (tAppV P sl t t' s x) bl bl' v) :
    EffH P n (.call { callee := .builtin .append, args := #[s, x], argTypes := #[t, t'] }) ty sl bl bl' v := by
  unfold tAppV at h
  split at h
  · rename_i c et bytes b cv l r hrow htt es
    have htt := Nat.eq_of_beq_eq_true htt
    subst htt
    obtain ⟨hu, happ, _, hby⟩ := rowOf_ok hrow
    obtain ⟨bv, hb, h⟩ := h
    dsimp only at h
    split at h
    · rename_i d et' xs
      split at h
      · rename_i hk0 hk2 _ _ he
        obtain ⟨hk0⟩ := hk0; obtain ⟨hk2⟩ := hk2; subst hk0; subst hk2
        simp only [Bool.and_eq_true] at he
        obtain ⟨he, hl1⟩ := he
        have he := Nat.eq_of_beq_eq_true he
        have hl1 := Nat.le_of_ble_eq_true hl1
        subst he
        obtain ⟨ys, h2, hsrc⟩ := srcT_told h
        clear h
        obtain ⟨hg, rfl, rfl⟩ := h2
        have hg := of_decide_eq_true hg
        intro o a w Q K g ρ own fr h1 h2 hr hfr hs hk
        obtain ⟨vs', hs1, hkn, rfl, hl⟩ := evH_real hr es
        obtain ⟨hlr, hrx⟩ := hl _ _ hb rfl
        obtain ⟨k0, hk0, hB⟩ := hr.own_at hb
        have hB : Buf g.b d.ty et' (.slice (ρ b).1 xs.length (ρ b).2) k0 xs := hB
        obtain ⟨hyl, A2, cap2, news, hx1, hx2, hx3⟩ := hsrc g ρ own fr hr
        have hlb := get_lt hk0
        have hpl : ((xs.drop l).take (r - l)).length = r - l := part_len hrx
        obtain ⟨A', c', w', k', hrun, hs', hres⟩ := run_append_view (P := P) (ty' := o.type) (c2 := cap2) (AppT.of happ) hs hk0 hB (l := l) (r := r) (by omega) hlr hrx rfl (hx3 w hs) hx2 hg (le_mul_bytes hby hg)
        have key : ∃ g', g.le g' ∧ St w' g' ((own.set b k').set b none) ∧ Arr g'.b d.ty A' c' ((xs.drop l).take (r - l) ++ ys) := by
          have hi' : (own.set b k')[b]? = some k' := by simp [List.getElem?_set, hlb]
          rcases hres with ⟨rfl, rfl, hB'⟩ | hB'
          · have key : ∃ g' , g.le g' ∧ St w' g' ((own.set b k').set b none) ∧ Arr g'.b d.ty (ρ b).1 (ρ b).2 (xs.take r ++ ys) :=
              wpq_freeze (K := fun _ w' => ∃ g' , g.le g' ∧ St w' g' ((own.set b k').set b none) ∧ Arr g'.b d.ty (ρ b).1 (ρ b).2 (xs.take r ++ ys)) (n := 0) (sl := []) b hi' hB' (fun g' h1 h2 a w' _ h3 => ⟨g', h1, h3, h2⟩) ⟨#[], []⟩ w' ⟨rfl, rfl, fun _ _ h => by cases h⟩ hs'
            obtain ⟨g', h1, h2, h3⟩ := key
            refine ⟨g', h1, h2, ?_⟩
            have h4 := h3.cut_from l (by rw [List.length_append, List.length_take]; omega)
            rw [List.drop_append_of_le_length (by rw [List.length_take]; omega), List.drop_take] at h4
            exact h4
          · exact wpq_freeze (K := fun _ w' => ∃ g' , g.le g' ∧ St w' g' ((own.set b k').set b none) ∧ Arr g'.b d.ty A' c' ((xs.drop l).take (r - l) ++ ys)) (n := 0) (sl := []) b hi' hB' (fun g' h1 h2 a w' _ h3 => ⟨g', h1, h3, h2⟩) ⟨#[], []⟩ w' ⟨rfl, rfl, fun _ _ h => by cases h⟩ hs'
        obtain ⟨g', hg1, hs2, harr⟩ := key
        rw [List.set_set] at hs2
        have hx : Ext ρ bl ρ (bl.set b .no) := Ext.set_at hb rfl fun m hm => by cases hm
        have hr1 := hr.setB (g' := g') (bv1 := .no) (k := none) hg1 hb rfl (fun m hm => by cases hm) rfl
        have hrun' : (execOp a.eval o).run P w = .ok (.value (.slice A' (r - l + ys.length) c')) w' := by
          have hs1' : evS fr s = some (.slice (offA (ρ b).1 (ρ b).2 l d.ty.n) (r - l) ((ρ b).2 - l)) := by rw [d.ty_n]; exact hs1
          simp [execOp, h1, resolve, invoke, builtin, hfr.ev hs1', hfr.ev hx1, hrun]
        unfold Oper.wp
        rw [hrun']
        refine hk _ g' ρ _ w' hg1 hx hs2 hr1 ⟨A', c', by rw [List.length_append, hpl], harr⟩
      · exact h.elim
    · exact h.elim
  · exact h.elim
end
end Go.Proofs.Ytpleflcfaecojaa
namespace Go.Proofs.Ytpleflcfaecojaa
set_option linter.unusedVariables false
set_option linter.unusedSimpArgs false
open Go.RowKit
def mxNew (S : FSp) : List Sch → Nat
  | [] => 0
  | s :: l => Nat.max (s.bl.length - S.ps.bl.length) (mxNew S l)
def mxL : List FSp → Nat
  | [] => 0
  | S :: l => Nat.max (mxNew S S.rs) (mxL l)
def stepM (P : Program) (tbl : FuncId → List FSp) (sl : List (Nat × SV)) : Op → Nat
  | .alloc _ => 1
  | .box _ _ => 1
  | .buildSlice _ _ _ => 1
  | .makeSlice _ _ _ => 1
  | .call c => match c.callee with
    | .builtin .append => 1
    | .value x => (match evH sl x with
      | some (.v (.c fv)) => (match fnOf fv with | some (f, _) => mxL (tbl f) | none => 0)
      | _ => 0)
    | .invoke x name => (match evH sl x with
      | some (.v (.c (.ifc t _))) => (match mthOf P t name with | some f => mxL (tbl f) | none => 0)
      | _ => 0)
    | _ => 0
  | _ => 0
def isView (sl : List (Nat × SV)) (s : Operand) : Bool := match evH sl s with
  | some (.v (.c (.vw _ _ l _))) => Nat.ble 1 l
  | _ => false
def stepC (P : Program) (tbl : FuncId → List FSp) (sl : List (Nat × SV)) (f m : Nat) (cl : Callee) (args : List Operand) (ats : List TypeId) : Tr := match cl with
  | .value x => tCall P tbl sl f m x args
  | .invoke x name => tInv P tbl sl f m x name args
  | .builtin b => (match b, args, ats with
    | .append, [s, x], [t, t'] => (match P.underlying t' with | some (.int _) => tAppZ P sl f t t' s x | _ => (match isView sl s with | true => tAppV P sl t t' s x | false => tApp P sl f t t' s x))
    | .len, [x], [t] => tLen P sl t x
    | .cap, [x], [t] => tCap P sl t x
    | .clear, [x], [t] => tClear P sl t x
    | .copy, [x, y], [t, _] => tCopy P sl t x y
    | b, [x, y], _ => tMM b sl x y
    | _, _, _ => .no)
def stepH (P : Program) (tbl : FuncId → List FSp) (sl : List (Nat × SV)) (f : Nat) (op : Op) (ty : TypeId) : Tr := match op with
  | .move x => tMove sl x
  | .assign x => tMove sl x
  | .pick c x y => tPick sl c x y
  | .alloc t => tAlloc P f t
  | .box t x => tBox sl f t x
  | .build t parts => tBuild P sl t parts.toList
  | .buildSlice t len parts => tLit P sl f t len parts.toList
  | .load t x => tLoad P sl t x
  | .store t x y => tStore P sl t x y
  | .nilCheck x => tNil sl x
  | .binOp op t x y _ => tBin P sl op t x y
  | .unOp op _ x => tUn sl op x
  | .convert s d x => tText P sl s d x
  | .makeFunc fn first captured => tFn sl fn first.toList captured.toList
  | .makeInterface t x => tIfc P sl t x
  | .makeSlice t x y => tMake P sl f t x y
  | .slice t x lo hi none => tSlice P sl t x lo hi
  | .fieldAddr t x i => tFieldA P sl t x i
  | .field t x i => tField P sl t x i
  | .indexAddr t x i => tIndexA P sl t x i
  | .index t x i => tIndex P sl t x i
  | .extract x i => tExtract sl x i
  | .call c => stepC P tbl sl f (stepM P tbl sl op) c.callee c.args.toList c.argTypes.toList
  | _ => .no
section
variable {P : Program} {n : Nat} {ty : TypeId} {sl : List (Nat × SV)} {bl bl' : List BV} {v : SV} {f : Nat}
theorem stepC_ok {tbl : FuncId → List FSp} (hT : ∀ f S, S ∈ tbl f → FOk P f S) {c : Call} (hf : ∀ i, i < stepM P tbl sl (.call c) → bl[f + i]? = some .hole) (h : Told f (stepC P tbl sl f (stepM P tbl sl (.call c)) c.callee c.args.toList c.argTypes.toList) bl bl' v) : EffH P n (.call c) ty sl bl bl' v := by
  obtain ⟨cl, args, ats⟩ := c
  cases cl with
  | value x =>
    have := tCall_ok (n := n) (ty := ty) (ats := ats) hT hf h
    simpa using this
  | invoke x name =>
    have := tInv_ok (n := n) (ty := ty) (ats := ats) hT hf h
    simpa using this
  | builtin b =>
    simp only [stepC] at h
    split at h
    · rename_i s x t t' ha ht
      have ha : args = #[s, x] := by rw [← Array.toArray_toList (xs := args), ha]
      have ht : ats = #[t, t'] := by rw [← Array.toArray_toList (xs := ats), ht]
      subst ha; subst ht
      split at h
      · exact tAppZ_ok (by have := hf 0 (by simp [stepM]); simpa using this) h
      · split at h
        · exact tAppV_ok h
        · exact tApp_ok (by have := hf 0 (by simp [stepM]); simpa using this) h
    · rename_i x t ha ht
      have ha : args = #[x] := by rw [← Array.toArray_toList (xs := args), ha]
      have ht : ats = #[t] := by rw [← Array.toArray_toList (xs := ats), ht]
      subst ha; subst ht
      exact tLen_ok h
    · rename_i x t ha ht
      have ha : args = #[x] := by rw [← Array.toArray_toList (xs := args), ha]
      have ht : ats = #[t] := by rw [← Array.toArray_toList (xs := ats), ht]
      subst ha; subst ht
      exact tCap_ok h
    · rename_i x t ha ht
      have ha : args = #[x] := by rw [← Array.toArray_toList (xs := args), ha]
      have ht : ats = #[t] := by rw [← Array.toArray_toList (xs := ats), ht]
      subst ha; subst ht
      exact tClear_ok h
    · rename_i x y t t' ha ht
      have ha : args = #[x, y] := by rw [← Array.toArray_toList (xs := args), ha]
      have ht : ats = #[t, t'] := by rw [← Array.toArray_toList (xs := ats), ht]
      subst ha; subst ht
      exact tCopy_ok h
    · rename_i x y ha _ _
      have ha : args = #[x, y] := by rw [← Array.toArray_toList (xs := args), ha]
      subst ha
      exact tMM_ok h
    · exact h.elim
theorem stepH_ok {tbl : FuncId → List FSp} (hT : ∀ f S, S ∈ tbl f → FOk P f S) {op : Op} (hf : ∀ i, i < stepM P tbl sl op → bl[f + i]? = some .hole) (h : Told f (stepH P tbl sl f op ty) bl bl' v) : EffH P n op ty sl bl bl' v := by
  have h1 : 0 < stepM P tbl sl op → bl[f]? = some .hole := fun h0 => by simpa using hf 0 h0
  cases op with
  | move x => exact (tMove_ok h).1
  | assign x => exact (tMove_ok h).2
  | pick c x y => exact tPick_ok h
  | alloc t => exact tAlloc_ok (h1 (by simp [stepM])) h
  | box t x => exact tBox_ok (h1 (by simp [stepM])) h
  | build t parts => simpa using tBuild_ok (n := n) (ty := ty) h
  | buildSlice t len parts => simpa using tLit_ok (n := n) (ty := ty) (h1 (by simp [stepM])) h
  | load t x => exact tLoad_ok h
  | store t x y => exact tStore_ok h
  | nilCheck x => exact tNil_ok h
  | binOp op t x y u => exact tBin_ok h
  | unOp op t x => exact tUn_ok h
  | convert s d x => exact tText_ok h
  | makeFunc fn first captured => simpa using tFn_ok (n := n) (ty := ty) h
  | makeInterface t x => exact tIfc_ok h
  | makeSlice t x y => exact tMake_ok (h1 (by simp [stepM])) h
  | slice t x lo hi mx => cases mx with
    | none => exact tSlice_ok h
    | some _ => exact h.elim
  | fieldAddr t x i => exact tFieldA_ok h
  | field t x i => exact tField_ok h
  | indexAddr t x i => exact tIndexA_ok h
  | index t x i => exact tIndex_ok h
  | extract x i => exact tExtract_ok h
  | call c => exact stepC_ok hT hf h
  | _ => exact h.elim
end
abbrev Tbl := List (FuncId × FSp)
def lkT : Tbl → FuncId → List FSp
  | [], _ => []
  | (f, S) :: l, g => cond (Nat.beq f g) (S :: lkT l g) (lkT l g)
structure TOk (P : Program) (T : Tbl) : Prop where
  ok : ∀ f S, S ∈ lkT T f → FOk P f S
theorem TOk.nil {P : Program} : TOk P [] := ⟨fun f S h => by cases h⟩
theorem TOk.cons {P : Program} {T : Tbl} {f : FuncId} {S : FSp} (h : TOk P T) (k : FOk P f S) : TOk P ((f, S) :: T) := ⟨fun g S' hm => by
  unfold lkT at hm
  cases hb : Nat.beq f g with
  | true =>
    rw [hb] at hm
    have := Nat.eq_of_beq_eq_true hb
    subst this
    rcases List.mem_cons.1 hm with rfl | hm
    · exact k
    · exact h.ok _ _ hm
  | false => rw [hb] at hm; exact h.ok _ _ hm⟩
def stpT (P : Program) (T : Tbl) (h : TOk P T) : Stp P := ⟨stepH P (lkT T), stepM P (lkT T), fun hf hT => stepH_ok h.ok hf hT⟩
theorem FOk.run_eq {P : Program} {f : FuncId} {ps : Sch} {rs : List Sch} {r1 r2 : HL ps.lv → Option (ALT rs)} (h : FOk P f ⟨ps, rs, r1⟩) (e : ∀ t, r1 t = r2 t) : FOk P f ⟨ps, rs, r2⟩ := by
  have : r1 = r2 := funext e
  rwa [← this]
end Go.Proofs.Ytpleflcfaecojaa
namespace Go.Proofs.Ytpleflcfaecojaa
set_option linter.unusedVariables false
set_option linter.unusedSimpArgs false
set_option maxRecDepth 100000
open Go.RowKit
abbrev T0 : Tbl := []
theorem K0 : TOk Try.prog T0 := .nil
noncomputable section
def p19 : Sch := ⟨[(0, .v (.c (.ro .y false)))], []⟩
def r19 : List Sch := [⟨[(0, .v (.c (.own 0)))], [.row .y 5]⟩]
def o19 (a0 : List UInt8) : Option (List UInt8) :=
 (nlO (List.isEmpty a0) (some ([] : List UInt8)) (gd (decide ((([] : List UInt8).length + a0.length) * 1 ≤ 140737488355328)) (some (([] : List UInt8) ++ a0))))
theorem e19 (t : List UInt8) : evF (stpT Try.prog T0 K0) Try.f19 p19 r19 .d t = (o19 t) := by kernel_rfl
theorem fo19 : FOk Try.prog 19 ⟨p19, r19, fun t => (o19 t)⟩ := FOk.run_eq (evF_ok (h := .d) (by kernel_rfl) (by kernel_rfl) (by kernel_rfl)) e19
def T1 : Tbl := (19, ⟨p19, r19, fun t => (o19 t)⟩) :: T0
theorem K1 : TOk Try.prog T1 := .cons K0 fo19
def o15_s0 : Sch := ⟨[(0, .v (.c (.i .i64))), (1, .v (.c (.ro .y false))), (15, .v (.c (.b)))], []⟩
def o15_s1 : Sch := ⟨[(0, .v (.c (.i .i64))), (1, .v (.c (.ro .y false))), (6, .v (.c (.i .i64))), (7, .v (.c (.own 0))), (25, .v (.c (.i .i64))), (26, .v (.c (.i .i64)))], [.row (.p (.i .i64) (.p (.i .i64) (.p (.i .i64) (.a .y)))) 75]⟩
def p15 : Sch := ⟨[(0, .v (.c (.i .i64))), (1, .v (.c (.ro .y false)))], []⟩
def r15 : List Sch := [⟨[(0, .tup [.c (.own 0), .c (.i .i64)])], [.row (.p (.i .i64) (.p (.i .i64) (.p (.i .i64) (.a .y)))) 75]⟩]
def o15 (a0 : Int) (a1 : List UInt8) : Option (Int × List (Int × Int × Int × List UInt8)) :=
 (bd (α := (Int × List UInt8 × Bool)) (cnd (decide (a0 < (1 : Int))) (some (a0, a1, true)) (some (a0, a1, (decide (a0 > (2305843009213693952 : Int)))))) (fun v1 => (cnd v1.2.2 (some ((1 : Int), ([] : List (Int × Int × Int × List UInt8)))) (cnd (decide (((v1.2.1.length : Nat) : Int) > (524288 : Int))) (some ((3 : Int), ([] : List (Int × Int × Int × List UInt8)))) (loopO (σ := Int × List UInt8 × Int × Int × Int × List (Int × Int × Int × List UInt8)) fuelN (fun (v4 : Int × List UInt8 × Int × Int × Int × List (Int × Int × Int × List UInt8)) => (cnd (decide (v4.2.2.2.2.1 < v4.2.2.2.1)) (gd (decide ((0 : Int) ≤ (IntKind.wrap .i64 (v4.2.2.2.2.1 * (600 : Int))) ∧ (IntKind.wrap .i64 (v4.2.2.2.2.1 * (600 : Int))) ≤ (minI (IntKind.wrap .i64 ((IntKind.wrap .i64 (v4.2.2.2.2.1 + (1 : Int))) * (600 : Int))) ((v4.2.1.length : Nat) : Int)) ∧ (minI (IntKind.wrap .i64 ((IntKind.wrap .i64 (v4.2.2.2.2.1 + (1 : Int))) * (600 : Int))) ((v4.2.1.length : Nat) : Int)) ≤ ((v4.2.1.length : Nat) : Int))) (bd (α := (List UInt8)) (o19 (List.take ((minI (IntKind.wrap .i64 ((IntKind.wrap .i64 (v4.2.2.2.2.1 + (1 : Int))) * (600 : Int))) ((v4.2.1.length : Nat) : Int)).toNat - (IntKind.wrap .i64 (v4.2.2.2.2.1 * (600 : Int))).toNat) (List.drop (IntKind.wrap .i64 (v4.2.2.2.2.1 * (600 : Int))).toNat v4.2.1))) (fun v5 => (gd (decide ((v4.2.2.2.2.2.length + ([(v4.1, (v4.2.2.2.2.1, (v4.2.2.1, v5)))] : List (Int × Int × Int × List UInt8)).length) * 48 ≤ 140737488355328)) (some (Ctl.go (v4.1, v4.2.1, v4.2.2.1, v4.2.2.2.1, (IntKind.wrap .i64 (v4.2.2.2.2.1 + (1 : Int))), (v4.2.2.2.2.2 ++ ([(v4.1, (v4.2.2.2.2.1, (v4.2.2.1, v5)))] : List (Int × Int × Int × List UInt8)))))))))) (dnO (some ((0 : Int), v4.2.2.2.2.2))))) (v1.1, v1.2.1, (maxI (IntKind.wrap .i64 (Int.tdiv (IntKind.wrap .i64 ((IntKind.wrap .i64 (((v1.2.1.length : Nat) : Int) + (600 : Int))) - (1 : Int))) (600 : Int))) (1 : Int)), (maxI (IntKind.wrap .i64 (Int.tdiv (IntKind.wrap .i64 ((IntKind.wrap .i64 (((v1.2.1.length : Nat) : Int) + (600 : Int))) - (1 : Int))) (600 : Int))) (1 : Int)), (0 : Int), ([] : List (Int × Int × Int × List UInt8))))))))
theorem e15 (t : Int × List UInt8) : evF (stpT Try.prog T1 K1) Try.f15 p15 r15 (.s .d (.s (.s (.j false [o15_s0] .d) .d) (.s .d (.s .d (.s .d (.s (.s .d (.b (.l o15_s1 .d))) .d)))))) t = (o15 t.1 t.2) := by kernel_rfl
theorem fo15 : FOk Try.prog 15 ⟨p15, r15, fun t => (o15 t.1 t.2)⟩ := FOk.run_eq (evF_ok (h := (.s .d (.s (.s (.j false [o15_s0] .d) .d) (.s .d (.s .d (.s .d (.s (.s .d (.b (.l o15_s1 .d))) .d))))))) (by kernel_rfl) (by kernel_rfl) (by kernel_rfl)) e15
def T2 : Tbl := (15, ⟨p15, r15, fun t => (o15 t.1 t.2)⟩) :: T1
theorem K2 : TOk Try.prog T2 := .cons K1 fo15
def p53 : Sch := ⟨[(0, .v (.c (.i .i64))), (1, .v (.c (.i .i64))), (2, .v (.c (.i .i64)))], []⟩
def r53 : List Sch := [⟨[(0, .v (.c (.i .i64)))], []⟩]
def o53 (a0 : Int) (a1 : Int) (a2 : Int) : Option Int :=
 (cnd (decide (a1 ≥ a0)) (cnd (decide ((IntKind.wrap .u64 ((IntKind.wrap .u64 a1) - (IntKind.wrap .u64 a0))) ≤ (IntKind.wrap .u64 (maxI a2 (0 : Int))))) (some a1) (some (IntKind.wrap .i64 (a0 + (maxI a2 (0 : Int)))))) (cnd (decide ((IntKind.wrap .u64 ((IntKind.wrap .u64 a0) - (IntKind.wrap .u64 a1))) ≤ (IntKind.wrap .u64 (maxI a2 (0 : Int))))) (some a1) (some (IntKind.wrap .i64 (a0 - (maxI a2 (0 : Int)))))))
theorem e53 (t : Int × Int × Int) : evF (stpT Try.prog T2 K2) Try.f53 p53 r53 .d t = (o53 t.1 t.2.1 t.2.2) := by kernel_rfl
theorem fo53 : FOk Try.prog 53 ⟨p53, r53, fun t => (o53 t.1 t.2.1 t.2.2)⟩ := FOk.run_eq (evF_ok (h := .d) (by kernel_rfl) (by kernel_rfl) (by kernel_rfl)) e53
def T3 : Tbl := (53, ⟨p53, r53, fun t => (o53 t.1 t.2.1 t.2.2)⟩) :: T2
theorem K3 : TOk Try.prog T3 := .cons K2 fo53
def p16 : Sch := ⟨[(0, .v (.agg [.i .u8, .i .u8, .i .u8, .i .i64, .i .i64, .i .i64, .i .i64])), (1, .v (.agg [.i .u8, .i .u8, .i .u8, .i .i64, .i .i64, .i .i64, .i .i64])), (2, .v (.agg [.i .i64, .i .i64, .i .i64, .i .i64]))], []⟩
def r16 : List Sch := [⟨[(0, .v (.agg [.i .u8, .i .u8, .i .u8, .i .i64, .i .i64, .i .i64, .i .i64]))], []⟩]
def o16 (a0 : Int) (a1 : Int) (a2 : Int) (a3 : Int) (a4 : Int) (a5 : Int) (a6 : Int) (a7 : Int) (a8 : Int) (a9 : Int) (a10 : Int) (a11 : Int) (a12 : Int) (a13 : Int) (a14 : Int) (a15 : Int) (a16 : Int) (a17 : Int) : Option (Int × Int × Int × Int × Int × Int × Int) :=
 (bd (α := Int) (o53 a3 a10 a14) (fun v1 => (bd (α := Int) (o53 a4 a11 a15) (fun v2 => (bd (α := Int) (o53 a5 a12 a16) (fun v3 => (bd (α := Int) (o53 a6 a13 a17) (fun v4 => (some (a7, a8, a9, v1, v2, v3, v4))))))))))
theorem e16 (t : Int × Int × Int × Int × Int × Int × Int × Int × Int × Int × Int × Int × Int × Int × Int × Int × Int × Int) : evF (stpT Try.prog T3 K3) Try.f16 p16 r16 .d t = (o16 t.1 t.2.1 t.2.2.1 t.2.2.2.1 t.2.2.2.2.1 t.2.2.2.2.2.1 t.2.2.2.2.2.2.1 t.2.2.2.2.2.2.2.1 t.2.2.2.2.2.2.2.2.1 t.2.2.2.2.2.2.2.2.2.1 t.2.2.2.2.2.2.2.2.2.2.1 t.2.2.2.2.2.2.2.2.2.2.2.1 t.2.2.2.2.2.2.2.2.2.2.2.2.1 t.2.2.2.2.2.2.2.2.2.2.2.2.2.1 t.2.2.2.2.2.2.2.2.2.2.2.2.2.2.1 t.2.2.2.2.2.2.2.2.2.2.2.2.2.2.2.1 t.2.2.2.2.2.2.2.2.2.2.2.2.2.2.2.2.1 t.2.2.2.2.2.2.2.2.2.2.2.2.2.2.2.2.2) := by kernel_rfl
theorem fo16 : FOk Try.prog 16 ⟨p16, r16, fun t => (o16 t.1 t.2.1 t.2.2.1 t.2.2.2.1 t.2.2.2.2.1 t.2.2.2.2.2.1 t.2.2.2.2.2.2.1 t.2.2.2.2.2.2.2.1 t.2.2.2.2.2.2.2.2.1 t.2.2.2.2.2.2.2.2.2.1 t.2.2.2.2.2.2.2.2.2.2.1 t.2.2.2.2.2.2.2.2.2.2.2.1 t.2.2.2.2.2.2.2.2.2.2.2.2.1 t.2.2.2.2.2.2.2.2.2.2.2.2.2.1 t.2.2.2.2.2.2.2.2.2.2.2.2.2.2.1 t.2.2.2.2.2.2.2.2.2.2.2.2.2.2.2.1 t.2.2.2.2.2.2.2.2.2.2.2.2.2.2.2.2.1 t.2.2.2.2.2.2.2.2.2.2.2.2.2.2.2.2.2)⟩ := FOk.run_eq (evF_ok (h := .d) (by kernel_rfl) (by kernel_rfl) (by kernel_rfl)) e16
def T4 : Tbl := (16, ⟨p16, r16, fun t => (o16 t.1 t.2.1 t.2.2.1 t.2.2.2.1 t.2.2.2.2.1 t.2.2.2.2.2.1 t.2.2.2.2.2.2.1 t.2.2.2.2.2.2.2.1 t.2.2.2.2.2.2.2.2.1 t.2.2.2.2.2.2.2.2.2.1 t.2.2.2.2.2.2.2.2.2.2.1 t.2.2.2.2.2.2.2.2.2.2.2.1 t.2.2.2.2.2.2.2.2.2.2.2.2.1 t.2.2.2.2.2.2.2.2.2.2.2.2.2.1 t.2.2.2.2.2.2.2.2.2.2.2.2.2.2.1 t.2.2.2.2.2.2.2.2.2.2.2.2.2.2.2.1 t.2.2.2.2.2.2.2.2.2.2.2.2.2.2.2.2.1 t.2.2.2.2.2.2.2.2.2.2.2.2.2.2.2.2.2)⟩) :: T3
theorem K4 : TOk Try.prog T4 := .cons K3 fo16
def o17_s0 : Sch := ⟨[(5, .v (.c (.i .i64))), (9, .v (.c (.own 0))), (10, .v (.c (.i .i64))), (11, .v (.c (.i .i64))), (21, .v (.c (.b)))], [.row .y 5]⟩
def o17_s1 : Sch := ⟨[(9, .v (.c (.own 0))), (10, .v (.c (.i .i64))), (11, .v (.c (.i .i64)))], [.row .y 5]⟩
def p17 : Sch := ⟨[(0, .v (.c (.i .u8))), (1, .v (.c (.i .u8)))], []⟩
def r17 : List Sch := [⟨[(0, .v (.c (.i .i64)))], []⟩]
def o17 (a0 : Int) (a1 : Int) : Option Int :=
 (loopO (σ := Int × Int × List UInt8) fuelN (fun (v3 : Int × Int × List UInt8) => (cnd (decide (v3.2.1 < v3.1)) (gd (decide ((0 : Int) ≤ v3.2.1 ∧ v3.2.1 < ((v3.2.2.length : Nat) : Int))) (bd (α := (Int × Int × Int × Bool × List UInt8)) (cnd (((UInt8.toNat (List.getD v3.2.2 v3.2.1.toNat (0 : UInt8)) : Nat) : Int) == (4 : Int)) (some (v3.2.1, v3.1, v3.2.1, true, v3.2.2)) (some (v3.2.1, v3.1, v3.2.1, (((UInt8.toNat (List.getD v3.2.2 v3.2.1.toNat (0 : UInt8)) : Nat) : Int) == (3 : Int)), v3.2.2))) (fun v4 => (cnd v4.2.2.2.1 (dnO (some (IntKind.wrap .i64 (v4.1 + (1 : Int))))) (some (Ctl.go (v4.2.1, (IntKind.wrap .i64 (v4.2.2.1 + (1 : Int))), v4.2.2.2.2))))))) (dnO (some (0 : Int))))) (((([(u8 a0), (u8 a1)] : List UInt8).length : Nat) : Int), (0 : Int), ([(u8 a0), (u8 a1)] : List UInt8)))
theorem e17 (t : Int × Int) : evF (stpT Try.prog T4 K4) Try.f17 p17 r17 (.s .d (.s (.s .d (.b (.l o17_s1 (.s .d (.s .d (.s (.b (.s .d (.s (.j false [o17_s0] .d) .d))) .d)))))) .d)) t = (o17 t.1 t.2) := by kernel_rfl
theorem fo17 : FOk Try.prog 17 ⟨p17, r17, fun t => (o17 t.1 t.2)⟩ := FOk.run_eq (evF_ok (h := (.s .d (.s (.s .d (.b (.l o17_s1 (.s .d (.s .d (.s (.b (.s .d (.s (.j false [o17_s0] .d) .d))) .d)))))) .d))) (by kernel_rfl) (by kernel_rfl) (by kernel_rfl)) e17
def T5 : Tbl := (17, ⟨p17, r17, fun t => (o17 t.1 t.2)⟩) :: T4
theorem K5 : TOk Try.prog T5 := .cons K4 fo17
def o4_s0 : Sch := ⟨[(0, .v (.c (.b)))], []⟩
def p4 : Sch := ⟨[], []⟩
def r4 : List Sch := [⟨[(0, .v (.c (.b)))], []⟩]
def o4 : Option Bool :=
 (bd (α := (Int × List (Int × Int × Int × List UInt8))) (o15 (3 : Int) (List.replicate (601 : Int).toNat (u8 (0 : Int)))) (fun v1 => (bd (α := (Int × Int × Int × Int × Int × Int × Int)) (o16 (0 : Int) (0 : Int) (0 : Int) (0 : Int) (0 : Int) (0 : Int) (0 : Int) (0 : Int) (0 : Int) (0 : Int) (-700 : Int) (0 : Int) (0 : Int) (0 : Int) (300 : Int) (0 : Int) (0 : Int) (0 : Int)) (fun v2 => (bd (α := Bool) (cnd (((v1.2.length : Nat) : Int) == (2 : Int)) (gd (decide ((0 : Int) ≤ (1 : Int) ∧ (1 : Int) < ((v1.2.length : Nat) : Int))) (cnd (((List.getD v1.2 ((1 : Int).toNat) ((0 : Int), ((0 : Int), ((0 : Int), ([] : List UInt8))))).2).1 == (1 : Int)) (gd (decide ((0 : Int) ≤ (1 : Int) ∧ (1 : Int) < ((v1.2.length : Nat) : Int))) (cnd ((((List.getD v1.2 ((1 : Int).toNat) ((0 : Int), ((0 : Int), ((0 : Int), ([] : List UInt8))))).2).2).1 == (2 : Int)) (gd (decide ((0 : Int) ≤ (1 : Int) ∧ (1 : Int) < ((v1.2.length : Nat) : Int))) (cnd (((((((List.getD v1.2 ((1 : Int).toNat) ((0 : Int), ((0 : Int), ((0 : Int), ([] : List UInt8))))).2).2).2).length : Nat) : Int) == (1 : Int)) (cnd (v1.1 == (0 : Int)) (cnd (v2.2.2.2.1 == (-300 : Int)) (bd (α := Int) (o17 (2 : Int) (3 : Int)) (fun v3 => (cnd (v3 == (2 : Int)) (bd (α := Int) (o17 (1 : Int) (2 : Int)) (fun v4 => (some (v4 == (0 : Int))))) (some false)))) (some false)) (some false)) (some false))) (some false))) (some false))) (some false)) (fun v5 => (some v5)))))))
theorem e4 (t : Unit) : evF (stpT Try.prog T5 K5) Try.f4 p4 r4 (.s .d (.s .d (.s .d (.s (.j false [o4_s0] .d) .d)))) t = o4 := by kernel_rfl
theorem fo4 : FOk Try.prog 4 ⟨p4, r4, fun t => o4⟩ := FOk.run_eq (evF_ok (h := (.s .d (.s .d (.s .d (.s (.j false [o4_s0] .d) .d))))) (by kernel_rfl) (by kernel_rfl) (by kernel_rfl)) e4
def T6 : Tbl := (4, ⟨p4, r4, fun t => o4⟩) :: T5
theorem K6 : TOk Try.prog T6 := .cons K5 fo4
end
end Go.Proofs.Ytpleflcfaecojaa
namespace Go.Proofs.Ytpleflcfaecojaa
set_option linter.unusedVariables false
set_option linter.unusedSimpArgs false
set_option maxRecDepth 100000
open Go.RowKit
noncomputable section
def o117_s0 : Sch := ⟨[(0, .v (.c (.i .i64))), (1, .v (.c (.i .i64))), (5, .v (.c (.own 0))), (6, .v (.c (.i .i64)))], [.row .y 5]⟩
def p117 : Sch := ⟨[(0, .v (.c (.i .i64))), (1, .v (.c (.i .i64)))], []⟩
def r117 : List Sch := [⟨[(0, .v (.c (.own 0)))], [.row .y 5]⟩]
def o117 (a0 : Int) (a1 : Int) : Option (List UInt8) :=
 (loopO (σ := Int × Int × Int × List UInt8) fuelN (fun (v2 : Int × Int × Int × List UInt8) => (cnd (decide (v2.2.2.1 < v2.2.1)) (gd (decide ((0 : Int) ≤ (IntKind.wrap .i64 ((8 : Int) * v2.2.2.1)))) (gd (decide ((v2.2.2.2.length + ([(u8 (IntKind.wrap .u8 (shrK .u64 (IntKind.wrap .u64 v2.1) (IntKind.wrap .i64 ((8 : Int) * v2.2.2.1)))))] : List UInt8).length) * 1 ≤ 140737488355328)) (some (Ctl.go (v2.1, v2.2.1, (IntKind.wrap .i64 (v2.2.2.1 + (1 : Int))), (v2.2.2.2 ++ ([(u8 (IntKind.wrap .u8 (shrK .u64 (IntKind.wrap .u64 v2.1) (IntKind.wrap .i64 ((8 : Int) * v2.2.2.1)))))] : List UInt8))))))) (dnO (some v2.2.2.2)))) (a0, a1, (0 : Int), ([] : List UInt8)))
theorem e117 (t : Int × Int) : evF (stpT Try.prog T6 K6) Try.f117 p117 r117 (.s .d (.s .d (.s (.s .d (.b (.l o117_s0 .d))) .d))) t = (o117 t.1 t.2) := by kernel_rfl
theorem fo117 : FOk Try.prog 117 ⟨p117, r117, fun t => (o117 t.1 t.2)⟩ := FOk.run_eq (evF_ok (h := (.s .d (.s .d (.s (.s .d (.b (.l o117_s0 .d))) .d)))) (by kernel_rfl) (by kernel_rfl) (by kernel_rfl)) e117
def T7 : Tbl := (117, ⟨p117, r117, fun t => (o117 t.1 t.2)⟩) :: T6
theorem K7 : TOk Try.prog T7 := .cons K6 fo117
def o114_s0 : Sch := ⟨[(1, .v (.c (.ptr 0 0))), (3, .v (.c (.own 1))), (4, .v (.c (.i .i64)))], [.cells 28 [.i .u64, .i .i64, .i .i64], .row .y 5]⟩
def p114 : Sch := ⟨[(0, .v (.agg [.i .u64, .i .i64, .i .i64]))], []⟩
def r114 : List Sch := [⟨[(0, .v (.c (.own 0)))], [.row .y 5]⟩]
def o114 (a0 : Int) (a1 : Int) (a2 : Int) : Option (List UInt8) :=
 (bd (α := (List UInt8)) (o117 (IntKind.wrap .i64 a0) (8 : Int)) (fun v1 => (bd (α := (List UInt8)) (o117 a1 (8 : Int)) (fun v2 => (gd (decide ((v1.length + v2.length) * 1 ≤ 140737488355328)) (loopO (σ := Int × Int × Int × Int × List UInt8) fuelN (fun (v4 : Int × Int × Int × Int × List UInt8) => (cnd (decide (v4.1 < v4.2.2.2.1)) (gd (decide ((0 : Int) ≤ (IntKind.wrap .i64 ((Int.tmod v4.1 (8 : Int)) * (8 : Int))))) (gd (decide ((v4.2.2.2.2.length + ([(u8 (IntKind.wrap .u8 ((IntKind.wrap .u8 (shrK .u64 v4.2.1 (IntKind.wrap .i64 ((Int.tmod v4.1 (8 : Int)) * (8 : Int))))) + (IntKind.wrap .u8 v4.1))))] : List UInt8).length) * 1 ≤ 140737488355328)) (some (Ctl.go ((IntKind.wrap .i64 (v4.1 + (1 : Int))), v4.2.1, v4.2.2.1, v4.2.2.2.1, (v4.2.2.2.2 ++ ([(u8 (IntKind.wrap .u8 ((IntKind.wrap .u8 (shrK .u64 v4.2.1 (IntKind.wrap .i64 ((Int.tmod v4.1 (8 : Int)) * (8 : Int))))) + (IntKind.wrap .u8 v4.1))))] : List UInt8))))))) (dnO (some v4.2.2.2.2)))) ((0 : Int), a0, a1, a2, (v1 ++ v2))))))))
theorem e114 (t : Int × Int × Int) : evF (stpT Try.prog T7 K7) Try.f114 p114 r114 (.s .d (.s .d (.s .d (.s (.s .d (.b (.l o114_s0 .d))) .d)))) t = (o114 t.1 t.2.1 t.2.2) := by kernel_rfl
theorem fo114 : FOk Try.prog 114 ⟨p114, r114, fun t => (o114 t.1 t.2.1 t.2.2)⟩ := FOk.run_eq (evF_ok (h := (.s .d (.s .d (.s .d (.s (.s .d (.b (.l o114_s0 .d))) .d))))) (by kernel_rfl) (by kernel_rfl) (by kernel_rfl)) e114
def T8 : Tbl := (114, ⟨p114, r114, fun t => (o114 t.1 t.2.1 t.2.2)⟩) :: T7
theorem K8 : TOk Try.prog T8 := .cons K7 fo114
def p111 : Sch := ⟨[(0, .v (.c (.ptr 0 0)))], [.lent [.i .u64, .i .i64, .i .i64]]⟩
def r111 : List Sch := [⟨[(0, .v (.c (.own 1)))], [.no, .row .y 5]⟩]
def o111 (a0 : Int) (a1 : Int) (a2 : Int) : Option (List UInt8) :=
 (bd (α := (List UInt8)) (o114 a0 a1 a2) (fun v1 => (some v1)))
theorem e111 (t : Int × Int × Int) : evF (stpT Try.prog T8 K8) Try.f111 p111 r111 .d t = (o111 t.1 t.2.1 t.2.2) := by kernel_rfl
theorem fo111 : FOk Try.prog 111 ⟨p111, r111, fun t => (o111 t.1 t.2.1 t.2.2)⟩ := FOk.run_eq (evF_ok (h := .d) (by kernel_rfl) (by kernel_rfl) (by kernel_rfl)) e111
def T9 : Tbl := (111, ⟨p111, r111, fun t => (o111 t.1 t.2.1 t.2.2)⟩) :: T8
theorem K9 : TOk Try.prog T9 := .cons K8 fo111
def o18_s0 : Sch := ⟨[(0, .v (.c (.ro .y false))), (1, .v (.c (.ro .y false))), (12, .v (.c (.i .i64))), (13, .v (.c (.i .i64)))], []⟩
def p18 : Sch := ⟨[(0, .v (.c (.ro .y false))), (1, .v (.c (.ro .y false)))], []⟩
def r18 : List Sch := [⟨[(0, .v (.c (.b)))], []⟩]
def o18 (a0 : List UInt8) (a1 : List UInt8) : Option Bool :=
 (cnd (((a0.length : Nat) : Int) != ((a1.length : Nat) : Int)) (some false) (loopO (σ := List UInt8 × List UInt8 × Int × Int) fuelN (fun (v2 : List UInt8 × List UInt8 × Int × Int) => (cnd (decide (v2.2.2.2 < v2.2.2.1)) (gd (decide ((0 : Int) ≤ v2.2.2.2 ∧ v2.2.2.2 < ((v2.1.length : Nat) : Int))) (gd (decide ((0 : Int) ≤ v2.2.2.2 ∧ v2.2.2.2 < ((v2.2.1.length : Nat) : Int))) (cnd (((UInt8.toNat (List.getD v2.1 v2.2.2.2.toNat (0 : UInt8)) : Nat) : Int) != ((UInt8.toNat (List.getD v2.2.1 v2.2.2.2.toNat (0 : UInt8)) : Nat) : Int)) (dnO (some false)) (some (Ctl.go (v2.1, v2.2.1, v2.2.2.1, (IntKind.wrap .i64 (v2.2.2.2 + (1 : Int))))))))) (dnO (some true)))) (a0, a1, ((a0.length : Nat) : Int), (0 : Int))))
theorem e18 (t : List UInt8 × List UInt8) : evF (stpT Try.prog T9 K9) Try.f18 p18 r18 (.s .d (.s .d (.s (.s .d (.b (.l o18_s0 .d))) .d))) t = (o18 t.1 t.2) := by kernel_rfl
theorem fo18 : FOk Try.prog 18 ⟨p18, r18, fun t => (o18 t.1 t.2)⟩ := FOk.run_eq (evF_ok (h := (.s .d (.s .d (.s (.s .d (.b (.l o18_s0 .d))) .d)))) (by kernel_rfl) (by kernel_rfl) (by kernel_rfl)) e18
def T10 : Tbl := (18, ⟨p18, r18, fun t => (o18 t.1 t.2)⟩) :: T9
theorem K10 : TOk Try.prog T10 := .cons K9 fo18
def o54_s0 : Sch := ⟨[(0, .v (.c (.i .i64))), (9, .v (.c (.b)))], []⟩
def p54 : Sch := ⟨[(0, .v (.c (.i .i64)))], []⟩
def r54 : List Sch := [⟨[(0, .tup [.c (.cst (.pointer none)), .c (.ic .i64 (1))])], []⟩, ⟨[(0, .tup [.c (.ptr 0 0), .c (.ic .i64 (0))])], [.cells 145 [.i .i64, .ic .u8 (1), .ic .i64 (0), .ic .i64 (0), .ic .u8 (0), .ic .i64 (0), .cst (.slice none 0 0), .ic .u8 (0), .ic .i64 (0), .ic .i64 (0), .ic .i64 (0), .cst (.slice none 0 0), .b, .b, .ic .i64 (0), .ic .i64 (0), .b, .cst (.slice none 0 0), .b, .ic .i64 (0), .ic .u8 (0), .ic .u8 (0), .ic .u8 (0), .ic .i64 (0), .ic .i64 (0), .ic .i64 (0), .ic .i64 (0)]]⟩]
def o54 (a0 : Int) : Option (Unit ⊕ (Int × Bool × Bool × Bool × Bool)) :=
 (bd (α := (Int × Bool)) (cnd (a0 != (1 : Int)) (some (a0, (a0 != (2 : Int)))) (some (a0, false))) (fun v1 => (cnd v1.2 (some (Sum.inl ())) (some (Sum.inr (v1.1, false, false, false, false))))))
theorem e54 (t : Int) : evF (stpT Try.prog T10 K10) Try.f54 p54 r54 (.s .d (.s (.s (.j false [o54_s0] .d) .d) .d)) t = (o54 t) := by kernel_rfl
theorem fo54 : FOk Try.prog 54 ⟨p54, r54, fun t => (o54 t)⟩ := FOk.run_eq (evF_ok (h := (.s .d (.s (.s (.j false [o54_s0] .d) .d) .d))) (by kernel_rfl) (by kernel_rfl) (by kernel_rfl)) e54
def T11 : Tbl := (54, ⟨p54, r54, fun t => (o54 t)⟩) :: T10
theorem K11 : TOk Try.prog T11 := .cons K10 fo54
def p55 : Sch := ⟨[], []⟩
def r55 : List Sch := [⟨[(0, .v (.c (.ptr 0 0)))], [.cells 153 [.cst (.slice none 0 0)]]⟩]
def o55 : Option Unit :=
 (some ())
theorem e55 (t : Unit) : evF (stpT Try.prog T11 K11) Try.f55 p55 r55 .d t = o55 := by kernel_rfl
theorem fo55 : FOk Try.prog 55 ⟨p55, r55, fun t => o55⟩ := FOk.run_eq (evF_ok (h := .d) (by kernel_rfl) (by kernel_rfl) (by kernel_rfl)) e55
def T12 : Tbl := (55, ⟨p55, r55, fun t => o55⟩) :: T11
theorem K12 : TOk Try.prog T12 := .cons K11 fo55
def p56 : Sch := ⟨[], []⟩
def r56 : List Sch := [⟨[(0, .v (.c (.ptr 0 0)))], [.cells 148 [.ic .i64 (0), .ic .i64 (0), .cst (.slice none 0 0), .cst (.slice none 0 0)]]⟩]
def o56 : Option Unit :=
 (some ())
theorem e56 (t : Unit) : evF (stpT Try.prog T12 K12) Try.f56 p56 r56 .d t = o56 := by kernel_rfl
theorem fo56 : FOk Try.prog 56 ⟨p56, r56, fun t => o56⟩ := FOk.run_eq (evF_ok (h := .d) (by kernel_rfl) (by kernel_rfl) (by kernel_rfl)) e56
def T13 : Tbl := (56, ⟨p56, r56, fun t => o56⟩) :: T12
theorem K13 : TOk Try.prog T13 := .cons K12 fo56
def o20_s0 : Sch := ⟨[(0, .v (.c (.i .i64))), (4, .v (.c (.cst (.pointer none)))), (5, .v (.c (.ic .i64 (1))))], []⟩
def o20_s1 : Sch := ⟨[(0, .v (.c (.i .i64))), (4, .v (.c (.ptr 0 0))), (5, .v (.c (.ic .i64 (0))))], [.cells 145 [.i .i64, .ic .u8 (1), .ic .i64 (0), .ic .i64 (0), .ic .u8 (0), .ic .i64 (0), .cst (.slice none 0 0), .ic .u8 (0), .ic .i64 (0), .ic .i64 (0), .ic .i64 (0), .cst (.slice none 0 0), .b, .b, .ic .i64 (0), .ic .i64 (0), .b, .cst (.slice none 0 0), .b, .ic .i64 (0), .ic .u8 (0), .ic .u8 (0), .ic .u8 (0), .ic .i64 (0), .ic .i64 (0), .ic .i64 (0), .ic .i64 (0)]]⟩
def p20 : Sch := ⟨[(0, .v (.c (.i .i64)))], []⟩
def r20 : List Sch := [⟨[(0, .tup [.c (.cst (.pointer none)), .c (.ic .i64 (1))])], []⟩, ⟨[(0, .tup [.c (.ptr 0 0), .c (.ic .i64 (0))])], [.cells 110 [.i .i64, .ptr 1 0, .ptr 2 0, .ptr 3 0, .ic .i64 (0), .ic .i64 (0), .b, .ic .i64 (0), .ic .i64 (0)], .cells 145 [.i .i64, .ic .u8 (1), .ic .i64 (0), .ic .i64 (0), .ic .u8 (0), .ic .i64 (0), .cst (.slice none 0 0), .ic .u8 (0), .ic .i64 (0), .ic .i64 (0), .ic .i64 (0), .cst (.slice none 0 0), .b, .b, .ic .i64 (0), .ic .i64 (0), .b, .cst (.slice none 0 0), .b, .ic .i64 (0), .ic .u8 (0), .ic .u8 (0), .ic .u8 (0), .ic .i64 (0), .ic .i64 (0), .ic .i64 (0), .ic .i64 (0)], .cells 153 [.cst (.slice none 0 0)], .cells 148 [.ic .i64 (0), .ic .i64 (0), .cst (.slice none 0 0), .cst (.slice none 0 0)]]⟩]
def o20 (a0 : Int) : Option (Unit ⊕ (Int × Bool × Int × Bool × Bool × Bool × Bool)) :=
 (bd (α := Int ⊕ (Int × Int × Bool × Bool × Bool × Bool)) (bd (α := Unit ⊕ (Int × Bool × Bool × Bool × Bool)) (o54 a0) (fun v1 => (sm v1 (fun v2 => (some (Sum.inl a0))) (fun v3 => (some (Sum.inr (a0, v3.1, v3.2.1, v3.2.2.1, v3.2.2.2.1, v3.2.2.2.2))))))) (fun v4 => (sm v4 (fun v5 => (some (Sum.inl ()))) (fun v6 => (bd (α := Unit) o55 (fun v7 => (bd (α := Unit) o56 (fun v8 => (some (Sum.inr (v6.1, false, v6.2.1, v6.2.2.1, v6.2.2.2.1, v6.2.2.2.2.1, v6.2.2.2.2.2)))))))))))
theorem e20 (t : Int) : evF (stpT Try.prog T13 K13) Try.f20 p20 r20 (.s .d (.s (.j false [o20_s0, o20_s1] .d) (.on ⟨[(4, .v (.c (.cst (.pointer none))))], []⟩ .d .d))) t = (o20 t) := by kernel_rfl
theorem fo20 : FOk Try.prog 20 ⟨p20, r20, fun t => (o20 t)⟩ := FOk.run_eq (evF_ok (h := (.s .d (.s (.j false [o20_s0, o20_s1] .d) (.on ⟨[(4, .v (.c (.cst (.pointer none))))], []⟩ .d .d)))) (by kernel_rfl) (by kernel_rfl) (by kernel_rfl)) e20
def T14 : Tbl := (20, ⟨p20, r20, fun t => (o20 t)⟩) :: T13
theorem K14 : TOk Try.prog T14 := .cons K13 fo20
def o5_s0 : Sch := ⟨[(0, .v (.c (.ifc 26 (.ptr 0 0)))), (1, .v (.c (.ifc 26 (.ptr 1 0)))), (5, .v (.c (.ptr 2 0))), (37, .v (.c (.b)))], [.lent [.i .u64, .i .i64, .i .i64], .lent [.i .u64, .i .i64, .i .i64], .cells 24 [.i .i64, .i .i64, .i .i64, .i .i64]]⟩
def p5 : Sch := ⟨[(0, .v (.c (.ifc 26 (.ptr 0 0)))), (1, .v (.c (.ifc 26 (.ptr 1 0)))), (2, .v (.agg [.i .i64, .i .i64, .i .i64, .i .i64]))], [.lent [.i .u64, .i .i64, .i .i64], .lent [.i .u64, .i .i64, .i .i64]]⟩
def r5 : List Sch := [⟨[(0, .tup [.c (.cst (.pointer none)), .c (.ic .i64 (1))])], [.no, .no]⟩, ⟨[(0, .tup [.c (.cst (.pointer none)), .c (.ic .i64 (3))])], [.no, .no]⟩]
def o5 (a0 : Int) (a1 : Int) (a2 : Int) (a3 : Int) (a4 : Int) (a5 : Int) (a6 : Int) (a7 : Int) (a8 : Int) (a9 : Int) : Option (Unit ⊕ Unit) :=
 (bd (α := (Bool × Int × Int × Int × Int × Int × Int × Int × Int × Int × Int)) (cnd (decide (a0 < (0 : Int))) (some (true, a4, a5, a6, a7, a8, a9, a0, a1, a2, a3)) (cnd (decide (a1 < (0 : Int))) (some (true, a4, a5, a6, a7, a8, a9, a0, a1, a2, a3)) (cnd (decide (a2 < (0 : Int))) (some (true, a4, a5, a6, a7, a8, a9, a0, a1, a2, a3)) (some ((decide (a3 < (0 : Int))), a4, a5, a6, a7, a8, a9, a0, a1, a2, a3))))) (fun v1 => (cnd v1.1 (some (Sum.inl ())) (bd (α := (List UInt8)) (o111 v1.2.1 v1.2.2.1 v1.2.2.2.1) (fun v2 => (bd (α := (List UInt8)) (o111 v1.2.2.2.2.1 v1.2.2.2.2.2.1 v1.2.2.2.2.2.2.1) (fun v3 => (bd (α := Bool) (o18 v2 v3) (fun v4 => (cnd (!v4) (some (Sum.inl ())) (cnd (decide (((v2.length : Nat) : Int) > (524288 : Int))) (some (Sum.inr ())) none)))))))))))
theorem e5 (t : Int × Int × Int × Int × Int × Int × Int × Int × Int × Int) : evF (stpT Try.prog T14 K14) Try.f5 p5 r5 (.s .d (.s (.s (.j false [o5_s0] .d) .d) (.s .d (.s .d (.s .d .cut))))) t = (o5 t.1 t.2.1 t.2.2.1 t.2.2.2.1 t.2.2.2.2.1 t.2.2.2.2.2.1 t.2.2.2.2.2.2.1 t.2.2.2.2.2.2.2.1 t.2.2.2.2.2.2.2.2.1 t.2.2.2.2.2.2.2.2.2) := by kernel_rfl
theorem fo5 : FOk Try.prog 5 ⟨p5, r5, fun t => (o5 t.1 t.2.1 t.2.2.1 t.2.2.2.1 t.2.2.2.2.1 t.2.2.2.2.2.1 t.2.2.2.2.2.2.1 t.2.2.2.2.2.2.2.1 t.2.2.2.2.2.2.2.2.1 t.2.2.2.2.2.2.2.2.2)⟩ := FOk.run_eq (evF_ok (h := (.s .d (.s (.s (.j false [o5_s0] .d) .d) (.s .d (.s .d (.s .d .cut)))))) (by kernel_rfl) (by kernel_rfl) (by kernel_rfl)) e5
def T15 : Tbl := (5, ⟨p5, r5, fun t => (o5 t.1 t.2.1 t.2.2.1 t.2.2.2.1 t.2.2.2.2.1 t.2.2.2.2.2.1 t.2.2.2.2.2.2.1 t.2.2.2.2.2.2.2.1 t.2.2.2.2.2.2.2.2.1 t.2.2.2.2.2.2.2.2.2)⟩) :: T14
theorem K15 : TOk Try.prog T15 := .cons K14 fo5
def p5v1 : Sch := ⟨[(0, .v (.c (.cst .nilIface))), (1, .v (.c (.ifc 26 (.ptr 0 0)))), (2, .v (.agg [.i .i64, .i .i64, .i .i64, .i .i64]))], [.lent [.i .u64, .i .i64, .i .i64]]⟩
def r5v1 : List Sch := [⟨[(0, .tup [.c (.cst (.pointer none)), .c (.ic .i64 (1))])], [.no]⟩]
def o5v1 (a0 : Int) (a1 : Int) (a2 : Int) (a3 : Int) (a4 : Int) (a5 : Int) (a6 : Int) : Option Unit :=
 (some ())
theorem e5v1 (t : Int × Int × Int × Int × Int × Int × Int) : evF (stpT Try.prog T15 K15) Try.f5 p5v1 r5v1 .d t = (o5v1 t.1 t.2.1 t.2.2.1 t.2.2.2.1 t.2.2.2.2.1 t.2.2.2.2.2.1 t.2.2.2.2.2.2) := by kernel_rfl
theorem fo5v1 : FOk Try.prog 5 ⟨p5v1, r5v1, fun t => (o5v1 t.1 t.2.1 t.2.2.1 t.2.2.2.1 t.2.2.2.2.1 t.2.2.2.2.2.1 t.2.2.2.2.2.2)⟩ := FOk.run_eq (evF_ok (h := .d) (by kernel_rfl) (by kernel_rfl) (by kernel_rfl)) e5v1
def T16 : Tbl := (5, ⟨p5v1, r5v1, fun t => (o5v1 t.1 t.2.1 t.2.2.1 t.2.2.2.1 t.2.2.2.2.1 t.2.2.2.2.2.1 t.2.2.2.2.2.2)⟩) :: T15
theorem K16 : TOk Try.prog T16 := .cons K15 fo5v1
def p5v2 : Sch := ⟨[(0, .v (.c (.ifc 26 (.ptr 0 0)))), (1, .v (.c (.cst .nilIface))), (2, .v (.agg [.i .i64, .i .i64, .i .i64, .i .i64]))], [.lent [.i .u64, .i .i64, .i .i64]]⟩
def r5v2 : List Sch := [⟨[(0, .tup [.c (.cst (.pointer none)), .c (.ic .i64 (1))])], [.no]⟩]
def o5v2 (a0 : Int) (a1 : Int) (a2 : Int) (a3 : Int) (a4 : Int) (a5 : Int) (a6 : Int) : Option Unit :=
 (some ())
theorem e5v2 (t : Int × Int × Int × Int × Int × Int × Int) : evF (stpT Try.prog T16 K16) Try.f5 p5v2 r5v2 .d t = (o5v2 t.1 t.2.1 t.2.2.1 t.2.2.2.1 t.2.2.2.2.1 t.2.2.2.2.2.1 t.2.2.2.2.2.2) := by kernel_rfl
theorem fo5v2 : FOk Try.prog 5 ⟨p5v2, r5v2, fun t => (o5v2 t.1 t.2.1 t.2.2.1 t.2.2.2.1 t.2.2.2.2.1 t.2.2.2.2.2.1 t.2.2.2.2.2.2)⟩ := FOk.run_eq (evF_ok (h := .d) (by kernel_rfl) (by kernel_rfl) (by kernel_rfl)) e5v2
def T17 : Tbl := (5, ⟨p5v2, r5v2, fun t => (o5v2 t.1 t.2.1 t.2.2.1 t.2.2.2.1 t.2.2.2.2.1 t.2.2.2.2.2.1 t.2.2.2.2.2.2)⟩) :: T16
theorem K17 : TOk Try.prog T17 := .cons K16 fo5v2
def p6 : Sch := ⟨[(0, .v (.c (.cst (.pointer none)))), (1, .v (.c (.cst (.slice none 0 0)))), (2, .v (.c (.cst (.slice none 0 0)))), (3, .v (.agg [.b, .b, .b, .b, .b, .b, .i .i64, .i .i64, .b, .i .i64, .i .u32, .b, .i .i64, .i .u32, .b, .i .i64, .i .u32, .b, .i .i64, .i .u32, .b, .i .i64, .i .u32, .b, .i .i64, .i .u32, .b, .i .i64, .i .u32, .b, .i .i64, .i .u32]))], []⟩
def r6 : List Sch := [⟨[(0, .v (.agg [.ic .i64 (0), .ic .u8 (0), .ic .u8 (0), .ic .u8 (0), .ic .u8 (0), .ic .i64 (0), .ic .i64 (0), .ic .u8 (0), .ic .u8 (0), .ic .u8 (0), .ic .i64 (0), .ic .i64 (0), .ic .i64 (0), .ic .i64 (0), .ic .u8 (0), .ic .u8 (0), .ic .u8 (0), .ic .i64 (0), .ic .i64 (0), .ic .i64 (0), .ic .i64 (0), .ic .i64 (0), .ic .u8 (0), .ic .u8 (0), .ic .u8 (0), .ic .i64 (0), .ic .i64 (0), .ic .i64 (0), .ic .i64 (0)]))], []⟩]
def o6 (a0 : Bool) (a1 : Bool) (a2 : Bool) (a3 : Bool) (a4 : Bool) (a5 : Bool) (a6 : Int) (a7 : Int) (a8 : Bool) (a9 : Int) (a10 : Int) (a11 : Bool) (a12 : Int) (a13 : Int) (a14 : Bool) (a15 : Int) (a16 : Int) (a17 : Bool) (a18 : Int) (a19 : Int) (a20 : Bool) (a21 : Int) (a22 : Int) (a23 : Bool) (a24 : Int) (a25 : Int) (a26 : Bool) (a27 : Int) (a28 : Int) (a29 : Bool) (a30 : Int) (a31 : Int) : Option Unit :=
 (some ())
theorem e6 (t : Bool × Bool × Bool × Bool × Bool × Bool × Int × Int × Bool × Int × Int × Bool × Int × Int × Bool × Int × Int × Bool × Int × Int × Bool × Int × Int × Bool × Int × Int × Bool × Int × Int × Bool × Int × Int) : evF (stpT Try.prog T17 K17) Try.f6 p6 r6 .d t = (o6 t.1 t.2.1 t.2.2.1 t.2.2.2.1 t.2.2.2.2.1 t.2.2.2.2.2.1 t.2.2.2.2.2.2.1 t.2.2.2.2.2.2.2.1 t.2.2.2.2.2.2.2.2.1 t.2.2.2.2.2.2.2.2.2.1 t.2.2.2.2.2.2.2.2.2.2.1 t.2.2.2.2.2.2.2.2.2.2.2.1 t.2.2.2.2.2.2.2.2.2.2.2.2.1 t.2.2.2.2.2.2.2.2.2.2.2.2.2.1 t.2.2.2.2.2.2.2.2.2.2.2.2.2.2.1 t.2.2.2.2.2.2.2.2.2.2.2.2.2.2.2.1 t.2.2.2.2.2.2.2.2.2.2.2.2.2.2.2.2.1 t.2.2.2.2.2.2.2.2.2.2.2.2.2.2.2.2.2.1 t.2.2.2.2.2.2.2.2.2.2.2.2.2.2.2.2.2.2.1 t.2.2.2.2.2.2.2.2.2.2.2.2.2.2.2.2.2.2.2.1 t.2.2.2.2.2.2.2.2.2.2.2.2.2.2.2.2.2.2.2.2.1 t.2.2.2.2.2.2.2.2.2.2.2.2.2.2.2.2.2.2.2.2.2.1 t.2.2.2.2.2.2.2.2.2.2.2.2.2.2.2.2.2.2.2.2.2.2.1 t.2.2.2.2.2.2.2.2.2.2.2.2.2.2.2.2.2.2.2.2.2.2.2.1 t.2.2.2.2.2.2.2.2.2.2.2.2.2.2.2.2.2.2.2.2.2.2.2.2.1 t.2.2.2.2.2.2.2.2.2.2.2.2.2.2.2.2.2.2.2.2.2.2.2.2.2.1 t.2.2.2.2.2.2.2.2.2.2.2.2.2.2.2.2.2.2.2.2.2.2.2.2.2.2.1 t.2.2.2.2.2.2.2.2.2.2.2.2.2.2.2.2.2.2.2.2.2.2.2.2.2.2.2.1 t.2.2.2.2.2.2.2.2.2.2.2.2.2.2.2.2.2.2.2.2.2.2.2.2.2.2.2.2.1 t.2.2.2.2.2.2.2.2.2.2.2.2.2.2.2.2.2.2.2.2.2.2.2.2.2.2.2.2.2.1 t.2.2.2.2.2.2.2.2.2.2.2.2.2.2.2.2.2.2.2.2.2.2.2.2.2.2.2.2.2.2.1 t.2.2.2.2.2.2.2.2.2.2.2.2.2.2.2.2.2.2.2.2.2.2.2.2.2.2.2.2.2.2.2) := by kernel_rfl
theorem fo6 : FOk Try.prog 6 ⟨p6, r6, fun t => (o6 t.1 t.2.1 t.2.2.1 t.2.2.2.1 t.2.2.2.2.1 t.2.2.2.2.2.1 t.2.2.2.2.2.2.1 t.2.2.2.2.2.2.2.1 t.2.2.2.2.2.2.2.2.1 t.2.2.2.2.2.2.2.2.2.1 t.2.2.2.2.2.2.2.2.2.2.1 t.2.2.2.2.2.2.2.2.2.2.2.1 t.2.2.2.2.2.2.2.2.2.2.2.2.1 t.2.2.2.2.2.2.2.2.2.2.2.2.2.1 t.2.2.2.2.2.2.2.2.2.2.2.2.2.2.1 t.2.2.2.2.2.2.2.2.2.2.2.2.2.2.2.1 t.2.2.2.2.2.2.2.2.2.2.2.2.2.2.2.2.1 t.2.2.2.2.2.2.2.2.2.2.2.2.2.2.2.2.2.1 t.2.2.2.2.2.2.2.2.2.2.2.2.2.2.2.2.2.2.1 t.2.2.2.2.2.2.2.2.2.2.2.2.2.2.2.2.2.2.2.1 t.2.2.2.2.2.2.2.2.2.2.2.2.2.2.2.2.2.2.2.2.1 t.2.2.2.2.2.2.2.2.2.2.2.2.2.2.2.2.2.2.2.2.2.1 t.2.2.2.2.2.2.2.2.2.2.2.2.2.2.2.2.2.2.2.2.2.2.1 t.2.2.2.2.2.2.2.2.2.2.2.2.2.2.2.2.2.2.2.2.2.2.2.1 t.2.2.2.2.2.2.2.2.2.2.2.2.2.2.2.2.2.2.2.2.2.2.2.2.1 t.2.2.2.2.2.2.2.2.2.2.2.2.2.2.2.2.2.2.2.2.2.2.2.2.2.1 t.2.2.2.2.2.2.2.2.2.2.2.2.2.2.2.2.2.2.2.2.2.2.2.2.2.2.1 t.2.2.2.2.2.2.2.2.2.2.2.2.2.2.2.2.2.2.2.2.2.2.2.2.2.2.2.1 t.2.2.2.2.2.2.2.2.2.2.2.2.2.2.2.2.2.2.2.2.2.2.2.2.2.2.2.2.1 t.2.2.2.2.2.2.2.2.2.2.2.2.2.2.2.2.2.2.2.2.2.2.2.2.2.2.2.2.2.1 t.2.2.2.2.2.2.2.2.2.2.2.2.2.2.2.2.2.2.2.2.2.2.2.2.2.2.2.2.2.2.1 t.2.2.2.2.2.2.2.2.2.2.2.2.2.2.2.2.2.2.2.2.2.2.2.2.2.2.2.2.2.2.2)⟩ := FOk.run_eq (evF_ok (h := .d) (by kernel_rfl) (by kernel_rfl) (by kernel_rfl)) e6
def T18 : Tbl := (6, ⟨p6, r6, fun t => (o6 t.1 t.2.1 t.2.2.1 t.2.2.2.1 t.2.2.2.2.1 t.2.2.2.2.2.1 t.2.2.2.2.2.2.1 t.2.2.2.2.2.2.2.1 t.2.2.2.2.2.2.2.2.1 t.2.2.2.2.2.2.2.2.2.1 t.2.2.2.2.2.2.2.2.2.2.1 t.2.2.2.2.2.2.2.2.2.2.2.1 t.2.2.2.2.2.2.2.2.2.2.2.2.1 t.2.2.2.2.2.2.2.2.2.2.2.2.2.1 t.2.2.2.2.2.2.2.2.2.2.2.2.2.2.1 t.2.2.2.2.2.2.2.2.2.2.2.2.2.2.2.1 t.2.2.2.2.2.2.2.2.2.2.2.2.2.2.2.2.1 t.2.2.2.2.2.2.2.2.2.2.2.2.2.2.2.2.2.1 t.2.2.2.2.2.2.2.2.2.2.2.2.2.2.2.2.2.2.1 t.2.2.2.2.2.2.2.2.2.2.2.2.2.2.2.2.2.2.2.1 t.2.2.2.2.2.2.2.2.2.2.2.2.2.2.2.2.2.2.2.2.1 t.2.2.2.2.2.2.2.2.2.2.2.2.2.2.2.2.2.2.2.2.2.1 t.2.2.2.2.2.2.2.2.2.2.2.2.2.2.2.2.2.2.2.2.2.2.1 t.2.2.2.2.2.2.2.2.2.2.2.2.2.2.2.2.2.2.2.2.2.2.2.1 t.2.2.2.2.2.2.2.2.2.2.2.2.2.2.2.2.2.2.2.2.2.2.2.2.1 t.2.2.2.2.2.2.2.2.2.2.2.2.2.2.2.2.2.2.2.2.2.2.2.2.2.1 t.2.2.2.2.2.2.2.2.2.2.2.2.2.2.2.2.2.2.2.2.2.2.2.2.2.2.1 t.2.2.2.2.2.2.2.2.2.2.2.2.2.2.2.2.2.2.2.2.2.2.2.2.2.2.2.1 t.2.2.2.2.2.2.2.2.2.2.2.2.2.2.2.2.2.2.2.2.2.2.2.2.2.2.2.2.1 t.2.2.2.2.2.2.2.2.2.2.2.2.2.2.2.2.2.2.2.2.2.2.2.2.2.2.2.2.2.1 t.2.2.2.2.2.2.2.2.2.2.2.2.2.2.2.2.2.2.2.2.2.2.2.2.2.2.2.2.2.2.1 t.2.2.2.2.2.2.2.2.2.2.2.2.2.2.2.2.2.2.2.2.2.2.2.2.2.2.2.2.2.2.2)⟩) :: T17
theorem K18 : TOk Try.prog T18 := .cons K17 fo6
def p7 : Sch := ⟨[(0, .v (.c (.cst (.pointer none)))), (1, .v (.c (.i .i64)))], []⟩
def r7 : List Sch := [⟨[(0, .v (.c (.cst (.slice none 0 0))))], []⟩]
def o7 (a0 : Int) : Option Unit :=
 (some ())
theorem e7 (t : Int) : evF (stpT Try.prog T18 K18) Try.f7 p7 r7 .d t = (o7 t) := by kernel_rfl
theorem fo7 : FOk Try.prog 7 ⟨p7, r7, fun t => (o7 t)⟩ := FOk.run_eq (evF_ok (h := .d) (by kernel_rfl) (by kernel_rfl) (by kernel_rfl)) e7
def T19 : Tbl := (7, ⟨p7, r7, fun t => (o7 t)⟩) :: T18
theorem K19 : TOk Try.prog T19 := .cons K18 fo7
def p8 : Sch := ⟨[(0, .v (.c (.cst (.pointer none))))], []⟩
def r8 : List Sch := [⟨[(0, .v (.agg [.ic .u8 (0), .ic .u8 (0), .ic .u8 (0), .ic .i64 (0), .ic .i64 (0), .ic .i64 (0), .ic .i64 (0)]))], []⟩]
def o8 : Option Unit :=
 (some ())
theorem e8 (t : Unit) : evF (stpT Try.prog T19 K19) Try.f8 p8 r8 .d t = o8 := by kernel_rfl
theorem fo8 : FOk Try.prog 8 ⟨p8, r8, fun t => o8⟩ := FOk.run_eq (evF_ok (h := .d) (by kernel_rfl) (by kernel_rfl) (by kernel_rfl)) e8
def T20 : Tbl := (8, ⟨p8, r8, fun t => o8⟩) :: T19
theorem K20 : TOk Try.prog T20 := .cons K19 fo8
def p9 : Sch := ⟨[(0, .v (.c (.cst (.pointer none))))], []⟩
def r9 : List Sch := [⟨[(0, .tup [])], []⟩]
def o9 : Option Unit :=
 (some ())
theorem e9 (t : Unit) : evF (stpT Try.prog T20 K20) Try.f9 p9 r9 .d t = o9 := by kernel_rfl
theorem fo9 : FOk Try.prog 9 ⟨p9, r9, fun t => o9⟩ := FOk.run_eq (evF_ok (h := .d) (by kernel_rfl) (by kernel_rfl) (by kernel_rfl)) e9
def T21 : Tbl := (9, ⟨p9, r9, fun t => o9⟩) :: T20
theorem K21 : TOk Try.prog T21 := .cons K20 fo9
def p42 : Sch := ⟨[(0, .v (.c (.cst (.pointer none)))), (1, .v (.c (.i .i64)))], []⟩
def r42 : List Sch := [⟨[(0, .v (.c (.ic .i64 (1))))], []⟩]
def o42 (a0 : Int) : Option Unit :=
 (some ())
theorem e42 (t : Int) : evF (stpT Try.prog T21 K21) Try.f42 p42 r42 .d t = (o42 t) := by kernel_rfl
theorem fo42 : FOk Try.prog 42 ⟨p42, r42, fun t => (o42 t)⟩ := FOk.run_eq (evF_ok (h := .d) (by kernel_rfl) (by kernel_rfl) (by kernel_rfl)) e42
def T22 : Tbl := (42, ⟨p42, r42, fun t => (o42 t)⟩) :: T21
theorem K22 : TOk Try.prog T22 := .cons K21 fo42
def p10 : Sch := ⟨[(0, .v (.c (.cst (.pointer none)))), (1, .v (.c (.i .i64))), (2, .v (.c (.cst (.slice none 0 0))))], []⟩
def r10 : List Sch := [⟨[(0, .tup [.agg [.ic .u8 (0), .ic .u8 (0), .ic .i64 (0), .cst (.slice none 0 0)], .c (.ic .i64 (1))])], []⟩]
def o10 (a0 : Int) : Option Unit :=
 (bd (α := Unit) (o42 (0 : Int)) (fun v1 => (some ())))
theorem e10 (t : Int) : evF (stpT Try.prog T22 K22) Try.f10 p10 r10 .d t = (o10 t) := by kernel_rfl
theorem fo10 : FOk Try.prog 10 ⟨p10, r10, fun t => (o10 t)⟩ := FOk.run_eq (evF_ok (h := .d) (by kernel_rfl) (by kernel_rfl) (by kernel_rfl)) e10
def T23 : Tbl := (10, ⟨p10, r10, fun t => (o10 t)⟩) :: T22
theorem K23 : TOk Try.prog T23 := .cons K22 fo10
def p11 : Sch := ⟨[(0, .v (.c (.cst (.pointer none)))), (1, .v (.c (.cst (.slice none 0 0))))], []⟩
def r11 : List Sch := [⟨[(0, .tup [.agg [.ic .u8 (0), .ic .u8 (0), .ic .i64 (0), .cst (.slice none 0 0)], .c (.b), .c (.ic .i64 (1))])], []⟩]
def o11 : Option Bool :=
 (bd (α := Unit) (o42 (6 : Int)) (fun v1 => (some false)))
theorem e11 (t : Unit) : evF (stpT Try.prog T23 K23) Try.f11 p11 r11 .d t = o11 := by kernel_rfl
theorem fo11 : FOk Try.prog 11 ⟨p11, r11, fun t => o11⟩ := FOk.run_eq (evF_ok (h := .d) (by kernel_rfl) (by kernel_rfl) (by kernel_rfl)) e11
def T24 : Tbl := (11, ⟨p11, r11, fun t => o11⟩) :: T23
theorem K24 : TOk Try.prog T24 := .cons K23 fo11
def p12 : Sch := ⟨[(0, .v (.c (.cst (.pointer none)))), (1, .v (.agg [.i .u8, .i .u8, .i .i64, .cst (.slice none 0 0)])), (2, .v (.c (.b)))], []⟩
def r12 : List Sch := [⟨[(0, .tup [.agg [.ic .i64 (0), .cst (.slice none 0 0), .cst (.slice none 0 0)], .c (.b), .c (.ic .i64 (1))])], []⟩]
def o12 (a0 : Int) (a1 : Int) (a2 : Int) (a3 : Bool) : Option Bool :=
 (bd (α := Unit) (o42 (7 : Int)) (fun v1 => (some false)))
theorem e12 (t : Int × Int × Int × Bool) : evF (stpT Try.prog T24 K24) Try.f12 p12 r12 .d t = (o12 t.1 t.2.1 t.2.2.1 t.2.2.2) := by kernel_rfl
theorem fo12 : FOk Try.prog 12 ⟨p12, r12, fun t => (o12 t.1 t.2.1 t.2.2.1 t.2.2.2)⟩ := FOk.run_eq (evF_ok (h := .d) (by kernel_rfl) (by kernel_rfl) (by kernel_rfl)) e12
def T25 : Tbl := (12, ⟨p12, r12, fun t => (o12 t.1 t.2.1 t.2.2.1 t.2.2.2)⟩) :: T24
theorem K25 : TOk Try.prog T25 := .cons K24 fo12
def p13 : Sch := ⟨[(0, .v (.c (.cst (.pointer none))))], []⟩
def r13 : List Sch := [⟨[(0, .v (.c (.cst (.pointer none))))], []⟩]
def o13 : Option Unit :=
 (some ())
theorem e13 (t : Unit) : evF (stpT Try.prog T25 K25) Try.f13 p13 r13 .d t = o13 := by kernel_rfl
theorem fo13 : FOk Try.prog 13 ⟨p13, r13, fun t => o13⟩ := FOk.run_eq (evF_ok (h := .d) (by kernel_rfl) (by kernel_rfl) (by kernel_rfl)) e13
def T26 : Tbl := (13, ⟨p13, r13, fun t => o13⟩) :: T25
theorem K26 : TOk Try.prog T26 := .cons K25 fo13
def p14 : Sch := ⟨[(0, .v (.c (.cst (.pointer none)))), (1, .v (.agg [.i .u8, .i .u8, .i .i64, .cst (.slice none 0 0)])), (2, .v (.c (.b)))], []⟩
def r14 : List Sch := [⟨[(0, .v (.c (.ic .i64 (1))))], []⟩]
def o14 (a0 : Int) (a1 : Int) (a2 : Int) (a3 : Bool) : Option Unit :=
 (bd (α := Unit) (o42 (1 : Int)) (fun v1 => (some ())))
theorem e14 (t : Int × Int × Int × Bool) : evF (stpT Try.prog T26 K26) Try.f14 p14 r14 .d t = (o14 t.1 t.2.1 t.2.2.1 t.2.2.2) := by kernel_rfl
theorem fo14 : FOk Try.prog 14 ⟨p14, r14, fun t => (o14 t.1 t.2.1 t.2.2.1 t.2.2.2)⟩ := FOk.run_eq (evF_ok (h := .d) (by kernel_rfl) (by kernel_rfl) (by kernel_rfl)) e14
def T27 : Tbl := (14, ⟨p14, r14, fun t => (o14 t.1 t.2.1 t.2.2.1 t.2.2.2)⟩) :: T26
theorem K27 : TOk Try.prog T27 := .cons K26 fo14
def o3_s0 : Sch := ⟨[(5, .v (.c (.ptr 0 0))), (6, .v (.c (.ptr 1 0))), (8, .v (.c (.i .i64)))], [.cells 30 [.i .u64, .ic .i64 (0), .ic .i64 (0)], .cells 30 [.i .u64, .ic .i64 (0), .ic .i64 (0)]]⟩
def o3_s1 : Sch := ⟨[(8, .v (.c (.i .i64))), (10, .v (.c (.ic .i64 (1)))), (12, .v (.c (.ic .i64 (1)))), (14, .v (.c (.i .i64)))], []⟩
def o3_s2 : Sch := ⟨[(8, .v (.c (.i .i64))), (10, .v (.c (.ic .i64 (1)))), (12, .v (.c (.ic .i64 (1)))), (14, .v (.c (.i .i64))), (17, .v (.c (.i .i64)))], []⟩
def o3_s3 : Sch := ⟨[(100, .v (.c (.b)))], []⟩
def o3_s4 : Sch := ⟨[(117, .v (.c (.b)))], []⟩
def o3_s5 : Sch := ⟨[(4, .v (.c (.b)))], []⟩
def p3 : Sch := ⟨[(0, .v (.c (.i .u64))), (1, .v (.agg [.i .i64, .i .i64, .i .i64, .i .i64]))], []⟩
def r3 : List Sch := [⟨[(0, .v (.c (.b)))], []⟩]
def o3 (a0 : Int) (a1 : Int) (a2 : Int) (a3 : Int) (a4 : Int) : Option Bool :=
 (bd (α := Bool) o4 (fun v1 => (cnd (!v1) (some false) (bd (α := (Int × Int × Int)) (bd (α := Unit ⊕ Unit) (o5 (0 : Int) (0 : Int) (0 : Int) (0 : Int) a0 (0 : Int) (0 : Int) (IntKind.wrap .u64 (a0 + (1 : Int))) (0 : Int) (0 : Int)) (fun v2 => (sm v2 (fun v3 => (some ((1 : Int), a0, (IntKind.wrap .u64 (a0 + (1 : Int)))))) (fun v4 => (some ((3 : Int), a0, (IntKind.wrap .u64 (a0 + (1 : Int))))))))) (fun v5 => (bd (α := Unit) (o5v1 (0 : Int) (0 : Int) (0 : Int) (0 : Int) v5.2.2 (0 : Int) (0 : Int)) (fun v6 => (bd (α := Unit) (o5v2 (0 : Int) (0 : Int) (0 : Int) (0 : Int) v5.2.1 (0 : Int) (0 : Int)) (fun v7 => (bd (α := (Int × Int)) (bd (α := Unit ⊕ Unit) (o5 (0 : Int) (0 : Int) (0 : Int) (-1 : Int) v5.2.1 (0 : Int) (0 : Int) v5.2.1 (0 : Int) (0 : Int)) (fun v8 => (sm v8 (fun v9 => (some (v5.1, (1 : Int)))) (fun v10 => (some (v5.1, (3 : Int))))))) (fun v11 => (bd (α := (Int × Int × Int)) (bd (α := Unit ⊕ Unit) (o5 (0 : Int) (0 : Int) (0 : Int) (0 : Int) (0 : Int) (0 : Int) (524288 : Int) (0 : Int) (0 : Int) (524288 : Int)) (fun v12 => (sm v12 (fun v13 => (some (v11.1, v11.2, (1 : Int)))) (fun v14 => (some (v11.1, v11.2, (3 : Int))))))) (fun v15 => (bd (α := Bool) (cnd (v15.1 != (1 : Int)) (some true) (cnd (v15.2.1 != (1 : Int)) (some true) (some (v15.2.2 != (3 : Int))))) (fun v16 => (cnd v16 (some false) (bd (α := Bool) (bd (α := Unit) (o6 false false false false false false (0 : Int) (0 : Int) false (0 : Int) (0 : Int) false (0 : Int) (0 : Int) false (0 : Int) (0 : Int) false (0 : Int) (0 : Int) false (0 : Int) (0 : Int) false (0 : Int) (0 : Int) false (0 : Int) (0 : Int) false (0 : Int) (0 : Int)) (fun v17 => (cnd (!(((0 : Int) == (0 : Int)) && ((((0 : Int) == (0 : Int)) && ((0 : Int) == (0 : Int))) && ((((0 : Int) == (0 : Int)) && ((0 : Int) == (0 : Int))) && ((((0 : Int) == (0 : Int)) && ((0 : Int) == (0 : Int))) && (((((0 : Int) == (0 : Int)) && (((0 : Int) == (0 : Int)) && (((0 : Int) == (0 : Int)) && (((0 : Int) == (0 : Int)) && (((0 : Int) == (0 : Int)) && (((0 : Int) == (0 : Int)) && ((0 : Int) == (0 : Int)))))))) && (((0 : Int) == (0 : Int)) && (((0 : Int) == (0 : Int)) && (((0 : Int) == (0 : Int)) && (((0 : Int) == (0 : Int)) && (((0 : Int) == (0 : Int)) && (((0 : Int) == (0 : Int)) && ((0 : Int) == (0 : Int))))))))) && (((0 : Int) == (0 : Int)) && (((0 : Int) == (0 : Int)) && (((0 : Int) == (0 : Int)) && (((0 : Int) == (0 : Int)) && (((0 : Int) == (0 : Int)) && (((0 : Int) == (0 : Int)) && (((0 : Int) == (0 : Int)) && ((0 : Int) == (0 : Int))))))))))))))) (some true) (bd (α := Unit) (o7 (1 : Int)) (fun v18 => (bd (α := Unit) o8 (fun v19 => (some (!(((0 : Int) == (0 : Int)) && (((0 : Int) == (0 : Int)) && (((0 : Int) == (0 : Int)) && (((0 : Int) == (0 : Int)) && (((0 : Int) == (0 : Int)) && (((0 : Int) == (0 : Int)) && ((0 : Int) == (0 : Int))))))))))))))))) (fun v20 => (cnd v20 (some false) (bd (α := Unit) o9 (fun v21 => (bd (α := Unit) (o10 (0 : Int)) (fun v22 => (bd (α := Bool) o11 (fun v23 => (bd (α := Bool) (o12 (0 : Int) (0 : Int) (0 : Int) false) (fun v24 => (bd (α := Bool) (bd (α := Unit) o13 (fun v25 => (cnd (!v23) (cnd (!v24) (bd (α := Unit) (o14 (0 : Int) (0 : Int) (0 : Int) false) (fun v26 => (some true))) (some false)) (some false)))) (fun v27 => (some v27))))))))))))))))))))))))))))))
theorem e3 (t : Int × Int × Int × Int × Int) : evF (stpT Try.prog T27 K27) Try.f3 p3 r3 (.s .d (.s .d (.s .d (.s (.j false [o3_s0] .d) (.s .d (.s .d (.s (.j false [o3_s1] .d) (.s .d (.s (.j false [o3_s2] .d) (.s (.s (.j false [o3_s3] .d) .d) (.s .d (.s (.s (.j false [o3_s4] .d) .d) (.s .d (.s .d (.s .d (.s .d (.s .d (.s (.j false [o3_s5] .d) .d)))))))))))))))))) t = (o3 t.1 t.2.1 t.2.2.1 t.2.2.2.1 t.2.2.2.2) := by kernel_rfl
theorem fo3 : FOk Try.prog 3 ⟨p3, r3, fun t => (o3 t.1 t.2.1 t.2.2.1 t.2.2.2.1 t.2.2.2.2)⟩ := FOk.run_eq (evF_ok (h := (.s .d (.s .d (.s .d (.s (.j false [o3_s0] .d) (.s .d (.s .d (.s (.j false [o3_s1] .d) (.s .d (.s (.j false [o3_s2] .d) (.s (.s (.j false [o3_s3] .d) .d) (.s .d (.s (.s (.j false [o3_s4] .d) .d) (.s .d (.s .d (.s .d (.s .d (.s .d (.s (.j false [o3_s5] .d) .d))))))))))))))))))) (by kernel_rfl) (by kernel_rfl) (by kernel_rfl)) e3
end
end Go.Proofs.Ytpleflcfaecojaa
namespace Go.Proofs.Ytpleflcfaecojaa
set_option linter.unusedVariables false
set_option linter.unusedSimpArgs false
open Go.RowKit
def byteAt (n : Int) (i : Nat) : UInt8 := u8 (IntKind.u8.wrap (shrK .i64 n (8 * (i : Int))))
def putB (n : Int) (k : Nat) : List UInt8 := (List.range k).map (byteAt n)
theorem putB_len (n : Int) (k : Nat) : (putB n k).length = k := by simp [putB]
theorem u8_toNat {z : Int} (h : 0 ≤ z ∧ z ≤ 255) : ((u8 z).toNat : Int) = z := by
  unfold u8
  rw [UInt8.toNat_ofNat']
  omega
theorem pow8 (i : Nat) (h : i < 8) : (2 : Int) ^ (min (8 * (i : Int)).toNat 64) = 256 ^ i := by
  have : min (8 * (i : Int)).toNat 64 = 8 * i := by omega
  rw [this, Int.pow_mul]
  rfl
theorem shr_i64 (n : Int) (i : Nat) (h : i < 8) : shrK .i64 n (8 * (i : Int)) = n / 256 ^ i := by
  unfold shrK
  rw [show IntKind.i64.bits = 64 from rfl, pow8 i h, Int.fdiv_eq_ediv_of_nonneg]
  exact Int.pow_nonneg (by decide)
theorem shr_u64 (n : Int) (i : Nat) (h : i < 8) : shrK .u64 n (8 * (i : Int)) = n / 256 ^ i := by
  unfold shrK
  rw [show IntKind.u64.bits = 64 from rfl, pow8 i h, Int.fdiv_eq_ediv_of_nonneg]
  exact Int.pow_nonneg (by decide)
theorem byteAt_toNat (n : Int) (i : Nat) (h : i < 8) : ((byteAt n i).toNat : Int) = n / 256 ^ i % 256 := by
  unfold byteAt
  rw [u8_toNat (wrapU8_rng _), shr_i64 n i h, IntKind.wrap_u8]
theorem byte_u64 (n : Int) (i : Nat) (h : i < 8) : u8 (IntKind.u8.wrap (shrK .u64 (IntKind.u64.wrap n) (8 * (i : Int)))) = byteAt n i := by
  unfold byteAt
  rw [shr_u64 _ i h, shr_i64 n i h, IntKind.wrap_u8, IntKind.wrap_u8, IntKind.wrap_u64]
  congr 1
  have h8 : i = 0 ∨ i = 1 ∨ i = 2 ∨ i = 3 ∨ i = 4 ∨ i = 5 ∨ i = 6 ∨ i = 7 := by omega
  rcases h8 with rfl | rfl | rfl | rfl | rfl | rfl | rfl | rfl <;> simp only [Int.reducePow] <;> omega
end Go.Proofs.Ytpleflcfaecojaa
namespace Go.Proofs.Ytpleflcfaecojaa
set_option linter.unusedVariables false
set_option linter.unusedSimpArgs false
open Go.RowKit
theorem dt {p : Prop} [Decidable p] (h : p) : decide p = true := decide_eq_true h
theorem df {p : Prop} [Decidable p] (h : ¬ p) : decide p = false := decide_eq_false h
theorem neq_t {a b : Int} (h : a ≠ b) : (a != b) = true := by simpa using h
theorem neq_f {a b : Int} (h : a = b) : (a != b) = false := by simpa using h
end Go.Proofs.Ytpleflcfaecojaa
namespace Go.Proofs.Ytpleflcfaecojaa
set_option linter.unusedVariables false
set_option linter.unusedSimpArgs false
set_option maxRecDepth 100000
open Go.RowKit
theorem cndT {α : Type} {c : Bool} {x y : α} (h : c = true) : cnd c x y = x := by subst h; rfl
theorem cndF {α : Type} {c : Bool} {x y : α} (h : c = false) : cnd c x y = y := by subst h; rfl
theorem gdT {α : Type} {c : Bool} {x : Option α} (h : c = true) : gd c x = x := by subst h; rfl
theorem bdS {α β : Type} {x : Option α} {t : α} {k : α → Option β} (h : x = some t) : bd x k = k t := by subst h; rfl
theorem bdI {α β : Type} (t : α) (k : α → Option β) : bd (some t) k = k t := rfl
theorem dnS {α β : Type} (x : β) : dnO (α := α) (some x) = some (.done x) := rfl
theorem smL {α β ρ : Type} (a : α) (f : α → ρ) (g : β → ρ) : sm (.inl a) f g = f a := rfl
theorem smR {α β ρ : Type} (b : β) (f : α → ρ) (g : β → ρ) : sm (.inr b) f g = g b := rfl
theorem loop_cnt {σ ρ : Type} {B : σ → Option (Ctl σ ρ)} (S : Nat → σ) {r : ρ} {n : Nat} (h : ∀ i, i < n → B (S i) = some (.go (S (i + 1)))) (hd : B (S n) = some (.done r)) (hn : n < 18446744073709551616) : loopO fuelN B (S 0) = some r := by
  have key : ∀ k m, k ≤ n → k < m → loopO m B (S (n - k)) = some r := by
    intro k
    induction k with
    | zero =>
      intro m _ hm
      obtain ⟨j, rfl⟩ : ∃ j, m = j + 1 := ⟨m - 1, by omega⟩
      exact loopO_done hd
    | succ k ih =>
      intro m hk hm
      obtain ⟨j, rfl⟩ : ∃ j, m = j + 1 := ⟨m - 1, by omega⟩
      rw [loopO_go (h (n - (k + 1)) (by omega)), show n - (k + 1) + 1 = n - k by omega]
      exact ih j (by omega) (by omega)
  have := key n fuelN (Nat.le_refl _) (by show n < 18446744073709551616; exact hn)
  rw [Nat.sub_self] at this
  exact this
theorem loop_inv {σ ρ : Type} {B : σ → Option (Ctl σ ρ)} (I : Nat → σ → Prop) {Q : ρ → Prop} {n : Nat} (h : ∀ i s, i < n → I i s → ∃ s', B s = some (.go s') ∧ I (i + 1) s') (hd : ∀ s, I n s → ∃ r, B s = some (.done r) ∧ Q r) (hn : n < 18446744073709551616) {s0 : σ} (h0 : I 0 s0) : ∃ r, loopO fuelN B s0 = some r ∧ Q r := by
  have key : ∀ k m s, k ≤ n → k < m → I (n - k) s → ∃ r, loopO m B s = some r ∧ Q r := by
    intro k
    induction k with
    | zero =>
      intro m s _ hm hi
      obtain ⟨j, rfl⟩ : ∃ j, m = j + 1 := ⟨m - 1, by omega⟩
      obtain ⟨r, h1, h2⟩ := hd s hi
      exact ⟨r, loopO_done h1, h2⟩
    | succ k ih =>
      intro m s hk hm hi
      obtain ⟨j, rfl⟩ : ∃ j, m = j + 1 := ⟨m - 1, by omega⟩
      obtain ⟨s', h1, h2⟩ := h (n - (k + 1)) s (by omega) hi
      rw [loopO_go h1]
      rw [show n - (k + 1) + 1 = n - k by omega] at h2
      exact ih j s' (by omega) (by omega) h2
  exact key n fuelN s0 (Nat.le_refl _) (by show n < 18446744073709551616; exact hn) (by rw [Nat.sub_self]; exact h0)
theorem loop_one {σ ρ : Type} {B : σ → Option (Ctl σ ρ)} {s : σ} {r : ρ} (hd : B s = some (.done r)) : loopO fuelN B s = some r := loop_cnt (n := 0) (fun _ => s) (fun i h => absurd h (Nat.not_lt_zero i)) hd (by decide)
theorem bdQ {α β : Type} {x : Option α} {K : α → Option β} {Q : α → Prop} {R : β → Prop} (h : ∃ r, x = some r ∧ Q r) (k : ∀ r, Q r → ∃ l, K r = some l ∧ R l) : ∃ l, bd x K = some l ∧ R l := by
  obtain ⟨r, rfl, hq⟩ := h
  exact k r hq
end Go.Proofs.Ytpleflcfaecojaa
namespace Go.Proofs.Ytpleflcfaecojaa
set_option linter.unusedVariables false
set_option linter.unusedSimpArgs false
set_option maxRecDepth 100000
open Go.RowKit
theorem awake_yes : o4 = some true := by kernel_rfl
theorem o117_eq (n : Int) : o117 n 8 = some (putB n 8) := by
  have e : o117 n 8 = some [u8 (IntKind.u8.wrap (shrK .u64 (IntKind.u64.wrap n) (8 * ((0 : Nat) : Int)))), u8 (IntKind.u8.wrap (shrK .u64 (IntKind.u64.wrap n) (8 * ((1 : Nat) : Int)))), u8 (IntKind.u8.wrap (shrK .u64 (IntKind.u64.wrap n) (8 * ((2 : Nat) : Int)))), u8 (IntKind.u8.wrap (shrK .u64 (IntKind.u64.wrap n) (8 * ((3 : Nat) : Int)))),
    u8 (IntKind.u8.wrap (shrK .u64 (IntKind.u64.wrap n) (8 * ((4 : Nat) : Int)))), u8 (IntKind.u8.wrap (shrK .u64 (IntKind.u64.wrap n) (8 * ((5 : Nat) : Int)))), u8 (IntKind.u8.wrap (shrK .u64 (IntKind.u64.wrap n) (8 * ((6 : Nat) : Int)))), u8 (IntKind.u8.wrap (shrK .u64 (IntKind.u64.wrap n) (8 * ((7 : Nat) : Int))))] := by kernel_rfl
  rw [e, byte_u64 n 0 (by decide), byte_u64 n 1 (by decide), byte_u64 n 2 (by decide), byte_u64 n 3 (by decide), byte_u64 n 4 (by decide), byte_u64 n 5 (by decide), byte_u64 n 6 (by decide), byte_u64 n 7 (by decide)]
  rfl
theorem o111_zero (a : Int) : o111 a 0 0 = some (putB (IntKind.i64.wrap a) 8 ++ putB 0 8) := by
  unfold o111 o114
  rw [o117_eq, bdI, o117_eq, bdI, gdT (dt (by rw [putB_len, putB_len]; decide))]
  rw [loop_one (r := putB (IntKind.i64.wrap a) 8 ++ putB 0 8) (by rw [cndF (df (by show ¬ (0 : Int) < 0; decide))]; exact dnS _), bdI]
theorem o111_len (k : Nat) (hk : k ≤ 1000000) : ∃ l, o111 0 0 (k : Int) = some l ∧ l.length = 16 + k := by
  unfold o111 o114
  rw [o117_eq, bdI, o117_eq, bdI, gdT (dt (by rw [putB_len, putB_len]; decide))]
  refine bdQ (loop_inv (n := k) (Q := fun l : List UInt8 => l.length = 16 + k) (fun i s => ∃ l : List UInt8, s = (((i : Nat) : Int), (0 : Int), (0 : Int), ((k : Nat) : Int), l) ∧ l.length = 16 + i) ?_ ?_ (by omega) ⟨_, rfl, by rw [List.length_append, putB_len, putB_len]⟩) fun l hl => ⟨l, rfl, hl⟩
  · rintro i s hi ⟨l, rfl, hl⟩
    refine ⟨(IntKind.i64.wrap ((i : Int) + 1), (0 : Int), (0 : Int), ((k : Nat) : Int), l ++ [u8 (IntKind.u8.wrap (IntKind.u8.wrap (shrK .u64 0 (IntKind.i64.wrap (Int.tmod (i : Int) 8 * 8))) + IntKind.u8.wrap (i : Int)))]), (cndT (dt ?a)).trans ((gdT (dt ?b)).trans (gdT (dt ?c))), ?e⟩
    case a => show (i : Int) < (k : Int); omega
    case b =>
      show (0 : Int) ≤ IntKind.i64.wrap (Int.tmod (i : Int) 8 * 8)
      rw [Int.tmod_eq_emod_of_nonneg (by omega), wr64 (by omega)]
      omega
    case c => show (l.length + 1) * 1 ≤ 140737488355328; omega
    case e =>
      rw [wr64 (by omega)]
      exact ⟨_, rfl, by rw [List.length_append, hl]; rfl⟩
  · rintro s ⟨l, rfl, hl⟩
    refine ⟨l, ?_, hl⟩
    rw [cndF (df (by show ¬ (k : Int) < (k : Int); omega))]
    exact dnS _
theorem eq_self (l : List UInt8) (h : l.length ≤ 1000000000) : o18 l l = some true := by
  unfold o18
  rw [cndF (neq_f rfl)]
  refine loop_cnt (n := l.length) (fun i => (l, l, ((l.length : Nat) : Int), ((i : Nat) : Int))) (fun i hi => ?_) ?_ (by omega)
  · rw [cndT (dt (by show (i : Int) < (l.length : Int); omega)), gdT (dt ⟨by show (0 : Int) ≤ (i : Int); omega, by show (i : Int) < (l.length : Int); omega⟩), gdT (dt ⟨by show (0 : Int) ≤ (i : Int); omega, by show (i : Int) < (l.length : Int); omega⟩), cndF (neq_f rfl)]
    show some (Ctl.go (l, l, _, IntKind.i64.wrap ((i : Int) + 1))) = _
    rw [wr64 (by omega)]
    rfl
  · rw [cndF (df (by show ¬ (l.length : Int) < (l.length : Int); omega))]
    exact dnS _
theorem eq_not (x y : UInt8) (l m : List UInt8) (h : l.length = m.length) (hx : x ≠ y) : o18 (x :: l) (y :: m) = some false := by
  unfold o18
  rw [cndF (neq_f (by simp [h]))]
  refine loop_one ?_
  have hx2 : ((x.toNat : Nat) : Int) ≠ (y.toNat : Int) := fun e => hx (UInt8.toNat_inj.1 (by omega))
  rw [cndT (dt (by simp)), gdT (dt (by simp)), gdT (dt (by simp)), cndT (neq_t (by simpa using hx2))]
  exact dnS _
theorem byte0 (a : Int) : ((byteAt (IntKind.i64.wrap a) 0).toNat : Int) = a % 256 := by
  rw [byteAt_toNat _ _ (by decide), IntKind.wrap_i64]
  omega
def tl8 (n : Int) : List UInt8 := [byteAt n 1, byteAt n 2, byteAt n 3, byteAt n 4, byteAt n 5, byteAt n 6, byteAt n 7] ++ putB 0 8
theorem tl8_eq (n : Int) : putB n 8 ++ putB 0 8 = byteAt n 0 :: tl8 n := by
  simp [putB, tl8, List.range, List.range.loop]
theorem o5_sums (a : Int) (h : 0 ≤ a ∧ a ≤ 18446744073709551615) : o5 0 0 0 0 a 0 0 (IntKind.u64.wrap (a + 1)) 0 0 = some (.inl ()) := by
  unfold o5
  rw [cndF (df (by decide)), cndF (df (by decide)), cndF (df (by decide)), bdI, cndF (df (by decide))]
  dsimp only
  rw [o111_zero, bdI, o111_zero, bdI]
  have hne : byteAt (IntKind.i64.wrap a) 0 ≠ byteAt (IntKind.i64.wrap (IntKind.u64.wrap (a + 1))) 0 := fun e => by
    have e1 := byte0 a
    have e2 := byte0 (IntKind.u64.wrap (a + 1))
    rw [e, e2, IntKind.wrap_u64] at e1
    omega
  rw [tl8_eq, tl8_eq, bdS (eq_not (byteAt (IntKind.i64.wrap a) 0) (byteAt (IntKind.i64.wrap (IntKind.u64.wrap (a + 1))) 0) (tl8 (IntKind.i64.wrap a)) (tl8 (IntKind.i64.wrap (IntKind.u64.wrap (a + 1)))) (by simp [tl8, putB_len]) hne), show (!false) = true from rfl, cndT rfl]
theorem o5_rate (a0 a1 a2 s x1 x2 x3 x4 x5 : Int) (h0 : a0 = 0) (h1 : a1 = 0) (h2 : a2 = 0) : o5 a0 a1 a2 (-1) s x1 x2 x3 x4 x5 = some (.inl ()) := by
  subst h0; subst h1; subst h2
  unfold o5
  rw [cndF (df (by decide)), cndF (df (by decide)), cndF (df (by decide)), bdI, cndT (dt (by decide))]
theorem o5_big : o5 0 0 0 0 0 0 524288 0 0 524288 = some (.inr ()) := by
  unfold o5
  rw [cndF (df (by decide)), cndF (df (by decide)), cndF (df (by decide)), bdI, cndF (df (by decide))]
  dsimp only
  obtain ⟨l, h1, h2⟩ := o111_len 524288 (by decide)
  have h1 : o111 0 0 524288 = some l := h1
  rw [h1, bdI, bdI, eq_self l (by omega), bdI, show (!true) = false from rfl, cndF rfl, cndT (dt (by omega))]
theorem refuses_plain (a : Int) (h : 0 ≤ a ∧ a ≤ 18446744073709551615) (x1 x2 x3 x4 : Int) : o3 a x1 x2 x3 x4 = some true := by
  unfold o3
  rw [awake_yes, bdI, show (!true) = false from rfl, cndF rfl, o5_sums a h]
  simp only [bdI, smL, o5_rate, o5_big, smR, o5v1, o5v2]
  kernel_rfl
end Go.Proofs.Ytpleflcfaecojaa
namespace Go.Proofs.Ytpleflcfaecojaa
set_option linter.unusedVariables false
set_option linter.unusedSimpArgs false
open Go.RowKit
theorem slots_of {g : Gh} {ρ : Env} {bl : List BV} : ∀ {l : List SV} {vs : List Value} (i : Nat), All2 (RealS g ρ bl) l vs → ∀ t sv, getH (argH i l) t = some sv → ∃ v, getS (argS i vs) t = some v ∧ RealS g ρ bl sv v
  | [], [], i, _, t, sv, e => by cases e
  | s :: l, v :: vs, i, h, t, sv, e => by
    have e : cond (Nat.beq i t) (some s) (getH (argH (i + 1) l) t) = some sv := e
    show ∃ u, cond (Nat.beq i t) (some v) (getS (argS (i + 1) vs) t) = some u ∧ _
    cases hb : Nat.beq i t with
    | true => rw [hb] at e; injection e with e; subst e; exact ⟨v, rfl, h.1⟩
    | false => rw [hb] at e; exact slots_of (i + 1) h.2 t sv e
  | [], _ :: _, _, h, _, _, _ => h.elim
  | _ :: _, [], _, h, _, _, _ => h.elim
def r0 : List Sch := [⟨[(0, .v (.c .b))], []⟩]
theorem law_of_fok {P : Program} {f : FuncId} {ps : Sch} {run : HL ps.lv → Option Bool} (h : FOk P f ⟨ps, r0, run⟩) {t : HL ps.lv} (hr : run t = some true) (l : List SV) (hc : conT ps t = some ⟨argH 0 l, []⟩) {W : World} (hW : GI (psiOf W)) {vs : List Value}
    (hv : All2 (RealS (gh0 W) (fun _ => (none, 0)) []) l vs) (hl : vs.length = ps.sl.length) : Calls P f vs.toArray W fun e w' => e = .returned (.bool true) ∧ Below W.heap.size W w' := by
  have hR : Rl (gh0 W) (fun _ => (none, 0)) ⟨argH 0 l, []⟩ [] (argS 0 vs) := ⟨rfl, fun i bv k e => (by cases e), fun t sv e => slots_of 0 hv t sv e, hW⟩
  refine law_of_ctr (P := P) (f := f) (args := vs) ((h t true _ hr hc (gh0 W) _ [] vs hR hl).mono fun v ψ o hle ⟨str, ρ', h1, h2, h3, h4⟩ => ?_)
  have e : altC r0 true = some ⟨[(0, vC (.bool true))], []⟩ := rfl
  have h1 : altC r0 true = some str := h1
  rw [e] at h1
  injection h1 with h1; subst h1
  obtain ⟨u, h5, h6⟩ := h3.slot 0 _ rfl
  injection h5 with h5
  have h6 : u = .bool true := h6
  have hlen : o.length = 0 := h3.len
  exact ⟨List.length_eq_zero_iff.1 hlen, by rw [h5, h6]⟩
section
variable {P : Program} {t : TypeId}
theorem opIR {k : IntKind} (ht : P.underlying t = some (.int k)) : Opens P t (tyIR k) (fun _ => True) := fun h hw => by
  obtain ⟨x, h1, h2⟩ := opens_int ht h hw
  exact ⟨x, ⟨h1, h2⟩, trivial⟩
end
end Go.Proofs.Ytpleflcfaecojaa
namespace Go.Proofs.Ytpleflcfaecojaa
theorem gi_of (W : World) : GI (psiOf W) := fun _ _ => trivial
end Go.Proofs.Ytpleflcfaecojaa
namespace Go.Proofs.Ytpleflcfaecojaa
set_option linter.unusedVariables false
set_option linter.unusedSimpArgs false
set_option maxRecDepth 100000
open Go.RowKit Go.WideShapes Go.ChangeShapes Go.ChangeAt
theorem opH24 : Opens Try.prog 24 (Cd.ty (.p (.i .i64) (.p (.i .i64) (.p (.i .i64) (.i .i64))))) (fun _ => True) := by
  intro H enc w base spare held fuel cs d pl h hw
  obtain ⟨hlen, hf⟩ := struct_fields Try.underlying24 h hw
  rw [show Try.prog.cellsOf 24 = 4 by kernel_rfl] at hlen
  match cs, hlen with
  | [c0, c1, c2, c3], _ =>
    obtain ⟨n0, d0, p0, h0, w0⟩ := hf 0 _ rfl
    simp [show Try.prog.cellsOf 2 = 1 by kernel_rfl] at h0
    obtain ⟨x0, r0, _⟩ := (opIR Try.underlying2) h0 w0
    obtain ⟨n1, d1, p1, h1, w1⟩ := hf 1 _ rfl
    simp [show Try.prog.cellsOf 2 = 1 by kernel_rfl] at h1
    obtain ⟨x1, r1, _⟩ := (opIR Try.underlying2) h1 w1
    obtain ⟨n2, d2, p2, h2, w2⟩ := hf 2 _ rfl
    simp [show Try.prog.cellsOf 2 = 1 by kernel_rfl] at h2
    obtain ⟨x2, r2, _⟩ := (opIR Try.underlying2) h2 w2
    obtain ⟨n3, d3, p3, h3, w3⟩ := hf 3 _ rfl
    simp [show Try.prog.cellsOf 2 = 1 by kernel_rfl] at h3
    obtain ⟨x3, r3, _⟩ := (opIR Try.underlying2) h3 w3
    exact ⟨(x0, x1, x2, x3), ⟨[c0], [c1] ++ [c2] ++ [c3], rfl, r0, ⟨[c1], [c2] ++ [c3], rfl, r1, ⟨[c2], [c3], rfl, r2, r3⟩⟩⟩, trivial⟩
theorem resyncRefuses_lifted (os : Os) (started : os.Started) (H : Type) (enc : TypeId × Value → H) :
    ReturnsInHanded {} Try.checked os 3 .any (Rows.resyncRefusesSpec.pre6 enc Try.prog Try.f3 Rows.resyncRefusesRow.domain false) (Rows.resyncRefusesSpec.post enc Try.prog Try.f3 false true false false) := by
  refine returnsInHanded_of_change_sized (C := Try.checked) Try.own started (by kernel_rfl) Try.func3
    (ChangeSpec.witness6 (enc := enc) (C := Try.checked) false ⟨#[], #[.int .u64 0, .agg #[.int .i64 0, .int .i64 0, .int .i64 0, .int .i64 0]], []⟩ 8 (by kernel_rfl) (by kernel_rfl) (by kernel_rfl) (by kernel_rfl)) ?_
  intro W base args ds gs before hval0 hW hcnd hsz0 _
  have hval : ∀ (j : Nat) t v, Try.f3.params[j]? = some t → args[j]? = some v → Value.okWide Try.prog W .any base t v := hval0
  have hW' := hW
  obtain ⟨p, q, hA0, hV, rfl, hfz, hnd⟩ := hW
  have hA : DataW.TrodAll enc Try.prog W 0 (fun _ => true) true Try.f3.params.toList args.toList ds p := hA0
  have hA1 := hA
  rw [Try.params3] at hA hval
  obtain ⟨v0, vs0, d0, ds0, p0, q0, hargs, rfl, rfl, h0, r0⟩ := trodAll_cons hA
  obtain ⟨v1, vs1, d1, ds1, p1, q1, rfl, rfl, rfl, h1, r1⟩ := trodAll_cons r0
  obtain ⟨rfl, rfl, rfl⟩ := trodAll_nil r1
  obtain rfl : args = #[v0, v1] := by cases args; simp_all
  obtain ⟨rfl, rfl⟩ := trodVars_none hV
  have hsz : ∀ m ∈ DataW.weightsEach Try.prog [22, 24] [d0, d1], m ≤ reachBytes := fun m hm => by
    have h9 : (DataW.weightsEach Try.prog (Try.f3.params.toList ++ []) ([d0, d1] ++ [])).all (· ≤ reachBytes) = true := hsz0
    rw [Try.params3, List.append_nil, List.append_nil] at h9
    have := List.all_eq_true.1 h9 m hm
    simpa using this
  obtain ⟨x0, rfl, rfl, rfl, w0⟩ := open_int Try.underlying22 (hval 0 22 v0 rfl rfl) h0
  have k0 := lit_wf w0
  obtain ⟨u1, rfl, _⟩ := okWide_struct Try.underlying24 (hval 1 24 v1 rfl rfl)
  obtain ⟨f1, g1⟩ := h1
  obtain ⟨x1, z1, k1⟩ := opH24 g1 (fun m hm => hsz m (DataW.weights_mem_each (j := 1) rfl rfl m hm))
  simp only [List.append_nil] at hW' hA1
  have hrun := law_of_fok fo3 (t := (x0, x1.1, x1.2.1, x1.2.2.1, x1.2.2.2)) ((refuses_plain x0 ⟨k0.1, k0.2⟩ _ _ _ _)) [vC (.int .u64 x0), .v (.agg (Cd.cv (.p (.i .i64) (.p (.i .i64) (.p (.i .i64) (.i .i64)))) x1))] rfl (W := W) (gi_of W) (vs := [_, .agg u1]) (⟨⟨rfl, k0⟩, ⟨u1.toList, by simp, Cd.cv_real (.p (.i .i64) (.p (.i .i64) (.p (.i .i64) (.i .i64)))) z1⟩, trivial⟩) rfl
  refine hrun.mono fun e W' ⟨he, hg⟩ => ?_
  subst he
  exact ⟨_, rfl, law_post Try.laidOut (by intro t ht; simp only [Try.params3] at ht; revert t; decide +kernel) rfl rfl Try.underlying4 rfl hW' hA1 hg⟩
theorem resyncRefuses_holds : Rows.ResyncRefusesSaid :=
  OpenClaim.holds_of_wide 3 Try.f3 rfl rfl rfl rfl rfl rfl rfl ⟨rfl, rfl, rfl, rfl, rfl⟩ rfl rfl rfl rfl rfl (by kernel_rfl) Try.func3 (by kernel_rfl)
    (of_decide_eq_true (by kernel_rfl)) (by unfold Func.isWrapper; first | (rw [if_pos (by decide +kernel)]; kernel_rfl) | (rw [if_neg (by decide +kernel)]; exact ⟨rfl, rfl⟩))
    (fun os started H enc _ => resyncRefuses_lifted os started H enc)
end Go.Proofs.Ytpleflcfaecojaa
