/-
The third engine, part 19: slices of slices, lengths, texts, functions as values. Conditions: each lemma's own.
-/
import Derived.Test.YtpleflcfaecojaaGreatH18
namespace Go.Proofs.YtpleflcfaecojaaGreat
set_option linter.unusedVariables false
set_option linter.unusedSimpArgs false
open Go.RowKit
section
variable {P : Program} {n : Nat} {ty : TypeId} {sl : List (Nat × SV)} {bl bl' : List BV} {v : SV} {f : Nat} {g : Gh} {ρ : Env} {own : Own} {fr : Sl}
def bndH (sl : List (Nat × SV)) : Option Operand → Option (Option Int)
  | none => some none
  | some x => match evH sl x with | some (.v (.c (.int _ z))) => some (some z) | _ => none
def loN : Option Int → Nat | none => 0 | some z => z.toNat
def hiN (len : Nat) : Option Int → Nat | none => len | some z => z.toNat
def bndOk (len : Nat) : Option Int → Option Int → Bool
  | none, none => true
  | some l, none => decide (0 ≤ l ∧ l ≤ (len : Int))
  | none, some h => decide (0 ≤ h ∧ h ≤ (len : Int))
  | some l, some h => decide (0 ≤ l ∧ l ≤ h ∧ h ≤ (len : Int))
def cutL {α : Type} (xs : List α) : Option Int → Option Int → List α
  | none, none => xs
  | some l, none => xs.drop l.toNat
  | none, some h => xs.take h.toNat
  | some l, some h => (xs.drop l.toNat).take (h.toNat - l.toNat)
theorem cutL_eq {α : Type} (xs : List α) (lo hi : Option Int) : cutL xs lo hi = (xs.drop (loN lo)).take (hiN xs.length hi - loN lo) := by
  cases lo <;> cases hi <;> simp [cutL, loN, hiN]
  exact (List.take_of_length_le (by simp)).symm
theorem bndOk_of {len : Nat} {lo hi : Option Int} (h : bndOk len lo hi = true) : loN lo ≤ hiN len hi ∧ hiN len hi ≤ len ∧ (∀ z, lo = some z → z = ((z.toNat : Nat) : Int)) ∧ ∀ z, hi = some z → z = ((z.toNat : Nat) : Int) := by
  cases lo <;> cases hi <;> simp only [bndOk, decide_eq_true_eq] at h <;> simp only [loN, hiN]
  · exact ⟨Nat.zero_le _, Nat.le_refl _, (fun z e => by cases e), fun z e => by cases e⟩
  · exact ⟨Nat.zero_le _, by omega, (fun z e => by cases e), fun z e => by injection e with e; omega⟩
  · exact ⟨by omega, Nat.le_refl _, (fun z e => by injection e with e; omega), fun z e => by cases e⟩
  · exact ⟨by omega, by omega, (fun z e => by injection e with e; omega), fun z e => by injection e with e; omega⟩
theorem bnd_lo (hr : Rl g ρ ⟨sl, bl⟩ own fr) {lo : Option Operand} {z : Option Int} (h : bndH sl lo = some z) (hz : ∀ y, z = some y → y = ((y.toNat : Nat) : Int)) : (lo = none ∧ z = none) ∨ ∃ k y u, lo = some y ∧ z = some u ∧ evS fr y = some (.int k ((u.toNat : Nat) : Int)) := by
  cases lo with
  | none => injection h with h; exact .inl ⟨rfl, h.symm⟩
  | some y =>
    simp only [bndH] at h
    split at h
    · rename_i k u hu
      injection h with h; subst h
      obtain ⟨v, h1, rfl, _⟩ := evH_real hr hu
      exact .inr ⟨k, y, u, rfl, rfl, by rw [← hz u rfl]; exact h1⟩
    · cases h
def tSlice (P : Program) (sl : List (Nat × SV)) (t : TypeId) (x : Operand) (lo hi : Option Operand) : Tr := match P.underlying t, evH sl x, bndH sl lo, bndH sl hi with
  | some (.slice e), some (.v (.c (.ro c xs m))), some l, some h => (match cellsOfT P e with
    | some z => cond (Nat.beq z c.n) (.grd (bndOk xs.length l h) (retT (vC (.ro c (cutL xs l h) m)))) .no
    | none => .no)
  | some (.slice e), some (.v (.c (.own b))), some l, some h => (match cellsOfT P e with
    | some z => .need b fun
      | .row c _ xs => cond (Nat.beq z c.n) (.grd (bndOk xs.length l h) (retT (vC (.vw b c (loN l) (hiN xs.length h))))) .no
      | .fz c xs => cond (Nat.beq z c.n) (.grd (bndOk xs.length l h) (retT (vC (.vw b c (loN l) (hiN xs.length h))))) .no
      | _ => .no
    | none => .no)
  | some (.slice e), some (.v (.c (.k (.slice none 0 0)))), some l, some h => (match cellsOfT P e with
    | some _ => .grd (bndOk 0 l h) (retT (vC (.k (.slice none 0 0))))
    | none => .no)
  | some .string, some (.v (.c (.str xs))), some l, some h => .grd (bndOk xs.length l h) (retT (vC (.str (cutL xs l h))))
  | _, _, _, _ => .no
theorem y_sliceH {t e : TypeId} {x : Operand} {lo hi : Option Operand} {sz len c : Nat} {l h : Option Int} {A : Option Addr} {p : Psi} (hr : Rl g ρ ⟨sl, bl⟩ own fr) (hx : evS fr x = some (.slice A len c)) (ht : P.underlying t = some (.slice e)) (hs : cellsOfT P e = some sz)
    (hlo : bndH sl lo = some l) (hhi : bndH sl hi = some h) (hb : bndOk len l h = true) (hc : len ≤ c) : Yld P n p own fr (.slice t x lo hi none) ty (.slice (offA A c (loN l) sz) (hiN len h - loN l) (c - loN l)) := by
  obtain ⟨h1, h2, h3, h4⟩ := bndOk_of hb
  refine y_slice (loN l) (hiN len h) (hiN len h - loN l) hx ht hs ?_ ?_ h1 (Nat.le_trans h2 hc) rfl
  · rcases bnd_lo hr hlo h3 with ⟨rfl, rfl⟩ | ⟨k, y, u, rfl, rfl, h5⟩
    · exact .inl ⟨rfl, rfl⟩
    · exact .inr ⟨k, y, rfl, h5⟩
  · rcases bnd_lo hr hhi h4 with ⟨rfl, rfl⟩ | ⟨k, y, u, rfl, rfl, h5⟩
    · exact .inl ⟨rfl, rfl⟩
    · exact .inr ⟨k, y, rfl, h5⟩
theorem cutL_len {α : Type} {xs : List α} {l h : Option Int} (hb : bndOk xs.length l h = true) : (cutL xs l h).length = hiN xs.length h - loN l := by
  obtain ⟨h1, h2, _⟩ := bndOk_of hb
  rw [cutL_eq, List.length_take, List.length_drop]; omega
theorem run_sliceStr {w : World} {t : TypeId} {s : List UInt8} {lo hi : Option Value} {l h : Nat} (ht : P.underlying t = some .string)
    (hlo : (lo = none ∧ l = 0) ∨ ∃ k, lo = some (.int k (l : Int))) (hhi : (hi = none ∧ h = s.length) ∨ ∃ k, hi = some (.int k (h : Int))) (h1 : l ≤ h) (h2 : h ≤ s.length) :
    (Instr.sliceAt t (.string (mkS s)) lo hi none).run P w = .ok (.string (mkS ((s.drop l).take (h - l)))) w := by
  have hsz : (mkS s).size = s.length := mkS_size s
  have hb : (Instr.sliceBounds false (mkS s).size (mkS s).size lo hi none).run P w = .ok (l, h, s.length) w := by
    rw [hsz]
    have e1 : (0 : Int) ≤ (l : Int) ∧ (l : Int) ≤ (h : Int) := ⟨by omega, by omega⟩
    have e2 : (0 : Int) ≤ (h : Int) ∧ (h : Int) ≤ (s.length : Int) := ⟨by omega, by omega⟩
    rcases hlo with ⟨rfl, rfl⟩ | ⟨k, rfl⟩ <;> rcases hhi with ⟨rfl, rfl⟩ | ⟨k2, rfl⟩ <;> simp [Instr.sliceBounds, Instr.sliceBound, asIntOf, e1, e2, h1, h2]
  have hex : (mkS s).extract l h = mkS ((s.drop l).take (h - l)) := by
    apply ByteArray.ext
    rw [ByteArray.data_extract]
    show s.toArray.extract l h = ((s.drop l).take (h - l)).toArray
    rw [List.extract_toArray, List.extract_eq_take_drop]
  simp [Instr.sliceAt, Instr.slice, run_underlying ht, hb, hex]
theorem tSlice_ok {t : TypeId} {x : Operand} {lo hi : Option Operand} (h : Told f (tSlice P sl t x lo hi) bl bl' v) : EffH P n (.slice t x lo hi none) ty sl bl bl' v := by
  unfold tSlice at h
  split at h
  · rename_i e c xs m l r hu ex hlo hhi
    split at h
    · rename_i z hz
      obtain ⟨hc, hg, h⟩ := condT h
      obtain ⟨rfl, rfl⟩ := told_ret h
      have hc := Nat.eq_of_beq_eq_true hc
      subst hc
      refine .of_yld fun g ρ own fr hr => ?_
      obtain ⟨vx, hx1, A, cap, rfl, ha⟩ := evH_real hr ex
      have hcap : xs.length ≤ cap := by cases m <;> exact ha.cap
      refine ⟨_, ⟨_, _, rfl, ?_⟩, by rw [cutL_len hg]; exact y_sliceH hr hx1 hu hz hlo hhi hg hcap⟩
      obtain ⟨h1, h2, _⟩ := bndOk_of hg
      rw [cutL_eq]
      cases m with
      | true => have := Arr.cut ha (loN l) (hiN xs.length r) h1 h2; rwa [c.ty_n] at this
      | false => have := ArrM.cut ha (loN l) (hiN xs.length r) h1 h2; rwa [c.ty_n] at this
    · exact h.elim
  · rename_i e b l r hu ex hlo hhi
    split at h
    · rename_i z hz
      obtain ⟨bv, hb, h⟩ := h
      have key : ∀ (c : Cd) (xs : List c.den), (∃ bv, bl[b]? = some bv ∧ bv.len = some xs.length ∧ ((∃ et, bv = .row c et xs) ∨ bv = .fz c xs)) → Told f (cond (Nat.beq z c.n) (.grd (bndOk xs.length l r) (retT (vC (.vw b c (loN l) (hiN xs.length r))))) .no) bl bl' v → EffH P n (.slice t x lo hi none) ty sl bl bl' v := by
        rintro c xs ⟨bv, hb, hlen, hcase⟩ h
        obtain ⟨hc, hg, h⟩ := condT h
        obtain ⟨rfl, rfl⟩ := told_ret h
        have hc := Nat.eq_of_beq_eq_true hc
        subst hc
        obtain ⟨h1, h2, _⟩ := bndOk_of hg
        refine .of_yld fun g ρ own fr hr => ?_
        obtain ⟨vx, hx1, hkn, q, rfl, hl⟩ := evH_real hr ex
        have hl := hl _ _ hb hlen
        subst hl
        have hcap : xs.length ≤ (ρ b).2 := by
          obtain ⟨k0, hk, hB⟩ := hr.own_at hb
          rcases hcase with ⟨et, rfl⟩ | rfl
          · obtain ⟨A, c', e1, e2⟩ := Buf.val (hB : Buf g.b c.ty et (.slice (ρ b).1 xs.length (ρ b).2) k0 xs)
            injection e1 with _ _ e3
            rw [e3]; exact e2
          · exact hB.2.cap
        refine ⟨_, ⟨hkn, rfl, fun bv' m' e1 e2 => ?_⟩, y_sliceH hr hx1 hu hz hlo hhi hg hcap⟩
        rw [hb] at e1; injection e1 with e1; subst e1
        rw [hlen] at e2; injection e2 with e2
        omega
      dsimp only at h
      split at h
      · exact key _ _ ⟨_, hb, rfl, .inl ⟨_, rfl⟩⟩ h
      · exact key _ _ ⟨_, hb, rfl, .inr rfl⟩ h
      · exact h.elim
    · exact h.elim
  · rename_i e l r hu ex hlo hhi
    split at h
    case h_2 => exact h.elim
    rename_i m hm
    obtain ⟨hg, h⟩ := h
    obtain ⟨rfl, rfl⟩ := told_ret h
    obtain ⟨h1, h2, h3, h4⟩ := bndOk_of hg
    refine .of_yld fun g ρ own fr hr => ?_
    obtain ⟨vx, hx1, rfl, _⟩ := evH_real hr ex
    have hl0 : loN l = 0 := by omega
    have hh0 : hiN 0 r = 0 := by omega
    refine ⟨.slice none 0 0, ⟨rfl, rfl⟩, fun o a w e1 e2 hf hr' => ?_⟩
    have hlo' : (lo.map a.eval = none ∧ (0 : Nat) = 0) ∨ ∃ k, lo.map a.eval = some (.int k ((0 : Nat) : Int)) := by
      rcases bnd_lo hr hlo h3 with ⟨rfl, rfl⟩ | ⟨k, y, u, rfl, rfl, h5⟩
      · exact .inl ⟨rfl, rfl⟩
      · have : u.toNat = 0 := hl0
        rw [this] at h5
        exact .inr ⟨k, by simp [hf.ev h5]⟩
    have hhi' : (hi.map a.eval = none ∧ (0 : Nat) = 0) ∨ ∃ k, hi.map a.eval = some (.int k ((0 : Nat) : Int)) := by
      rcases bnd_lo hr hhi h4 with ⟨rfl, rfl⟩ | ⟨k, y, u, rfl, rfl, h5⟩
      · exact .inl ⟨rfl, rfl⟩
      · have : u.toNat = 0 := hh0
        rw [this] at h5
        exact .inr ⟨k, by simp [hf.ev h5]⟩
    have hb : (Instr.sliceBounds true 0 0 (lo.map a.eval) (hi.map a.eval) none).run P w = .ok (0, 0, 0) w := by
      rcases hlo' with ⟨e3, _⟩ | ⟨k, e3⟩ <;> rcases hhi' with ⟨e4, _⟩ | ⟨k2, e4⟩ <;> rw [e3, e4] <;> simp [Instr.sliceBounds, Instr.sliceBound, asIntOf]
    have : (Instr.sliceAt t (.slice none 0 0) (lo.map a.eval) (hi.map a.eval) none).run P w = .ok (.slice none 0 0) w := by
      simp [Instr.sliceAt, Instr.slice, run_underlying hu, hb, run_sizeOf_of hm]
    simp [execOp, e1, hf.ev hx1, this]
  · rename_i xs l r hu ex hlo hhi
    obtain ⟨hg, h⟩ := h
    obtain ⟨rfl, rfl⟩ := told_ret h
    obtain ⟨h1, h2, h3, h4⟩ := bndOk_of hg
    refine .of_yld fun g ρ own fr hr => ?_
    obtain ⟨vx, hx1, rfl, hx2⟩ := evH_real hr ex
    refine ⟨.string (mkS (cutL xs l r)), ⟨rfl, by rw [cutL_len hg]; omega⟩, fun o a w e1 e2 hf hr' => ?_⟩
    have := run_sliceStr (P := P) (w := w) (lo := lo.map a.eval) (hi := hi.map a.eval) (l := loN l) (h := hiN xs.length r) hu
      (by rcases bnd_lo hr hlo h3 with ⟨rfl, rfl⟩ | ⟨k, y, u, rfl, rfl, h5⟩
          · exact .inl ⟨rfl, rfl⟩
          · exact .inr ⟨k, by simp [hf.ev h5, loN]⟩)
      (by rcases bnd_lo hr hhi h4 with ⟨rfl, rfl⟩ | ⟨k, y, u, rfl, rfl, h5⟩
          · exact .inl ⟨rfl, rfl⟩
          · exact .inr ⟨k, by simp [hf.ev h5, hiN]⟩) h1 h2
    rw [cutL_eq]
    simp [execOp, e1, hf.ev hx1, this]
  · exact h.elim
def tLen (P : Program) (sl : List (Nat × SV)) (t : TypeId) (x : Operand) : Tr := match P.underlying t, evH sl x with
  | some (.slice _), some (.v (.c (.own b))) => .need b fun
    | .row _ _ xs => retT (vC (.int .i64 (xs.length : Int)))
    | .fz _ xs => retT (vC (.int .i64 (xs.length : Int)))
    | _ => .no
  | some (.slice _), some (.v (.c (.ro _ xs _))) => retT (vC (.int .i64 (xs.length : Int)))
  | some (.slice _), some (.v (.c (.vw b _ l h))) => .need b fun
    | .row _ _ _ => retT (vC (.int .i64 ((h - l : Nat) : Int)))
    | .fz _ _ => retT (vC (.int .i64 ((h - l : Nat) : Int)))
    | _ => .no
  | some (.slice _), some (.v (.c (.k (.slice none 0 0)))) => retT (vC (.int .i64 0))
  | some .string, some (.v (.c (.str xs))) => retT (vC (.int .i64 (xs.length : Int)))
  | some (.array n _), some (.v (.agg _)) => cond (Nat.ble n 1000000) (retT (vC (.int .i64 (n : Int)))) .no
  | _, _ => .no
def tCap (P : Program) (sl : List (Nat × SV)) (t : TypeId) (x : Operand) : Tr := match P.underlying t, evH sl x with
  | some (.slice _), some (.v (.c (.k (.slice none 0 0)))) => retT (vC (.int .i64 0))
  | _, _ => .no
theorem tCap_ok {t : TypeId} {x : Operand} (h : Told f (tCap P sl t x) bl bl' v) : EffH P n (.call { callee := .builtin .cap, args := #[x], argTypes := #[t] }) ty sl bl bl' v := by
  unfold tCap at h
  split at h
  · rename_i e hu ex
    obtain ⟨rfl, rfl⟩ := told_ret h
    refine .of_yld fun g ρ own fr hr => ?_
    obtain ⟨vx, hx1, rfl, _⟩ := evH_real hr ex
    refine ⟨_, ⟨rfl, inK_zero _⟩, fun o a w h1 h2 hf hr => ?_⟩
    simp [execOp, h1, resolve, invoke, builtin, hf.ev hx1, Builtin.cap_, run_underlying hu, goInt]
  · exact h.elim
theorem inK_len {m : Nat} (h : m ≤ 140737488355328) : inK .i64 (m : Int) := by
  simp [inK, IntKind.min, IntKind.max, IntKind.signed, IntKind.bits]; omega
theorem y_lenH {t : TypeId} {x : Operand} {u : Value} {m : Nat} {p : Psi} (hx : evS fr x = some u) (h : ∀ w, (Builtin.len_ #[t] ty #[u]).run P w = .ok (.int .i64 (m : Int)) w) : Yld P n p own fr (.call { callee := .builtin .len, args := #[x], argTypes := #[t] }) ty (.int .i64 (m : Int)) := by
  intro o a w e1 e2 hf hr
  subst e2
  simp [execOp, e1, resolve, invoke, builtin, hf.ev hx, h]
theorem tLen_ok {t : TypeId} {x : Operand} (h : Told f (tLen P sl t x) bl bl' v) : EffH P n (.call { callee := .builtin .len, args := #[x], argTypes := #[t] }) ty sl bl bl' v := by
  unfold tLen at h
  split at h
  · rename_i e b hu ex
    obtain ⟨bv, hb, h⟩ := h
    have key : ∀ (m : Nat), bv.len = some m → Told f (retT (vC (.int .i64 (m : Int)))) bl bl' v → EffH P n (.call { callee := .builtin .len, args := #[x], argTypes := #[t] }) ty sl bl bl' v := by
      intro m hm h
      obtain ⟨rfl, rfl⟩ := told_ret h
      refine .of_yld fun g ρ own fr hr => ?_
      obtain ⟨vx, hx1, hkn, q, rfl, hl⟩ := evH_real hr ex
      have hl := hl _ _ hb hm
      subst hl
      have hle : q ≤ 140737488355328 := by
        obtain ⟨k0, hk, hB⟩ := hr.own_at hb
        cases bv <;> simp only [BV.len, Option.some.injEq, reduceCtorEq] at hm <;> subst hm
        · exact Buf.len hB
        · exact hB.2.len
      exact ⟨_, ⟨rfl, inK_len hle⟩, y_lenH hx1 fun w => by simp [Builtin.len_, run_underlying hu, goInt]⟩
    dsimp only at h
    split at h
    · exact key _ rfl h
    · exact key _ rfl h
    · exact h.elim
  · rename_i e c xs m hu ex
    obtain ⟨rfl, rfl⟩ := told_ret h
    refine .of_yld fun g ρ own fr hr => ?_
    obtain ⟨vx, hx1, A, cap, rfl, ha⟩ := evH_real hr ex
    have hle : xs.length ≤ 140737488355328 := by cases m <;> exact ha.len
    exact ⟨_, ⟨rfl, inK_len hle⟩, y_lenH hx1 fun w => by simp [Builtin.len_, run_underlying hu, goInt]⟩
  · rename_i e b c l r hu ex
    obtain ⟨bv, hb, h⟩ := h
    have key : ∀ (m : Nat), bv.len = some m → Told f (retT (vC (.int .i64 ((r - l : Nat) : Int)))) bl bl' v → EffH P n (.call { callee := .builtin .len, args := #[x], argTypes := #[t] }) ty sl bl bl' v := by
      intro m hm h
      obtain ⟨rfl, rfl⟩ := told_ret h
      refine .of_yld fun g ρ own fr hr => ?_
      obtain ⟨vx, hx1, hkn, rfl, hl⟩ := evH_real hr ex
      have hl := hl _ _ hb hm
      have hle : m ≤ 140737488355328 := by
        obtain ⟨k0, hk, hB⟩ := hr.own_at hb
        cases bv <;> simp only [BV.len, Option.some.injEq, reduceCtorEq] at hm <;> subst hm
        · exact Buf.len hB
        · exact hB.2.len
      exact ⟨_, ⟨rfl, inK_len (by omega)⟩, y_lenH hx1 fun w => by simp [Builtin.len_, run_underlying hu, goInt]⟩
    dsimp only at h
    split at h
    · exact key _ rfl h
    · exact key _ rfl h
    · exact h.elim
  · rename_i e hu ex
    obtain ⟨rfl, rfl⟩ := told_ret h
    refine .of_yld fun g ρ own fr hr => ?_
    obtain ⟨vx, hx1, rfl, _⟩ := evH_real hr ex
    exact ⟨_, ⟨rfl, inK_len (m := 0) (by decide)⟩, y_lenH hx1 fun w => by simp [Builtin.len_, run_underlying hu, goInt]⟩
  · rename_i xs hu ex
    obtain ⟨rfl, rfl⟩ := told_ret h
    refine .of_yld fun g ρ own fr hr => ?_
    obtain ⟨vx, hx1, rfl, hx2⟩ := evH_real hr ex
    exact ⟨_, ⟨rfl, inK_len hx2⟩, y_lenH hx1 fun w => by simp [Builtin.len_, run_underlying hu, goInt, mkS_size]⟩
  · rename_i m e l hu ex
    obtain ⟨hm, h⟩ := condT h
    have hm := Nat.le_of_ble_eq_true hm
    obtain ⟨rfl, rfl⟩ := told_ret h
    refine .of_yld fun g ρ own fr hr => ?_
    obtain ⟨vx, hx1, cs, rfl, _⟩ := evH_real hr ex
    exact ⟨_, ⟨rfl, inK_len (by omega)⟩, y_lenH hx1 fun w => by simp [Builtin.len_, run_underlying hu, goInt]⟩
  · exact h.elim
def tMM (b : Builtin) (sl : List (Nat × SV)) (x y : Operand) : Tr := asI sl x fun k a => asI sl y fun j c => match sameK j k, b with
  | some _, .max => retT (vC (.int k (maxI a c)))
  | some _, .min => retT (vC (.int k (minI a c)))
  | _, _ => .no
theorem tMM_ok {b : Builtin} {x y : Operand} {ats : Array TypeId} (h : Told f (tMM b sl x y) bl bl' v) : EffH P n (.call { callee := .builtin b, args := #[x, y], argTypes := ats }) ty sl bl bl' v := by
  obtain ⟨k, a, ex, h1⟩ := asI_told h
  obtain ⟨j, c, ey, h2⟩ := asI_told h1
  clear h h1
  split at h2
  · rename_i hk _; obtain ⟨hk⟩ := hk; subst hk
    obtain ⟨rfl, rfl⟩ := told_ret h2
    refine .of_yld fun g ρ own fr hr => ?_
    obtain ⟨vx, hx1, rfl, hx2⟩ := evH_real hr ex
    obtain ⟨vy, hy1, rfl, hy2⟩ := evH_real hr ey
    refine ⟨_, ⟨rfl, ?_⟩, fun o ac w e1 e2 hf hr => ?_⟩
    · unfold maxI; split
      · exact hy2
      · exact hx2
    · simp [execOp, e1, resolve, invoke, builtin, hf.ev hx1, hf.ev hy1, Builtin.max_, Builtin.max2, maxI]
  · rename_i hk _; obtain ⟨hk⟩ := hk; subst hk
    obtain ⟨rfl, rfl⟩ := told_ret h2
    refine .of_yld fun g ρ own fr hr => ?_
    obtain ⟨vx, hx1, rfl, hx2⟩ := evH_real hr ex
    obtain ⟨vy, hy1, rfl, hy2⟩ := evH_real hr ey
    refine ⟨_, ⟨rfl, ?_⟩, fun o ac w e1 e2 hf hr => ?_⟩
    · unfold minI; split
      · exact hy2
      · exact hx2
    · simp [execOp, e1, resolve, invoke, builtin, hf.ev hx1, hf.ev hy1, Builtin.min_, Builtin.min2, minI]
  · exact h2.elim
end
end Go.Proofs.YtpleflcfaecojaaGreat
